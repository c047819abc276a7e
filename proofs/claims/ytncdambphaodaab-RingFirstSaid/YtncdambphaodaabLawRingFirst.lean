/- The walk of RingFirst. -/
import Derived.Test.YtncdambphaodaabTwin01
import Derived.Test.YtncdambphaodaabKit2
import Derived.Deep.RegionHeld3
namespace Go.Proofs.Ytncdambphaodaab
set_option linter.unusedVariables false
open Go.RowKit

theorem IntsNew.tail {B : Nat} {w : World} {blk : Nat} {y : Int} {t : List Int} (h : IntsNew B .i64 w (some ⟨blk, 0, Option.none⟩) (y :: t)) : IntsAt .i64 w (some ⟨blk, 1, Option.none⟩) t := fun i hi => by
  obtain ⟨b2, e, _, hc⟩ := h (i + 1) (by simp; omega)
  simp only [Option.some.injEq, Addr.mk.injEq, and_true] at e
  subst e
  refine ⟨blk, 1, rfl, ?_⟩
  rw [Nat.add_comm 1 i]
  simpa using hc
theorem same01_at2 (x y : Nat) (a : Option Addr) (c : Nat) (l : List Int) (a2 : Option Addr) (c2 : Nat) (w : World) (hx : x = l.length) (hy : y = l.length) (hl : l.length ≤ maxLen) (hr : IntsAt .i64 w a l) (hr2 : IntsAt .i64 w a2 l) :
    Calls Try.prog 16 #[.slice a x c, .slice a2 y c2] w fun e w' => e = .returned (.bool true) ∧ ∃ k, w' = w.drewN k := by
  subst hx; rw [hy]; exact same01_self a c l a2 c2 w hl hr hr2
theorem IntsNew.below {B : Nat} {k : IntKind} {w w' : World} {a : Option Addr} {l : List Int} (h : IntsNew B k w a l) (hb : Below w.heap.size w w') : IntsNew B k w' a l := fun i hi => by
  obtain ⟨blk, e, hB, hc⟩ := h i hi
  exact ⟨blk, e, hB, (hb.cell (p := ⟨blk, i, Option.none⟩) (World.block_lt_of_cell? w _ hc)).trans hc⟩
theorem RingAt.drew {w : World} {b g : Nat} {s : RS Int} (h : RingAt w b g s) : RingAt w.drew b g s := h.drewN 1
set_option maxRecDepth 100000 in
set_option maxHeartbeats 1000000 in
theorem ringFirst_walk (room : Int) (a : Option Addr) (c : Nat) (l : List Op01) (w : World) (hl : l.length ≤ maxLen) (hc : l.length ≤ c) (hr : ScriptAt w a l) :
    Calls Try.prog 3 #[.int .i64 room, .slice a l.length c] w fun e w' => e = .returned (.bool true) ∧ Below w.heap.size w w' := by
  have HE := Lib.hid (fun w => early_calls a l.length c w hl hc)
  have hs := hr.take 150
  have hL : (l.take 150).length = min l.length 150 := by rw [List.length_take]; omega
  have hLl : (l.take 150).length ≤ 150 := by omega
  rw [← hL] at HE
  generalize l.take 150 = ls at *
  clear hr hL
  go_enter Try.func3, Try.ntmps3
  go_wp2_with (first
    | (go_at_call 9; refine (lives01_calls _).mono ?_; rintro e w1 ⟨rfl, hb⟩; have HB := Lib.hid hb; clear hb)
    | (go_at_call 10; refine (ring_new _ 9 w1 (by omega) (by omega)).mono ?_; rintro e w2 ⟨b, g, rfl, hR, hb, hg, hB⟩)
    | (go_at_call 11; ((with_reducible refine (HE.out _).mono ?_); rintro e w' ⟨rfl, k, rfl⟩)))
  rw [show ((9 : Int)).toNat = 9 from rfl] at hR
  have hw1 := HB.out.size
  have hB2 : Below w.heap.size w w2 := HB.out.trans (hB.mono hw1)
  have hS : ∀ k ∈ [b, g], w.heap.size ≤ k := by simp; exact ⟨Nat.le_trans hw1 hb, Nat.le_trans hw1 hg⟩
  have HS := Lib.hid hS
  generalize (RS.new room 9 : RS Int) = s0 at *
  clear HB hb hg hB hw1 hS
  go_loopw [6] (fun i wr => ∃ (m : Nat) (s : RS Int), m ≤ ls.length ∧ i = .int .i64 (m : Int) ∧ RingAt wr b g s ∧ Below w.heap.size w wr) (fun i _ => ls.length - (intOf i).toNat)
  case atStart => exact ⟨0, s0, by omega, rfl, hR.drewN _, below_drewN' hB2 _⟩
  case round =>
    clear hR hB2
    obtain ⟨m, s, hm, rfl, hR, hB⟩ := hrel
    by_cases hlm : m < ls.length
    · obtain ⟨blk, off, o, -, rfl, hcell, hli, q4, q5⟩ := hs.round m hlm
      obtain ⟨c0, c1, c2⟩ := hcell wr hB
      have hoff := Lib.hid (hli.off hB HS.out)
      have HA := Lib.hid (fun w h hr => step01_calls w b g s o h hr q4 q5)
      have k2 := step_ok hR.1 o
      clear hcell hli
      generalize stepN s o = n at HA
      generalize stepE s o = e at HA
      generalize stepL s o = l1 at HA
      generalize stepS s o = s2 at *
      have hq2 : s2.q.length ≤ 4096 := Nat.le_trans k2.le k2.n2
      have HAll := fun w h => ring_allC w b g s2 h
      have HAll2 := fun w h => ring_all w b g s2.free h
      have HPk := fun w h => ring_peek w b g s2 h
      have HPop := fun w h => ring_pop w b g s2 h
      have HLen := fun w h => ring_len w b g s2 h
      have HRB := Lib.hid (fun (w w' : World) (h : RingAt w b g s2) (hb : Below w.heap.size w w') => h.below hb h.lt.1 h.lt.2)
      have HM := Lib.hid hm
      have HWS := Lib.hid hB.size
      by_cases he : s2.q = []
      · have p1 : s2.peekE = 8 := by unfold RS.peekE; rw [he]; rfl
        have p2 : s2.free = s2 := by unfold RS.free; rw [he]; rfl
        rw [p2] at HAll2 HPop
        rw [p1] at HPk HPop
        rw [he] at HAll HAll2 HPk HPop HLen
        clear p1 p2 hq2
        simp only [List.headD_nil, List.length_nil] at HAll HAll2 HPk HPop HLen
        have HAll' := Lib.hid HAll
        have HPk' := Lib.hid HPk
        have HPop' := Lib.hid HPop
        have HLen' := Lib.hid HLen
        clear HAll HPk HPop HLen HAll2 he k2
        have HS0 := Lib.hid (fun a2 c2 a3 c3 w => same01_at2 0 0 a2 c2 [] a3 c3 w rfl rfl (by decide) (fun i hi => absurd hi (by simp)) (fun i hi => absurd hi (by simp)))
        go_wp2_with (first
          | (go_at_call 12; ((with_reducible refine (HA.out _ hR hoff.out).mono ?_); rintro e w4 ⟨a4, c4, rfl, hi4, hR4, hO4⟩; have hB4 := hB.trans (hO4.below HS.out hB.size); clear c0 c1 c2))
          | (go_at_call 13; first
              | (have := hi5; ((with_reducible refine (HAll'.out _ ?_).mono ?_); (repeat (first | exact hR5 | apply RingAt.drewN)); rintro e w6 ⟨a6, c6, rfl, hi6, hb6, hc6⟩; have hR6 : RingAt w6 b g s2 := HRB.out _ _ (by (repeat (first | exact hR5 | apply RingAt.drewN))) hb6; have hB6 : Below w.heap.size w w6 := Below.trans (by (repeat (first | exact hB5 | apply below_drewN'))) (hb6.mono hB5.size)))
              | ((with_reducible refine (HAll'.out _ hR4).mono ?_); rintro e w5 ⟨a5, c5, rfl, hi5, hb5, hc5⟩; have hR5 := HRB.out _ _ hR4 hb5; have hB5 := hB4.trans (hb5.mono hB4.size)))
          | (go_at_call 14; ((with_reducible refine (HPk'.out _ ?_).mono ?_); (repeat (first | exact hR5 | apply RingAt.drewN)); rintro e w' ⟨rfl, k, rfl⟩))
          | (go_at_call 15; ((with_reducible refine (HLen'.out _ ?_).mono ?_); (repeat (first | exact hR5 | apply RingAt.drewN)); rintro e w' ⟨rfl, k, rfl⟩))
          | (go_at_call 16; ((with_reducible refine (HS0.out _ _ _ _ _).mono ?_); rintro e w' ⟨rfl, k, rfl⟩))
          | (go_at_call 17; ((with_reducible refine (HPop'.out _ ?_).mono ?_); (repeat (first | exact hR6 | apply RingAt.drewN)); rintro e w7 ⟨rfl, hR7, hO7⟩; have hB7 : Below w.heap.size w w7 := Below.trans (by (repeat (first | exact hB6 | apply below_drewN'))) (hO7.below HS.out hB6.size))))
        · clear HAll' HPk' HPop' HLen' HA hoff hs HE
          go_quiet (fail)
          go_wp2
          go_roundw
          case rel => exact ⟨m + 1, s2, by omega, by go_num, hR7.drewN _, below_drewN' hB7 _⟩
          case measure => simp [intOf] <;> omega
        · go_roundw
          case rel => exact ⟨m + 1, s2, by omega, by go_num, by (repeat (first | exact hR6 | apply RingAt.drewN)), by (repeat (first | exact hB6 | apply below_drewN'))⟩
          case measure => simp [intOf] <;> omega
      · obtain ⟨y, t, he2⟩ := List.exists_cons_of_ne_nil he
        have p1 : s2.peekE = 0 := by unfold RS.peekE; rw [he2]; rfl
        have p3 : s2.free.q = t := by unfold RS.free; rw [he2]; rfl
        rw [p3] at HAll2
        rw [p1] at HPk HPop
        rw [he2] at HAll HPk HPop HLen hq2
        clear p1 p3 he he2
        simp only [List.headD_cons, List.length_cons] at HAll HPk HPop HLen hq2
        obtain ⟨tl, htl⟩ : ∃ tl, tl = t.length := ⟨_, rfl⟩
        rw [← htl] at HAll HAll2 HLen hq2
        have HS1 := Lib.hid (fun a2 c2 a3 c3 w h h2 => same01_at2 (tl + 1) (tl + 1) a2 c2 (y :: t) a3 c3 w (by simp; exact htl) (by simp; exact htl) (by simp; unfold maxLen; omega) h h2)
        have HS2 := Lib.hid (fun a2 c2 a3 c3 w h h2 => same01_at2 tl tl a2 c2 t a3 c3 w htl htl (by unfold maxLen; omega) h h2)
        generalize s2.free = s3 at *
        have HAll' := Lib.hid HAll
        have HPk' := Lib.hid HPk
        have HPop' := Lib.hid HPop
        have HLen' := Lib.hid HLen
        have HAll2' := Lib.hid HAll2
        have HT := Lib.hid htl
        clear HAll HPk HPop HLen HAll2 k2 htl
        go_wp2_with (first
          | (go_at_call 12; ((with_reducible refine (HA.out _ hR hoff.out).mono ?_); rintro e w4 ⟨a4, c4, rfl, hi4, hR4, hO4⟩; have hB4 := hB.trans (hO4.below HS.out hB.size); clear c0 c1 c2)))
        (go_at_call 13; ((with_reducible refine (HAll'.out _ hR4).mono ?_); rintro e w5 ⟨a5, c5, rfl, hi5, hb5, hc5⟩; have hR5 := HRB.out _ _ hR4 hb5; have hB5 := hB4.trans (hb5.mono hB4.size); have HSl : Hid (∀ x ∈ [b, g], x < w4.heap.size) := (show ∀ x ∈ [b, g], x < w4.heap.size by simp; exact hR4.lt)))
        have hi50 := hi5 0 (by simp)
        obtain ⟨blk5, rfl, hbk5, hcell5⟩ := hi50
        simp only [List.getD_cons_zero] at hcell5
        have HI5 := Lib.hid hi5
        clear hi5
        go_wp2_with (first
          | (go_at_call 14; ((with_reducible refine (HPk'.out _ ?_).mono ?_); (repeat (first | exact hR5 | apply RingAt.drewN)); rintro e w' ⟨rfl, k, rfl⟩))
          | (go_at_call 15; ((with_reducible refine (HLen'.out _ ?_).mono ?_); (repeat (first | exact hR5 | apply RingAt.drewN)); rintro e w' ⟨rfl, k, rfl⟩))
          | (go_at_call 13; ((with_reducible refine (HAll'.out _ ?_).mono ?_); (repeat (first | exact hR5 | apply RingAt.drewN)); rintro e w6 ⟨a6, c6, rfl, hi6, hb6, hc6⟩; have hR6 : RingAt w6 b g s2 := HRB.out _ _ (by (repeat (first | exact hR5 | apply RingAt.drewN))) hb6; have hB6 : Below w.heap.size w w6 := Below.trans (by (repeat (first | exact hB5 | apply below_drewN'))) (hb6.mono hB5.size); have hl6 : IntsNew w4.heap.size .i64 w6 (some ⟨blk5, 0, none⟩) (y :: t) := (by first | exact HI5.out.below hb6 | exact (IntsNew.drewN HI5.out _).below hb6 | exact (IntsNew.drewN (IntsNew.drewN HI5.out _) _).below hb6)))
          | (go_at_call 16; ((with_reducible refine (HS1.out _ _ _ _ _ ?_ ?_).mono ?_); exact hi6.at; exact hl6.at; rintro e w' ⟨rfl, k, rfl⟩))
          | (go_at_call 17; ((with_reducible refine (HPop'.out _ ?_).mono ?_); (repeat (first | exact hR6 | apply RingAt.drewN)); rintro e w7 ⟨rfl, hR7, hO7⟩; have hB7 : Below w.heap.size w w7 := Below.trans (by (repeat (first | exact hB6 | apply below_drewN'))) (hO7.below HS.out hB6.size); have hl7 : IntsNew w4.heap.size .i64 w7 (some ⟨blk5, 0, none⟩) (y :: t) := (by first | exact hl6.only hO7 HSl.out | exact (IntsNew.drewN hl6 _).only hO7 HSl.out | exact (IntsNew.drewN (IntsNew.drewN hl6 _) _).only hO7 HSl.out))))
        · have hl8 := hl7.tail
          have hl9 : c5 = 1 → IntsAt .i64 w7 (some ⟨blk5, 0, none⟩) t := fun h i hi => by have := HT.out; omega
          have h1c : 1 ≤ c5 := by omega
          have h1t : (1 : Int) ≤ (tl : Int) + 1 := by omega
          have hS7 := Lib.hid hR7
          have hBB7 := Lib.hid hB7
          have hL8 := Lib.hid hl8
          have hL9 := Lib.hid hl9
          have HK7 := Lib.hid (And.intro hm hlm)
          clear HAll' HPk' HPop' HLen' HA hoff hs HE hR hB hm hR4 hO4 hB4 hi4 hb5 hR5 hB5 hR6 hB6 hb6 hi6 hl6 hO7 hR7 hB7 hl7 hl8 hl9 HSl HI5
          by_cases hc51 : c5 = 1
          · have HC5 := Lib.hid hc51
            obtain rfl : tl = 0 := by omega
            subst hc51
            go_region_held3 (fun _ => True) (trivial) (first
              | (go_at_call 13; ((with_reducible refine (HAll2'.out _ ?_).mono ?_); (repeat (first | exact hS7.out | exact hS7.out.drew | apply RingAt.drewN)); rintro e w8 ⟨a8, c8, rfl, hi8, hb8⟩))
              | (go_at_call 16; ((with_reducible refine (HS2.out _ _ _ _ _ ?_ ?_).mono ?_); exact hi8.at; (first | exact (hL9.out (by first | rfl | trivial)).below hb8 | exact (IntsAt.drewN (hL9.out (by first | rfl | trivial)) 1).below hb8); rintro e w' ⟨rfl, k, rfl⟩)))
            all_goals
             go_wp2
             go_roundw
             case rel => exact ⟨m + 1, s3, by have := HK7.out; omega, by go_num, by (repeat (first | exact RingAt.below hS7.out hb8 hS7.out.lt.1 hS7.out.lt.2 | exact RingAt.below hS7.out.drew hb8 hS7.out.lt.1 hS7.out.lt.2 | apply RingAt.drewN)), by (repeat (first | exact Below.trans hBB7.out (hb8.mono hBB7.out.size) | exact Below.trans (below_drewN' hBB7.out 1) (hb8.mono hBB7.out.size) | apply below_drewN'))⟩
             case measure => have := HK7.out; simp [intOf] <;> omega
          · have HC5 := Lib.hid hc51
            go_region_held3 (fun _ => True) (trivial) (first
              | (go_at_call 13; ((with_reducible refine (HAll2'.out _ ?_).mono ?_); (repeat (first | exact hS7.out | exact hS7.out.drew | apply RingAt.drewN)); rintro e w8 ⟨a8, c8, rfl, hi8, hb8⟩))
              | (go_at_call 16; ((with_reducible refine (HS2.out _ _ _ _ _ ?_ ?_).mono ?_); exact hi8.at; (first | exact hL8.out.below hb8 | exact (IntsAt.drewN hL8.out 1).below hb8); rintro e w' ⟨rfl, k, rfl⟩)))
            all_goals
             go_wp2
             go_roundw
             case rel => exact ⟨m + 1, s3, by have := HK7.out; omega, by go_num, by (repeat (first | exact RingAt.below hS7.out hb8 hS7.out.lt.1 hS7.out.lt.2 | exact RingAt.below hS7.out.drew hb8 hS7.out.lt.1 hS7.out.lt.2 | apply RingAt.drewN)), by (repeat (first | exact Below.trans hBB7.out (hb8.mono hBB7.out.size) | exact Below.trans (below_drewN' hBB7.out 1) (hb8.mono hBB7.out.size) | apply below_drewN'))⟩
             case measure => have := HK7.out; simp [intOf] <;> omega
        · go_roundw
          case rel => exact ⟨m + 1, s2, by omega, by go_num, by (repeat (first | exact hR6 | apply RingAt.drewN)), by (repeat (first | exact hB6 | apply below_drewN'))⟩
          case measure => simp [intOf] <;> omega
    · obtain rfl : m = ls.length := by omega
      go_wp2
      go_ret
      exact ⟨rfl, hB⟩
end Go.Proofs.Ytncdambphaodaab
