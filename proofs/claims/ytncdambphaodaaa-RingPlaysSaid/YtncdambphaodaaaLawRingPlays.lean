/- The walk of RingPlays. -/
import Derived.Test.YtncdambphaodaaaStepRef01
import Derived.Test.YtncdambphaodaaaKit2
namespace Go.Proofs.Ytncdambphaodaaa
set_option linter.unusedVariables false
open Go.RowKit
set_option maxRecDepth 100000 in
set_option maxHeartbeats 1000000 in
theorem ringPlays_walk (room begin : Int) (a : Option Addr) (c : Nat) (l : List Op01) (w : World) (hb0 : 0 ≤ begin) (hb1 : begin < 4294967296) (hl : l.length ≤ maxLen) (hc : l.length ≤ c) (hr : ScriptAt w a l) :
    Calls Try.prog 12 #[.int .i64 room, .int .u32 begin, .slice a l.length c] w fun e w' => e = .returned (.bool true) ∧ Below w.heap.size w w' := by
  have HE := Lib.hid (fun w => early_calls a l.length c w hl hc)
  have hs := hr.take 150
  have hL : (l.take 150).length = min l.length 150 := by rw [List.length_take]; omega
  have hLl : (l.take 150).length ≤ 150 := by omega
  rw [← hL] at HE
  generalize l.take 150 = ls at *
  clear hr hL
  go_enter Try.func12, Try.ntmps12
  go_wp2_with (first
    | (go_at_call 31; refine (lives01_calls _).mono ?_; rintro e w1 ⟨rfl, hb⟩; have HB := Lib.hid hb; clear hb)
    | (go_at_call 32; ((with_reducible refine (ring_new _ _ _ hb0 hb1).mono ?_); rintro e w2 ⟨b, g, rfl, hR, hb, hg, hB⟩))
    | (go_at_call 47; ((with_reducible refine (ref_new _ _ _ hb0 hb1).mono ?_); rintro e w3 ⟨rfl, hR2, hB2⟩))
    | (go_at_call 33; ((with_reducible refine (HE.out _).mono ?_); rintro e w' ⟨rfl, k, rfl⟩)))
  have hw1 := HB.out.size
  have hw2 := hB.size
  have hlt := hR.lt
  obtain ⟨b2, hb2⟩ : ∃ b2, b2 = w2.heap.size := ⟨_, rfl⟩
  have hB3 : Below w.heap.size w w3 := (HB.out.trans (hB.mono hw1)).trans (hB2.mono (Nat.le_trans hw1 hw2))
  have hR' := hR.below hB2 hlt.1 hlt.2
  have hR2' := hR2 [b2, b, g] (by simp [hb2])
  rw [← hb2] at hR2' ⊢
  have hS : ∀ k ∈ [b, g], w.heap.size ≤ k := by simp; exact ⟨Nat.le_trans hw1 hb, Nat.le_trans hw1 hg⟩
  have hS2 : ∀ k ∈ [b2], w.heap.size ≤ k := by simp; omega
  have n1 : b ∉ [b2] ∧ g ∉ [b2] ∧ b2 ∉ [b, g] := by simp; omega
  have HS := Lib.hid (And.intro hS hS2)
  have HN := Lib.hid n1
  generalize (RS.new room begin.toNat : RS Int) = s0 at *
  clear hb0 hb1 HB hR hR2 hb hg hB hB2 hw1 hw2 hlt hb2 hS hS2 n1
  go_loopw [9] (fun i wr => ∃ (m : Nat) (s : RS Int), m ≤ ls.length ∧ i = .int .i64 (m : Int) ∧ RingAt wr b g s ∧ RefAt wr b2 [b2, b, g] s ∧ Below w.heap.size w wr) (fun i _ => ls.length - (intOf i).toNat)
  case atStart => exact ⟨0, s0, by omega, rfl, hR'.drewN _, hR2'.drewN _, below_drewN' hB3 _⟩
  case round =>
    clear hR' hR2' hB3
    obtain ⟨m, s, hm, rfl, hR, hR2, hB⟩ := hrel
    by_cases hlm : m < ls.length
    · obtain ⟨blk, off, o, -, rfl, hcell, hli, q4, q5⟩ := hs.round m hlm
      obtain ⟨c0, c1, c2⟩ := hcell wr hB
      have HCE := Lib.hid hcell
      clear hcell
      have hoff := Lib.hid (hli.off hB HS.out.1)
      have HO2 := Lib.hid (fun w4 (h : Only [b, g] wr w4) => hli.off (hB.trans (h.below HS.out.1 hB.size)) HS.out.2)
      have HA := Lib.hid (fun w h hr => step01_calls w b g s o h hr q4 q5)
      have HB := Lib.hid (fun w h hS hr => stepRef01_calls w b2 [b2, b, g] s o h hS hr q4 q5)
      have hll : (stepL s o).length ≤ maxLen := by have := stepL_len s o; have := hR.1.le; have := hR.1.n2; unfold maxLen; omega
      have k2 := step_ok hR.1 o
      have hsl : Hid (∀ x ∈ [b2, b, g], x < wr.heap.size) := (show ∀ x ∈ [b2, b, g], x < wr.heap.size by simp; exact ⟨hR2.lt, hR.lt⟩)
      generalize stepN s o = n at HA HB
      generalize stepE s o = e at HA HB
      generalize stepL s o = l1 at *
      generalize stepS s o = s2 at *
      go_wp2_with (first
        | (go_at_call 45; ((with_reducible refine (HA.out _ hR hoff.out).mono ?_); rintro e w4 ⟨a4, c4, rfl, hi4, hR4, hO4⟩; have hB4 := hB.trans (hO4.below HS.out.1 hB.size); clear c0 c1 c2; obtain ⟨c0, c1, c2⟩ := HCE.out w4 hB4; have hR24 := hR2.only hO4 (by simp) HN.out.2.2; have HO2' := Lib.hid (HO2.out _ hO4); have HS4 : Hid (∀ x ∈ [b2, b, g], x < w4.heap.size) := (fun x hx => Nat.lt_of_lt_of_le (hsl.out x hx) hO4.size)))
        | (go_at_call 48; ((with_reducible refine (HB.out _ hR24 HS4.out HO2'.out).mono ?_); rintro e w5 ⟨a5, c5, rfl, hi5, hR25, hO5⟩; have hR5 := hR4.only hO5 HN.out.1 HN.out.2.1; have hi45 := hi4.only hO5 (by simp; exact hR2.lt); have hB5 := hB4.trans (hO5.below HS.out.2 hB4.size); clear hR4 hR24 hO4 hi4 hB4 hO5 c0 c1 c2 HCE HO2' HS4))
        | (go_at_call 46; ((with_reducible refine (ring_counts _ _ _ _ hR5).mono ?_); rintro e w' ⟨rfl, k, rfl⟩)))
      obtain ⟨_, ⟨a2, cc2, lv, h1, h2, h3, h4, h5⟩, _⟩ := id hR25
      have hql : s2.q.length ≤ 4096 := Nat.le_trans k2.le k2.n2
      have HC : Hid (∀ w', Below w5.heap.size w5 w' → w'.cell? ⟨b2, 1, none⟩ = some (.slice a2 s2.q.length cc2) ∧ w'.cell? ⟨b2, 4, none⟩ = some (.int .u32 s2.inn) ∧ w'.cell? ⟨b2, 5, none⟩ = some (.int .u32 s2.out)) := fun w' hb => by
        have := Below.at hb h1 (block_lt h1)
        exact ⟨cell_at this 1, cell_at this 4, cell_at this 5⟩
      have HRB := Lib.hid (fun w' (hb : Below w5.heap.size w5 w') => hR5.below hb hR5.lt.1 hR5.lt.2)
      have HRB2 := Lib.hid (fun w' (hb : Below w5.heap.size w5 w') => hR25.below hb)
      have HQ := Lib.hid (fun w' (hb : Below w5.heap.size w5 w') => (CellsOff.ints h4).at.below hb)
      have HLL := Lib.hid (fun w' (hb : Below w5.heap.size w5 w') => And.intro (hi45.at.below hb) (hi5.at.below (hb.mono (Nat.le_refl _))))
      have HB5 := Lib.hid hB5
      have HM := Lib.hid hm
      have HL := Lib.hid (fun w h => ring_len w b g s2 h)
      have HRM := Lib.hid (fun w h => ring_room w b g s2 h)
      have HRM2 := Lib.hid (fun w h => ref_room w b2 [b2, b, g] s2 h)
      have HAL := Lib.hid (fun w h => ring_all w b g s2 h)
      have HS1 := Lib.hid (fun w h h' => same01_self a4 c4 l1 a5 c5 w hll h h')
      have HS2 := Lib.hid (fun a6 c6 w h h' => same01_self a6 c6 s2.q a2 cc2 w (by unfold maxLen; omega) h h')
      have hR5K := Lib.hid hR5
      clear HA HB hoff HO2 hsl hi45 hi5 hR hR2 hB hB5 hm h1 h2 h3 h4 h5 hR25 hR5 k2 HE hs
      generalize s2.q.length = ql at *
      go_region_held3 (fun w' => w'.cell? ⟨b2, 1, none⟩ = some (.slice a2 ql cc2) ∧ w'.cell? ⟨b2, 4, none⟩ = some (.int .u32 s2.inn) ∧ w'.cell? ⟨b2, 5, none⟩ = some (.int .u32 s2.out)) ((refine HC.out _ ?_; (repeat (first | exact Below.refl _ _ | exact hb6' | apply below_drewN' | apply Below.drew)))) (first
        | (go_at_call 37; ((with_reducible refine (HL.out _ (HRB.out _ ?_)).mono ?_); (repeat (first | exact Below.refl _ _ | exact hb6' | apply below_drewN' | apply Below.drew)); rintro e w' ⟨rfl, k, rfl⟩))
        | (go_at_call 38; ((with_reducible refine (HRM.out _ (HRB.out _ ?_)).mono ?_); (repeat (first | exact Below.refl _ _ | exact hb6' | apply below_drewN' | apply Below.drew)); rintro e w' ⟨rfl, k, rfl⟩))
        | (go_at_call 49; ((with_reducible refine (HRM2.out _ (HRB2.out _ ?_)).mono ?_); (repeat (first | exact Below.refl _ _ | exact hb6' | apply below_drewN' | apply Below.drew)); rintro e w' ⟨rfl, k, rfl⟩))
        | (go_at_call 44; ((with_reducible refine (HS1.out _ (HLL.out _ ?_).1 (HLL.out _ ?_).2).mono ?_); (repeat (first | exact Below.refl _ _ | exact hb6' | apply below_drewN' | apply Below.drew)); (repeat (first | exact Below.refl _ _ | exact hb6' | apply below_drewN' | apply Below.drew)); rintro e w' ⟨rfl, k, rfl⟩))
        | (go_at_call 44; ((with_reducible refine (HS2.out _ _ _ ?_ (HQ.out _ ?_)).mono ?_); exact hi6.at; (repeat (first | exact Below.refl _ _ | exact hb6' | apply below_drewN' | apply Below.drew)); rintro e w' ⟨rfl, k, rfl⟩))
        | (go_at_call 42; ((with_reducible refine (HAL.out _ (HRB.out _ ?_)).mono ?_); (repeat (first | exact Below.refl _ _ | exact hb6' | apply below_drewN' | apply Below.drew)); rintro e w6 ⟨a6, c6, rfl, hi6, hb6⟩; have hb6' : Below w5.heap.size w5 w6 := Below.trans (by (repeat (first | exact Below.refl _ _ | exact hb6' | apply below_drewN' | apply Below.drew))) (hb6.mono (Nat.le_refl _)))))
      all_goals
        go_wp2
        go_roundw
        case rel => exact ⟨m + 1, s2, by have := HM.out; omega, by go_num, by (refine HRB.out _ ?_; (repeat (first | exact Below.refl _ _ | exact hb6' | apply below_drewN' | apply Below.drew))), by (refine HRB2.out _ ?_; (repeat (first | exact Below.refl _ _ | exact hb6' | apply below_drewN' | apply Below.drew))), by (refine Below.trans HB5.out (Below.mono (B := w5.heap.size) ?_ HB5.out.size); (repeat (first | exact Below.refl _ _ | exact hb6' | apply below_drewN' | apply Below.drew)))⟩
        case measure => have := HM.out; simp [intOf] <;> omega
    · obtain rfl : m = ls.length := by omega
      go_wp2
      go_ret
      exact ⟨rfl, hB⟩
end Go.Proofs.Ytncdambphaodaaa
