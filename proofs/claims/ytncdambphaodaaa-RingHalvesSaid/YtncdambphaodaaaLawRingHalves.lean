/- The walk of RingHalves. -/
import Derived.Test.YtncdambphaodaaaTwin01
import Derived.Test.YtncdambphaodaaaLift
namespace Go.Proofs.Ytncdambphaodaaa
set_option linter.unusedVariables false
open Go.RowKit

theorem mod20 (x : Int) : ∃ k : Nat, 2 + wrap64 ((IntKind.u64.wrap x).tmod 20) = (k : Int) ∧ 2 ≤ k ∧ k ≤ 21 := by
  have h0 : 0 ≤ IntKind.u64.wrap x := by rw [wrapu64]; omega
  refine ⟨(2 + wrap64 ((IntKind.u64.wrap x).tmod 20)).toNat, ?_⟩
  rw [Int.tmod_eq_emod_of_nonneg h0]
  unfold wrap64
  omega
theorem free_ld (s : RS Int) : s.free.ld = s.ld := by unfold RS.free; split <;> rfl
set_option maxRecDepth 100000 in
set_option maxHeartbeats 1000000 in
theorem ringHalves_walk (room v : Int) (a : Option Addr) (c : Nat) (l : List Int) (w : World) (hl : l.length ≤ maxLen) (hc : l.length ≤ c) (hr : IntsAt .i64 w a l) (hw : ∀ x ∈ l, (Lit.int .i64 x).wf = true) :
    Calls Try.prog 10 #[.int .i64 room, .slice a l.length c, .int .i64 v] w fun e w' => e = .returned (.bool true) ∧ Below w.heap.size w w' := by
  obtain ⟨rm, hk, hk1, hk9⟩ := mod20 room
  unfold maxLen at hl
  go_enter Try.func10, Try.ntmps10
  go_wp2_with (first
    | (go_at_call 31; refine (lives01_calls _).mono ?_; rintro e w1 ⟨rfl, hb⟩; have HB := Lib.hid hb; clear hb)
    | (go_at_call 32; first | (refine (ring_new _ 5 w2 (by omega) (by omega)).mono ?_; rintro e w3 ⟨b2, g2, rfl, hR2, hb2, hg2, hB2⟩) | (refine (ring_new _ 5 w1 (by omega) (by omega)).mono ?_; rintro e w2 ⟨b, g, rfl, hR, hb, hg, hB⟩)))
  rw [show ((5 : Int)).toNat = 5 from rfl] at hR hR2
  have hw1 := HB.out.size
  have hw2 := hB.size
  have hlt := hR.lt
  have hB3 : Below w.heap.size w w3 := (HB.out.trans (hB.mono hw1)).trans (hB2.mono (Nat.le_trans hw1 hw2))
  have hR' := hR.below hB2 hlt.1 hlt.2
  have hS : ∀ k ∈ [b, g], w.heap.size ≤ k := by simp; exact ⟨Nat.le_trans hw1 hb, Nat.le_trans hw1 hg⟩
  have hS2 : ∀ k ∈ [b2, g2], w.heap.size ≤ k := by simp; omega
  have n1 : b ∉ [b2, g2] ∧ g ∉ [b2, g2] ∧ b2 ∉ [b, g] ∧ g2 ∉ [b, g] := by simp; omega
  obtain ⟨n1, n2, n3, n4⟩ := n1
  have hld0 : (RS.new (rm : Int) 5 : RS Int).ld = none := rfl
  generalize (RS.new (rm : Int) 5 : RS Int) = s0 at *
  clear HB hR hb hg hB hb2 hg2 hB2 hw1 hw2 hlt
  have HN := Lib.hid (And.intro n1 (And.intro n2 (And.intro n3 n4)))
  have HS := Lib.hid (And.intro hS hS2)
  clear n1 n2 n3 n4 hS hS2
  go_loopw [9] (fun i wr => ∃ (m : Nat) (s : RS Int), m ≤ l.length ∧ m ≤ 40 ∧ i = .int .i64 (m : Int) ∧ RingAt wr b g s ∧ RingAt wr b2 g2 s ∧ Hid (s.ld = none) ∧ Below w.heap.size w wr) (fun i _ => l.length - (intOf i).toNat)
  case atStart => exact ⟨0, s0, by omega, by omega, rfl, hR', hR2, hld0, hB3⟩
  case round =>
    clear hR' hR2 hld0 hB3
    obtain ⟨m, s, hm, hm40, rfl, hR, hR2, hld, hB⟩ := hrel
    by_cases hlm : m < l.length
    · by_cases h40 : m < 40
      · obtain ⟨blk, off, rfl, hcell⟩ := hr m hlm
        have hlt : blk < w.heap.size := World.block_lt_of_cell? w _ hcell
        have HC : Hid (∀ w', Below w.heap.size w w' → w'.cell? ⟨blk, off + m, none⟩ = some (.int .i64 (l.getD m 0))) := fun w' h => (h.cell (p := ⟨blk, off + m, none⟩) hlt).trans hcell
        have hx : (Lit.int .i64 (l.getD m 0)).wf = true := hw _ (by rw [List.getD_eq_getElem?_getD, List.getElem?_eq_getElem hlm]; exact List.getElem_mem ..)
        have hxb := wf_i64 hx
        generalize l.getD m 0 = x at HC hxb
        clear hcell hlt hx
        have c0 := HC.out wr hB
        by_cases hx3 : x.tmod 3 = 0
        · have HPop := Lib.hid (fun w h => ring_pop w b g s h)
          have HPk := Lib.hid (fun w h => ring_peek w b2 g2 s h)
          have HFr := Lib.hid (fun w h => ring_free w b2 g2 s h)
          have hld2 : Hid (s.free.ld = none) := (free_ld s).trans hld.out
          generalize s.q.headD 0 = y at HPop HPk
          generalize s.peekE = pe at HPop HPk HFr
          generalize s.free = s2 at *
          go_wp2_with (first
            | (go_at_call 36; refine (HPop.out _ hR).mono ?_; rintro e w4 ⟨rfl, hR4, hO4⟩; have hR24 := hR2.only hO4 HN.out.2.2.1 HN.out.2.2.2; have hB4 := hB.trans (hO4.below HS.out.1 hB.size))
            | (go_at_call 39; refine (HPk.out _ hR24).mono ?_; rintro e w' ⟨rfl, k, rfl⟩)
            | (go_at_call 40; refine (HFr.out _ (hR24.drewN _)).mono ?_; rintro e w5 ⟨rfl, hR5, hO5⟩; have hR45 := (hR4.drewN _).only hO5 HN.out.1 HN.out.2.1; have hB5 := (below_drewN' hB4 _).trans (hO5.below HS.out.2 hB4.size)))
          go_roundw
          case rel => exact ⟨m + 1, s2, by omega, by omega, by go_num, hR45, hR5, hld2, hB5⟩
          case measure => simp [intOf] <;> omega
        · by_cases hf : s.q.length = s.n
          · have HPush := fun w h => ring_push w b g s x h
            have HLay := fun w h => ring_lay w b2 g2 s x h
            have HPub := fun w h => ring_publish w b2 g2 s h
            have HAll := Lib.hid (fun w h => ring_all w b2 g2 s h)
            have p1 : s.push x = (s, 7) := by unfold RS.push; simp [hld.out, hf]
            have p2 : s.lay x = (s, 7) := by unfold RS.lay; simp [hld.out, hf]
            have p3 : s.publish = (s, 13) := by unfold RS.publish; simp [hld.out]
            rw [p1] at HPush
            rw [p2] at HLay
            rw [p3] at HPub
            clear p1 p2 p3 hf
            have HPush2 := Lib.hid HPush
            have HLay2 := Lib.hid HLay
            have HPub2 := Lib.hid HPub
            clear HPush HLay HPub
            go_wp2_with (first
              | (go_at_call 35; refine (HPush2.out _ hR).mono ?_; rintro e w4 ⟨rfl, hR4, hO4⟩; have hR24 := hR2.only hO4 HN.out.2.2.1 HN.out.2.2.2; have hB4 := hB.trans (hO4.below HS.out.1 hB.size); clear c0; have c0 := HC.out w4 hB4)
              | (go_at_call 41; refine (HLay2.out _ hR24).mono ?_; rintro e w5 ⟨rfl, hR5, hO5⟩; have hR45 := hR4.only hO5 HN.out.1 HN.out.2.1; have hB5 := hB4.trans (hO5.below HS.out.2 hB4.size))
              | (go_at_call 42; refine (HAll.out _ hR5).mono ?_; rintro e w6 ⟨a6, c6, rfl, _, hb6⟩; have hR6 := hR45.below hb6 hR45.lt.1 hR45.lt.2; have hR26 := hR5.below hb6 hR5.lt.1 hR5.lt.2; have hB6 := hB5.trans (hb6.mono hB5.size))
              | (go_at_call 43; refine (HPub2.out _ hR26).mono ?_; rintro e w7 ⟨rfl, hR7, hO7⟩; have hR67 := hR6.only hO7 HN.out.1 HN.out.2.1; have hB7 := hB6.trans (hO7.below HS.out.2 hB6.size)))
            go_roundw
            case rel => exact ⟨m + 1, s, by omega, by omega, by go_num, hR67, hR7, hld, hB7⟩
            case measure => simp [intOf] <;> omega
          · have hle := hR.1.le
            have hn2 := hR.1.n2
            obtain ⟨s1, p1⟩ : ∃ s1, s1 = ({ s with q := s.q ++ [x], inn := (s.inn + 1) % 4294967296 } : RS Int) := ⟨_, rfl⟩
            obtain ⟨sl, p2⟩ : ∃ sl, sl = ({ s with ld := some x } : RS Int) := ⟨_, rfl⟩
            have HPush := fun w h => ring_push w b g s x h
            have HLay := fun w h => ring_lay w b2 g2 s x h
            have HLay2 := fun w h => ring_lay w b2 g2 sl v h
            have HPu := fun w h => ring_push w b2 g2 sl v h
            have HPub := fun w h => ring_publish w b2 g2 sl h
            have HPub2 := fun w h => ring_publish w b2 g2 s1 h
            have HAll := fun w h => ring_all w b2 g2 sl h
            have HLen := fun w h => ring_len w b g s1 h
            have q1 : s.push x = (s1, 0) := by rw [p1]; unfold RS.push; simp [hld.out, hf]
            have q2 : s.lay x = (sl, 0) := by rw [p2]; unfold RS.lay; simp [hld.out, hf]
            have q3 : sl.lay v = (sl, 13) := by rw [p2]; unfold RS.lay; simp
            have q4 : sl.push v = (sl, 13) := by rw [p2]; unfold RS.push; simp
            have q5 : sl.publish = (s1, 0) := by rw [p1, p2]; unfold RS.publish; simp [hld.out]
            have hld1 : Hid (s1.ld = none) := by rw [p1]; exact hld.out
            have q6 : s1.publish = (s1, 13) := by unfold RS.publish; simp [hld1.out]
            have q7 : sl.q.length = s.q.length := by rw [p2]
            have q8 : s1.q.length = s.q.length + 1 := by rw [p1]; simp
            rw [q1] at HPush
            rw [q2] at HLay
            rw [q3] at HLay2
            rw [q4] at HPu
            rw [q5] at HPub
            rw [q6] at HPub2
            rw [q7] at HAll
            rw [q8] at HLen
            obtain ⟨sq, hsq⟩ : ∃ sq, sq = s.q.length := ⟨_, rfl⟩
            rw [← hsq] at HAll HLen hle
            have hsq2 : sq ≤ 4096 := by omega
            have e8 : ((sq + 1 : Nat) : Int) = (sq : Int) + 1 := by omega
            rw [e8] at HLen
            have e9 : (sq : Int) + 1 - 1 = (sq : Int) := by omega
            have HPush2 := Lib.hid HPush
            have HLay' := Lib.hid HLay
            have HLay2' := Lib.hid HLay2
            have HPu' := Lib.hid HPu
            have HPub' := Lib.hid HPub
            have HPub2' := Lib.hid HPub2
            have HAll' := Lib.hid HAll
            have HLen' := Lib.hid HLen
            clear HPush HLay HLay2 HPu HPub HPub2 HAll HLen p1 p2 q1 q2 q3 q4 q5 q6 q7 q8 hf hle hn2 hsq e8
            go_wp2_with (first
              | (go_at_call 35; first
                  | (have := hR27; refine (HPu'.out _ hR27).mono ?_; rintro e w8 ⟨rfl, hR28, hO8⟩; have hR8 := hR7.only hO8 HN.out.1 HN.out.2.1; have hB8 := hB7.trans (hO8.below HS.out.2 hB7.size))
                  | (refine (HPush2.out _ hR).mono ?_; rintro e w4 ⟨rfl, hR4, hO4⟩; have hR24 := hR2.only hO4 HN.out.2.2.1 HN.out.2.2.2; have hB4 := hB.trans (hO4.below HS.out.1 hB.size); clear c0; have c0 := HC.out w4 hB4))
              | (go_at_call 41; first
                  | (have := hR26; refine (HLay2'.out _ hR26).mono ?_; rintro e w7 ⟨rfl, hR27, hO7⟩; have hR7 := hR6.only hO7 HN.out.1 HN.out.2.1; have hB7 := hB6.trans (hO7.below HS.out.2 hB6.size))
                  | (refine (HLay'.out _ hR24).mono ?_; rintro e w5 ⟨rfl, hR5, hO5⟩; have hR45 := hR4.only hO5 HN.out.1 HN.out.2.1; have hB5 := hB4.trans (hO5.below HS.out.2 hB4.size)))
              | (go_at_call 42; refine (HAll'.out _ hR5).mono ?_; rintro e w6 ⟨a6, c6, rfl, _, hb6⟩; have hR6 := hR45.below hb6 hR45.lt.1 hR45.lt.2; have hR26 := hR5.below hb6 hR5.lt.1 hR5.lt.2; have hB6 := hB5.trans (hb6.mono hB5.size))
              | (go_at_call 37; refine (HLen'.out _ hR8).mono ?_; rintro e w' ⟨rfl, k, rfl⟩)
              | (go_at_call 43; refine (HPub'.out _ (hR28.drewN _)).mono ?_; rintro e w9 ⟨rfl, hR29, hO9⟩; have hR9 := (hR8.drewN _).only hO9 HN.out.1 HN.out.2.1; have hB9 := (below_drewN' hB8 _).trans (hO9.below HS.out.2 hB8.size)))
            go_roundw
            case rel => exact ⟨m + 1, s1, by omega, by omega, by go_num, hR9, hR29, hld1, hB9⟩
            case measure => simp [intOf] <;> omega
      · obtain rfl : m = 40 := by omega
        obtain hql : s.q.length ≤ maxLen := by have := hR.1.le; have := hR.1.n2; unfold maxLen; omega
        have HA1 := Lib.hid (fun w h => ring_all w b g s h)
        have HA2 := Lib.hid (fun w h => ring_all w b2 g2 s h)
        generalize s.q = q at *
        go_wp2_with (first
          | (go_at_call 42; first | (have := hi4; refine (HA2.out _ hR24).mono ?_; rintro e w5 ⟨a5, c5, rfl, hi5, hb5⟩; have hB5 := hB4.trans (hb5.mono hB4.size)) | (refine (HA1.out _ hR).mono ?_; rintro e w4 ⟨a4, c4, rfl, hi4, hb4⟩; have hR24 := hR2.below hb4 hR2.lt.1 hR2.lt.2; have hB4 := hB.trans (hb4.mono hB.size)))
          | (go_at_call 44; refine (same01_self _ _ _ _ _ _ hql (hi4.at.below hb5) hi5.at).mono ?_; rintro e w' ⟨rfl, k, rfl⟩))
        go_ret
        exact ⟨rfl, below_drewN' hB5 _⟩
    · obtain rfl : m = l.length := by omega
      obtain hql : s.q.length ≤ maxLen := by have := hR.1.le; have := hR.1.n2; unfold maxLen; omega
      have HA1 := Lib.hid (fun w h => ring_all w b g s h)
      have HA2 := Lib.hid (fun w h => ring_all w b2 g2 s h)
      generalize s.q = q at *
      go_wp2_with (first
        | (go_at_call 42; first | (have := hi4; refine (HA2.out _ hR24).mono ?_; rintro e w5 ⟨a5, c5, rfl, hi5, hb5⟩; have hB5 := hB4.trans (hb5.mono hB4.size)) | (refine (HA1.out _ hR).mono ?_; rintro e w4 ⟨a4, c4, rfl, hi4, hb4⟩; have hR24 := hR2.below hb4 hR2.lt.1 hR2.lt.2; have hB4 := hB.trans (hb4.mono hB.size)))
        | (go_at_call 44; refine (same01_self _ _ _ _ _ _ hql (hi4.at.below hb5) hi5.at).mono ?_; rintro e w' ⟨rfl, k, rfl⟩))
      go_ret
      exact ⟨rfl, below_drewN' hB5 _⟩
end Go.Proofs.Ytncdambphaodaaa
