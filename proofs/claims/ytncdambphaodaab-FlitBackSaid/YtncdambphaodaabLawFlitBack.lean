/- The walk of FlitBack. -/
import Derived.Test.YtncdambphaodaabFlitFew
import Derived.Deep.RegionHeld3
import Derived.Deep.RegionWith
namespace Go.Proofs.Ytncdambphaodaab
set_option linter.unusedVariables false
open Go.RowKit BM
set_option maxRecDepth 100000 in
set_option maxHeartbeats 3000000 in
theorem flitBack_walk (f : Fl) (x : Int) (w : World) (hf : f.data.size ≤ maxLen) (hx0 : 0 ≤ x) (hx1 : x < 18446744073709551616) :
    Calls Try.prog 5 #[f.val, .int .u64 x] w fun e w' => e = .returned (.bool true) ∧ Below w.heap.size w w' := by
  obtain ⟨x, rfl⟩ := Int.eq_ofNat_of_zero_le hx0
  have HFf := fun w => few_calls f w hf
  generalize fewF f = ff at *
  have HS := fun w => seal_calls (x : Int) w hx0 hx1
  rw [Int.toNat_natCast] at HS
  have HS2 := Lib.hid HS
  have hsl := sealN_lt x
  have hrs : rightB (sealN x) = true := by unfold rightB; rw [top_seal, check_seal]; simp
  clear HS hx0 hx1
  generalize sealN x = sx at *
  have HRs0 := fun w => flit_read sx hsl w
  have HWf0 := fun w => flit_write ff w
  have HRw0 := fun w => flit_read (wordF ff) (wordF_lt ff) w
  have HKw0 := fun w => flit_kind (wordF ff) (wordF_lt ff) w
  have hcs : (rightF ff = true ∧ writeF ff = ((wordF ff : Int), 0) ∧ readF (wordF ff) = (ff, 0) ∧ ((getN (wordF ff) 0 2 : Nat) : Int) = ff.kind) ∨ writeF ff = (0, 1) := by
    by_cases hr : rightF ff = true
    · exact .inl ⟨hr, writeF_right hr, read_write hr, word_kind hr⟩
    · exact .inr (by unfold writeF; rw [if_neg hr])
  have hcg : (∃ g, readF sx = (g, 0) ∧ writeF g = ((sx : Int), 0) ∧ rightF g = true) ∨ readF sx = (zeroFl, 2) := by
    unfold readF
    rw [if_pos hrs]
    by_cases hw : writeF (lookF sx) = ((sx : Int), 0)
    · refine .inl ⟨lookF sx, by rw [if_pos hw], hw, ?_⟩
      by_cases hr : rightF (lookF sx) = true
      · exact hr
      · unfold writeF at hw; rw [if_neg hr] at hw; simp at hw
    · exact .inr (by rw [if_neg hw])
  clear hrs
  obtain ⟨k0, k1, k2, k3, k4, k5, k6, k7⟩ := f
  have HFf2 := Lib.hid HFf
  clear HFf hf
  have HX : Hid (∀ w', Below (w.heap.size + 1) (w.alloc (.cells #[.int .i64 k0, .int .i64 k1, .int .i64 k2, .int .i64 k3, .int .i64 k4, .bool k5, .bool k6, .string k7] 44)) w' → w'.heap[w.heap.size]? = some (.cells #[.int .i64 k0, .int .i64 k1, .int .i64 k2, .int .i64 k3, .int .i64 k4, .bool k5, .bool k6, .string k7] 44 (0, 0)) ∧ Below w.heap.size w w') := fun w' hb =>
    ⟨Below.at hb (alloc_new _) (by omega), Below.trans (((Below.refl _ _).alloc (Nat.le_refl _) _)) (hb.mono (by omega))⟩
  have HCS := Lib.hid hcs
  have HCG := Lib.hid hcg
  clear hcs hcg
  go_enter Try.func5, Try.ntmps5
  go_wp2_with (first
    | (go_at_call 18; ((with_reducible refine (lives03_calls _).mono ?_); rintro e w1 ⟨rfl, hb1⟩; have hb1' : Below (w.heap.size + 1) (w.alloc (.cells #[.int .i64 k0, .int .i64 k1, .int .i64 k2, .int .i64 k3, .int .i64 k4, .bool k5, .bool k6, .string k7] 44)) w1 := (by simpa using hb1); have hF1 := (HX.out w1 hb1').1; have f0 := cell_at hF1 0; have f1 := cell_at hF1 1; have f2 := cell_at hF1 2; have f3 := cell_at hF1 3; have f4 := cell_at hF1 4; have f5 := cell_at hF1 5; have f6 := cell_at hF1 6; have f7 := cell_at hF1 7; have hz1 := hb1'.size; have HB1 := Lib.hid hb1'; clear hb1 hb1' hF1))
    | (go_at_call 23; ((with_reducible refine (HFf2.out _).mono ?_); rintro e w2 ⟨rfl, hb2⟩; have hb2' : Below (w.heap.size + 1) (w.alloc (.cells #[.int .i64 k0, .int .i64 k1, .int .i64 k2, .int .i64 k3, .int .i64 k4, .bool k5, .bool k6, .string k7] 44)) w2 := (Below.trans (by have := HB1.out; repeat' (first | (with_reducible exact Below.refl _ _) | (with_reducible assumption) | (with_reducible refine below_drewN' ?_ _) | (with_reducible refine Below.drew ?_) | (with_reducible refine Below.alloc ?_ ?_ _) | (with_reducible exact Nat.le_refl _) | omega | (simp; done) | (simp; omega))) (hb2.mono (by have := HB1.out.size; simp at this ⊢; omega))); have hF2 := (HX.out w2 hb2').1; clear f0 f1 f2 f3 f4 f5 f6 f7; have f0 := cell_at hF2 0; have f1 := cell_at hF2 1; have f2 := cell_at hF2 2; have f3 := cell_at hF2 3; have f4 := cell_at hF2 4; have f5 := cell_at hF2 5; have f6 := cell_at hF2 6; have f7 := cell_at hF2 7; have x0 := frozen_at hF2 0; have x1 := frozen_at hF2 1; have x2 := frozen_at hF2 2; have x3 := frozen_at hF2 3; have x4 := frozen_at hF2 4; have x5 := frozen_at hF2 5; have x6 := frozen_at hF2 6; have x7 := frozen_at hF2 7; have HB2 := Lib.hid hb2'; have HF2 := Lib.hid hF2; clear hb2 hb2' hF2)))
  have hFF : ((((((((w2.setCell ⟨w.heap.size, 0, none⟩ (.int .i64 ff.kind)).setCell ⟨w.heap.size, 1, none⟩ (.int .i64 ff.src)).setCell ⟨w.heap.size, 2, none⟩ (.int .i64 ff.dst)).setCell ⟨w.heap.size, 3, none⟩ (.int .i64 ff.seq)).setCell ⟨w.heap.size, 4, none⟩ (.int .i64 ff.len)).setCell ⟨w.heap.size, 5, none⟩ (.bool ff.more)).setCell ⟨w.heap.size, 6, none⟩ (.bool ff.cast)).setCell ⟨w.heap.size, 7, none⟩ (.string ff.data)).heap[w.heap.size]? = some (.cells #[.int .i64 ff.kind, .int .i64 ff.src, .int .i64 ff.dst, .int .i64 ff.seq, .int .i64 ff.len, .bool ff.more, .bool ff.cast, .string ff.data] 44 (0, 0)) := stored8 HF2.out
  have hBB : Below w.heap.size w ((((((((w2.setCell ⟨w.heap.size, 0, none⟩ (.int .i64 ff.kind)).setCell ⟨w.heap.size, 1, none⟩ (.int .i64 ff.src)).setCell ⟨w.heap.size, 2, none⟩ (.int .i64 ff.dst)).setCell ⟨w.heap.size, 3, none⟩ (.int .i64 ff.seq)).setCell ⟨w.heap.size, 4, none⟩ (.int .i64 ff.len)).setCell ⟨w.heap.size, 5, none⟩ (.bool ff.more)).setCell ⟨w.heap.size, 6, none⟩ (.bool ff.cast)).setCell ⟨w.heap.size, 7, none⟩ (.string ff.data)) := by
    have h3 := (HX.out _ HB2.out).2
    clear HB1 HB2 HF2
    clear f0 f1 f2 f3 f4 f5 f6 f7 x0 x1 x2 x3 x4 x5 x6 x7
    repeat' (first | (with_reducible assumption) | (with_reducible refine Below.setCell ?_ ?_ _) | (with_reducible refine below_drewN' ?_ _) | (with_reducible refine Below.drew ?_) | (with_reducible refine Below.alloc ?_ ?_ _) | (with_reducible exact Below.refl _ _) | (with_reducible exact Nat.le_refl _) | omega | (simp; done) | (simp; omega))
  clear f0 f1 f2 f3 f4 f5 f6 f7 x0 x1 x2 x3 x4 x5 x6 x7
  clear HB1 HB2 HF2 HX HFf2
  generalize ((((((((w2.setCell ⟨w.heap.size, 0, none⟩ (.int .i64 ff.kind)).setCell ⟨w.heap.size, 1, none⟩ (.int .i64 ff.src)).setCell ⟨w.heap.size, 2, none⟩ (.int .i64 ff.dst)).setCell ⟨w.heap.size, 3, none⟩ (.int .i64 ff.seq)).setCell ⟨w.heap.size, 4, none⟩ (.int .i64 ff.len)).setCell ⟨w.heap.size, 5, none⟩ (.bool ff.more)).setCell ⟨w.heap.size, 6, none⟩ (.bool ff.cast)).setCell ⟨w.heap.size, 7, none⟩ (.string ff.data)) = w5 at *
  have HFF := Lib.hid hFF
  have HBB := Lib.hid hBB
  clear hFF hBB
  have hself : ∀ g : Fl, flEq g g = true := flEq_self
  have HZ := Lib.hid hself
  clear hself
  rcases HCG.out with ⟨g, hg1, hg2, hg3⟩ | hg1
  · rw [hg1] at HRs0
    have HWg0 := fun w => flit_write g w
    have HRg0 := fun w => fright_calls g w
    rw [hg2] at HWg0
    rw [hg3] at HRg0
    have HRs := Lib.hid HRs0
    have HWg := Lib.hid HWg0
    have HRg := Lib.hid HRg0
    clear HRs0 HWg0 HRg0 hg1 hg2 hg3 HCG
    obtain ⟨j0, j1, j2, j3, j4, j5, j6, j7⟩ := g
    rcases HCS.out with ⟨hr, hw, hrd, hk⟩ | hw
    · rw [hw] at HWf0
      rw [hrd] at HRw0
      rw [hk] at HKw0
      have HWf := Lib.hid HWf0
      have HRw := Lib.hid HRw0
      have HKw := Lib.hid HKw0
      clear HWf0 HRw0 HKw0 hw hrd hk hr HCS
      generalize wordF ff = wf at *
      obtain ⟨k0, k1, k2, k3, k4, k5, k6, k7⟩ := ff
      have hself : flEq ⟨k0, k1, k2, k3, k4, k5, k6, k7⟩ ⟨k0, k1, k2, k3, k4, k5, k6, k7⟩ = true := HZ.out _
      go_wp2_with (first
        | (go_at_call 24; ((with_reducible refine (HWf.out _).mono ?_); rintro e w6 ⟨rfl, hb6⟩; have hF6 := Below.at hb6 HFF.out (block_lt HFF.out); have HF6 := Lib.hid hF6; have HB6 := Lib.hid (HBB.out.trans (hb6.mono HBB.out.size)); clear hF6 hb6))
        | (go_at_call 20; ((with_reducible refine (HRw.out _).mono ?_); rintro e w7 ⟨rfl, hb7⟩; have hF7 := Below.at hb7 HF6.out (block_lt HF6.out); have hlF := block_lt hF7; have f0 := cell_at hF7 0; have f1 := cell_at hF7 1; have f2 := cell_at hF7 2; have f3 := cell_at hF7 3; have f4 := cell_at hF7 4; have f5 := cell_at hF7 5; have f6 := cell_at hF7 6; have f7 := cell_at hF7 7; have HF7 := Lib.hid hF7; have HB7 := Lib.hid (HB6.out.trans (hb7.mono HB6.out.size)); clear hF7 hb7)))
      go_quiet (first
        | (go_at_call 22; refine (HKw.out _).mono ?_; rintro e w1 ⟨rfl, k, rfl⟩; exact ⟨rfl, by first | exact drew_close2 | exact drew_close0 | exact drew_close⟩))
      go_wp2_with (first
        | (go_at_call 19; ((with_reducible refine (HS2.out _).mono ?_); rintro e w' ⟨rfl, k, rfl⟩))
        | (go_at_call 20; ((with_reducible refine (HRs.out _).mono ?_); rintro e w11 ⟨rfl, hb11⟩; have HB11 := Lib.hid hb11; clear hb11))
        | (go_at_call 24; ((with_reducible refine (HWg.out _).mono ?_); rintro e w12 ⟨rfl, hb12⟩; have hG12 := Below.at hb12 (alloc_new _) (by simp); have g0 := cell_at hG12 0; have g1 := cell_at hG12 1; have g2 := cell_at hG12 2; have g3 := cell_at hG12 3; have g4 := cell_at hG12 4; have g5 := cell_at hG12 5; have g6 := cell_at hG12 6; have g7 := cell_at hG12 7; have HB12 := Lib.hid hb12; clear hb12 hG12))
        | (go_at_call 25; ((with_reducible refine (HRg.out _).mono ?_); rintro e w13 ⟨rfl, hb13⟩; have HB13 := Lib.hid hb13; clear hb13)))
      go_ret
      have h11 : Below w.heap.size w w11 := Below.trans (by have h7 := HB7.out; have hs7 := h7.size; repeat' (first | (with_reducible assumption) | (with_reducible refine Below.setCell ?_ ?_ _) | (with_reducible refine below_drewN' ?_ _) | (with_reducible refine Below.drew ?_) | (with_reducible refine Below.alloc ?_ ?_ _) | (with_reducible exact Below.refl _ _) | (with_reducible exact Nat.le_refl _) | omega | (simp; done) | (simp; omega))) (HB11.out.mono (by have h7 := HB7.out; have hs7 := h7.size; first | omega | (simp; omega) | (simp; done)))
      have h12 : Below w.heap.size w w12 := Below.trans (by have h7 := h11; have hs7 := h7.size; repeat' (first | (with_reducible assumption) | (with_reducible refine Below.setCell ?_ ?_ _) | (with_reducible refine below_drewN' ?_ _) | (with_reducible refine Below.drew ?_) | (with_reducible refine Below.alloc ?_ ?_ _) | (with_reducible exact Below.refl _ _) | (with_reducible exact Nat.le_refl _) | omega | (simp; done) | (simp; omega))) (HB12.out.mono (by have h7 := h11; have hs7 := h7.size; first | omega | (simp; omega) | (simp; done)))
      have h13 : Below w.heap.size w w13 := Below.trans (by have h7 := h12; have hs7 := h7.size; repeat' (first | (with_reducible assumption) | (with_reducible refine Below.setCell ?_ ?_ _) | (with_reducible refine below_drewN' ?_ _) | (with_reducible refine Below.drew ?_) | (with_reducible refine Below.alloc ?_ ?_ _) | (with_reducible exact Below.refl _ _) | (with_reducible exact Nat.le_refl _) | omega | (simp; done) | (simp; omega))) (HB13.out.mono (by have h7 := h12; have hs7 := h7.size; first | omega | (simp; omega) | (simp; done)))
      exact ⟨rfl, h13⟩
    · rw [hw] at HWf0
      have HWf := Lib.hid HWf0
      clear HWf0 HRw0 HKw0 hw HCS
      go_wp2_with (first
        | (go_at_call 19; ((with_reducible refine (HS2.out _).mono ?_); rintro e w' ⟨rfl, k, rfl⟩))
        | (go_at_call 20; ((with_reducible refine (HRs.out _).mono ?_); rintro e w11 ⟨rfl, hb11⟩; have HB11 := Lib.hid hb11; clear hb11))
        | (go_at_call 24; first
            | ((with_reducible refine (HWf.out _).mono ?_); rintro e w7 ⟨rfl, hb7⟩; have HB7 := Lib.hid (HBB.out.trans (hb7.mono HBB.out.size)); clear hb7)
            | ((with_reducible refine (HWg.out _).mono ?_); rintro e w12 ⟨rfl, hb12⟩; have hG12 := Below.at hb12 (alloc_new _) (by simp); have g0 := cell_at hG12 0; have g1 := cell_at hG12 1; have g2 := cell_at hG12 2; have g3 := cell_at hG12 3; have g4 := cell_at hG12 4; have g5 := cell_at hG12 5; have g6 := cell_at hG12 6; have g7 := cell_at hG12 7; have HB12 := Lib.hid hb12; clear hb12 hG12))
        | (go_at_call 25; ((with_reducible refine (HRg.out _).mono ?_); rintro e w13 ⟨rfl, hb13⟩; have HB13 := Lib.hid hb13; clear hb13)))
      go_ret
      have h11 : Below w.heap.size w w11 := Below.trans (by have h7 := HB7.out; have hs7 := h7.size; repeat' (first | (with_reducible assumption) | (with_reducible refine Below.setCell ?_ ?_ _) | (with_reducible refine below_drewN' ?_ _) | (with_reducible refine Below.drew ?_) | (with_reducible refine Below.alloc ?_ ?_ _) | (with_reducible exact Below.refl _ _) | (with_reducible exact Nat.le_refl _) | omega | (simp; done) | (simp; omega))) (HB11.out.mono (by have h7 := HB7.out; have hs7 := h7.size; first | omega | (simp; omega) | (simp; done)))
      have h12 : Below w.heap.size w w12 := Below.trans (by have h7 := h11; have hs7 := h7.size; repeat' (first | (with_reducible assumption) | (with_reducible refine Below.setCell ?_ ?_ _) | (with_reducible refine below_drewN' ?_ _) | (with_reducible refine Below.drew ?_) | (with_reducible refine Below.alloc ?_ ?_ _) | (with_reducible exact Below.refl _ _) | (with_reducible exact Nat.le_refl _) | omega | (simp; done) | (simp; omega))) (HB12.out.mono (by have h7 := h11; have hs7 := h7.size; first | omega | (simp; omega) | (simp; done)))
      have h13 : Below w.heap.size w w13 := Below.trans (by have h7 := h12; have hs7 := h7.size; repeat' (first | (with_reducible assumption) | (with_reducible refine Below.setCell ?_ ?_ _) | (with_reducible refine below_drewN' ?_ _) | (with_reducible refine Below.drew ?_) | (with_reducible refine Below.alloc ?_ ?_ _) | (with_reducible exact Below.refl _ _) | (with_reducible exact Nat.le_refl _) | omega | (simp; done) | (simp; omega))) (HB13.out.mono (by have h7 := h12; have hs7 := h7.size; first | omega | (simp; omega) | (simp; done)))
      exact ⟨rfl, h13⟩
  · rw [hg1] at HRs0
    have HRs := Lib.hid HRs0
    clear HRs0 hg1 HCG
    have hself0 : flEq ⟨0, 0, 0, 0, 0, false, false, ByteArray.empty⟩ ⟨0, 0, 0, 0, 0, false, false, ByteArray.empty⟩ = true := HZ.out _
    unfold zeroFl at HRs
    rcases HCS.out with ⟨hr, hw, hrd, hk⟩ | hw
    · rw [hw] at HWf0
      rw [hrd] at HRw0
      rw [hk] at HKw0
      have HWf := Lib.hid HWf0
      have HRw := Lib.hid HRw0
      have HKw := Lib.hid HKw0
      clear HWf0 HRw0 HKw0 hw hrd hk hr HCS
      generalize wordF ff = wf at *
      obtain ⟨k0, k1, k2, k3, k4, k5, k6, k7⟩ := ff
      have hself : flEq ⟨k0, k1, k2, k3, k4, k5, k6, k7⟩ ⟨k0, k1, k2, k3, k4, k5, k6, k7⟩ = true := HZ.out _
      go_wp2_with (first
        | (go_at_call 24; ((with_reducible refine (HWf.out _).mono ?_); rintro e w6 ⟨rfl, hb6⟩; have hF6 := Below.at hb6 HFF.out (block_lt HFF.out); have HF6 := Lib.hid hF6; have HB6 := Lib.hid (HBB.out.trans (hb6.mono HBB.out.size)); clear hF6 hb6))
        | (go_at_call 20; ((with_reducible refine (HRw.out _).mono ?_); rintro e w7 ⟨rfl, hb7⟩; have hF7 := Below.at hb7 HF6.out (block_lt HF6.out); have hlF := block_lt hF7; have f0 := cell_at hF7 0; have f1 := cell_at hF7 1; have f2 := cell_at hF7 2; have f3 := cell_at hF7 3; have f4 := cell_at hF7 4; have f5 := cell_at hF7 5; have f6 := cell_at hF7 6; have f7 := cell_at hF7 7; have HF7 := Lib.hid hF7; have HB7 := Lib.hid (HB6.out.trans (hb7.mono HB6.out.size)); clear hF7 hb7)))
      go_quiet (first
        | (go_at_call 22; refine (HKw.out _).mono ?_; rintro e w1 ⟨rfl, k, rfl⟩; exact ⟨rfl, by first | exact drew_close2 | exact drew_close0 | exact drew_close⟩))
      go_wp2_with (first
        | (go_at_call 19; ((with_reducible refine (HS2.out _).mono ?_); rintro e w' ⟨rfl, k, rfl⟩))
        | (go_at_call 20; ((with_reducible refine (HRs.out _).mono ?_); rintro e w11 ⟨rfl, hb11⟩; have HB11 := Lib.hid hb11; clear hb11)))
      go_ret
      have h11 : Below w.heap.size w w11 := Below.trans (by have h7 := HB7.out; have hs7 := h7.size; repeat' (first | (with_reducible assumption) | (with_reducible refine Below.setCell ?_ ?_ _) | (with_reducible refine below_drewN' ?_ _) | (with_reducible refine Below.drew ?_) | (with_reducible refine Below.alloc ?_ ?_ _) | (with_reducible exact Below.refl _ _) | (with_reducible exact Nat.le_refl _) | omega | (simp; done) | (simp; omega))) (HB11.out.mono (by have h7 := HB7.out; have hs7 := h7.size; first | omega | (simp; omega) | (simp; done)))
      exact ⟨congrArg (fun b => Ending.returned (.bool b)) (HZ.out zeroFl), by have hs := h11.size; repeat' (first | (with_reducible assumption) | (with_reducible refine Below.setCell ?_ ?_ _) | (with_reducible refine below_drewN' ?_ _) | (with_reducible refine Below.drew ?_) | (with_reducible refine Below.alloc ?_ ?_ _) | (with_reducible exact Below.refl _ _) | (with_reducible exact Nat.le_refl _) | omega | (simp; done) | (simp; omega))⟩
    · rw [hw] at HWf0
      have HWf := Lib.hid HWf0
      clear HWf0 HRw0 HKw0 hw HCS
      go_wp2_with (first
        | (go_at_call 19; ((with_reducible refine (HS2.out _).mono ?_); rintro e w' ⟨rfl, k, rfl⟩))
        | (go_at_call 20; ((with_reducible refine (HRs.out _).mono ?_); rintro e w11 ⟨rfl, hb11⟩; have HB11 := Lib.hid hb11; clear hb11))
        | (go_at_call 24; ((with_reducible refine (HWf.out _).mono ?_); rintro e w7 ⟨rfl, hb7⟩; have HB7 := Lib.hid (HBB.out.trans (hb7.mono HBB.out.size)); clear hb7)))
      go_ret
      have h11 : Below w.heap.size w w11 := Below.trans (by have h7 := HB7.out; have hs7 := h7.size; repeat' (first | (with_reducible assumption) | (with_reducible refine Below.setCell ?_ ?_ _) | (with_reducible refine below_drewN' ?_ _) | (with_reducible refine Below.drew ?_) | (with_reducible refine Below.alloc ?_ ?_ _) | (with_reducible exact Below.refl _ _) | (with_reducible exact Nat.le_refl _) | omega | (simp; done) | (simp; omega))) (HB11.out.mono (by have h7 := HB7.out; have hs7 := h7.size; first | omega | (simp; omega) | (simp; done)))
      exact ⟨congrArg (fun b => Ending.returned (.bool b)) (HZ.out zeroFl), by have hs := h11.size; repeat' (first | (with_reducible assumption) | (with_reducible refine Below.setCell ?_ ?_ _) | (with_reducible refine below_drewN' ?_ _) | (with_reducible refine Below.drew ?_) | (with_reducible refine Below.alloc ?_ ?_ _) | (with_reducible exact Below.refl _ _) | (with_reducible exact Nat.le_refl _) | omega | (simp; done) | (simp; omega))⟩
end Go.Proofs.Ytncdambphaodaab
