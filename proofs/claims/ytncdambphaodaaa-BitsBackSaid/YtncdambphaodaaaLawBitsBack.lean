/- The walk of BitsBack. -/
import Derived.Test.YtncdambphaodaaaBitsLives
import Derived.Test.YtncdambphaodaaaBitsMore
namespace Go.Proofs.Ytncdambphaodaaa
set_option linter.unusedVariables false
open Go.RowKit BM

theorem back_pack (n v : Int) (w : World) (a a2 : Option Addr) (h1 : 1 ≤ n) (h2 : n ≤ 32) (hv0 : 0 ≤ v) (hv1 : v < 4294967296) (hv : v.toNat < 2 ^ n.toNat) (hr : IntsAt .i64 w a [n]) (hr2 : IntsAt .u32 w a2 [v]) :
    Calls Try.prog 16 #[.slice a 1 1, .slice a2 1 1] w fun e w' => e = .returned (.tuple #[.int .u64 v, .int .i64 0]) ∧ ∃ k, w' = w.drewN k := by
  have h := pack_calls a 1 [n] a2 1 [v] w (by simp [maxLen]) hr (by simp [maxLen]) hr2 (by simp; omega)
  have e := pack_one h1 h2 hv
  rw [Int.toNat_of_nonneg hv0] at e
  rw [e] at h
  exact h
theorem back_unpack (n v : Int) (w : World) (a : Option Addr) (h1 : 1 ≤ n) (h2 : n ≤ 32) (hv0 : 0 ≤ v) (hv1 : v < 4294967296) (hv : v.toNat < 2 ^ n.toNat) (hr : IntsAt .i64 w a [n]) :
    Calls Try.prog 18 #[.int .u64 v, .slice a 1 1] w fun e w' => ∃ b o c, e = .returned (.tuple #[.slice (some ⟨b, o, none⟩) 1 c, .int .i64 0]) ∧ w'.cell? ⟨b, o, none⟩ = some (.int .u32 v) ∧ Below w.heap.size w w' := by
  have h := unpack_calls v a 1 [n] w hv0 (by omega) (by simp) hr
  have e := unpack_one h1 h2 hv
  rw [Int.toNat_of_nonneg hv0] at e
  rw [e] at h
  refine h.mono ?_
  rintro e w' ⟨q, rfl, hown, hb⟩
  obtain ⟨a', c, rfl, hi⟩ := IntsAt.own (l := [v]) hown
  obtain ⟨b, o, rfl, h0⟩ := hi 0 (by simp)
  exact ⟨b, o, c, rfl, h0, hb⟩
set_option maxHeartbeats 1000000 in
theorem bitsBack_walk (x a n b m v : Int) (w : World) (hx0 : 0 ≤ x) (hx1 : x < 18446744073709551616) (hv0 : 0 ≤ v) (hv1 : v < 4294967296) :
    Calls Try.prog 8 #[.int .u64 x, .agg #[.int .i64 a, .int .i64 n, .int .i64 b, .int .i64 m], .int .u32 v] w fun e w' => e = .returned (.bool true) ∧ Below w.heap.size w w' := by
  have C1 := Lib.hid (fun w => put_calls x a n v w hx0 hx1 hv0 hv1)
  have hp := putR_range (x := x.toNat) (v := v.toNat) (a := a) (n := n) (by omega)
  have C2 := fun w => get_calls (putR x.toNat a n v.toNat).1 a n w hp.1 hp.2
  have C3 := fun w => get_calls x b m w hx0 hx1
  have C4 := fun w => get_calls (putR x.toNat a n v.toNat).1 b m w hp.1 hp.2
  by_cases e1 : (putR x.toNat a n v.toNat).2 = 0
  · obtain ⟨hf, hvn, ep⟩ := putR_ok e1
    have hg : getR (putR x.toNat a n v.toNat).1.toNat a n = (v, 0) := by
      unfold getR; rw [if_pos hf, ep, Int.toNat_natCast, getN_putN hvn, Int.toNat_of_nonneg hv0]
    rw [hg] at C2
    have hsnd : (getR (putR x.toNat a n v.toNat).1.toNat b m).2 = (getR x.toNat b m).2 := by unfold getR; split <;> rfl
    have hfst : (a + n ≤ b ∨ b + m ≤ a) → (getR (putR x.toNat a n v.toNat).1.toNat b m).1 = (getR x.toNat b m).1 := fun h => by
      unfold getR; split
      · rename_i hg
        simp only [fieldI, decide_eq_true_eq] at hf hg
        rw [ep, Int.toNat_natCast, getN_apart hvn (by omega)]
      · rfl
    have hbm : (getR x.toNat b m).2 = 0 → 1 ≤ m ∧ m ≤ 32 ∧ 0 ≤ b ∧ b + m ≤ 64 := fun h => by
      unfold getR at h; split at h
      · rename_i hg; simpa only [fieldI, decide_eq_true_eq] using hg
      · simp at h
    clear hg hp ep
    generalize getR (putR x.toNat a n v.toNat).1.toNat b m = z at *
    generalize getR x.toNat b m = y at *
    generalize putR x.toNat a n v.toNat = p at *
    obtain ⟨p1, p2⟩ := p
    obtain ⟨y1, y2⟩ := y
    obtain ⟨z1, z2⟩ := z
    dsimp only at e1 C1 C2 C3 C4 hsnd hfst hbm
    subst e1 hsnd
    have D2 := Lib.hid C2
    have D3 := Lib.hid C3
    have D4 := Lib.hid C4
    simp only [fieldI, decide_eq_true_eq] at hf
    obtain ⟨f1, f2, f3, f4⟩ := hf
    have HV := Lib.hid hvn
    clear C2 C3 C4 hvn
    by_cases e2 : z2 = 0
    · obtain ⟨g1, g2, g3, g4⟩ := hbm e2
      subst e2
      clear hbm
      by_cases h6 : a + n ≤ b
      · obtain rfl : z1 = y1 := hfst (.inl h6)
        clear hfst
        go_enter Try.func8, Try.ntmps8
        go_wp2_with (first | (go_at_call 15; refine (lives02_calls _).mono ?_; rintro e w1 ⟨rfl, hb⟩; have h0 := laid_cell hb (by simp) 0; have h1 := laid_cell hb (by simp) 1; have h2 := laid_cell hb (by simp) 2; have h3 := laid_cell hb (by simp) 3; have hz : w.heap.size < w1.heap.size := (by have hz := hb.size; simp at hz; omega); have hz2 : w.heap.size ≤ w1.heap.size := (by omega); have HB := Lib.hid hb; clear hb; simp at h0 h1 h2 h3) | (go_at_call 27; refine (C1.out _).mono ?_; rintro e w' ⟨rfl, k, rfl⟩) | (go_at_call_of 28 (Value.int .u64 x); refine (D3.out _).mono ?_; rintro e w' ⟨rfl, k, rfl⟩) | (go_at_call_of 28 (Value.int .i64 a); refine (D2.out _).mono ?_; rintro e w' ⟨rfl, k, rfl⟩) | (go_at_call 28; refine (D4.out _).mono ?_; rintro e w' ⟨rfl, k, rfl⟩) | (go_at_call 16; refine (back_pack n v _ _ _ f1 f2 hv0 hv1 HV.out (by exact (IntsAt.lit' _ [n] (by simp)).alloc _) (by exact IntsAt.lit' _ [v] (by simp))).mono ?_; rintro e w' ⟨rfl, k, rfl⟩) | (go_at_call 18; refine (back_unpack n v _ _ f1 f2 hv0 hv1 HV.out (by exact IntsAt.lit' _ [n] (by simp))).mono ?_; rintro e w2 ⟨bb, oo, cc, rfl, h9, hb2⟩; have HB2 := Lib.hid hb2; clear hb2))
        go_ret
        refine ⟨rfl, Below.trans (Below.trans ?_ (HB.out.mono ?_)) (Below.trans ?_ (HB2.out.mono ?_))⟩
        · repeat' (first | (with_reducible exact Below.refl _ _) | (with_reducible assumption) | (with_reducible refine below_drewN' ?_ _) | (with_reducible refine Below.drew ?_) | (with_reducible refine Below.alloc ?_ ?_ _) | (with_reducible exact Nat.le_refl _) | (simp; done) | (simp; omega))
        · simp <;> omega
        · repeat' (first | (with_reducible exact Below.refl _ _) | (with_reducible assumption) | (with_reducible refine below_drewN' ?_ _) | (with_reducible refine Below.drew ?_) | (with_reducible refine Below.alloc ?_ ?_ _) | (with_reducible exact Nat.le_refl _) | (simp; done) | (simp; omega))
        · simp only [World.size_alloc, World.heap_drewN]; omega
      · by_cases h7 : b + m ≤ a
        · obtain rfl : z1 = y1 := hfst (.inr h7)
          clear hfst
          go_enter Try.func8, Try.ntmps8
          go_wp2_with (first | (go_at_call 15; refine (lives02_calls _).mono ?_; rintro e w1 ⟨rfl, hb⟩; have h0 := laid_cell hb (by simp) 0; have h1 := laid_cell hb (by simp) 1; have h2 := laid_cell hb (by simp) 2; have h3 := laid_cell hb (by simp) 3; have hz : w.heap.size < w1.heap.size := (by have hz := hb.size; simp at hz; omega); have hz2 : w.heap.size ≤ w1.heap.size := (by omega); have HB := Lib.hid hb; clear hb; simp at h0 h1 h2 h3) | (go_at_call 27; refine (C1.out _).mono ?_; rintro e w' ⟨rfl, k, rfl⟩) | (go_at_call_of 28 (Value.int .u64 x); refine (D3.out _).mono ?_; rintro e w' ⟨rfl, k, rfl⟩) | (go_at_call_of 28 (Value.int .i64 a); refine (D2.out _).mono ?_; rintro e w' ⟨rfl, k, rfl⟩) | (go_at_call 28; refine (D4.out _).mono ?_; rintro e w' ⟨rfl, k, rfl⟩) | (go_at_call 16; refine (back_pack n v _ _ _ f1 f2 hv0 hv1 HV.out (by exact (IntsAt.lit' _ [n] (by simp)).alloc _) (by exact IntsAt.lit' _ [v] (by simp))).mono ?_; rintro e w' ⟨rfl, k, rfl⟩) | (go_at_call 18; refine (back_unpack n v _ _ f1 f2 hv0 hv1 HV.out (by exact IntsAt.lit' _ [n] (by simp))).mono ?_; rintro e w2 ⟨bb, oo, cc, rfl, h9, hb2⟩; have HB2 := Lib.hid hb2; clear hb2))
          go_ret
          refine ⟨rfl, Below.trans (Below.trans ?_ (HB.out.mono ?_)) (Below.trans ?_ (HB2.out.mono ?_))⟩
          · repeat' (first | (with_reducible exact Below.refl _ _) | (with_reducible assumption) | (with_reducible refine below_drewN' ?_ _) | (with_reducible refine Below.drew ?_) | (with_reducible refine Below.alloc ?_ ?_ _) | (with_reducible exact Nat.le_refl _) | (simp; done) | (simp; omega))
          · simp <;> omega
          · repeat' (first | (with_reducible exact Below.refl _ _) | (with_reducible assumption) | (with_reducible refine below_drewN' ?_ _) | (with_reducible refine Below.drew ?_) | (with_reducible refine Below.alloc ?_ ?_ _) | (with_reducible exact Nat.le_refl _) | (simp; done) | (simp; omega))
          · simp only [World.size_alloc, World.heap_drewN]; omega
        · clear hfst
          go_enter Try.func8, Try.ntmps8
          go_wp2_with (first | (go_at_call 15; refine (lives02_calls _).mono ?_; rintro e w1 ⟨rfl, hb⟩; have h0 := laid_cell hb (by simp) 0; have h1 := laid_cell hb (by simp) 1; have h2 := laid_cell hb (by simp) 2; have h3 := laid_cell hb (by simp) 3; have hz : w.heap.size < w1.heap.size := (by have hz := hb.size; simp at hz; omega); have hz2 : w.heap.size ≤ w1.heap.size := (by omega); have HB := Lib.hid hb; clear hb; simp at h0 h1 h2 h3) | (go_at_call 27; refine (C1.out _).mono ?_; rintro e w' ⟨rfl, k, rfl⟩) | (go_at_call_of 28 (Value.int .u64 x); refine (D3.out _).mono ?_; rintro e w' ⟨rfl, k, rfl⟩) | (go_at_call_of 28 (Value.int .i64 a); refine (D2.out _).mono ?_; rintro e w' ⟨rfl, k, rfl⟩) | (go_at_call 28; refine (D4.out _).mono ?_; rintro e w' ⟨rfl, k, rfl⟩) | (go_at_call 16; refine (back_pack n v _ _ _ f1 f2 hv0 hv1 HV.out (by exact (IntsAt.lit' _ [n] (by simp)).alloc _) (by exact IntsAt.lit' _ [v] (by simp))).mono ?_; rintro e w' ⟨rfl, k, rfl⟩) | (go_at_call 18; refine (back_unpack n v _ _ f1 f2 hv0 hv1 HV.out (by exact IntsAt.lit' _ [n] (by simp))).mono ?_; rintro e w2 ⟨bb, oo, cc, rfl, h9, hb2⟩; have HB2 := Lib.hid hb2; clear hb2))
          go_ret
          refine ⟨rfl, Below.trans (Below.trans ?_ (HB.out.mono ?_)) (Below.trans ?_ (HB2.out.mono ?_))⟩
          · repeat' (first | (with_reducible exact Below.refl _ _) | (with_reducible assumption) | (with_reducible refine below_drewN' ?_ _) | (with_reducible refine Below.drew ?_) | (with_reducible refine Below.alloc ?_ ?_ _) | (with_reducible exact Nat.le_refl _) | (simp; done) | (simp; omega))
          · simp <;> omega
          · repeat' (first | (with_reducible exact Below.refl _ _) | (with_reducible assumption) | (with_reducible refine below_drewN' ?_ _) | (with_reducible refine Below.drew ?_) | (with_reducible refine Below.alloc ?_ ?_ _) | (with_reducible exact Nat.le_refl _) | (simp; done) | (simp; omega))
          · simp only [World.size_alloc, World.heap_drewN]; omega
    · have hne : (z2 == 0) = false := by rw [beq_eq_false_iff_ne]; exact e2
      clear hbm hfst e2
      go_enter Try.func8, Try.ntmps8
      go_wp2_with (first | (go_at_call 15; refine (lives02_calls _).mono ?_; rintro e w1 ⟨rfl, hb⟩; have h0 := laid_cell hb (by simp) 0; have h1 := laid_cell hb (by simp) 1; have h2 := laid_cell hb (by simp) 2; have h3 := laid_cell hb (by simp) 3; have hz : w.heap.size < w1.heap.size := (by have hz := hb.size; simp at hz; omega); have hz2 : w.heap.size ≤ w1.heap.size := (by omega); have HB := Lib.hid hb; clear hb; simp at h0 h1 h2 h3) | (go_at_call 27; refine (C1.out _).mono ?_; rintro e w' ⟨rfl, k, rfl⟩) | (go_at_call_of 28 (Value.int .u64 x); refine (D3.out _).mono ?_; rintro e w' ⟨rfl, k, rfl⟩) | (go_at_call_of 28 (Value.int .i64 a); refine (D2.out _).mono ?_; rintro e w' ⟨rfl, k, rfl⟩) | (go_at_call 28; refine (D4.out _).mono ?_; rintro e w' ⟨rfl, k, rfl⟩) | (go_at_call 16; refine (back_pack n v _ _ _ f1 f2 hv0 hv1 HV.out (by exact (IntsAt.lit' _ [n] (by simp)).alloc _) (by exact IntsAt.lit' _ [v] (by simp))).mono ?_; rintro e w' ⟨rfl, k, rfl⟩) | (go_at_call 18; refine (back_unpack n v _ _ f1 f2 hv0 hv1 HV.out (by exact IntsAt.lit' _ [n] (by simp))).mono ?_; rintro e w2 ⟨bb, oo, cc, rfl, h9, hb2⟩; have HB2 := Lib.hid hb2; clear hb2))
      go_ret
      refine ⟨rfl, Below.trans (Below.trans ?_ (HB.out.mono ?_)) (Below.trans ?_ (HB2.out.mono ?_))⟩
      · repeat' (first | (with_reducible exact Below.refl _ _) | (with_reducible assumption) | (with_reducible refine below_drewN' ?_ _) | (with_reducible refine Below.drew ?_) | (with_reducible refine Below.alloc ?_ ?_ _) | (with_reducible exact Nat.le_refl _) | (simp; done) | (simp; omega))
      · simp <;> omega
      · repeat' (first | (with_reducible exact Below.refl _ _) | (with_reducible assumption) | (with_reducible refine below_drewN' ?_ _) | (with_reducible refine Below.drew ?_) | (with_reducible refine Below.alloc ?_ ?_ _) | (with_reducible exact Nat.le_refl _) | (simp; done) | (simp; omega))
      · simp only [World.size_alloc, World.heap_drewN]; omega
  · have hne : ((putR x.toNat a n v.toNat).2 != 0) = true := by rw [bne_iff_ne]; exact e1
    have hz := putR_bad e1
    clear C2 C3 C4 hp e1
    generalize putR x.toNat a n v.toNat = p at *
    obtain ⟨p1, p2⟩ := p
    dsimp only at hne C1 hz
    subst hz
    go_enter Try.func8, Try.ntmps8
    go_wp2_with (first | (go_at_call 15; refine (lives02_calls _).mono ?_; rintro e w1 ⟨rfl, hb⟩; have h0 := laid_cell hb (by simp) 0; have h1 := laid_cell hb (by simp) 1; have h2 := laid_cell hb (by simp) 2; have h3 := laid_cell hb (by simp) 3; have hz : w.heap.size < w1.heap.size := (by have hz := hb.size; simp at hz; omega); have hz2 : w.heap.size ≤ w1.heap.size := (by omega); have HB := Lib.hid hb; clear hb; simp at h0 h1 h2 h3) | (go_at_call 27; refine (C1.out _).mono ?_; rintro e w' ⟨rfl, k, rfl⟩))
    go_ret
    refine ⟨rfl, below_drewN' (Below.trans ?_ (HB.out.mono ?_)) _⟩
    · repeat' (first | (with_reducible exact Below.refl _ _) | (with_reducible assumption) | (with_reducible refine below_drewN' ?_ _) | (with_reducible refine Below.drew ?_) | (with_reducible refine Below.alloc ?_ ?_ _) | (with_reducible exact Nat.le_refl _) | (simp; done) | (simp; omega))
    · simp <;> omega
end Go.Proofs.Ytncdambphaodaaa
