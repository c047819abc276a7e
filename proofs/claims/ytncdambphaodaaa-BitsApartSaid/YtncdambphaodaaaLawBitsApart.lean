/- The walk of BitsApart. -/
import Derived.Test.YtncdambphaodaaaBitsLives
import Derived.Test.YtncdambphaodaaaBitsMore
namespace Go.Proofs.Ytncdambphaodaaa
set_option linter.unusedVariables false
open Go.RowKit BM

theorem shl8_int {x : Int} (hx0 : 0 ≤ x) : IntKind.u64.wrap (((sealN x.toNat : Nat) : Int) * 256) = IntKind.u64.wrap (x * 256) := by
  obtain ⟨x, rfl⟩ := Int.eq_ofNat_of_zero_le hx0
  have := seal_shift x
  rw [Int.toNat_natCast, wrap_u64, wrap_u64]
  omega
theorem bitsApart_walk (x a n b m v u : Int) (w : World) (hx0 : 0 ≤ x) (hx1 : x < 18446744073709551616) (hv0 : 0 ≤ v) (hv1 : v < 4294967296) (hu0 : 0 ≤ u) (hu1 : u < 4294967296) :
    Calls Try.prog 6 #[.int .u64 x, .agg #[.int .i64 a, .int .i64 n, .int .i64 b, .int .i64 m], .agg #[.int .u32 v, .int .u32 u]] w fun e w' => e = .returned (.bool true) ∧ Below w.heap.size w w' := by
  have hs := sealN_lt x.toNat
  have hs2 : ((sealN x.toNat : Nat) : Int) < 18446744073709551616 := by omega
  have hs1 : (0 : Int) ≤ ((sealN x.toNat : Nat) : Int) := Int.natCast_nonneg _
  have HX := shl8_int hx0
  have C1 := Lib.hid (fun w => put_calls x a n v w hx0 hx1 hv0 hv1)
  have C2 := Lib.hid (fun w => put_calls x b m u w hx0 hx1 hu0 hu1)
  have C3 := Lib.hid (fun w => seal_calls x w hx0 hx1)
  have hp := putR_range (x := x.toNat) (v := v.toNat) (a := a) (n := n) (by omega)
  have hq := putR_range (x := x.toNat) (v := u.toNat) (a := b) (n := m) (by omega)
  have D1 := fun w => put_calls (putR x.toNat a n v.toNat).1 b m u w hp.1 hp.2 hu0 hu1
  have D2 := fun w => put_calls (putR x.toNat b m u.toNat).1 a n v w hq.1 hq.2 hv0 hv1
  clear hs hp hq
  by_cases e1 : (putR x.toNat a n v.toNat).2 = 0
  · by_cases e2 : (putR x.toNat b m u.toNat).2 = 0
    · obtain ⟨hf, hvn, ep⟩ := putR_ok e1
      obtain ⟨hg, hun, eq⟩ := putR_ok e2
      simp only [fieldI, decide_eq_true_eq] at hf hg
      obtain ⟨f1, f2, f3, f4⟩ := hf
      obtain ⟨g1, g2, g3, g4⟩ := hg
      have HE : (a + n ≤ b ∨ b + m ≤ a) → Hid ((putR (putR x.toNat a n v.toNat).1.toNat b m u.toNat).1 = (putR (putR x.toNat b m u.toNat).1.toNat a n v.toNat).1) := fun h => by
        unfold Hid
        rw [ep, eq, putR_again e2, putR_again e1, Int.toNat_natCast, Int.toNat_natCast]
        show ((putN _ _ _ _ : Nat) : Int) = ((putN _ _ _ _ : Nat) : Int)
        rw [putN_comm hvn hun (by omega)]
      have r1 : (putR (putR x.toNat a n v.toNat).1.toNat b m u.toNat).2 = 0 := by rw [putR_again e2]
      have r2 : (putR (putR x.toNat b m u.toNat).1.toNat a n v.toNat).2 = 0 := by rw [putR_again e1]
      generalize putR (putR x.toNat a n v.toNat).1.toNat b m u.toNat = s1 at *
      generalize putR (putR x.toNat b m u.toNat).1.toNat a n v.toNat = s2 at *
      clear ep eq hvn hun
      generalize putR x.toNat a n v.toNat = p at *
      generalize putR x.toNat b m u.toNat = q at *
      obtain ⟨p1, p2⟩ := p
      obtain ⟨q1, q2⟩ := q
      obtain ⟨s11, s12⟩ := s1
      obtain ⟨s21, s22⟩ := s2
      dsimp only at e1 e2 r1 r2 C1 C2 D1 D2 HE
      subst e1 e2 r1 r2
      have E1 := Lib.hid D1
      have E2 := Lib.hid D2
      generalize ((sealN x.toNat : Nat) : Int) = s at *
      clear D1 D2
      by_cases h6 : a < b + m
      · by_cases h7 : b < a + n
        · clear HE
          go_enter Try.func6, Try.ntmps6
          go_wp2_with (first | (go_at_call 15; refine (lives02_calls _).mono ?_; rintro e w1 ⟨rfl, hb⟩; have h0 := laid_cell2 hb (by simp; omega) 0; have h1 := laid_cell2 hb (by simp; omega) 1; have h2 := laid_cell2 hb (by simp; omega) 2; have h3 := laid_cell2 hb (by simp; omega) 3; have h4 := laid_cell_at hb (by simp) (b := w.heap.size + 1) (by simp) 0; have h5 := laid_cell_at hb (by simp) (b := w.heap.size + 1) (by simp) 1; have HB := Lib.hid hb; clear hb; simp at h0 h1 h2 h3 h4 h5) | (go_at_call_of 27 (Value.int .i64 a); refine (C1.out _).mono ?_; rintro e w' ⟨rfl, k, rfl⟩) | (go_at_call 27; refine (C2.out _).mono ?_; rintro e w' ⟨rfl, k, rfl⟩) | (go_at_call 21; refine (C3.out _).mono ?_; rintro e w' ⟨rfl, k, rfl⟩))
          go_ret
          refine ⟨rfl, below_drewN' (Below.trans ?_ (HB.out.mono ?_)) _⟩
          · repeat' (first | (with_reducible exact Below.refl _ _) | (with_reducible assumption) | (with_reducible refine below_drewN' ?_ _) | (with_reducible refine Below.drew ?_) | (with_reducible refine Below.alloc ?_ ?_ _) | (with_reducible exact Nat.le_refl _) | (simp; done) | (simp; omega))
          · simp <;> omega
        · have HE2 := HE (by omega)
          obtain rfl : s11 = s21 := HE2.out
          clear HE HE2
          go_enter Try.func6, Try.ntmps6
          go_wp2_with (first | (go_at_call 15; refine (lives02_calls _).mono ?_; rintro e w1 ⟨rfl, hb⟩; have h0 := laid_cell2 hb (by simp; omega) 0; have h1 := laid_cell2 hb (by simp; omega) 1; have h2 := laid_cell2 hb (by simp; omega) 2; have h3 := laid_cell2 hb (by simp; omega) 3; have h4 := laid_cell_at hb (by simp) (b := w.heap.size + 1) (by simp) 0; have h5 := laid_cell_at hb (by simp) (b := w.heap.size + 1) (by simp) 1; have HB := Lib.hid hb; clear hb; simp at h0 h1 h2 h3 h4 h5) | (go_at_call_of 27 (Value.int .u64 x); first | (go_at_call_of 27 (Value.int .i64 a); refine (C1.out _).mono ?_; rintro e w' ⟨rfl, k, rfl⟩) | (refine (C2.out _).mono ?_; rintro e w' ⟨rfl, k, rfl⟩)) | (go_at_call_of 27 (Value.int .i64 a); refine (E2.out _).mono ?_; rintro e w' ⟨rfl, k, rfl⟩) | (go_at_call 27; refine (E1.out _).mono ?_; rintro e w' ⟨rfl, k, rfl⟩) | (go_at_call 21; refine (C3.out _).mono ?_; rintro e w' ⟨rfl, k, rfl⟩))
          go_ret
          refine ⟨rfl, below_drewN' (Below.trans ?_ (HB.out.mono ?_)) _⟩
          · repeat' (first | (with_reducible exact Below.refl _ _) | (with_reducible assumption) | (with_reducible refine below_drewN' ?_ _) | (with_reducible refine Below.drew ?_) | (with_reducible refine Below.alloc ?_ ?_ _) | (with_reducible exact Nat.le_refl _) | (simp; done) | (simp; omega))
          · simp <;> omega
      · have HE2 := HE (by omega)
        obtain rfl : s11 = s21 := HE2.out
        clear HE HE2
        go_enter Try.func6, Try.ntmps6
        go_wp2_with (first | (go_at_call 15; refine (lives02_calls _).mono ?_; rintro e w1 ⟨rfl, hb⟩; have h0 := laid_cell2 hb (by simp; omega) 0; have h1 := laid_cell2 hb (by simp; omega) 1; have h2 := laid_cell2 hb (by simp; omega) 2; have h3 := laid_cell2 hb (by simp; omega) 3; have h4 := laid_cell_at hb (by simp) (b := w.heap.size + 1) (by simp) 0; have h5 := laid_cell_at hb (by simp) (b := w.heap.size + 1) (by simp) 1; have HB := Lib.hid hb; clear hb; simp at h0 h1 h2 h3 h4 h5) | (go_at_call_of 27 (Value.int .u64 x); first | (go_at_call_of 27 (Value.int .i64 a); refine (C1.out _).mono ?_; rintro e w' ⟨rfl, k, rfl⟩) | (refine (C2.out _).mono ?_; rintro e w' ⟨rfl, k, rfl⟩)) | (go_at_call_of 27 (Value.int .i64 a); refine (E2.out _).mono ?_; rintro e w' ⟨rfl, k, rfl⟩) | (go_at_call 27; refine (E1.out _).mono ?_; rintro e w' ⟨rfl, k, rfl⟩) | (go_at_call 21; refine (C3.out _).mono ?_; rintro e w' ⟨rfl, k, rfl⟩))
        go_ret
        refine ⟨rfl, below_drewN' (Below.trans ?_ (HB.out.mono ?_)) _⟩
        · repeat' (first | (with_reducible exact Below.refl _ _) | (with_reducible assumption) | (with_reducible refine below_drewN' ?_ _) | (with_reducible refine Below.drew ?_) | (with_reducible refine Below.alloc ?_ ?_ _) | (with_reducible exact Nat.le_refl _) | (simp; done) | (simp; omega))
        · simp <;> omega
    · have hne : ((putR x.toNat b m u.toNat).2 != 0) = true := by rw [bne_iff_ne]; exact e2
      clear D1 D2
      generalize putR x.toNat a n v.toNat = p at *
      generalize putR x.toNat b m u.toNat = q at *
      obtain ⟨p1, p2⟩ := p
      obtain ⟨q1, q2⟩ := q
      dsimp only at e1 e2 hne C1 C2
      subst e1
      generalize ((sealN x.toNat : Nat) : Int) = s at *
      clear e2
      go_enter Try.func6, Try.ntmps6
      go_wp2_with (first | (go_at_call 15; refine (lives02_calls _).mono ?_; rintro e w1 ⟨rfl, hb⟩; have h0 := laid_cell2 hb (by simp; omega) 0; have h1 := laid_cell2 hb (by simp; omega) 1; have h2 := laid_cell2 hb (by simp; omega) 2; have h3 := laid_cell2 hb (by simp; omega) 3; have h4 := laid_cell_at hb (by simp) (b := w.heap.size + 1) (by simp) 0; have h5 := laid_cell_at hb (by simp) (b := w.heap.size + 1) (by simp) 1; have HB := Lib.hid hb; clear hb; simp at h0 h1 h2 h3 h4 h5) | (go_at_call_of 27 (Value.int .u64 x); first | (go_at_call_of 27 (Value.int .i64 a); refine (C1.out _).mono ?_; rintro e w' ⟨rfl, k, rfl⟩) | (refine (C2.out _).mono ?_; rintro e w' ⟨rfl, k, rfl⟩)) | (go_at_call_of 27 (Value.int .i64 a); refine (C1.out _).mono ?_; rintro e w' ⟨rfl, k, rfl⟩) | (go_at_call 27; refine (C2.out _).mono ?_; rintro e w' ⟨rfl, k, rfl⟩) | (go_at_call 21; refine (C3.out _).mono ?_; rintro e w' ⟨rfl, k, rfl⟩))
      go_ret
      refine ⟨rfl, below_drewN' (Below.trans ?_ (HB.out.mono ?_)) _⟩
      · repeat' (first | (with_reducible exact Below.refl _ _) | (with_reducible assumption) | (with_reducible refine below_drewN' ?_ _) | (with_reducible refine Below.drew ?_) | (with_reducible refine Below.alloc ?_ ?_ _) | (with_reducible exact Nat.le_refl _) | (simp; done) | (simp; omega))
      · simp <;> omega
  · have hne : ((putR x.toNat a n v.toNat).2 != 0) = true := by rw [bne_iff_ne]; exact e1
    clear D1 D2
    generalize putR x.toNat a n v.toNat = p at *
    generalize putR x.toNat b m u.toNat = q at *
    obtain ⟨p1, p2⟩ := p
    obtain ⟨q1, q2⟩ := q
    dsimp only at e1 hne C1 C2
    generalize ((sealN x.toNat : Nat) : Int) = s at *
    clear e1
    go_enter Try.func6, Try.ntmps6
    go_wp2_with (first | (go_at_call 15; refine (lives02_calls _).mono ?_; rintro e w1 ⟨rfl, hb⟩; have h0 := laid_cell2 hb (by simp; omega) 0; have h1 := laid_cell2 hb (by simp; omega) 1; have h2 := laid_cell2 hb (by simp; omega) 2; have h3 := laid_cell2 hb (by simp; omega) 3; have h4 := laid_cell_at hb (by simp) (b := w.heap.size + 1) (by simp) 0; have h5 := laid_cell_at hb (by simp) (b := w.heap.size + 1) (by simp) 1; have HB := Lib.hid hb; clear hb; simp at h0 h1 h2 h3 h4 h5) | (go_at_call_of 27 (Value.int .u64 x); first | (go_at_call_of 27 (Value.int .i64 a); refine (C1.out _).mono ?_; rintro e w' ⟨rfl, k, rfl⟩) | (refine (C2.out _).mono ?_; rintro e w' ⟨rfl, k, rfl⟩)) | (go_at_call_of 27 (Value.int .i64 a); refine (C1.out _).mono ?_; rintro e w' ⟨rfl, k, rfl⟩) | (go_at_call 27; refine (C2.out _).mono ?_; rintro e w' ⟨rfl, k, rfl⟩) | (go_at_call 21; refine (C3.out _).mono ?_; rintro e w' ⟨rfl, k, rfl⟩))
    go_ret
    refine ⟨rfl, below_drewN' (Below.trans ?_ (HB.out.mono ?_)) _⟩
    · repeat' (first | (with_reducible exact Below.refl _ _) | (with_reducible assumption) | (with_reducible refine below_drewN' ?_ _) | (with_reducible refine Below.drew ?_) | (with_reducible refine Below.alloc ?_ ?_ _) | (with_reducible exact Nat.le_refl _) | (simp; done) | (simp; omega))
    · simp <;> omega
end Go.Proofs.Ytncdambphaodaaa
