/- The reference's Right of a flit. -/
import Derived.Test.YtpklblaenfhncaaFlitC
namespace Go.Proofs.Ytpklblaenfhncaa
set_option linter.unusedVariables false
open Go.RowKit BM
theorem rone_calls (b : Bool) (w : World) : Calls Try.prog 81 #[.bool b] w fun e w' => e = .returned (.int .u32 (b2n b)) ∧ ∃ k, w' = w.drewN k := by
  cases b
  all_goals
    go_enter Try.func81, Try.ntmps81
    go_wp2
    go_ret
    exact ⟨rfl, by first | exact ⟨0, rfl⟩ | exact drew_close1⟩
set_option maxHeartbeats 1000000 in
theorem rright3_calls (f : Fl) (w : World) : Calls Try.prog 80 #[f.val] w fun e w' => e = .returned (.bool (rightF f)) ∧ Below w.heap.size w w' := by
  obtain ⟨kind, src, dst, seq, len, more, cast, data⟩ := f
  unfold Fl.val
  by_cases hk : kind = 1
  · have HR : Hid (rightF ⟨kind, src, dst, seq, len, more, cast, data⟩ = headOk ⟨kind, src, dst, seq, len, more, cast, data⟩) := by unfold Hid rightF; rw [if_pos hk]
    rw [HR.out]
    subst hk
    by_cases hd : data.size = 0
    · have hd1 := str_nil hd
      have HD := Lib.hid hd
      clear hd
      go_enter Try.func80, Try.ntmps80
      go_wp2
      all_goals
        go_ret
        refine ⟨ret_bool ?_, by (repeat (first | exact ((Below.refl _ _).alloc (Nat.le_refl _) _) | apply below_drewN'))⟩
        unfold headOk
        have := HD.out
        rw [Bool.eq_iff_iff]
        constructor <;> intro h <;> (first | rfl | (simp at h; done) | (simp only [decide_eq_true_eq] at h ⊢; omega) | (simp only [decide_eq_true_eq] at h; omega) | (simp only [decide_eq_true_eq]; omega))
    · have hd1 := str_ne hd
      have HD := Lib.hid hd
      clear hd
      go_enter Try.func80, Try.ntmps80
      go_wp2
      all_goals
        go_ret
        refine ⟨ret_bool ?_, by (repeat (first | exact ((Below.refl _ _).alloc (Nat.le_refl _) _) | apply below_drewN'))⟩
        unfold headOk
        have := HD.out
        rw [Bool.eq_iff_iff]
        constructor <;> intro h <;> (first | rfl | (simp at h; done) | (exact absurd (by simpa using h) hd1) | (simp only [decide_eq_true_eq] at h ⊢; omega) | (simp only [decide_eq_true_eq] at h; omega) | (simp only [decide_eq_true_eq]; omega))
  · have HR : Hid (rightF ⟨kind, src, dst, seq, len, more, cast, data⟩ = (bareOk ⟨kind, src, dst, seq, len, more, cast, data⟩ && sizeOk ⟨kind, src, dst, seq, len, more, cast, data⟩)) := by unfold Hid rightF; rw [if_neg hk]
    rw [HR.out]
    by_cases hb : bareOk ⟨kind, src, dst, seq, len, more, cast, data⟩ = true
    · have HBB := Lib.hid hb
      simp only [bareOk, decide_eq_true_eq] at hb
      obtain ⟨rfl, rfl, rfl, rfl, rfl, rfl⟩ := hb
      by_cases h2 : kind = 2
      · subst h2
        go_enter Try.func80, Try.ntmps80
        go_wp2
        all_goals
          go_ret
          refine ⟨ret_bool ?_, by (repeat (first | exact ((Below.refl _ _).alloc (Nat.le_refl _) _) | apply below_drewN'))⟩
          rw [HBB.out, Bool.true_and, Bool.eq_iff_iff]
          unfold sizeOk
          simp
          try omega
      · go_enter Try.func80, Try.ntmps80
        go_wp2
        all_goals
          go_ret
          refine ⟨ret_bool ?_, by (repeat (first | exact ((Below.refl _ _).alloc (Nat.le_refl _) _) | apply below_drewN'))⟩
          first | rw [HBB.out, Bool.true_and, Bool.eq_iff_iff] | rw [show bareOk ⟨3, 0, 0, 0, 0, false, false, data⟩ = true from HBB.out, Bool.true_and, Bool.eq_iff_iff]
          unfold sizeOk
          simp
          try omega
    · have HBB := Lib.hid (Bool.eq_false_iff.2 hb)
      rw [HBB.out, Bool.false_and]
      have HN := Lib.hid hb
      clear hb
      go_enter Try.func80, Try.ntmps80
      go_wp2
      all_goals
        go_ret
        first
          | exact ⟨rfl, by (repeat (first | exact ((Below.refl _ _).alloc (Nat.le_refl _) _) | apply below_drewN'))⟩
          | (exfalso; apply HN.out; simp_all [bareOk])
end Go.Proofs.Ytpklblaenfhncaa
