/- flit.Right and the reference's Right: which flits may be. -/
import Derived.Test.YtpklblaenfhncaaFlitEq
import Derived.Test.YtpklblaenfhncaaBitsE
import Derived.Test.YtpklblaenfhncaaRefBitsD
import Derived.Test.YtpklblaenfhncaaKit2
namespace Go.Proofs.Ytpklblaenfhncaa
set_option linter.unusedVariables false
open Go.RowKit BM

theorem node_calls (n : Int) (w : World) : Calls Try.prog 109 #[.int .i64 n] w fun e w' => e = .returned (.bool (decide (0 ≤ n ∧ n < 4096))) ∧ ∃ k, w' = w.drewN k := by
  by_cases h : 0 ≤ n <;> by_cases h2 : n < 4096
  all_goals
    go_enter Try.func109, Try.ntmps109
    go_wp2
    go_ret
    exact ⟨ret_bool (by simp [h, h2]), by first | exact ⟨0, rfl⟩ | exact drew_close1⟩
theorem str_nil {d : ByteArray} (h : d.size = 0) : d.toList = [] := by rw [empty_of_size h, ByteArray.toList_eq]; rfl
theorem str_ne {d : ByteArray} (h : d.size ≠ 0) : ¬ d.toList = [] := fun e => h (by
  rw [ByteArray.toList_eq] at e
  cases d with | mk a => cases a with | mk l => simp at e; subst e; rfl)
theorem bare_eq (f : Fl) : flEq f ⟨f.kind, 0, 0, 0, 0, false, false, f.data⟩ = bareOk f := by
  unfold flEq bareOk; rw [Bool.eq_iff_iff]; simp
set_option maxHeartbeats 1000000 in
theorem fright_calls (f : Fl) (w : World) : Calls Try.prog 95 #[f.val] w fun e w' => e = .returned (.bool (rightF f)) ∧ Below w.heap.size w w' := by
  obtain ⟨kind, src, dst, seq, len, more, cast, data⟩ := f
  unfold Fl.val
  have HB := Lib.hid (bare_eq ⟨kind, src, dst, seq, len, more, cast, data⟩)
  by_cases hk : kind = 1
  · have HR : Hid (rightF ⟨kind, src, dst, seq, len, more, cast, data⟩ = headOk ⟨kind, src, dst, seq, len, more, cast, data⟩) := by unfold Hid rightF; rw [if_pos hk]
    rw [HR.out]
    subst hk
    by_cases hd : data.size = 0
    · have hd1 := str_nil hd
      have HD := Lib.hid hd
      clear hd
      go_enter Try.func95, Try.ntmps95
      go_wp2_with (first | (go_at_call 109; ((with_reducible refine (node_calls _ _).mono ?_); rintro e w' ⟨rfl, k, rfl⟩)))
      all_goals
        go_ret
        refine ⟨ret_bool ?_, by (repeat (first | exact ((Below.refl _ _).alloc (Nat.le_refl _) _) | apply below_drewN'))⟩
        unfold headOk
        have := HD.out
        rw [Bool.eq_iff_iff]
        constructor <;> intro h <;> (first | rfl | (simp at h; done) | (simp only [decide_eq_true_eq] at h ⊢; omega) | (simp only [decide_eq_true_eq] at h; omega) | (simp only [decide_eq_true_eq]; omega))
    · have hd1 := str_ne hd
      have HD := Lib.hid hd
      clear hd
      go_enter Try.func95, Try.ntmps95
      go_wp2_with (first | (go_at_call 109; ((with_reducible refine (node_calls _ _).mono ?_); rintro e w' ⟨rfl, k, rfl⟩)))
      go_ret
      refine ⟨ret_bool ?_, by (repeat (first | exact ((Below.refl _ _).alloc (Nat.le_refl _) _) | apply below_drewN'))⟩
      unfold headOk
      have := HD.out
      rw [Bool.eq_iff_iff]
      constructor <;> intro h <;> (first | rfl | (simp at h; done) | (simp only [decide_eq_true_eq] at h ⊢; omega) | (simp only [decide_eq_true_eq] at h; omega) | (simp only [decide_eq_true_eq]; omega))
  · have HR : Hid (rightF ⟨kind, src, dst, seq, len, more, cast, data⟩ = (bareOk ⟨kind, src, dst, seq, len, more, cast, data⟩ && sizeOk ⟨kind, src, dst, seq, len, more, cast, data⟩)) := by unfold Hid rightF; rw [if_neg hk]
    rw [HR.out]
    by_cases hb : bareOk ⟨kind, src, dst, seq, len, more, cast, data⟩ = true
    · have HBB := Lib.hid hb
      rw [hb] at HB
      have hb1 := HB.out
      dsimp only at hb1
      clear hb
      by_cases h2 : kind = 2
      · have HK := Lib.hid h2
        subst h2
        go_enter Try.func95, Try.ntmps95
        go_wp2
        all_goals
          go_ret
          refine ⟨ret_bool ?_, by (repeat (first | exact ((Below.refl _ _).alloc (Nat.le_refl _) _) | apply below_drewN'))⟩
          first | rw [HBB.out, Bool.true_and, Bool.eq_iff_iff] | rw [show bareOk ⟨3, src, dst, seq, len, more, cast, data⟩ = true from HBB.out, Bool.true_and, Bool.eq_iff_iff]
          unfold sizeOk
          simp
          try omega
      · go_enter Try.func95, Try.ntmps95
        go_wp2
        all_goals
          go_ret
          refine ⟨ret_bool ?_, by (repeat (first | exact ((Below.refl _ _).alloc (Nat.le_refl _) _) | apply below_drewN'))⟩
          first | rw [HBB.out, Bool.true_and, Bool.eq_iff_iff] | rw [show bareOk ⟨3, src, dst, seq, len, more, cast, data⟩ = true from HBB.out, Bool.true_and, Bool.eq_iff_iff]
          unfold sizeOk
          simp
          try omega
    · have hbf := Bool.eq_false_iff.2 hb
      have HBB := Lib.hid hbf
      rw [hbf] at HB
      have hb1 := HB.out
      dsimp only at hb1
      clear hb hbf
      by_cases h2 : kind = 2
      · subst h2
        go_enter Try.func95, Try.ntmps95
        go_wp2
        go_ret
        exact ⟨ret_bool (by rw [HBB.out]; rfl), by (repeat (first | exact ((Below.refl _ _).alloc (Nat.le_refl _) _) | apply below_drewN'))⟩
      · go_enter Try.func95, Try.ntmps95
        go_wp2
        go_ret
        exact ⟨ret_bool (by rw [HBB.out]; rfl), by (repeat (first | exact ((Below.refl _ _).alloc (Nat.le_refl _) _) | apply below_drewN'))⟩
end Go.Proofs.Ytpklblaenfhncaa
