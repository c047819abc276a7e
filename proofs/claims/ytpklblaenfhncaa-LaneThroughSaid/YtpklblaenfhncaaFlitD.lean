/- flit.Write of any flit. -/
import Derived.Test.YtpklblaenfhncaaFlitC
namespace Go.Proofs.Ytpklblaenfhncaa
set_option linter.unusedVariables false
open Go.RowKit BM
theorem write_no (f : Fl) (w : World) (h : rightF f = false) : Calls Try.prog 74 #[f.val] w fun e w' => e = .returned (.tuple #[.int .u64 0, .int .i64 1]) ∧ Below w.heap.size w w' := by
  have HR := Lib.hid h
  obtain ⟨kind, src, dst, seq, len, more, cast, data⟩ := f
  clear h
  unfold Fl.val
  go_enter Try.func74, Try.ntmps74
  go_wp2_with (first
    | (go_at_call 95; ((with_reducible refine (fright_calls ⟨kind, src, dst, seq, len, more, cast, data⟩ _).mono ?_); rintro e w1 ⟨rfl, hB1⟩; rw [HR.out])))
  go_ret2
  exact ⟨rfl, Below.trans ((Below.refl _ _).alloc (Nat.le_refl _) _) (hB1.mono (by simp))⟩
theorem bare_of {f : Fl} (h : rightF f = true) (hk : ¬ f.kind = 1) : f = ⟨f.kind, 0, 0, 0, 0, false, false, f.data⟩ := by
  unfold rightF at h
  rw [if_neg hk, Bool.and_eq_true] at h
  have := h.1
  simp only [bareOk, decide_eq_true_eq] at this
  obtain ⟨h1, h2, h3, h4, h5, h6⟩ := this
  exact Fl.ext' rfl h1 h2 h3 h4 h5 h6 rfl
theorem flit_write (f : Fl) (w : World) : Calls Try.prog 74 #[f.val] w fun e w' => e = .returned (.tuple #[.int .u64 (writeF f).1, .int .i64 (writeF f).2]) ∧ Below w.heap.size w w' := by
  by_cases h : rightF f = true
  · have e : writeF f = ((wordF f : Int), 0) := by unfold writeF; rw [if_pos h]
    rw [e]
    by_cases hk : f.kind = 1
    · obtain ⟨kind, src, dst, seq, len, more, cast, data⟩ := f
      dsimp only at hk; subst hk
      exact write_head src dst seq len more cast data w h
    · have hb := bare_of h hk
      rw [hb] at h ⊢
      exact write_data f.kind f.data w h hk
  · have e : writeF f = (0, 1) := by unfold writeF; rw [if_neg h]
    rw [e]
    exact write_no f w (Bool.eq_false_iff.2 h)
end Go.Proofs.Ytpklblaenfhncaa
