/- What fits and Pack answer. -/
import Derived.Test.YtpklblaenfhncaaBitsB
namespace Go.Proofs.Ytpklblaenfhncaa
set_option linter.unusedVariables false
open Go.RowKit BM

theorem fits_calls (a : Option Addr) (c : Nat) (l : List Int) (w : World) (hl : l.length ≤ maxLen) (hr : IntsAt .i64 w a l) :
    Calls Try.prog 93 #[.slice a l.length c] w fun e w' => e = .returned (.bool (fitsI l)) ∧ ∃ k, w' = w.drewN k := by
  unfold maxLen at hl
  go_enter Try.func93, Try.ntmps93
  go_wp2
  go_loopw [3, 8] (fun n i wr => ∃ (m : Nat) (t : Int) (kk : Nat), m ≤ l.length ∧ n = .int .i64 t ∧ 0 ≤ t ∧ t ≤ 64 ∧ i = .int .i64 (m : Int) ∧ Hid (fitsFrom t (l.drop m) = fitsI l) ∧ wr = w.drewN kk) (fun _ i _ => l.length - (intOf i).toNat)
  case atStart => exact ⟨0, 0, 0, by omega, rfl, by omega, by omega, rfl, rfl, rfl⟩
  case round =>
    obtain ⟨m, t, kk, hm, rfl, ht0, ht1, rfl, HF, rfl⟩ := hrel
    by_cases h : m < l.length
    · obtain ⟨b, off, rfl, hcell⟩ := hr m h
      have HD := Lib.hid (drop_cons h 0)
      generalize l.getD m 0 = n at hcell HD
      by_cases hf : fieldI t n = true
      · have hf' := hf
        simp only [fieldI, decide_eq_true_eq] at hf'
        obtain ⟨h1, h2, h3, h4⟩ := hf'
        have HT := Lib.hid hf
        clear hf
        go_wp2_with (first | (go_at_call 108; refine (field_calls _ _ _).mono ?_; rintro e w' ⟨rfl, k, rfl⟩; rw [HT.out]))
        go_roundw
        case rel => exact ⟨m + 1, t + n, _, by omega, by go_num, by omega, by omega, by go_num, by unfold Hid; rw [← HF.out, HD.out, fitsFrom, HT.out]; rfl, by first | rfl | exact World.drewN_drewN ..⟩
        case measure => simp [intOf] <;> omega
      · have HT := Lib.hid (Bool.eq_false_iff.2 hf)
        clear hf
        go_wp2_with (first | (go_at_call 108; refine (field_calls _ _ _).mono ?_; rintro e w' ⟨rfl, k, rfl⟩; rw [HT.out]))
        go_ret
        exact ⟨ret_bool (by rw [← HF.out, HD.out, fitsFrom, HT.out]; rfl), by first | exact drew_close0 | exact ⟨_, rfl⟩⟩
    · obtain rfl : m = l.length := by omega
      go_wp2
      go_ret
      exact ⟨ret_bool (by rw [← HF.out, List.drop_length]; rfl), _, rfl⟩
end Go.Proofs.Ytpklblaenfhncaa
