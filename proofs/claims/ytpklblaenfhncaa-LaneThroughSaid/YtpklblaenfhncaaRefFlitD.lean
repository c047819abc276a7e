/- The reference's Write and Read of a flit. -/
import Derived.Test.YtpklblaenfhncaaRefFlitC
import Derived.Test.YtpklblaenfhncaaFlitH
namespace Go.Proofs.Ytpklblaenfhncaa
set_option linter.unusedVariables false
open Go.RowKit BM
theorem rwrite_no (f : Fl) (w : World) (h : rightF f = false) : Calls Try.prog 48 #[f.val] w fun e w' => e = .returned (.tuple #[.int .u64 0, .int .i64 1]) ∧ Below w.heap.size w w' := by
  have HR := Lib.hid h
  obtain ⟨kind, src, dst, seq, len, more, cast, data⟩ := f
  clear h
  unfold Fl.val
  go_enter Try.func48, Try.ntmps48
  go_wp2_with (first
    | (go_at_call 80; ((with_reducible refine (rright3_calls ⟨kind, src, dst, seq, len, more, cast, data⟩ _).mono ?_); rintro e w1 ⟨rfl, hB1⟩; rw [HR.out])))
  go_ret2
  exact ⟨rfl, Below.trans ((Below.refl _ _).alloc (Nat.le_refl _) _) (hB1.mono (by simp))⟩
theorem rflit_write (f : Fl) (w : World) : Calls Try.prog 48 #[f.val] w fun e w' => e = .returned (.tuple #[.int .u64 (writeF f).1, .int .i64 (writeF f).2]) ∧ Below w.heap.size w w' := by
  by_cases h : rightF f = true
  · have e : writeF f = ((wordF f : Int), 0) := by unfold writeF; rw [if_pos h]
    rw [e]
    by_cases hk : f.kind = 1
    · obtain ⟨kind, src, dst, seq, len, more, cast, data⟩ := f
      dsimp only at hk; subst hk
      exact rwrite_head src dst seq len more cast data w h
    · have hb := bare_of h hk
      rw [hb] at h ⊢
      exact rwrite_data f.kind f.data w h hk
  · have e : writeF f = (0, 1) := by unfold writeF; rw [if_neg h]
    rw [e]
    exact rwrite_no f w (Bool.eq_false_iff.2 h)
theorem rread_sum (x : Nat) (hx : x < 2 ^ 64) (w : World) (h : rightB x = false) :
    Calls Try.prog 15 #[.int .u64 (x : Int)] w fun e w' => e = .returned (.tuple #[zeroFl.val, .int .i64 3]) ∧ Below w.heap.size w w' := by
  have HR := Lib.hid (fun w => rright_calls (x : Int) w (by omega) (by omega))
  rw [Int.toNat_natCast, h] at HR
  clear h
  go_enter Try.func15, Try.ntmps15
  go_wp2_with (first
    | (go_at_call 45; ((with_reducible refine (HR.out _).mono ?_); rintro e w' ⟨rfl, k, rfl⟩)))
  refine bodyPost_ret (results_row_tmp rfl _ _ w.heap.size 32 _ (0, 0) _ rfl (stored8 (drewN_at (alloc_new _) _)) Try.underlying32 rfl (by kernel_rfl)) rfl ⟨rfl, ?_⟩
  repeat' (first | (with_reducible assumption) | (with_reducible refine Below.setCell ?_ ?_ _) | (with_reducible refine below_drewN' ?_ _) | (with_reducible refine Below.drew ?_) | (with_reducible refine Below.alloc ?_ ?_ _) | (with_reducible exact Below.refl _ _) | (with_reducible exact Nat.le_refl _) | omega | (simp; done) | (simp; omega))
theorem mod4_get (x : Nat) : (x : Int) % 4 = ((getN x 0 2 : Nat) : Int) := by
  unfold getN
  simp
end Go.Proofs.Ytpklblaenfhncaa
