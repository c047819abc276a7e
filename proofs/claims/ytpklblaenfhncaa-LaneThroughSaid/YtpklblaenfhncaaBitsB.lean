/- What Check, Seal and Right answer. -/
import Derived.Test.YtpklblaenfhncaaBits
import Derived.LoopTactic
namespace Go.Proofs.Ytpklblaenfhncaa
set_option linter.unusedVariables false
open Go.RowKit BM

theorem int_u8 {a b : Int} (h : a = b) : Value.int .u8 a = Value.int .u8 b := by rw [h]
theorem ck_step {x : Int} {m : Nat} (hx0 : 0 ≤ x) : ((((ck (byteN x.toNat) m : Nat) : Int) * 31 + x / 2 ^ (8 * m)) % 256 + 7) % 256 = ((ck (byteN x.toNat) (m + 1) : Nat) : Int) := by
  obtain ⟨x, rfl⟩ := Int.eq_ofNat_of_zero_le hx0
  have e : ((x : Int) / 2 ^ (8 * m)) = ((x / 2 ^ (8 * m) : Nat) : Int) := by simp
  rw [e]
  simp only [ck, Int.toNat_natCast, byteN]
  omega
theorem check_calls (x : Int) (w : World) (hx0 : 0 ≤ x) (hx1 : x < 18446744073709551616) :
    Calls Try.prog 91 #[.int .u64 x] w fun e w' => e = .returned (.int .u32 ((check x.toNat : Nat) : Int)) ∧ ∃ k, w' = w.drewN k := by
  go_enter Try.func91, Try.ntmps91
  go_wp2
  go_loop [3, 4] (fun n i => ∃ m : Nat, m ≤ 7 ∧ n = .int .u8 ((ck (byteN x.toNat) m : Nat) : Int) ∧ i = .int .i64 ((8 * m : Nat) : Int)) (fun _ i => 56 - (intOf i).toNat)
  case atStart => exact ⟨0, by omega, rfl, rfl⟩
  case round =>
    obtain ⟨m, hm, rfl, rfl⟩ := hrel
    have hc := ck_lt (byteN x.toNat) m
    by_cases h : m < 7
    · go_wp2
      go_round
      case rel => exact ⟨m + 1, by omega, int_u8 (ck_step hx0), by go_num⟩
      case measure => simp [intOf] <;> omega
    · obtain rfl : m = 7 := by omega
      go_wp2
      go_ret
      exact ⟨ret_int rfl, 0, rfl⟩

theorem mask2_calls (w : World) : Calls Try.prog 111 #[] w fun e w' => e = .returned (.int .u64 ((2 ^ 56 - 1 : Nat) : Int)) ∧ ∃ m, w' = w.drewN m := by
  go_enter Try.func111, Try.ntmps111
  go_wp2_with (first | (go_at_call 94; ((with_reducible refine (mask_calls _ _ (by omega) (by omega)).mono ?_); rintro e w' ⟨rfl, k, rfl⟩)))
  go_ret
  exact ⟨ret_int (by decide), _, rfl⟩

theorem seal_int {x : Int} (hx0 : 0 ≤ x) (hx1 : x < 18446744073709551616) :
    Go.bits .or .u64 (Go.bits .and .u64 x 72057594037927935) (((check x.toNat : Nat) : Int) * 72057594037927936) = ((sealN x.toNat : Nat) : Int) := by
  obtain ⟨x, rfl⟩ := Int.eq_ofNat_of_zero_le hx0
  simp only [Int.toNat_natCast]
  have hc := check_lt x
  have e2 : ((check x : Nat) : Int) * 72057594037927936 = ((check x * 2 ^ 56 : Nat) : Int) := by simp
  have e3 : (72057594037927935 : Int) = ((2 ^ 56 - 1 : Nat) : Int) := by simp
  have l1 : x &&& (2 ^ 56 - 1) < 2 ^ 64 := Nat.lt_of_le_of_lt Nat.and_le_left (by omega)
  rw [e2, e3, bits_and_nat _ _ (by omega) (by decide), bits_or_nat _ _ l1 (by omega), seal_or]
theorem seal_calls (x : Int) (w : World) (hx0 : 0 ≤ x) (hx1 : x < 18446744073709551616) :
    Calls Try.prog 98 #[.int .u64 x] w fun e w' => e = .returned (.int .u64 ((sealN x.toNat : Nat) : Int)) ∧ ∃ k, w' = w.drewN k := by
  have hc := check_lt x.toNat
  go_enter Try.func98, Try.ntmps98
  go_wp2_with (first | (go_at_call 111; ((with_reducible refine (mask2_calls _).mono ?_); rintro e w' ⟨rfl, k, rfl⟩)) | (go_at_call 91; ((with_reducible refine (check_calls _ _ hx0 hx1).mono ?_); rintro e w' ⟨rfl, k, rfl⟩)))
  go_ret
  exact ⟨ret_int (seal_int hx0 hx1), _, rfl⟩
theorem right_int {x : Int} (hx0 : 0 ≤ x) : (x / 72057594037927936 == ((check x.toNat : Nat) : Int)) = rightB x.toNat := by
  obtain ⟨x, rfl⟩ := Int.eq_ofNat_of_zero_le hx0
  unfold rightB
  rw [Bool.eq_iff_iff, beq_iff_eq, beq_iff_eq, Int.toNat_natCast]
  omega
theorem right_calls (x : Int) (w : World) (hx0 : 0 ≤ x) (hx1 : x < 18446744073709551616) :
    Calls Try.prog 70 #[.int .u64 x] w fun e w' => e = .returned (.bool (rightB x.toNat)) ∧ ∃ k, w' = w.drewN k := by
  have hc := check_lt x.toNat
  go_enter Try.func70, Try.ntmps70
  go_wp2_with (first | (go_at_call 91; ((with_reducible refine (check_calls _ _ hx0 hx1).mono ?_); rintro e w' ⟨rfl, k, rfl⟩)))
  go_ret
  exact ⟨ret_bool (right_int hx0), _, rfl⟩
end Go.Proofs.Ytpklblaenfhncaa
