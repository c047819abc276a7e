/- What the reference's Check, Seal and Right answer. -/
import Derived.Test.YtpklblaenfhncaaRefBitsA
namespace Go.Proofs.Ytpklblaenfhncaa
set_option linter.unusedVariables false
open Go.RowKit BM

theorem byte_step {x m : Nat} : (((x / 2 ^ (8 * m) : Nat) : Int)) / 256 = ((x / 2 ^ (8 * (m + 1)) : Nat) : Int) := by
  rw [show 8 * (m + 1) = 8 * m + 8 from by omega, Nat.pow_add, ← Nat.div_div_eq_div_mul]
  simp
theorem rck_step {x m : Nat} : ((31 * ((ck (byteN x) m : Nat) : Int) + (((x / 2 ^ (8 * m) : Nat) : Int) % 256) + 7) % 256) = ((ck (byteN x) (m + 1) : Nat) : Int) := by
  simp only [ck, byteN]
  omega
theorem rcheck_calls (x : Int) (w : World) (hx0 : 0 ≤ x) (hx1 : x < 18446744073709551616) :
    Calls Try.prog 100 #[.int .u64 x] w fun e w' => e = .returned (.int .u32 ((check x.toNat : Nat) : Int)) ∧ ∃ k, w' = w.drewN k := by
  obtain ⟨x, rfl⟩ := Int.eq_ofNat_of_zero_le hx0
  rw [Int.toNat_natCast]
  have hx : Hid (x < 18446744073709551616) := by unfold Hid; omega
  go_enter Try.func100, Try.ntmps100
  go_wp2
  go_loop [0, 3, 4] (fun v n i => ∃ m : Nat, m ≤ 7 ∧ v = .int .u64 ((x / 2 ^ (8 * m) : Nat) : Int) ∧ n = .int .u32 ((ck (byteN x) m : Nat) : Int) ∧ i = .int .i64 (m : Int)) (fun _ _ i => 7 - (intOf i).toNat)
  case atStart => exact ⟨0, by omega, by simp, rfl, rfl⟩
  case round =>
    obtain ⟨m, hm, rfl, rfl, rfl⟩ := hrel
    have hc := ck_lt (byteN x) m
    have HS := Lib.hid (byte_step (x := x) (m := m))
    have HC := Lib.hid (rck_step (x := x) (m := m))
    have hq : x / 2 ^ (8 * m) < 18446744073709551616 := Nat.lt_of_le_of_lt (Nat.div_le_self _ _) hx.out
    by_cases h : m < 7
    · have hq1 : ((x / 2 ^ (8 * m) : Nat) : Int) < 18446744073709551616 := Int.ofNat_lt.2 hq
      have hq0 : (0 : Int) ≤ ((x / 2 ^ (8 * m) : Nat) : Int) := Int.natCast_nonneg _
      have hc0 : (0 : Int) ≤ ((ck (byteN x) m : Nat) : Int) := by omega
      have hc1 : ((ck (byteN x) m : Nat) : Int) < 256 := by omega
      clear hq hc
      generalize ((x / 2 ^ (8 * m) : Nat) : Int) = q at HS HC hq0 hq1 ⊢
      generalize ((ck (byteN x) m : Nat) : Int) = c at HC hc0 hc1 ⊢
      have HB := Lib.hid (And.intro (And.intro hq0 hq1) (And.intro hc0 hc1))
      clear hq0 hq1 hc0 hc1 hx0 hx1
      set_option maxRecDepth 100000 in
      go_wp2
      go_round
      obtain ⟨⟨hq0, hq1⟩, hc0, hc1⟩ := HB.out
      case rel => exact ⟨m + 1, by omega, int_any (by rw [← HS.out, Int.tdiv_eq_ediv_of_nonneg hq0, wrap_u64]; omega), int_any (by rw [← HC.out, Int.tmod_eq_emod_of_nonneg hq0]; omega), by go_num⟩
      case measure => simp [intOf] <;> omega
    · obtain rfl : m = 7 := by omega
      go_wp2
      go_ret
      exact ⟨ret_int rfl, 0, rfl⟩
theorem rseal_int {x c : Nat} (hx : x < 18446744073709551616) (hc : c < 256) : IntKind.u64.wrap ((x : Int) % 72057594037927936 + (c : Int) * 72057594037927936) = ((x % 2 ^ 56 + c * 2 ^ 56 : Nat) : Int) := by
  rw [wrap_u64]; omega
theorem rseal_calls (x : Int) (w : World) (hx0 : 0 ≤ x) (hx1 : x < 18446744073709551616) :
    Calls Try.prog 77 #[.int .u64 x] w fun e w' => e = .returned (.int .u64 ((sealN x.toNat : Nat) : Int)) ∧ ∃ k, w' = w.drewN k := by
  obtain ⟨x, rfl⟩ := Int.eq_ofNat_of_zero_le hx0
  have hc := check_lt x
  have HS : Hid (sealN x = x % 2 ^ 56 + check x * 2 ^ 56) := rfl
  have HC := rcheck_calls (x : Int)
  rw [Int.toNat_natCast] at HC ⊢
  generalize check x = c at hc HS HC
  have HC2 := Lib.hid HC
  clear HC
  go_enter Try.func77, Try.ntmps77
  go_wp2_with (first | (go_at_call 100; ((with_reducible refine (HC2.out _ hx0 hx1).mono ?_); rintro e w' ⟨rfl, k, rfl⟩)))
  go_ret
  exact ⟨ret_int (by rw [HS.out] <;> omega), _, rfl⟩
theorem rright_calls (x : Int) (w : World) (hx0 : 0 ≤ x) (hx1 : x < 18446744073709551616) :
    Calls Try.prog 45 #[.int .u64 x] w fun e w' => e = .returned (.bool (rightB x.toNat)) ∧ ∃ k, w' = w.drewN k := by
  obtain ⟨x, rfl⟩ := Int.eq_ofNat_of_zero_le hx0
  have HS : Hid ((((sealN x : Nat) : Int) == (x : Int)) = rightB x) := by
    unfold Hid rightB; rw [Bool.eq_iff_iff, beq_iff_eq, beq_iff_eq, right_iff]; omega
  have HC := rseal_calls (x : Int)
  rw [Int.toNat_natCast] at HC ⊢
  have hl := sealN_lt x
  generalize sealN x = c at hl HS HC
  have HC2 := Lib.hid HC
  clear HC
  have hl2 : (c : Int) < 18446744073709551616 := by omega
  clear hl
  go_enter Try.func45, Try.ntmps45
  go_wp2_with (first | (go_at_call 77; ((with_reducible refine (HC2.out _ hx0 hx1).mono ?_); rintro e w' ⟨rfl, k, rfl⟩)))
  go_ret
  exact ⟨ret_bool HS.out, _, rfl⟩
end Go.Proofs.Ytpklblaenfhncaa
