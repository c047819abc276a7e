/- What the functions of package bits answer: the field's test, the mask, Put, Get, Check, Seal, Right, each as a plain function on numbers. -/
import Derived.Test.YtpklblaenfhncaaKit
import Derived.Test.YtpklblaenfhncaaBitsMath
namespace Go.Proofs.Ytpklblaenfhncaa
open Go.RowKit BM

theorem field_calls (a n : Int) (w : World) : Calls Try.prog 108 #[.int .i64 a, .int .i64 n] w fun e w' => e = .returned (.bool (fieldI a n)) ∧ ∃ m, w' = w.drewN m := by
  by_cases h1 : 0 < n
  · by_cases h2 : n ≤ 32
    · by_cases h3 : 0 ≤ a
      · go_enter Try.func108, Try.ntmps108
        go_wp2
        go_ret
        exact ⟨ret_bool (by unfold fieldI; rw [decide_eq_decide]; omega), 0, rfl⟩
      · go_enter Try.func108, Try.ntmps108
        go_wp2
        go_ret
        exact ⟨ret_bool (by unfold fieldI; rw [eq_comm, decide_eq_false_iff_not]; omega), 0, rfl⟩
    · go_enter Try.func108, Try.ntmps108
      go_wp2
      go_ret
      exact ⟨ret_bool (by unfold fieldI; rw [eq_comm, decide_eq_false_iff_not]; omega), 0, rfl⟩
  · go_enter Try.func108, Try.ntmps108
    go_wp2
    go_ret
    exact ⟨ret_bool (by unfold fieldI; rw [eq_comm, decide_eq_false_iff_not]; omega), 0, rfl⟩

theorem mask_calls (n : Int) (w : World) (h0 : 0 ≤ n) (h1 : n ≤ 63) : Calls Try.prog 94 #[.int .i64 n] w fun e w' => e = .returned (.int .u64 ((2 ^ n.toNat - 1 : Nat) : Int)) ∧ ∃ m, w' = w.drewN m := by
  go_enter Try.func94, Try.ntmps94
  go_wp2
  go_ret
  refine ⟨ret_int ?_, 0, rfl⟩
  have hp : 2 ^ n.toNat ≤ 2 ^ 63 := pow_le64 (by omega)
  have hz := Nat.two_pow_pos n.toNat
  have e : (2 : Int) ^ n.toNat = ((2 ^ n.toNat : Nat) : Int) := by simp
  rw [e, wrap_u64, wrap_u64]
  omega

theorem putR_in {x v : Nat} {a n : Int} (h : fieldI a n = true) (hv : v < 2 ^ n.toNat) : putR x a n v = (((putN x a.toNat n.toNat v : Nat) : Int), 0) := by unfold putR; rw [if_pos h, if_pos hv]
theorem putR_size {x v : Nat} {a n : Int} (h : fieldI a n = true) (hv : ¬ v < 2 ^ n.toNat) : putR x a n v = (0, 4) := by unfold putR; rw [if_pos h, if_neg hv]
theorem putR_out {x v : Nat} {a n : Int} (h : ¬ fieldI a n = true) : putR x a n v = (0, 1) := by unfold putR; rw [if_neg h]
theorem put_int {x v : Int} {a n : Int} (hx0 : 0 ≤ x) (hx1 : x < 18446744073709551616) (hv0 : 0 ≤ v) (h3 : 0 ≤ a) (h1 : 1 ≤ n) (h4 : a + n ≤ 64) (hv : v.toNat < 2 ^ n.toNat) :
    Go.bits .or .u64 (Go.bits .andNot .u64 x (IntKind.u64.wrap (((2 ^ n.toNat - 1 : Nat) : Int) * 2 ^ a.toNat))) (IntKind.u64.wrap (v * 2 ^ a.toNat)) = ((putN x.toNat a.toNat n.toNat v.toNat : Nat) : Int) := by
  obtain ⟨x, rfl⟩ := Int.eq_ofNat_of_zero_le hx0
  obtain ⟨v, rfl⟩ := Int.eq_ofNat_of_zero_le hv0
  obtain ⟨a, rfl⟩ := Int.eq_ofNat_of_zero_le h3
  obtain ⟨n, rfl⟩ := Int.eq_ofNat_of_zero_le (by omega : 0 ≤ n)
  simp only [Int.toNat_natCast] at hv ⊢
  have e1 : (((2 ^ n - 1 : Nat) : Int) * 2 ^ a) = (((2 ^ n - 1) * 2 ^ a : Nat) : Int) := by simp
  have e2 : ((v : Int) * 2 ^ a) = ((v * 2 ^ a : Nat) : Int) := by simp
  have l1 := mask_lt (a := a) (n := n) (by omega)
  have l2 := shifted_lt (a := a) hv (by omega)
  rw [e1, e2, wrap_u64_nat, wrap_u64_nat, Nat.mod_eq_of_lt l1, Nat.mod_eq_of_lt l2, bits_andNot_nat _ _ (by omega) l1, bits_or_nat _ _ (sans_lt (by omega)) l2]
  rfl
theorem put_calls (x a n v : Int) (w : World) (hx0 : 0 ≤ x) (hx1 : x < 18446744073709551616) (hv0 : 0 ≤ v) (hv1 : v < 4294967296) :
    Calls Try.prog 110 #[.int .u64 x, .int .i64 a, .int .i64 n, .int .u32 v] w fun e w' => e = .returned (.tuple #[.int .u64 (putR x.toNat a n v.toNat).1, .int .i64 (putR x.toNat a n v.toNat).2]) ∧ ∃ k, w' = w.drewN k := by
  by_cases hf : fieldI a n = true
  · have hf' := hf
    simp only [fieldI, decide_eq_true_eq] at hf'
    obtain ⟨h1, h2, h3, h4⟩ := hf'
    have HF := Lib.hid hf
    clear hf
    by_cases hv : v.toNat < 2 ^ n.toNat
    · rw [putR_in HF.out hv]
      have hz := Nat.two_pow_pos n.toNat
      have hv' : ¬ ((2 ^ n.toNat - 1 : Nat) : Int) < v := by omega
      go_enter Try.func110, Try.ntmps110
      go_wp2_with (first | (go_at_call 108; refine (field_calls _ _ _).mono ?_; rintro e w' ⟨rfl, k, rfl⟩; rw [HF.out]) | (go_at_call 94; ((with_reducible refine (mask_calls _ _ (by omega) (by omega)).mono ?_); rintro e w' ⟨rfl, k, rfl⟩)))
      go_quiet (first | (go_at_call 94; refine (mask_calls _ _ (by omega) (by omega)).mono ?_; rintro e w1 ⟨rfl, k, rfl⟩; exact ⟨rfl, by first | exact drew_close2 | exact drew_close0 | exact drew_close⟩))
      go_wp2
      go_ret2
      exact ⟨ret_two (put_int hx0 hx1 hv0 h3 h1 h4 hv) rfl, drew_close0⟩
    · rw [putR_size HF.out hv]
      have hz := Nat.two_pow_pos n.toNat
      have hv' : ((2 ^ n.toNat - 1 : Nat) : Int) < v := by omega
      go_enter Try.func110, Try.ntmps110
      go_wp2_with (first | (go_at_call 108; refine (field_calls _ _ _).mono ?_; rintro e w' ⟨rfl, k, rfl⟩; rw [HF.out]) | (go_at_call 94; ((with_reducible refine (mask_calls _ _ (by omega) (by omega)).mono ?_); rintro e w' ⟨rfl, k, rfl⟩)))
      go_ret2
      exact ⟨rfl, _, rfl⟩
  · rw [putR_out hf]
    have hf' : fieldI a n = false := by simpa using hf
    have HF := Lib.hid hf'
    clear hf hf'
    go_enter Try.func110, Try.ntmps110
    go_wp2_with (first | (go_at_call 108; refine (field_calls _ _ _).mono ?_; rintro e w' ⟨rfl, k, rfl⟩; rw [HF.out]))
    go_ret2
    exact ⟨rfl, _, rfl⟩

theorem getR_in {x : Nat} {a n : Int} (h : fieldI a n = true) : getR x a n = (((getN x a.toNat n.toNat : Nat) : Int), 0) := by unfold getR; rw [if_pos h]
theorem getR_out {x : Nat} {a n : Int} (h : ¬ fieldI a n = true) : getR x a n = (0, 1) := by unfold getR; rw [if_neg h]
theorem get_int {x : Int} {a n : Int} (hx0 : 0 ≤ x) (hx1 : x < 18446744073709551616) (h3 : 0 ≤ a) (h1 : 1 ≤ n) (h2 : n ≤ 32) (h4 : a + n ≤ 64) :
    Go.bits .and .u64 (x / 2 ^ a.toNat) ((2 ^ n.toNat - 1 : Nat) : Int) % 4294967296 = ((getN x.toNat a.toNat n.toNat : Nat) : Int) := by
  obtain ⟨x, rfl⟩ := Int.eq_ofNat_of_zero_le hx0
  obtain ⟨a, rfl⟩ := Int.eq_ofNat_of_zero_le h3
  obtain ⟨n, rfl⟩ := Int.eq_ofNat_of_zero_le (by omega : 0 ≤ n)
  simp only [Int.toNat_natCast]
  have e1 : ((x : Int) / 2 ^ a) = ((x / 2 ^ a : Nat) : Int) := by simp
  have l1 : x / 2 ^ a < 2 ^ 64 := Nat.lt_of_le_of_lt (Nat.div_le_self _ _) (by omega)
  have l2 : 2 ^ n - 1 < 2 ^ 64 := Nat.lt_of_lt_of_le (Nat.sub_lt (Nat.two_pow_pos n) (by decide)) (pow_le64 (by omega))
  rw [e1, bits_and_nat _ _ l1 l2, Nat.and_two_pow_sub_one_eq_mod]
  have := getN_lt32 (w := x) (a := a) (n := n) (by omega)
  unfold getN at *
  omega
theorem get_calls (x a n : Int) (w : World) (hx0 : 0 ≤ x) (hx1 : x < 18446744073709551616) :
    Calls Try.prog 92 #[.int .u64 x, .int .i64 a, .int .i64 n] w fun e w' => e = .returned (.tuple #[.int .u32 (getR x.toNat a n).1, .int .i64 (getR x.toNat a n).2]) ∧ ∃ k, w' = w.drewN k := by
  by_cases hf : fieldI a n = true
  · have hf' := hf
    simp only [fieldI, decide_eq_true_eq] at hf'
    obtain ⟨h1, h2, h3, h4⟩ := hf'
    rw [getR_in hf]
    have HF := Lib.hid hf
    clear hf
    go_enter Try.func92, Try.ntmps92
    go_wp2_with (first | (go_at_call 108; refine (field_calls _ _ _).mono ?_; rintro e w' ⟨rfl, k, rfl⟩; rw [HF.out]) | (go_at_call 94; ((with_reducible refine (mask_calls _ _ (by omega) (by omega)).mono ?_); rintro e w' ⟨rfl, k, rfl⟩)))
    go_quiet (first | (go_at_call 94; refine (mask_calls _ _ (by omega) (by omega)).mono ?_; rintro e w1 ⟨rfl, k, rfl⟩; exact ⟨rfl, by first | exact drew_close2 | exact drew_close0 | exact drew_close⟩))
    go_wp2
    go_ret2
    exact ⟨ret_two (get_int hx0 hx1 h3 h1 h2 h4) rfl, drew_close0⟩
  · rw [getR_out hf]
    have hf' : fieldI a n = false := by simpa using hf
    have HF := Lib.hid hf'
    clear hf hf'
    go_enter Try.func92, Try.ntmps92
    go_wp2_with (first | (go_at_call 108; refine (field_calls _ _ _).mono ?_; rintro e w' ⟨rfl, k, rfl⟩; rw [HF.out]))
    go_ret2
    exact ⟨rfl, _, rfl⟩

end Go.Proofs.Ytpklblaenfhncaa
