/- What the reference's field, bit, Get and Put answer: the same plain functions as those of package bits. -/
import Derived.Test.YtpklblaenfhncaaBitsE
namespace Go.Proofs.Ytpklblaenfhncaa
set_option linter.unusedVariables false
open Go.RowKit BM

theorem rfield_calls (a n : Int) (w : World) : Calls Try.prog 78 #[.int .i64 a, .int .i64 n] w fun e w' => e = .returned (.bool (fieldI a n)) ∧ ∃ m, w' = w.drewN m := by
  by_cases h1 : 1 ≤ n
  · by_cases h2 : n ≤ 32
    · by_cases h3 : 0 ≤ a
      · by_cases h4 : a ≤ 63
        · go_enter Try.func78, Try.ntmps78
          go_wp2
          go_ret
          exact ⟨ret_bool (by unfold fieldI; rw [decide_eq_decide]; omega), 0, rfl⟩
        · go_enter Try.func78, Try.ntmps78
          go_wp2
          go_ret
          exact ⟨ret_bool (by unfold fieldI; rw [eq_comm, decide_eq_false_iff_not]; omega), 0, rfl⟩
      · go_enter Try.func78, Try.ntmps78
        go_wp2
        go_ret
        exact ⟨ret_bool (by unfold fieldI; rw [eq_comm, decide_eq_false_iff_not]; omega), 0, rfl⟩
    · go_enter Try.func78, Try.ntmps78
      go_wp2
      go_ret
      exact ⟨ret_bool (by unfold fieldI; rw [eq_comm, decide_eq_false_iff_not]; omega), 0, rfl⟩
  · go_enter Try.func78, Try.ntmps78
    go_wp2
    go_ret
    exact ⟨ret_bool (by unfold fieldI; rw [eq_comm, decide_eq_false_iff_not]; omega), 0, rfl⟩

theorem half_int {x m : Nat} : (((x / 2 ^ m : Nat) : Int)) / 2 = ((x / 2 ^ (m + 1) : Nat) : Int) := by
  rw [Nat.pow_succ, ← Nat.div_div_eq_div_mul]
  simp
theorem bit_calls (x a : Int) (w : World) (hx0 : 0 ≤ x) (hx1 : x < 18446744073709551616) (ha0 : 0 ≤ a) (ha1 : a ≤ 64) :
    Calls Try.prog 79 #[.int .u64 x, .int .i64 a] w fun e w' => e = .returned (.int .u64 ((x.toNat / 2 ^ a.toNat % 2 : Nat) : Int)) ∧ ∃ m, w' = w.drewN m := by
  obtain ⟨x, rfl⟩ := Int.eq_ofNat_of_zero_le hx0
  obtain ⟨a, rfl⟩ := Int.eq_ofNat_of_zero_le ha0
  rw [Int.toNat_natCast, Int.toNat_natCast]
  have hx : Hid (x < 18446744073709551616) := by unfold Hid; omega
  go_enter Try.func79, Try.ntmps79
  go_wp2
  go_loop [0, 5] (fun v i => ∃ m : Nat, m ≤ a ∧ v = .int .u64 ((x / 2 ^ m : Nat) : Int) ∧ i = .int .i64 (m : Int)) (fun _ i => a - (intOf i).toNat)
  case atStart => exact ⟨0, by omega, by simp, rfl⟩
  case round =>
    obtain ⟨m, hm, rfl, rfl⟩ := hrel
    have HS := Lib.hid (half_int (x := x) (m := m))
    have hq : x / 2 ^ m < 18446744073709551616 := Nat.lt_of_le_of_lt (Nat.div_le_self _ _) hx.out
    by_cases h : m < a
    · generalize x / 2 ^ m = q at HS hq ⊢
      go_wp2
      go_round
      case rel => exact ⟨m + 1, by omega, by rw [HS.out], by go_num⟩
      case measure => simp [intOf] <;> omega
    · obtain rfl : m = a := by omega
      clear HS
      generalize hQ : x / 2 ^ m = q at hq ⊢
      have HQ := Lib.hid hQ
      clear hQ
      go_wp2
      go_ret
      exact ⟨ret_int (by rw [← HQ.out] <;> simp), 0, rfl⟩

theorem bit_at (x i : Nat) : (x.testBit i).toNat = x / 2 ^ i % 2 := Nat.toNat_testBit x i
theorem getN_step {x a k : Nat} : 2 * getN x (a + 1) k + x / 2 ^ a % 2 = getN x a (k + 1) := by
  unfold getN
  rw [Nat.pow_succ, Nat.pow_succ, ← Nat.div_div_eq_div_mul, Nat.mul_comm (2 ^ k) 2, Nat.mod_mul]
  omega
theorem rget_calls (x a n : Int) (w : World) (hx0 : 0 ≤ x) (hx1 : x < 18446744073709551616) :
    Calls Try.prog 47 #[.int .u64 x, .int .i64 a, .int .i64 n] w fun e w' => e = .returned (.tuple #[.int .u32 (getR x.toNat a n).1, .int .i64 (getR x.toNat a n).2]) ∧ ∃ k, w' = w.drewN k := by
  by_cases hf : fieldI a n = true
  · have hf' := hf
    simp only [fieldI, decide_eq_true_eq] at hf'
    obtain ⟨h1, h2, h3, h4⟩ := hf'
    rw [getR_in hf]
    have HF := Lib.hid hf
    clear hf
    obtain ⟨a, rfl⟩ := Int.eq_ofNat_of_zero_le h3
    obtain ⟨n, rfl⟩ := Int.eq_ofNat_of_zero_le (by omega : 0 ≤ n)
    simp only [Int.toNat_natCast]
    go_enter Try.func47, Try.ntmps47
    go_wp2_with (first | (go_at_call 78; refine (rfield_calls _ _ _).mono ?_; rintro e w' ⟨rfl, k, rfl⟩; rw [HF.out]))
    go_loopw [8, 9] (fun v i wr => ∃ (m kk : Nat), m ≤ n ∧ v = .int .u64 ((getN x.toNat (a + m) (n - m) : Nat) : Int) ∧ i = .int .i64 ((m : Int) - 1) ∧ wr = w.drewN kk) (fun _ i _ => (intOf i + 1).toNat)
    case atStart => exact ⟨n, _, by omega, by rw [Nat.sub_self]; simp [getN, Nat.mod_one], by go_num, rfl⟩
    case round =>
      obtain ⟨m, kk, hm, rfl, rfl, rfl⟩ := hrel
      have hg := getN_lt32 (w := x.toNat) (a := a + m) (n := n - m) (by omega)
      by_cases h : 0 < m
      · obtain ⟨j, rfl⟩ : ∃ j, m = j + 1 := ⟨m - 1, by omega⟩
        have HG := Lib.hid (getN_step (x := x.toNat) (a := a + j) (k := n - (j + 1)))
        have hge : (0 : Int) ≤ ((j + 1 : Nat) : Int) - 1 := by omega
        have hcast : ((j + 1 : Nat) : Int) - 1 = (j : Int) := by omega
        have HB := bit_calls x ((a : Int) + (j : Int)) 
        rw [show ((a : Int) + (j : Int)).toNat = a + j from by omega] at HB
        rw [show a + (j + 1) = a + j + 1 from by omega] at hg ⊢
        have hbit : x.toNat / 2 ^ (a + j) % 2 < 2 := Nat.mod_lt _ (by decide)
        generalize getN x.toNat (a + j + 1) (n - (j + 1)) = g at HG hg ⊢
        generalize x.toNat / 2 ^ (a + j) % 2 = bb at HG HB hbit
        rw [hcast]
        clear hcast
        have HB2 := Lib.hid HB
        clear HB
        go_wp2_with (first | (go_at_call 79; refine (HB2.out _ hx0 hx1 (by omega) (by omega)).mono ?_; rintro e w' ⟨rfl, k, rfl⟩))
        go_roundw
        case rel => exact ⟨j, _, by omega, int_any (by rw [show n - j = n - (j + 1) + 1 from by omega, ← HG.out] <;> omega), by go_num, by first | rfl | exact World.drewN_drewN ..⟩
        case measure => simp [intOf] <;> omega
      · obtain rfl : m = 0 := by omega
        rw [Nat.add_zero, Nat.sub_zero] at hg ⊢
        generalize hQ : getN x.toNat a n = g at hg ⊢
        have HQ := Lib.hid hQ
        clear hQ
        go_wp2
        go_ret2
        exact ⟨ret_two (by rw [HQ.out] <;> omega) rfl, _, rfl⟩
  · rw [getR_out hf]
    have hf' : fieldI a n = false := by simpa using hf
    have HF := Lib.hid hf'
    clear hf hf'
    go_enter Try.func47, Try.ntmps47
    go_wp2_with (first | (go_at_call 78; refine (rfield_calls _ _ _).mono ?_; rintro e w' ⟨rfl, k, rfl⟩; rw [HF.out]))
    go_ret2
    exact ⟨rfl, _, rfl⟩

theorem lt_of_bits {v n : Nat} (hv : v < 4294967296) (h : ∀ j, n ≤ j → j < 32 → v.testBit j = false) : v < 2 ^ n := by
  apply Nat.lt_pow_two_of_testBit
  intro i hi
  by_cases h2 : i < 32
  · exact h i hi h2
  · exact testBit_high (n := 32) hv (by omega)
theorem div_step (x i : Nat) : 2 * (x / 2 ^ (i + 1)) + x / 2 ^ i % 2 = x / 2 ^ i := by
  rw [Nat.pow_succ, ← Nat.div_div_eq_div_mul]
  omega
theorem putN_bit_in {x a n v i : Nat} (hv : v < 2 ^ n) (h1 : a ≤ i) (h2 : i < a + n) : putN x a n v / 2 ^ i % 2 = v / 2 ^ (i - a) % 2 := by
  rw [← bit_at, ← bit_at, testBit_putN hv, if_pos ⟨h1, h2⟩]
theorem putN_bit_out {x a n v i : Nat} (hv : v < 2 ^ n) (h : ¬ (a ≤ i ∧ i < a + n)) : putN x a n v / 2 ^ i % 2 = x / 2 ^ i % 2 := by
  rw [← bit_at, ← bit_at, testBit_putN hv, if_neg h]
theorem bit_zero {v i : Nat} (h : v.testBit i = false) : v / 2 ^ i % 2 = 0 := by rw [← bit_at, h]; rfl
theorem rput_calls (x a n v : Int) (w : World) (hx0 : 0 ≤ x) (hx1 : x < 18446744073709551616) (hv0 : 0 ≤ v) (hv1 : v < 4294967296) :
    Calls Try.prog 101 #[.int .u64 x, .int .i64 a, .int .i64 n, .int .u32 v] w fun e w' => e = .returned (.tuple #[.int .u64 (putR x.toNat a n v.toNat).1, .int .i64 (putR x.toNat a n v.toNat).2]) ∧ ∃ k, w' = w.drewN k := by
  by_cases hf : fieldI a n = true
  · have hf' := hf
    simp only [fieldI, decide_eq_true_eq] at hf'
    obtain ⟨h1, h2, h3, h4⟩ := hf'
    have HF := Lib.hid hf
    clear hf
    obtain ⟨a, rfl⟩ := Int.eq_ofNat_of_zero_le h3
    obtain ⟨n, rfl⟩ := Int.eq_ofNat_of_zero_le (by omega : 0 ≤ n)
    go_enter Try.func101, Try.ntmps101
    go_wp2_with (first | (go_at_call 78; refine (rfield_calls _ _ _).mono ?_; rintro e w' ⟨rfl, k, rfl⟩; rw [HF.out]))
    go_loopw [10] (fun i wr => ∃ (m kk : Nat), n ≤ m ∧ m ≤ 32 ∧ i = .int .i64 (m : Int) ∧ Hid (∀ j, n ≤ j → j < m → v.toNat.testBit j = false) ∧ wr = w.drewN kk) (fun i _ => (32 - intOf i).toNat)
    case atStart => exact ⟨n, _, by omega, by omega, rfl, fun j hj hj2 => by omega, rfl⟩
    case round =>
      obtain ⟨m, kk, hnm, hm, rfl, HB, rfl⟩ := hrel
      by_cases h : m < 32
      · have HC := bit_calls v (m : Int)
        rw [Int.toNat_natCast] at HC
        by_cases hb : v.toNat.testBit m = true
        · have e1 : v.toNat / 2 ^ m % 2 = 1 := by rw [← bit_at, hb]; rfl
          have hbig : ¬ v.toNat < 2 ^ n := fun hlt => by have := testBit_high hlt hnm; rw [hb] at this; cases this
          have HR : Hid (putR x.toNat (a : Int) (n : Int) v.toNat = (0, 4)) := putR_size HF.out hbig
          rw [e1] at HC
          have HC2 := Lib.hid HC
          clear HC e1 hbig hb
          go_wp2_with (first | (go_at_call 79; refine (HC2.out _ hv0 (by omega) (by omega) (by omega)).mono ?_; rintro e w' ⟨rfl, k, rfl⟩))
          go_ret2
          exact ⟨by rw [HR.out] <;> rfl, by first | exact drew_close0 | exact ⟨_, rfl⟩⟩
        · have e1 : v.toNat / 2 ^ m % 2 = 0 := bit_zero (Bool.eq_false_iff.2 hb)
          have HBn : Hid (∀ j, n ≤ j → j < m + 1 → v.toNat.testBit j = false) := fun j hj hj2 => by
            by_cases e : j = m
            · subst e; exact Bool.eq_false_iff.2 hb
            · exact HB.out j hj (by omega)
          rw [e1] at HC
          have HC2 := Lib.hid HC
          clear HC e1 hb
          go_wp2_with (first | (go_at_call 79; refine (HC2.out _ hv0 (by omega) (by omega) (by omega)).mono ?_; rintro e w' ⟨rfl, k, rfl⟩))
          go_roundw
          case rel => exact ⟨m + 1, _, by omega, by omega, by go_num, HBn, by first | rfl | exact World.drewN_drewN ..⟩
          case measure => simp [intOf] <;> omega
      · obtain rfl : m = 32 := by omega
        have hv : v.toNat < 2 ^ n := lt_of_bits (by omega) HB.out
        have hlt := putN_lt (w := x.toNat) (a := a) (n := n) (v := v.toNat) (by omega) hv (by omega)
        have HV := Lib.hid hv
        have HLT := Lib.hid hlt
        have HR : Hid (putR x.toNat (a : Int) (n : Int) v.toNat = (((putN x.toNat a n v.toNat : Nat) : Int), 0)) := putR_in HF.out hv
        clear HB hv hlt
        rw [show ((32 : Nat) : Int) = 32 from rfl]
        go_wp2
        go_loopw [11, 12] (fun y i wr => ∃ (m kk : Nat), m ≤ 64 ∧ y = .int .u64 ((putN x.toNat a n v.toNat / 2 ^ m : Nat) : Int) ∧ i = .int .i64 ((m : Int) - 1) ∧ wr = w.drewN kk) (fun _ i _ => (intOf i + 1).toNat)
        case atStart => exact ⟨64, _, by omega, by rw [Nat.div_eq_of_lt HLT.out]; rfl, rfl, rfl⟩
        case round =>
          obtain ⟨m, kk, hm, rfl, rfl, rfl⟩ := hrel
          by_cases h : 0 < m
          · obtain ⟨j, rfl⟩ : ∃ j, m = j + 1 := ⟨m - 1, by omega⟩
            have HS := Lib.hid (div_step (putN x.toNat a n v.toNat) j)
            have hq : putN x.toNat a n v.toNat / 2 ^ (j + 1) < 9223372036854775808 := by
              have := HS.out
              have h5 : putN x.toNat a n v.toNat / 2 ^ j < 2 ^ 64 := Nat.lt_of_le_of_lt (Nat.div_le_self _ _) HLT.out
              omega
            have hcast : ((j + 1 : Nat) : Int) - 1 = (j : Int) := by omega
            have HC1 := bit_calls x (j : Int)
            rw [Int.toNat_natCast] at HC1
            have hb1 : x.toNat / 2 ^ j % 2 < 2 := Nat.mod_lt _ (by decide)
            by_cases hin : a ≤ j ∧ j < a + n
            · obtain ⟨g1, g2⟩ := hin
              have HC2 := bit_calls v ((j : Int) - (a : Int))
              rw [show ((j : Int) - (a : Int)).toNat = j - a from by omega] at HC2
              rw [putN_bit_in HV.out g1 g2] at HS
              have hb2 : v.toNat / 2 ^ (j - a) % 2 < 2 := Nat.mod_lt _ (by decide)
              have hd1 : (a : Int) ≤ (j : Int) := by omega
              have hd2 : (j : Int) < (a : Int) + (n : Int) := by omega
              generalize putN x.toNat a n v.toNat / 2 ^ (j + 1) = q at HS hq ⊢
              generalize v.toNat / 2 ^ (j - a) % 2 = b2 at HS HC2 hb2
              generalize x.toNat / 2 ^ j % 2 = b1 at HC1 hb1
              rw [hcast]
              clear hcast
              have HD1 := Lib.hid HC1
              have HD2 := Lib.hid HC2
              clear HC1 HC2
              go_wp2_with (first | (go_at_call_of 79 (Value.int .u64 v); refine (HD2.out _ hv0 (by omega) (by omega) (by omega)).mono ?_; rintro e w' ⟨rfl, k, rfl⟩) | (go_at_call 79; refine (HD1.out _ hx0 hx1 (by omega) (by omega)).mono ?_; rintro e w' ⟨rfl, k, rfl⟩))
              go_roundw
              case rel => exact ⟨j, _, by omega, int_any (by rw [← HS.out] <;> omega), by go_num, by first | rfl | exact World.drewN_drewN ..⟩
              case measure => simp [intOf] <;> omega
            · rw [putN_bit_out HV.out hin] at HS
              generalize putN x.toNat a n v.toNat / 2 ^ (j + 1) = q at HS hq ⊢
              generalize x.toNat / 2 ^ j % 2 = b1 at HC1 hb1 HS
              rw [hcast]
              clear hcast
              have HD1 := Lib.hid HC1
              clear HC1
              by_cases g1 : a ≤ j
              · have hd1 : (a : Int) ≤ (j : Int) := by omega
                have hd2 : ¬ (j : Int) < (a : Int) + (n : Int) := by omega
                go_wp2_with (first | (go_at_call 79; refine (HD1.out _ hx0 hx1 (by omega) (by omega)).mono ?_; rintro e w' ⟨rfl, k, rfl⟩))
                go_roundw
                case rel => exact ⟨j, _, by omega, int_any (by rw [← HS.out] <;> omega), by go_num, by first | rfl | exact World.drewN_drewN ..⟩
                case measure => simp [intOf] <;> omega
              · have hd1 : ¬ (a : Int) ≤ (j : Int) := by omega
                go_wp2_with (first | (go_at_call 79; refine (HD1.out _ hx0 hx1 (by omega) (by omega)).mono ?_; rintro e w' ⟨rfl, k, rfl⟩))
                go_roundw
                case rel => exact ⟨j, _, by omega, int_any (by rw [← HS.out] <;> omega), by go_num, by first | rfl | exact World.drewN_drewN ..⟩
                case measure => simp [intOf] <;> omega
          · obtain rfl : m = 0 := by omega
            rw [Nat.pow_zero, Nat.div_one]
            generalize hQ : putN x.toNat a n v.toNat = g at HR ⊢
            have HQ := Lib.hid hQ
            clear hQ HLT
            go_wp2
            go_ret2
            exact ⟨by rw [HR.out] <;> rfl, _, rfl⟩
  · rw [putR_out hf]
    have hf' : fieldI a n = false := by simpa using hf
    have HF := Lib.hid hf'
    clear hf hf'
    go_enter Try.func101, Try.ntmps101
    go_wp2_with (first | (go_at_call 78; refine (rfield_calls _ _ _).mono ?_; rintro e w' ⟨rfl, k, rfl⟩; rw [HF.out]))
    go_ret2
    exact ⟨rfl, _, rfl⟩
end Go.Proofs.Ytpklblaenfhncaa
