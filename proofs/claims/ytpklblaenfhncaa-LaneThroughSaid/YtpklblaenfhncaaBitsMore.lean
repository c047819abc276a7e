/- More on numbers in a word: what is put stands there, what is apart is left alone. -/
import Derived.Test.YtpklblaenfhncaaBitsMath
namespace Go.Proofs.Ytpklblaenfhncaa.BM
set_option linter.unusedVariables false
open Go Go.RowKit

theorem getN_putN {x a n v : Nat} (hv : v < 2 ^ n) : getN (putN x a n v) a n = v := by
  apply Nat.eq_of_testBit_eq
  intro i
  rw [testBit_getN, testBit_putN hv]
  by_cases h : i < n
  · rw [if_pos ⟨by omega, by omega⟩, show a + i - a = i from by omega]; simp [h]
  · rw [testBit_high (i := i) hv (by omega)]; simp [h]
theorem getN_apart {x a n v b m : Nat} (hv : v < 2 ^ n) (h : a + n ≤ b ∨ b + m ≤ a) : getN (putN x a n v) b m = getN x b m := by
  apply Nat.eq_of_testBit_eq
  intro i
  rw [testBit_getN, testBit_getN]
  by_cases hi : i < m
  · rw [testBit_putN hv, if_neg (by omega)]
  · simp [hi]
theorem putN_comm {x a n v b m u : Nat} (hv : v < 2 ^ n) (hu : u < 2 ^ m) (h : a + n ≤ b ∨ b + m ≤ a) : putN (putN x a n v) b m u = putN (putN x b m u) a n v := by
  apply Nat.eq_of_testBit_eq
  intro i
  rw [testBit_putN hu, testBit_putN hv, testBit_putN hv, testBit_putN hu]
  by_cases h1 : a ≤ i ∧ i < a + n
  · rw [if_neg (by omega), if_pos h1]; simp [h1]
  · by_cases h2 : b ≤ i ∧ i < b + m
    · rw [if_pos h2, if_neg h1, if_pos h2]
    · rw [if_neg h2, if_neg h1, if_neg h1, if_neg h2]
theorem putN_zero {n v : Nat} (hv : v < 2 ^ n) : putN 0 0 n v = v := by
  apply Nat.eq_of_testBit_eq
  intro i
  rw [testBit_putN hv]
  by_cases h : 0 ≤ i ∧ i < 0 + n
  · rw [if_pos h]; rfl
  · rw [if_neg h, testBit_high (i := i) hv (by omega)]; simp
theorem getN_self {n v : Nat} (hv : v < 2 ^ n) : getN v 0 n = v := by
  unfold getN; rw [Nat.pow_zero, Nat.div_one, Nat.mod_eq_of_lt hv]
theorem seal_shift (x : Nat) : sealN x * 256 % 18446744073709551616 = x * 256 % 18446744073709551616 := by unfold sealN; omega
theorem putR_ok {x v : Nat} {a n : Int} (h : (putR x a n v).2 = 0) : fieldI a n = true ∧ v < 2 ^ n.toNat ∧ (putR x a n v).1 = ((putN x a.toNat n.toNat v : Nat) : Int) := by
  unfold putR at h ⊢
  split at h
  · rename_i hf
    split at h
    · rename_i hv; exact ⟨hf, hv, by rw [if_pos hf, if_pos hv]⟩
    · simp at h
  · simp at h
theorem putR_bad {x v : Nat} {a n : Int} (h : (putR x a n v).2 ≠ 0) : (putR x a n v).1 = 0 := by
  unfold putR at h ⊢
  split at h
  · rename_i hf
    split at h
    · simp at h
    · rename_i hv; rw [if_pos hf, if_neg hv]
  · rename_i hf; rw [if_neg hf]
theorem putR_range {x v : Nat} {a n : Int} (hx : x < 18446744073709551616) : 0 ≤ (putR x a n v).1 ∧ (putR x a n v).1 < 18446744073709551616 := by
  by_cases h : (putR x a n v).2 = 0
  · obtain ⟨hf, hv, e⟩ := putR_ok h
    simp only [fieldI, decide_eq_true_eq] at hf
    have := putN_lt (a := a.toNat) (by omega : x < 2 ^ 64) hv (by omega)
    rw [e]; omega
  · rw [putR_bad h]; omega
theorem putR_again {x v y : Nat} {a n : Int} (h : (putR x a n v).2 = 0) : putR y a n v = (((putN y a.toNat n.toNat v : Nat) : Int), 0) := by
  obtain ⟨hf, hv, _⟩ := putR_ok h
  unfold putR; rw [if_pos hf, if_pos hv]
theorem pack_one {n : Int} {v : Nat} (h1 : 1 ≤ n) (h2 : n ≤ 32) (hv : v < 2 ^ n.toNat) : packR [n] [(v : Int)] = ((v : Int), 0) := by
  have hf : fieldI 0 n = true := by simp only [fieldI, decide_eq_true_eq]; omega
  have hp : putR 0 0 n v = ((v : Int), 0) := by
    unfold putR; rw [if_pos hf, if_pos hv]
    show (((putN 0 (0 : Int).toNat n.toNat v : Nat) : Int), (0 : Int)) = _
    rw [show (0 : Int).toNat = 0 from rfl, putN_zero hv]
  unfold packR
  rw [if_pos ⟨rfl, by simp [fitsI, fitsFrom, hf]⟩]
  simp [packFrom, hp]
theorem unpack_one {n : Int} {v : Nat} (h1 : 1 ≤ n) (h2 : n ≤ 32) (hv : v < 2 ^ n.toNat) : unpackR v [n] = ([(v : Int)], 0) := by
  have hf : fieldI 0 n = true := by simp only [fieldI, decide_eq_true_eq]; omega
  unfold unpackR
  rw [if_pos (by simp [fitsI, fitsFrom, hf])]
  simp [unpackFrom, getN_self hv]
end Go.Proofs.Ytpklblaenfhncaa.BM
