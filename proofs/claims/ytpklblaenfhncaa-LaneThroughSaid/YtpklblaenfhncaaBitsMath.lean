/- Numbers in a word, in plain arithmetic: fields, the check, the seal. -/
import Derived.Laws.BitsLemmas
import Derived.RowKit
namespace Go.Proofs.Ytpklblaenfhncaa.BM
open Go Go.RowKit

theorem wrap_u64 (n : Int) : IntKind.u64.wrap n = n % 18446744073709551616 := by simp [IntKind.wrap, IntKind.bits, IntKind.signed]
theorem wrap_u64_lt {n : Int} (h0 : 0 ≤ n) (h1 : n < 18446744073709551616) : IntKind.u64.wrap n = n := by rw [wrap_u64]; omega
theorem wrap_u64_nat (n : Nat) : IntKind.u64.wrap (n : Int) = ((n % 18446744073709551616 : Nat) : Int) := by rw [wrap_u64]; omega

theorem bits_and_nat (a b : Nat) (ha : a < 2 ^ 64) (hb : b < 2 ^ 64) : Go.bits .and .u64 a b = ((a &&& b : Nat) : Int) :=
  (bits_nat .u64 64 (by decide) (fun n h0 h1 => wrap_u64_lt h0 (by simpa using h1)) a b ha hb).1
theorem bits_or_nat (a b : Nat) (ha : a < 2 ^ 64) (hb : b < 2 ^ 64) : Go.bits .or .u64 a b = ((a ||| b : Nat) : Int) :=
  (bits_nat .u64 64 (by decide) (fun n h0 h1 => wrap_u64_lt h0 (by simpa using h1)) a b ha hb).2
theorem bits_xor_nat (a b : Nat) (ha : a < 2 ^ 64) (hb : b < 2 ^ 64) : Go.bits .xor .u64 a b = ((a ^^^ b : Nat) : Int) := by
  have ha' : a % 2 ^ 64 = a := Nat.mod_eq_of_lt ha
  have hb' : b % 2 ^ 64 = b := Nat.mod_eq_of_lt hb
  show IntKind.u64.wrap (((BitVec.ofInt 64 (a : Int)) ^^^ (BitVec.ofInt 64 (b : Int))).toNat : Int) = _
  simp only [BitVec.ofInt_natCast, BitVec.toNat_xor, BitVec.toNat_ofNat, ha', hb']
  have := Nat.xor_lt_two_pow ha hb
  exact wrap_u64_lt (by omega) (by omega)
/-- a without the bits of b -/
def sans (a b : Nat) : Nat := a ^^^ (a &&& b)
theorem sans_lt {a b : Nat} (ha : a < 2 ^ 64) : sans a b < 2 ^ 64 := Nat.xor_lt_two_pow ha (Nat.lt_of_le_of_lt Nat.and_le_left ha)
theorem testBit_sans (a b i : Nat) : (sans a b).testBit i = (a.testBit i && !b.testBit i) := by
  unfold sans; rw [Nat.testBit_xor, Nat.testBit_and]; cases a.testBit i <;> cases b.testBit i <;> rfl
theorem bits_andNot_nat (a b : Nat) (ha : a < 2 ^ 64) (hb : b < 2 ^ 64) : Go.bits .andNot .u64 a b = ((sans a b : Nat) : Int) := by
  have ha' : a % 2 ^ 64 = a := Nat.mod_eq_of_lt ha
  have hb' : b % 2 ^ 64 = b := Nat.mod_eq_of_lt hb
  show IntKind.u64.wrap (((BitVec.ofInt 64 (a : Int)) &&& ~~~(BitVec.ofInt 64 (b : Int))).toNat : Int) = _
  have e : ((BitVec.ofInt 64 (a : Int)) &&& ~~~(BitVec.ofInt 64 (b : Int))).toNat = sans a b := by
    apply Nat.eq_of_testBit_eq
    intro i
    rw [testBit_sans]
    simp only [BitVec.ofInt_natCast, BitVec.toNat_and, Nat.testBit_and, BitVec.testBit_toNat, BitVec.getLsbD_not, BitVec.getLsbD_ofNat]
    by_cases h : i < 64
    · simp [h]
    · have : a.testBit i = false := Nat.testBit_lt_two_pow (Nat.lt_of_lt_of_le ha (Nat.pow_le_pow_right (by decide) (by omega)))
      simp [h, this]
  rw [e]
  have := sans_lt (b := b) ha
  exact wrap_u64_lt (by omega) (by omega)

theorem bit_of {x i : Nat} : x.testBit i = decide (x / 2 ^ i % 2 = 1) := by
  rw [Nat.testBit_eq_decide_div_mod_eq]

/-! fields -/
def getN (w a n : Nat) : Nat := w / 2 ^ a % 2 ^ n
def putN (w a n v : Nat) : Nat := sans w ((2 ^ n - 1) * 2 ^ a) ||| v * 2 ^ a
theorem pow_le64 {a b : Nat} (h : a ≤ b) : 2 ^ a ≤ 2 ^ b := Nat.pow_le_pow_right (by decide) h
theorem testBit_high {x n i : Nat} (hx : x < 2 ^ n) (hi : n ≤ i) : x.testBit i = false := Nat.testBit_lt_two_pow (Nat.lt_of_lt_of_le hx (pow_le64 hi))
theorem shifted_lt {v a n : Nat} (hv : v < 2 ^ n) (h : a + n ≤ 64) : v * 2 ^ a < 2 ^ 64 := by
  have h1 : v * 2 ^ a < 2 ^ n * 2 ^ a := (Nat.mul_lt_mul_right (Nat.two_pow_pos a)).2 hv
  rw [← Nat.pow_add] at h1
  exact Nat.lt_of_lt_of_le h1 (pow_le64 (by omega))
theorem mask_lt {a n : Nat} (h : a + n ≤ 64) : (2 ^ n - 1) * 2 ^ a < 2 ^ 64 :=
  shifted_lt (n := n) (by have := Nat.two_pow_pos n; omega) h
theorem putN_lt {w a n v : Nat} (hw : w < 2 ^ 64) (hv : v < 2 ^ n) (h : a + n ≤ 64) : putN w a n v < 2 ^ 64 :=
  Nat.or_lt_two_pow (sans_lt hw) (shifted_lt hv h)
theorem testBit_putN {w a n v : Nat} (hv : v < 2 ^ n) (i : Nat) : (putN w a n v).testBit i = if a ≤ i ∧ i < a + n then v.testBit (i - a) else w.testBit i := by
  unfold putN
  rw [Nat.testBit_or, testBit_sans, Nat.testBit_mul_two_pow, Nat.testBit_mul_two_pow, Nat.testBit_two_pow_sub_one]
  by_cases h1 : a ≤ i
  · by_cases h2 : i < a + n
    · have : i - a < n := by omega
      simp [h1, h2, this]
    · have h3 : ¬ (i - a < n) := by omega
      have h4 : v.testBit (i - a) = false := testBit_high hv (by omega)
      simp [h1, h2, h3, h4]
  · simp [h1]
theorem testBit_getN (w a n i : Nat) : (getN w a n).testBit i = (decide (i < n) && w.testBit (a + i)) := by
  unfold getN
  rw [Nat.testBit_mod_two_pow, Nat.testBit_div_two_pow, Nat.add_comm]
theorem getN_lt (w a n : Nat) : getN w a n < 2 ^ n := Nat.mod_lt _ (Nat.two_pow_pos n)
theorem getN_lt32 {w a n : Nat} (h : n ≤ 32) : getN w a n < 4294967296 := Nat.lt_of_lt_of_le (getN_lt w a n) (pow_le64 (b := 32) h)

/-- is there such a field? -/
def fieldI (a n : Int) : Bool := decide (1 ≤ n ∧ n ≤ 32 ∧ 0 ≤ a ∧ a + n ≤ 64)
def putR (w : Nat) (a n : Int) (v : Nat) : Int × Int :=
  if fieldI a n = true then (if v < 2 ^ n.toNat then (((putN w a.toNat n.toNat v : Nat) : Int), 0) else (0, 4)) else (0, 1)
def getR (w : Nat) (a n : Int) : Int × Int := if fieldI a n = true then (((getN w a.toNat n.toNat : Nat) : Int), 0) else (0, 1)

/-- do fields of these sizes have room, from a place on? -/
def fitsFrom : Int → List Int → Bool
  | _, [] => true
  | t, n :: l => fieldI t n && fitsFrom (t + n) l
def fitsI (l : List Int) : Bool := fitsFrom 0 l
def packFrom : Nat → Int → List Int → List Int → Int × Int
  | x, t, n :: l, v :: vs => if (putR x t n v.toNat).2 = 0 then packFrom (putR x t n v.toNat).1.toNat (t + n) l vs else (0, (putR x t n v.toNat).2)
  | x, _, _, _ => (x, 0)
def packR (l vs : List Int) : Int × Int := if l.length = vs.length ∧ fitsI l = true then packFrom 0 0 l vs else (0, 1)
def unpackFrom (x : Nat) : Int → List Int → List Int
  | _, [] => []
  | t, n :: l => ((getN x t.toNat n.toNat : Nat) : Int) :: unpackFrom x (t + n) l
def unpackR (x : Nat) (l : List Int) : List Int × Int := if fitsI l = true then (unpackFrom x 0 l, 0) else ([], 1)

/-! check -/
def byteN (w i : Nat) : Nat := w / 2 ^ (8 * i) % 256
def ck (b : Nat → Nat) : Nat → Nat
  | 0 => 0
  | m + 1 => (31 * ck b m + b m + 7) % 256
def check (w : Nat) : Nat := ck (byteN w) 7
theorem ck_lt (b : Nat → Nat) (m : Nat) : ck b m < 256 := by cases m <;> simp only [ck] <;> omega
theorem check_lt (w : Nat) : check w < 256 := ck_lt _ _
theorem ck_congr {b c : Nat → Nat} : ∀ m, (∀ i, i < m → b i = c i) → ck b m = ck c m
  | 0, _ => rfl
  | m + 1, h => by simp only [ck]; rw [ck_congr m (fun i hi => h i (by omega)), h m (by omega)]
theorem ck_ne {b c : Nat → Nat} {j : Nat} (hb : ∀ i, b i < 256) (hc : ∀ i, c i < 256) (hj : b j ≠ c j) : ∀ m, j < m → (∀ i, i < m → i ≠ j → b i = c i) → ck b m ≠ ck c m
  | 0, h, _ => by omega
  | m + 1, h, he => by
    simp only [ck]
    have l1 := ck_lt b m
    have l2 := ck_lt c m
    by_cases e : j = m
    · subst e
      rw [ck_congr j (fun i hi => he i (by omega) (by omega))]
      have := hb j; have := hc j
      intro h; apply hj; omega
    · have ih := ck_ne hb hc hj m (by omega) (fun i hi hn => he i (by omega) hn)
      rw [he m (by omega) (fun h => e h.symm)]
      intro h; apply ih; omega
def rightB (x : Nat) : Bool := x / 2 ^ 56 == check x
def sealN (w : Nat) : Nat := w % 2 ^ 56 + check w * 2 ^ 56
theorem sealN_lt (w : Nat) : sealN w < 2 ^ 64 := by have := check_lt w; unfold sealN; omega
theorem byteN_seal {w i : Nat} (hi : i < 7) : byteN (sealN w) i = byteN w i := by
  have : i = 0 ∨ i = 1 ∨ i = 2 ∨ i = 3 ∨ i = 4 ∨ i = 5 ∨ i = 6 := by omega
  unfold byteN sealN
  rcases this with rfl | rfl | rfl | rfl | rfl | rfl | rfl <;> simp only [Nat.reduceMul, Nat.reducePow, Nat.mul_zero, Nat.pow_zero, Nat.mul_one] <;> omega
theorem check_seal (w : Nat) : check (sealN w) = check w := ck_congr 7 (fun _ hi => byteN_seal hi)
theorem top_seal (w : Nat) : sealN w / 2 ^ 56 = check w := by unfold sealN; omega
theorem seal_seal (w : Nat) : sealN (sealN w) = sealN w := by
  have h : sealN (sealN w) = sealN w % 2 ^ 56 + check w * 2 ^ 56 := by rw [← check_seal w]; rfl
  rw [h]; unfold sealN; omega
theorem seal_or (w : Nat) : (w &&& (2 ^ 56 - 1)) ||| check w * 2 ^ 56 = sealN w := by
  rw [Nat.and_two_pow_sub_one_eq_mod]
  unfold sealN
  rw [Nat.or_comm, Nat.mul_comm (check w), Nat.two_pow_add_eq_or_of_lt (Nat.mod_lt _ (by decide)) (check w) |>.symm]
  omega
theorem right_iff {w : Nat} : w / 2 ^ 56 = check w ↔ sealN w = w := by unfold sealN; omega
theorem byteN_lt (w i : Nat) : byteN w i < 256 := Nat.mod_lt _ (by decide)
theorem byteN_xor (a b i : Nat) : byteN (a ^^^ b) i = byteN a i ^^^ byteN b i := by
  unfold byteN
  rw [Nat.xor_div_two_pow, show (256 : Nat) = 2 ^ 8 from rfl, Nat.xor_mod_two_pow]
theorem byteN_mul {y k i : Nat} (hy : y < 256) : byteN (y * 2 ^ (8 * k)) i = if i = k then y else 0 := by
  unfold byteN
  by_cases h : i = k
  · subst h; rw [if_pos rfl, Nat.mul_div_cancel _ (Nat.two_pow_pos _)]; omega
  · rw [if_neg h]
    by_cases h2 : i < k
    · obtain ⟨d, rfl⟩ : ∃ d, k = i + 1 + d := ⟨k - i - 1, by omega⟩
      have : y * 2 ^ (8 * (i + 1 + d)) = (y * 2 ^ (8 * d) * 256) * 2 ^ (8 * i) := by
        rw [show 8 * (i + 1 + d) = 8 * d + 8 + 8 * i from by omega, Nat.pow_add, Nat.pow_add, show (256 : Nat) = 2 ^ 8 from rfl]; ac_rfl
      rw [this, Nat.mul_div_cancel _ (Nat.two_pow_pos _)]
      omega
    · have : y * 2 ^ (8 * k) < 2 ^ (8 * i) := by
        have h1 : y * 2 ^ (8 * k) < 256 * 2 ^ (8 * k) := (Nat.mul_lt_mul_right (Nat.two_pow_pos _)).2 hy
        rw [show (256 : Nat) = 2 ^ 8 from rfl, ← Nat.pow_add] at h1
        exact Nat.lt_of_lt_of_le h1 (pow_le64 (by omega))
      rw [Nat.div_eq_of_lt this]
theorem xor_self_iff (a b : Nat) : a ^^^ b = a ↔ b = 0 := by
  constructor
  · intro h
    have := congrArg (a ^^^ ·) h
    simpa [← Nat.xor_assoc] using this
  · rintro rfl; simp
/-- One byte that is another one is told. -/
theorem one_told {w y k : Nat} (hy : y < 256) (hk : k < 8) : ((sealN w ^^^ y * 2 ^ (8 * k)) / 2 ^ 56 = check (sealN w ^^^ y * 2 ^ (8 * k))) ↔ y = 0 := by
  have hs := sealN_lt w
  have hy2 : y * 2 ^ (8 * k) < 2 ^ 64 := shifted_lt (n := 8) hy (by omega)
  have hx := Nat.xor_lt_two_pow hs hy2
  have htop : (sealN w ^^^ y * 2 ^ (8 * k)) / 2 ^ 56 = byteN (sealN w ^^^ y * 2 ^ (8 * k)) 7 := by unfold byteN; omega
  have hb : ∀ i, byteN (sealN w ^^^ y * 2 ^ (8 * k)) i = byteN (sealN w) i ^^^ (if i = k then y else 0) := fun i => by rw [byteN_xor, byteN_mul hy]
  have h7 : byteN (sealN w) 7 = check w := by rw [← top_seal]; unfold byteN; omega
  rw [htop]
  by_cases k7 : k = 7
  · subst k7
    have hc : check (sealN w ^^^ y * 2 ^ (8 * 7)) = check w := by
      rw [← check_seal w]
      exact ck_congr 7 (fun i hi => by rw [hb, if_neg (by omega)]; simp)
    rw [hc, hb, if_pos rfl, h7]
    exact xor_self_iff _ _
  · rw [hb 7, if_neg (by omega), h7, Nat.xor_zero]
    constructor
    · intro h
      apply Decidable.byContradiction
      intro hn
      have hne : ck (byteN (sealN w)) 7 ≠ ck (byteN (sealN w ^^^ y * 2 ^ (8 * k))) 7 :=
        ck_ne (j := k) (byteN_lt _) (byteN_lt _) (by rw [hb, if_pos rfl]; intro e; exact hn ((xor_self_iff _ _).1 e.symm)) 7 (by omega) (fun i _ hi => by rw [hb, if_neg hi, Nat.xor_zero])
      exact hne ((check_seal w).trans h)
    · rintro rfl
      rw [Nat.zero_mul, Nat.xor_zero, check_seal]
end Go.Proofs.Ytpklblaenfhncaa.BM
