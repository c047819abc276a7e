/- Flits as numbers: which may be, their words, and what is read of a word. -/
import Derived.Test.YtpklblaenfhncaaBitsMore
namespace Go.Proofs.Ytpklblaenfhncaa
open BM
set_option linter.unusedVariables false
theorem mod_div_pow (x a n : Nat) : x / 2 ^ a % 2 ^ n = x % 2 ^ (a + n) / 2 ^ a := by
  rw [Nat.pow_add, Nat.mod_mul_right_div_self]
theorem getN_seal {w a n : Nat} (h : a + n ≤ 56) : getN (sealN w) a n = getN w a n := by
  unfold getN
  rw [mod_div_pow, mod_div_pow]
  have e : sealN w % 2 ^ 56 = w % 2 ^ 56 := by unfold sealN; omega
  have d : 2 ^ (a + n) ∣ 2 ^ 56 := Nat.pow_dvd_pow 2 h
  rw [← Nat.mod_mod_of_dvd (sealN w) d, e, Nat.mod_mod_of_dvd w d]
/-- Each value fits its field. -/
def valsFit : List Int → List Int → Bool
  | [], [] => true
  | n :: l, v :: vs => decide (0 ≤ v) && decide (v.toNat < 2 ^ n.toNat) && valsFit l vs
  | _, _ => false
theorem valsFit_len : ∀ {l vs : List Int}, valsFit l vs = true → l.length = vs.length
  | [], [], _ => rfl
  | [], _ :: _, h => by simp [valsFit] at h
  | _ :: _, [], h => by simp [valsFit] at h
  | n :: l, v :: vs, h => by
    simp only [valsFit, Bool.and_eq_true] at h
    simp [valsFit_len h.2]
theorem packFrom_ok : ∀ (l vs : List Int) (x : Nat) (t : Int), 0 ≤ t → x < 2 ^ 64 → fitsFrom t l = true → valsFit l vs = true →
    ∃ y : Nat, packFrom x t l vs = ((y : Int), 0) ∧ y < 2 ^ 64 ∧ unpackFrom y t l = vs ∧ ∀ b m : Nat, (b + m : Int) ≤ t → getN y b m = getN x b m
  | [], [], x, t, ht, hx, hf, hv => ⟨x, rfl, hx, rfl, fun _ _ _ => rfl⟩
  | [], _ :: _, _, _, _, _, _, hv => by simp [valsFit] at hv
  | _ :: _, [], _, _, _, _, _, hv => by simp [valsFit] at hv
  | n :: l, v :: vs, x, t, ht, hx, hf, hv => by
    simp only [fitsFrom, Bool.and_eq_true] at hf
    simp only [valsFit, Bool.and_eq_true, decide_eq_true_eq] at hv
    obtain ⟨hf1, hf2⟩ := hf
    obtain ⟨⟨hv0, hv1⟩, hv2⟩ := hv
    have hp : putR x t n v.toNat = (((putN x t.toNat n.toNat v.toNat : Nat) : Int), 0) := by unfold putR; rw [if_pos hf1, if_pos hv1]
    have hf1' := hf1
    simp only [fieldI, decide_eq_true_eq] at hf1'
    obtain ⟨g1, g2, g3, g4⟩ := hf1'
    have hlt := putN_lt (a := t.toNat) (n := n.toNat) hx hv1 (by omega)
    obtain ⟨y, h1, h2, h3, h4⟩ := packFrom_ok l vs (putN x t.toNat n.toNat v.toNat) (t + n) (by omega) hlt hf2 hv2
    refine ⟨y, ?_, h2, ?_, ?_⟩
    · show (if (putR x t n v.toNat).2 = 0 then packFrom (putR x t n v.toNat).1.toNat (t + n) l vs else _) = _
      rw [hp, if_pos rfl, Int.toNat_natCast]; exact h1
    · show ((getN y t.toNat n.toNat : Nat) : Int) :: unpackFrom y (t + n) l = v :: vs
      rw [h3, h4 _ _ (by omega), getN_putN hv1]; congr 1; omega
    · intro b m hbm
      rw [h4 b m (by omega), getN_apart hv1 (by omega)]
theorem pack_ok {l vs : List Int} (hf : fitsI l = true) (hv : valsFit l vs = true) : ∃ y : Nat, packR l vs = ((y : Int), 0) ∧ y < 2 ^ 64 ∧ unpackFrom y 0 l = vs := by
  obtain ⟨y, h1, h2, h3, _⟩ := packFrom_ok l vs 0 0 (by omega) (by decide) hf hv
  refine ⟨y, ?_, h2, h3⟩
  unfold packR; rw [if_pos ⟨valsFit_len hv, hf⟩]; exact h1

structure Fl where
  kind : Int
  src : Int
  dst : Int
  seq : Int
  len : Int
  more : Bool
  cast : Bool
  data : ByteArray
theorem Fl.ext' {f g : Fl} (h1 : f.kind = g.kind) (h2 : f.src = g.src) (h3 : f.dst = g.dst) (h4 : f.seq = g.seq) (h5 : f.len = g.len) (h6 : f.more = g.more) (h7 : f.cast = g.cast) (h8 : f.data = g.data) : f = g := by
  cases f; cases g; simp_all
def zeroFl : Fl := ⟨0, 0, 0, 0, 0, false, false, ByteArray.empty⟩
def b2n (b : Bool) : Int := if b = true then 1 else 0
def dataInts (d : ByteArray) : List Int := d.data.toList.map (fun c => (c.toNat : Int))
theorem dataInts_len (d : ByteArray) : (dataInts d).length = d.size := by unfold dataInts; rw [List.length_map]; rfl
def headSizes : List Int := [2, 12, 12, 16, 7, 1, 1]
def isHead (f : Fl) : Bool := decide (f.kind = 1)
def headOk (f : Fl) : Bool := decide (f.data.size = 0 ∧ 0 ≤ f.src ∧ f.src < 4096 ∧ 0 ≤ f.dst ∧ f.dst < 4096 ∧ 0 ≤ f.seq ∧ f.seq < 65536 ∧ 0 ≤ f.len ∧ f.len ≤ 64)
def bareOk (f : Fl) : Bool := decide (f.src = 0 ∧ f.dst = 0 ∧ f.seq = 0 ∧ f.len = 0 ∧ f.more = false ∧ f.cast = false)
def sizeOk (f : Fl) : Bool := decide ((f.kind = 2 ∧ f.data.size = 6) ∨ (f.kind = 3 ∧ f.data.size ≤ 6))
def rightF (f : Fl) : Bool := if f.kind = 1 then headOk f else bareOk f && sizeOk f
def sizesF (f : Fl) : List Int := if f.kind = 1 then headSizes else 2 :: 3 :: List.replicate f.data.size 8
def valsF (f : Fl) : List Int := if f.kind = 1 then [f.kind, f.src, f.dst, f.seq, f.len, b2n f.more, b2n f.cast] else f.kind :: (f.data.size : Int) :: dataInts f.data
def wordF (f : Fl) : Nat := sealN (packR (sizesF f) (valsF f)).1.toNat
def writeF (f : Fl) : Int × Int := if rightF f = true then ((wordF f : Int), 0) else (0, 1)
def bytesOf (l : List Nat) : ByteArray := ⟨(l.map UInt8.ofNat).toArray⟩
def headF (x : Nat) : Fl := ⟨1, getN x 2 12, getN x 14 12, getN x 26 16, getN x 42 7, decide (getN x 49 1 = 1), decide (getN x 50 1 = 1), ByteArray.empty⟩
def manyN (x : Nat) : Nat := min (getN x 2 3) 6
def dataF (x : Nat) : Fl := ⟨getN x 0 2, 0, 0, 0, 0, false, false, bytesOf ((List.range (manyN x)).map (fun i => getN x (5 + 8 * i) 8))⟩
def lookF (x : Nat) : Fl := if getN x 0 2 = 1 then headF x else dataF x
def readF (x : Nat) : Fl × Int := if rightB x = true then (if writeF (lookF x) = ((x : Int), 0) then (lookF x, 0) else (zeroFl, 2)) else (zeroFl, 3)

theorem fits_rep : ∀ (n : Nat) (t : Int), 0 ≤ t → t + 8 * (n : Int) ≤ 64 → fitsFrom t (List.replicate n 8) = true
  | 0, t, h0, h => rfl
  | n + 1, t, h0, h => by
    rw [List.replicate_succ, fitsFrom, Bool.and_eq_true]
    refine ⟨?_, fits_rep n (t + 8) (by omega) (by omega)⟩
    simp only [fieldI, decide_eq_true_eq]; omega
theorem fit_bytes : ∀ (l : List Nat), (∀ x ∈ l, x < 256) → valsFit (List.replicate l.length 8) (l.map (fun x : Nat => (x : Int))) = true
  | [], _ => rfl
  | x :: l, h => by
    rw [List.length_cons, List.replicate_succ, List.map_cons, valsFit, Bool.and_eq_true, Bool.and_eq_true]
    refine ⟨⟨by simp, ?_⟩, fit_bytes l (fun y hy => h y (List.mem_cons_of_mem _ hy))⟩
    have := h x (by simp)
    simp only [Int.toNat_natCast, decide_eq_true_eq]
    exact this
theorem unpack_rep : ∀ (n : Nat) (x t : Nat), unpackFrom x (t : Int) (List.replicate n 8) = (List.range n).map (fun i => ((getN x (t + 8 * i) 8 : Nat) : Int))
  | 0, x, t => rfl
  | n + 1, x, t => by
    rw [List.replicate_succ, unpackFrom, List.range_succ_eq_map, List.map_cons, List.map_map]
    have := unpack_rep n x (t + 8)
    rw [show ((t + 8 : Nat) : Int) = (t : Int) + 8 from by omega] at this
    rw [this]
    congr 1
    apply List.map_congr_left
    intro i _
    show _ = ((getN x (t + 8 * (i + 1)) 8 : Nat) : Int)
    rw [show t + 8 + 8 * i = t + 8 * (i + 1) from by omega]
theorem dataInts_eq (d : ByteArray) : dataInts d = (d.data.toList.map UInt8.toNat).map (fun x : Nat => (x : Int)) := by unfold dataInts; rw [List.map_map]; rfl
theorem bytes_lt (d : ByteArray) : ∀ x ∈ d.data.toList.map UInt8.toNat, x < 256 := fun x hx => by
  obtain ⟨c, _, rfl⟩ := List.mem_map.1 hx; exact c.toNat_lt
theorem fits_F {f : Fl} (h : rightF f = true) : fitsI (sizesF f) = true ∧ valsFit (sizesF f) (valsF f) = true := by
  unfold rightF at h
  unfold sizesF valsF
  by_cases hk : f.kind = 1
  · rw [if_pos hk] at h
    rw [if_pos hk, if_pos hk]
    simp only [headOk, decide_eq_true_eq] at h
    obtain ⟨h1, h2, h3, h4, h5, h6, h7, h8, h9⟩ := h
    refine ⟨by decide, ?_⟩
    have b1 : ∀ b, 0 ≤ b2n b ∧ (b2n b).toNat < 2 := fun b => by unfold b2n; split <;> decide
    have q1 := b1 f.more
    have q2 := b1 f.cast
    simp only [headSizes, valsFit, Bool.and_eq_true, decide_eq_true_eq, hk]
    refine ⟨by decide, ⟨h2, ?_⟩, ⟨h4, ?_⟩, ⟨h6, ?_⟩, ⟨h8, ?_⟩, q1, q2, trivial⟩
    · show f.src.toNat < 4096; omega
    · show f.dst.toNat < 4096; omega
    · show f.seq.toNat < 65536; omega
    · show f.len.toNat < 128; omega
  · rw [if_neg hk] at h
    rw [if_neg hk, if_neg hk]
    rw [Bool.and_eq_true] at h
    obtain ⟨_, h2⟩ := h
    simp only [sizeOk, decide_eq_true_eq] at h2
    have hs : f.data.size ≤ 6 := by omega
    have e : fitsFrom (0 + 2 + 3) (List.replicate f.data.size 8) = true := fits_rep _ _ (by omega) (by omega)
    refine ⟨?_, ?_⟩
    · show (fieldI 0 2 && (fieldI (0 + 2) 3 && fitsFrom (0 + 2 + 3) (List.replicate f.data.size 8))) = true
      rw [e]; decide
    · have hl : (f.data.data.toList.map UInt8.toNat).length = f.data.size := by rw [List.length_map]; rfl
      have := fit_bytes (f.data.data.toList.map UInt8.toNat) (bytes_lt f.data)
      rw [hl, ← dataInts_eq] at this
      simp only [valsFit, this, Bool.and_true, Bool.and_eq_true, decide_eq_true_eq]
      refine ⟨⟨by omega, ?_⟩, ⟨by omega, ?_⟩⟩
      · show f.kind.toNat < 4; omega
      · show ((f.data.size : Int)).toNat < 8; omega
theorem getN_one (x a : Nat) : getN x a 1 = 0 ∨ getN x a 1 = 1 := by have := getN_lt x a 1; omega
theorem b2n_one (b : Bool) (n : Nat) (h : ((n : Nat) : Int) = b2n b) : decide (n = 1) = b := by
  unfold b2n at h; cases b <;> simp at h ⊢ <;> omega
theorem empty_of_size {d : ByteArray} (h : d.size = 0) : d = ByteArray.empty := by
  cases d with | mk a => congr; exact Array.eq_empty_of_size_eq_zero h
/-- What is written is read as it was. -/
theorem look_write {f : Fl} (h : rightF f = true) : lookF (wordF f) = f := by
  obtain ⟨hf, hv⟩ := fits_F h
  obtain ⟨y, hy, hy2, hu⟩ := pack_ok hf hv
  have hw : wordF f = sealN y := by unfold wordF; rw [hy]; simp
  rw [hw]
  unfold rightF at h
  unfold sizesF valsF at hu
  unfold lookF
  by_cases hk : f.kind = 1
  · rw [if_pos hk] at h
    rw [if_pos hk, if_pos hk] at hu
    simp only [headOk, decide_eq_true_eq] at h
    simp only [headSizes, unpackFrom, List.cons.injEq, and_true] at hu
    obtain ⟨u0, u1, u2, u3, u4, u5, u6⟩ := hu
    have r0 : getN y 0 2 = 1 := by have : ((getN y 0 2 : Nat) : Int) = f.kind := u0; omega
    rw [if_pos (by rw [getN_seal (by omega)]; exact r0)]
    unfold headF
    rw [getN_seal (by omega), getN_seal (by omega), getN_seal (by omega), getN_seal (by omega), getN_seal (by omega), getN_seal (by omega)]
    apply Fl.ext'
    · exact hk.symm
    · exact u1
    · exact u2
    · exact u3
    · exact u4
    · exact b2n_one _ _ u5
    · exact b2n_one _ _ u6
    · exact (empty_of_size h.1).symm
  · rw [if_neg hk] at h
    rw [if_neg hk, if_neg hk] at hu
    rw [Bool.and_eq_true] at h
    obtain ⟨h1, h2⟩ := h
    simp only [sizeOk, decide_eq_true_eq] at h2
    simp only [bareOk, decide_eq_true_eq] at h1
    obtain ⟨b1, b2, b3, b4, b5, b6⟩ := h1
    have hs : f.data.size ≤ 6 := by omega
    simp only [unpackFrom, List.cons.injEq] at hu
    obtain ⟨u0, u1, u2⟩ := hu
    have r0 : ((getN y 0 2 : Nat) : Int) = f.kind := u0
    have r1 : getN y 2 3 = f.data.size := by have : ((getN y 2 3 : Nat) : Int) = (f.data.size : Int) := u1; omega
    have u2' : unpackFrom y ((5 : Nat) : Int) (List.replicate f.data.size 8) = dataInts f.data := u2
    rw [unpack_rep] at u2'
    rw [if_neg (by rw [getN_seal (by omega)]; omega)]
    unfold dataF manyN
    rw [getN_seal (by omega), getN_seal (by omega), r1]
    apply Fl.ext'
    · exact r0
    · exact b1.symm
    · exact b2.symm
    · exact b3.symm
    · exact b4.symm
    · exact b5.symm
    · exact b6.symm
    · show bytesOf _ = f.data
      rw [show min f.data.size 6 = f.data.size from by omega]
      have e1 : (List.range f.data.size).map (fun i => getN (sealN y) (5 + 8 * i) 8) = (List.range f.data.size).map (fun i => getN y (5 + 8 * i) 8) := by
        apply List.map_congr_left
        intro i hi
        rw [List.mem_range] at hi
        exact getN_seal (by omega)
      rw [e1]
      have e2 : (List.range f.data.size).map (fun i => getN y (5 + 8 * i) 8) = f.data.data.toList.map UInt8.toNat := by
        rw [dataInts_eq] at u2'
        have := congrArg (List.map Int.toNat) u2'
        rw [List.map_map, List.map_map, List.map_map] at this
        simpa [Function.comp_def] using this
      rw [e2]
      unfold bytesOf
      rw [List.map_map]
      have e3 : f.data.data.toList.map (UInt8.ofNat ∘ UInt8.toNat) = f.data.data.toList := by
        conv => rhs; rw [← List.map_id f.data.data.toList]
        apply List.map_congr_left
        intro c _
        simp
      rw [e3]
theorem right_word (f : Fl) : rightB (wordF f) = true := by
  unfold wordF rightB; rw [top_seal, check_seal]; simp
theorem wordF_lt (f : Fl) : wordF f < 2 ^ 64 := sealN_lt _
theorem read_write {f : Fl} (h : rightF f = true) : readF (wordF f) = (f, 0) := by
  have hw : writeF f = ((wordF f : Int), 0) := by unfold writeF; rw [if_pos h]
  unfold readF
  rw [look_write h, if_pos (right_word f), if_pos hw]
theorem write_inj {f g : Fl} (hf : rightF f = true) (hg : rightF g = true) (h : wordF f = wordF g) : f = g := by
  rw [← look_write hf, ← look_write hg, h]
theorem pack_zero {f : Fl} (h : rightF f = true) : (packR (sizesF f) (valsF f)).2 = 0 ∧ 0 ≤ (packR (sizesF f) (valsF f)).1 ∧ (packR (sizesF f) (valsF f)).1 < 18446744073709551616 := by
  obtain ⟨hf, hv⟩ := fits_F h
  obtain ⟨y, hy, hy2, _⟩ := pack_ok hf hv
  rw [hy]
  exact ⟨rfl, by simp, by simp; omega⟩
end Go.Proofs.Ytpklblaenfhncaa
