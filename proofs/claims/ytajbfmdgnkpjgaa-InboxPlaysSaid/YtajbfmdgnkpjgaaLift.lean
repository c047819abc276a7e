/- From what a law's arguments are as data to what they are in memory. -/
import Derived.Test.YtajbfmdgnkpjgaaKit
import Derived.SizedLaws
import Derived.ChangeSlices
import Derived.ProofKit
import Derived.OpenShut
import Derived.ChangeOld
namespace Go.Proofs.Ytajbfmdgnkpjgaa
set_option linter.unusedVariables false
open Go.ChangeShapes Go.WideShapes Go.RowKit
section
variable {H : Type} {enc : TypeId × Value → H} {P : Program} {W : World} {base : Nat} {spare : Nat → Bool} {held : Bool}

/-- A slice of whole numbers that came in. -/
theorem open_row {t e : TypeId} {k : IntKind} {v : Value} {d : DataW H} {ps : List MemPlace} {ts : List TypeId} {ds : List (DataW H)} {j : Nat} {r : Reach} {b0 : Nat}
    (hsz : (DataW.weightsEach P ts ds).all (· ≤ reachBytes) = true) (ht : ts[j]? = some t) (hd : ds[j]? = some d) (hu : P.underlying t = some (.slice e)) (he : P.underlying e = some (.int k)) (hc : P.cellsOf e = 1) {B : Nat} (hB : P.bytesOf e = B)
    (hv : Value.okWide P W r b0 t v) (h : DataW.Trod enc P W base spare held t v d ps) :
    ∃ a l cap, v = .slice a l.length cap ∧ l.length ≤ cap ∧ IntsAt k W a l ∧ (∀ n ∈ l, (Lit.int k n).wf = true) ∧ l.length * B ≤ 140737488351232 := by
  obtain ⟨a, len, cap, rfl⟩ := okWide_slice hu hv
  obtain ⟨fuel, hf⟩ := h
  rcases open_ints hu he hc hf with ⟨hcs, _⟩ | ⟨x, l, c, zs, hcs, _, hl, _, hz, hx, hcell, hw⟩
  · simp [Value.cells] at hcs
    obtain ⟨rfl, rfl, rfl⟩ := hcs
    exact ⟨none, [], 0, rfl, Nat.le_refl _, fun i hi => absurd hi (by simp), by simp, by simp⟩
  · simp [Value.cells] at hcs
    obtain ⟨rfl, rfl, rfl⟩ := hcs
    obtain ⟨hx, _⟩ := Prod.mk.inj hx
    subst hx
    have z := sized_slice hsz ht hd hu
    rw [hB] at z
    have hl2 : len ≤ zs.length := by
      rw [hz]; split
      · exact hl
      · exact Nat.le_refl _
    have h1 : (lits (H := H) k (zs.take len)).length + (lits (H := H) k (zs.drop len)).length = zs.length := by
      simp [lits]; omega
    rw [h1] at z
    have hlen : (zs.take len).length = len := by rw [List.length_take]; omega
    refine ⟨some x, zs.take len, cap, by rw [hlen], by omega, ?_, fun n hn => hw n (List.mem_of_mem_take hn), by rw [hlen]; exact Nat.le_trans (Nat.mul_le_mul_right _ hl2) z⟩
    intro i hi
    rw [hlen] at hi
    obtain ⟨b, off, rfl, hcc⟩ := ints_at hcell (by omega)
    refine ⟨b, off, rfl, ?_⟩
    rw [List.getD_eq_getElem?_getD, List.getElem?_take, if_pos hi, ← List.getD_eq_getElem?_getD]
    exact hcc i (by omega)

/-- An array of whole numbers, by value. -/
theorem open_arr {t e : TypeId} {k : IntKind} {n : Nat} {v : Value} {d : DataW H} {ps : List MemPlace} {r : Reach} {b0 : Nat} (hu : P.underlying t = some (.array n e)) (he : P.underlying e = some (.int k)) (hc : P.cellsOf e = 1) (hct : P.cellsOf t = n)
    (hv : Value.okWide P W r b0 t v) (h : DataW.Trod enc P W base spare held t v d ps) :
    ∃ l : List Int, v = .agg (l.map (Value.int k)).toArray ∧ l.length = n ∧ ∀ x ∈ l, (Lit.int k x).wf = true := by
  unfold Value.okWide at hv
  rw [hu] at hv
  obtain ⟨cs, rfl, hsz, _⟩ := hv
  obtain ⟨fuel, hf⟩ := h
  obtain ⟨xs, m, _, _, hlen, hxl, hi⟩ := DataW.trod_array hu hf
  rw [hc] at hi
  have key : ∀ i, (hlt : i < n) → ∃ z, cs.toList[i]? = some (.int k z) ∧ (Lit.int k z).wf = true := by
    intro i hlt
    have h1 := hi i hlt
    rw [List.getElem?_eq_getElem (by omega)] at h1
    have hcl : cs.toList.length = n := by rw [Array.length_toList, hsz, hct]
    have e1 : (((Value.agg cs).cells.toList).drop (i * 1)).take 1 = [cs.toList[i]'(by omega)] := by
      simp only [Value.cells, Nat.mul_one]
      rw [List.drop_eq_getElem_cons (by omega)]; rfl
    rw [e1] at h1
    obtain ⟨z, hz, _, hw⟩ := DataW.trod_int he h1
    simp at hz
    exact ⟨z, by rw [List.getElem?_eq_getElem (by omega), Array.getElem_toList, hz], hw⟩
  have ex : ∀ (c : List Value) , (∀ i, i < c.length → ∃ z, c[i]? = some (.int k z) ∧ (Lit.int k z).wf = true) → ∃ l : List Int, c = l.map (Value.int k) ∧ ∀ x ∈ l, (Lit.int k x).wf = true := by
    intro c
    induction c with
    | nil => intro _; exact ⟨[], rfl, by simp⟩
    | cons y c ih =>
      intro hh
      obtain ⟨z, hz, hw⟩ := hh 0 (by simp)
      simp at hz
      obtain ⟨l, hl, hwl⟩ := ih (fun i hi => by have := hh (i + 1) (by simpa using hi); simpa using this)
      exact ⟨z :: l, by rw [hz, hl]; rfl, by intro x hx; rcases List.mem_cons.1 hx with rfl | hx; exact hw; exact hwl x hx⟩
  have hcl : cs.toList.length = n := by rw [Array.length_toList, hsz, hct]
  obtain ⟨l, hl, hw⟩ := ex cs.toList (fun i hi => key i (by omega))
  refine ⟨l, ?_, by rw [← hcl, hl, List.length_map], hw⟩
  congr 1
  apply Array.ext'
  rw [hl]
theorem open_arr2 {t e : TypeId} {k : IntKind} {v : Value} {d : DataW H} {ps : List MemPlace} {r : Reach} {b0 : Nat} (hu : P.underlying t = some (.array 2 e)) (he : P.underlying e = some (.int k)) (hc : P.cellsOf e = 1) (hct : P.cellsOf t = 2)
    (hv : Value.okWide P W r b0 t v) (h : DataW.Trod enc P W base spare held t v d ps) : ∃ a b : Int, v = .agg #[.int k a, .int k b] ∧ (Lit.int k a).wf = true ∧ (Lit.int k b).wf = true := by
  obtain ⟨l, rfl, hl, hw⟩ := open_arr hu he hc hct hv h
  match l, hl with
  | [a, b], _ => exact ⟨a, b, rfl, hw a (by simp), hw b (by simp)⟩
theorem open_arr4 {t e : TypeId} {k : IntKind} {v : Value} {d : DataW H} {ps : List MemPlace} {r : Reach} {b0 : Nat} (hu : P.underlying t = some (.array 4 e)) (he : P.underlying e = some (.int k)) (hc : P.cellsOf e = 1) (hct : P.cellsOf t = 4)
    (hv : Value.okWide P W r b0 t v) (h : DataW.Trod enc P W base spare held t v d ps) : ∃ a b c f : Int, v = .agg #[.int k a, .int k b, .int k c, .int k f] ∧ (Lit.int k a).wf = true ∧ (Lit.int k b).wf = true ∧ (Lit.int k c).wf = true ∧ (Lit.int k f).wf = true := by
  obtain ⟨l, rfl, hl, hw⟩ := open_arr hu he hc hct hv h
  match l, hl with
  | [a, b, c, f], _ => exact ⟨a, b, c, f, rfl, hw a (by simp), hw b (by simp), hw c (by simp), hw f (by simp)⟩
end
theorem wf_u64 {x : Int} (h : (Lit.int .u64 x).wf = true) : 0 ≤ x ∧ x < 18446744073709551616 := by have := bounds_u64 h; omega
theorem wf_u32 {x : Int} (h : (Lit.int .u32 x).wf = true) : 0 ≤ x ∧ x < 4294967296 := by have := bounds_u32 h; omega
theorem wf_u8 {x : Int} (h : (Lit.int .u8 x).wf = true) : 0 ≤ x ∧ x < 256 := by have := bounds_u8 h; omega
theorem wf_i64 {x : Int} (h : (Lit.int .i64 x).wf = true) : -9223372036854775808 ≤ x ∧ x ≤ 9223372036854775807 := by have := bounds_i64 h; omega
end Go.Proofs.Ytajbfmdgnkpjgaa
