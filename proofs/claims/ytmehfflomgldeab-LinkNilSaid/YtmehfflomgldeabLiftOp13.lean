/- An op of a link's script, by value, opened to what it is. -/
import Derived.Test.YtmehfflomgldeabLift
import Derived.Deep.Slices
import Derived.Deep.Strs
import Derived.ChangeMaps5
namespace Go.Proofs.Ytmehfflomgldeab
set_option linter.unusedVariables false
open Go.ChangeShapes Go.WideShapes Go.RowKit
section
variable {H : Type} {enc : TypeId × Value → H} {P : Program} {W : World} {base : Nat} {spare : Nat → Bool} {held : Bool}
theorem open_op13 {t : TypeId} {v : Value} {d : DataW H} {ps : List MemPlace} {r : Reach} {b0 : Nat} {fs : Array Field}
    (he : P.underlying t = some (.struct fs)) (hc : P.cellsOf t = 3) (hsz : fs.size = 3)
    (hfo : ∀ i, i < 3 → ∃ f, fs[i]? = some f ∧ f.offset = i ∧ P.cellsOf f.type = 1 ∧ P.underlying f.type = some (if i < 2 then .int .i64 else .int .u64))
    (hv : Value.okWide P W r b0 t v) (h : DataW.Trod enc P W base spare held t v d ps) :
    ∃ k l x : Int, v = .agg #[.int .i64 k, .int .i64 l, .int .u64 x] := by
  unfold Value.okWide at hv
  rw [he] at hv
  obtain ⟨cs, rfl, hcs, hok⟩ := hv
  rw [hc] at hcs
  obtain ⟨fuel, hf⟩ := h
  obtain ⟨xs, n, _, _, hl, hlen, hat⟩ := DataW.trod_struct he hf
  obtain ⟨l⟩ := cs
  have hl8 : l.length = 3 := by simpa using hcs
  have fld : ∀ i, i < 3 → ∃ (f : Field) (z : Value) (y : DataW H × List MemPlace), l[i]? = some z ∧ P.underlying f.type = some (if i < 2 then .int .i64 else .int .u64) ∧ DataW.trod enc P W base spare held n f.type [z] = some y := by
    intro i hi
    obtain ⟨f, hf1, hf2, hf3, hf4⟩ := hfo i hi
    have h1 := hat i f hf1
    rw [hf2, hf3] at h1
    have hx : i < xs.length := by omega
    rw [List.getElem?_eq_getElem hx] at h1
    have e1 : (((Value.agg ⟨l⟩).cells.toList).drop i).take 1 = [l[i]'(by omega)] := by
      show (l.drop i).take 1 = _
      rw [List.drop_eq_getElem_cons (by omega)]; rfl
    rw [e1] at h1
    exact ⟨f, _, _, List.getElem?_eq_getElem (by omega), hf4, h1⟩
  match l, hl8 with
  | [z0, z1, z2], _ =>
    obtain ⟨f0, _, _, q0, u0, t0⟩ := fld 0 (by omega)
    obtain ⟨f1, _, _, q1, u1, t1⟩ := fld 1 (by omega)
    obtain ⟨f2, _, _, q2, u2, t2⟩ := fld 2 (by omega)
    obtain ⟨k0, e0, _, _⟩ := DataW.trod_int u0 t0
    obtain ⟨k1, e1, _, _⟩ := DataW.trod_int u1 t1
    obtain ⟨k2, e2, _, _⟩ := DataW.trod_int u2 t2
    simp at q0 q1 q2 e0 e1 e2
    subst q0 q1 q2 e0 e1 e2
    exact ⟨k0, k1, k2, rfl⟩
end
end Go.Proofs.Ytmehfflomgldeab
