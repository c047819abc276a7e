/- An op of a lane's script, by value, opened to what it is. -/
import Derived.Test.YtpklblaenfhncaaLift
import Derived.Deep.Slices
import Derived.Deep.Strs
import Derived.ChangeMaps5
namespace Go.Proofs.Ytpklblaenfhncaa
set_option linter.unusedVariables false
open Go.ChangeShapes Go.WideShapes Go.RowKit
section
variable {H : Type} {enc : TypeId × Value → H} {P : Program} {W : World} {base : Nat} {spare : Nat → Bool} {held : Bool}
theorem open_op14 {t : TypeId} {v : Value} {d : DataW H} {ps : List MemPlace} {r : Reach} {b0 : Nat} {fs : Array Field}
    (he : P.underlying t = some (.struct fs)) (hc : P.cellsOf t = 4) (hsz : fs.size = 4)
    (hfo : ∀ i, i < 4 → ∃ f, fs[i]? = some f ∧ f.offset = i ∧ P.cellsOf f.type = 1 ∧ P.underlying f.type = some (if i < 3 then .int .i64 else .int .u64))
    (hv : Value.okWide P W r b0 t v) (h : DataW.Trod enc P W base spare held t v d ps) :
    ∃ k l m x : Int, v = .agg #[.int .i64 k, .int .i64 l, .int .i64 m, .int .u64 x] := by
  unfold Value.okWide at hv
  rw [he] at hv
  obtain ⟨cs, rfl, hcs, hok⟩ := hv
  rw [hc] at hcs
  obtain ⟨fuel, hf⟩ := h
  obtain ⟨xs, n, _, _, hl, hlen, hat⟩ := DataW.trod_struct he hf
  obtain ⟨l⟩ := cs
  have hl8 : l.length = 4 := by simpa using hcs
  have fld : ∀ i, i < 4 → ∃ (f : Field) (z : Value) (y : DataW H × List MemPlace), l[i]? = some z ∧ P.underlying f.type = some (if i < 3 then .int .i64 else .int .u64) ∧ DataW.trod enc P W base spare held n f.type [z] = some y := by
    intro i hi
    obtain ⟨f, hf1, hf2, hf3, hf4⟩ := hfo i hi
    have h1 := hat i f hf1
    rw [hf2, hf3] at h1
    have hx : i < xs.length := by omega
    rw [List.getElem?_eq_getElem hx] at h1
    have e1 : (((Value.agg ⟨l⟩).cells.toList).drop i).take 1 = [l[i]'(by omega)] := by
      show (l.drop i).take 1 = _
      rw [List.drop_eq_getElem_cons (by omega)]; rfl
    rw [e1] at h1
    exact ⟨f, _, _, List.getElem?_eq_getElem (by omega), hf4, h1⟩
  match l, hl8 with
  | [z0, z1, z2, z3], _ =>
    obtain ⟨f0, _, _, q0, u0, t0⟩ := fld 0 (by omega)
    obtain ⟨f1, _, _, q1, u1, t1⟩ := fld 1 (by omega)
    obtain ⟨f2, _, _, q2, u2, t2⟩ := fld 2 (by omega)
    obtain ⟨f3, _, _, q3, u3, t3⟩ := fld 3 (by omega)
    obtain ⟨k0, e0, _, _⟩ := DataW.trod_int u0 t0
    obtain ⟨k1, e1, _, _⟩ := DataW.trod_int u1 t1
    obtain ⟨k2, e2, _, _⟩ := DataW.trod_int u2 t2
    obtain ⟨k3, e3, _, _⟩ := DataW.trod_int u3 t3
    simp at q0 q1 q2 q3 e0 e1 e2 e3
    subst q0 q1 q2 q3 e0 e1 e2 e3
    exact ⟨k0, k1, k2, k3, rfl⟩
end
end Go.Proofs.Ytpklblaenfhncaa
