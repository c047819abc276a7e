/- A flit that comes in by value, opened to what it is. -/
import Derived.Test.YtncdambphaodaabFlitEq
import Derived.Test.YtncdambphaodaabLift
import Derived.Deep.Slices
import Derived.Deep.Strs
import Derived.ChangeMaps5
namespace Go.Proofs.Ytncdambphaodaab
set_option linter.unusedVariables false
open Go.ChangeShapes Go.WideShapes Go.RowKit
section
variable {H : Type} {enc : TypeId × Value → H} {P : Program} {W : World} {base : Nat} {spare : Nat → Bool} {held : Bool}
theorem open_fl {t : TypeId} {v : Value} {d : DataW H} {ps : List MemPlace} {r : Reach} {b0 : Nat} {fs : Array Field}
    (he : P.underlying t = some (.struct fs)) (hc : P.cellsOf t = 8) (hsz : fs.size = 8)
    (hfo : ∀ i, i < 8 → ∃ f, fs[i]? = some f ∧ f.offset = i ∧ P.cellsOf f.type = 1 ∧ P.underlying f.type = some (if i < 5 then .int .i64 else if i < 7 then .bool else .string))
    (hv : Value.okWide P W r b0 t v) (h : DataW.Trod enc P W base spare held t v d ps) :
    ∃ f : Fl, v = f.val ∧ f.data.size ≤ maxLen := by
  unfold Value.okWide at hv
  rw [he] at hv
  obtain ⟨cs, rfl, hcs, hok⟩ := hv
  rw [hc] at hcs
  obtain ⟨fuel, hf⟩ := h
  obtain ⟨xs, n, _, _, hl, hlen, hat⟩ := DataW.trod_struct he hf
  obtain ⟨l⟩ := cs
  have hl8 : l.length = 8 := by simpa using hcs
  have fld : ∀ i, i < 8 → ∃ (f : Field) (z : Value) (y : DataW H × List MemPlace), l[i]? = some z ∧ P.underlying f.type = some (if i < 5 then .int .i64 else if i < 7 then .bool else .string) ∧ DataW.trod enc P W base spare held n f.type [z] = some y := by
    intro i hi
    obtain ⟨f, hf1, hf2, hf3, hf4⟩ := hfo i hi
    have h1 := hat i f hf1
    rw [hf2, hf3] at h1
    have hx : i < xs.length := by omega
    rw [List.getElem?_eq_getElem hx] at h1
    have e1 : (((Value.agg ⟨l⟩).cells.toList).drop i).take 1 = [l[i]'(by omega)] := by
      show (l.drop i).take 1 = _
      rw [List.drop_eq_getElem_cons (by omega)]; rfl
    rw [e1] at h1
    exact ⟨f, _, _, List.getElem?_eq_getElem (by omega), hf4, h1⟩
  match l, hl8 with
  | [z0, z1, z2, z3, z4, z5, z6, z7], _ =>
    obtain ⟨f0, _, _, q0, u0, t0⟩ := fld 0 (by omega)
    obtain ⟨f1, _, _, q1, u1, t1⟩ := fld 1 (by omega)
    obtain ⟨f2, _, _, q2, u2, t2⟩ := fld 2 (by omega)
    obtain ⟨f3, _, _, q3, u3, t3⟩ := fld 3 (by omega)
    obtain ⟨f4, _, _, q4, u4, t4⟩ := fld 4 (by omega)
    obtain ⟨f5, _, _, q5, u5, t5⟩ := fld 5 (by omega)
    obtain ⟨f6, _, _, q6, u6, t6⟩ := fld 6 (by omega)
    obtain ⟨f7, _, _, q7, u7, t7⟩ := fld 7 (by omega)
    obtain ⟨k0, e0, _, _⟩ := DataW.trod_int u0 t0
    obtain ⟨k1, e1, _, _⟩ := DataW.trod_int u1 t1
    obtain ⟨k2, e2, _, _⟩ := DataW.trod_int u2 t2
    obtain ⟨k3, e3, _, _⟩ := DataW.trod_int u3 t3
    obtain ⟨k4, e4, _, _⟩ := DataW.trod_int u4 t4
    obtain ⟨k5, e5, _⟩ := DataW.trod_bool u5 t5
    obtain ⟨k6, e6, _⟩ := DataW.trod_bool u6 t6
    obtain ⟨k7, e7, _, hs⟩ := DataW.trod_string u7 t7
    simp at q0 q1 q2 q3 q4 q5 q6 q7 e0 e1 e2 e3 e4 e5 e6 e7
    subst q0 q1 q2 q3 q4 q5 q6 q7 e0 e1 e2 e3 e4 e5 e6 e7
    exact ⟨⟨k0, k1, k2, k3, k4, k5, k6, k7⟩, rfl, hs⟩
end
end Go.Proofs.Ytncdambphaodaab
