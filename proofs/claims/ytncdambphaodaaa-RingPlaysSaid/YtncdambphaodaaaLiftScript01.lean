/- A ring law's script as data, opened to what it is in memory. -/
import Derived.Test.YtncdambphaodaaaScript01
import Derived.Test.YtncdambphaodaaaLift
import Derived.Deep.Slices
import Derived.Deep.Strs
namespace Go.Proofs.Ytncdambphaodaaa
set_option linter.unusedVariables false
open Go.ChangeShapes Go.WideShapes Go.RowKit
section
variable {H : Type} {enc : TypeId × Value → H} {P : Program} {W : World} {base : Nat} {spare : Nat → Bool} {held : Bool}
theorem open_script {t e tl : TypeId} {n0 n1 n2 : Field} {v : Value} {d : DataW H} {ps : List MemPlace} {r : Reach} {b0 : Nat}
    (hu : P.underlying t = some (.slice e)) (he : P.underlying e = some (.struct #[n0, n1, n2])) (hc : P.cellsOf e = 3)
    (o0 : n0.offset = 0) (o1 : n1.offset = 1) (o2 : n2.offset = 2) (c0 : P.cellsOf n0.type = 1) (c1 : P.cellsOf n1.type = 1) (c2 : P.cellsOf n2.type = 1)
    (u0 : P.underlying n0.type = some (.int .i64)) (u1 : P.underlying n1.type = some (.int .i64)) (u2 : P.underlying n2.type = some (.slice tl)) (ul : P.underlying tl = some (.int .i64)) (cl : P.cellsOf tl = 1)
    (hv : Value.okWide P W r b0 t v) (h : DataW.Trod enc P W base spare held t v d ps) :
    ∃ (a : Option Addr) (l : List Op01) (cap : Nat), v = .slice a l.length cap ∧ l.length ≤ cap ∧ cap ≤ maxLen ∧ ScriptAt W a l := by
  obtain ⟨a, len, cap, rfl⟩ := okWide_slice hu hv
  obtain ⟨fuel, hf⟩ := h
  rcases Go.Deep.open_slice hu hf with ⟨hcs, _⟩ | ⟨x, l, c, m, n, D, Pl, hcs, _, hl, hm, hmm, hx, hcell⟩
  · simp [Value.cells] at hcs
    obtain ⟨rfl, rfl, rfl⟩ := hcs
    exact ⟨none, [], 0, rfl, Nat.le_refl _, by decide, fun i hi => absurd hi (by simp)⟩
  · simp [Value.cells] at hcs
    obtain ⟨rfl, rfl, rfl⟩ := hcs
    have hlm : len ≤ m := by rw [hmm]; split; exact hl; exact Nat.le_refl _
    have key : ∀ i, i < len → ∃ o : Op01, W.cell? (x.add (i * 3)) = some (.int .i64 o.k) ∧ W.cell? ((x.add (i * 3)).add 1) = some (.int .i64 o.v) ∧ W.cell? ((x.add (i * 3)).add 2) = some (.slice o.la o.ll.length o.lc) ∧ IntsAt .i64 W o.la o.ll ∧ o.ll.length ≤ o.lc ∧ o.lc ≤ maxLen := by
      intro i hi
      obtain ⟨cs', h1, h2⟩ := hcell i (by omega)
      rw [hc] at h1
      obtain ⟨_, hlen, hat⟩ := World.cells?_some h1
      obtain ⟨y0, y1, y2, m', _, _, t0, t1, t2⟩ := Go.Deep.trod_struct3 he h2
      match cs', hlen with
      | [z0, z1, z2], _ =>
        rw [o0, c0] at t0
        rw [o1, c1] at t1
        rw [o2, c2] at t2
        obtain ⟨k, hk, _, _⟩ := DataW.trod_int u0 t0
        obtain ⟨vv, hvv, _, _⟩ := DataW.trod_int u1 t1
        simp at hk hvv
        subst hk hvv
        have e0 := hat 0 (by omega)
        have e1 := hat 1 (by omega)
        have e2 := hat 2 (by omega)
        simp [Addr.add] at e0
        rcases open_ints u2 ul cl t2 with ⟨hz, _⟩ | ⟨la, ll, lc, zs, hz, _, hll, hlc, hzl, _, hzc, hzw⟩
        · simp at hz
          subst hz
          exact ⟨⟨k, vv, none, [], 0⟩, by simpa [Addr.add] using e0, by simpa using e1, by simpa using e2, fun i hi => absurd hi (by simp), Nat.le_refl _, by simp⟩
        · simp at hz
          subst hz
          have hll2 : ll ≤ zs.length := by rw [hzl]; split; exact hll; exact Nat.le_refl _
          have htl : (zs.take ll).length = ll := by rw [List.length_take]; omega
          refine ⟨⟨k, vv, some la, zs.take ll, lc⟩, by simpa [Addr.add] using e0, by simpa using e1, by simpa [htl] using e2, ?_, by show (zs.take ll).length ≤ lc; omega, hlc⟩
          intro i hi
          rw [htl] at hi
          obtain ⟨b, off, rfl, hcc⟩ := ints_at hzc (by omega)
          refine ⟨b, off, rfl, ?_⟩
          rw [List.getD_eq_getElem?_getD, List.getElem?_take, if_pos hi, ← List.getD_eq_getElem?_getD]
          exact hcc i (by omega)
    haveI : Inhabited Op01 := ⟨⟨0, 0, none, [], 0⟩⟩
    obtain ⟨f, hfun⟩ := Go.Deep.choose_lt key
    have hlen : ((List.range len).map f).length = len := by simp
    refine ⟨some x, (List.range len).map f, cap, by rw [hlen], by rw [hlen]; exact hl, hm, ?_⟩
    intro i hi
    rw [hlen] at hi
    obtain ⟨q0, q1, q2, q3, q4, q5⟩ := hfun i hi
    have hsp : x.spot = none := by
      have := hfun 0 (by omega)
      simpa [Addr.add] using World.cell?_spot this.1
    obtain ⟨b, off, spot⟩ := x
    simp only at hsp
    subst hsp
    simp only [Go.WideShapes.add_plain] at q0 q1 q2
    exact ⟨b, off, f i, by simp [hi], rfl, q0, q1, q2, q3, q4, q5⟩
theorem open_op {t tl : TypeId} {n0 n1 n2 : Field} {v : Value} {d : DataW H} {ps : List MemPlace} {r : Reach} {b0 : Nat}
    (he : P.underlying t = some (.struct #[n0, n1, n2])) (hc : P.cellsOf t = 3)
    (o0 : n0.offset = 0) (o1 : n1.offset = 1) (o2 : n2.offset = 2) (c0 : P.cellsOf n0.type = 1) (c1 : P.cellsOf n1.type = 1) (c2 : P.cellsOf n2.type = 1)
    (u0 : P.underlying n0.type = some (.int .i64)) (u1 : P.underlying n1.type = some (.int .i64)) (u2 : P.underlying n2.type = some (.slice tl)) (ul : P.underlying tl = some (.int .i64)) (cl : P.cellsOf tl = 1)
    (hv : Value.okWide P W r b0 t v) (h : DataW.Trod enc P W base spare held t v d ps) :
    ∃ o : Op01, v = .agg #[.int .i64 o.k, .int .i64 o.v, .slice o.la o.ll.length o.lc] ∧ IntsAt .i64 W o.la o.ll ∧ o.ll.length ≤ o.lc ∧ o.lc ≤ maxLen := by
  unfold Value.okWide at hv
  rw [he] at hv
  obtain ⟨cs, rfl, hsz, _⟩ := hv
  rw [hc] at hsz
  obtain ⟨fuel, hf⟩ := h
  obtain ⟨y0, y1, y2, m', _, _, t0, t1, t2⟩ := Go.Deep.trod_struct3 he hf
  obtain ⟨l⟩ := cs
  match l, hsz with
  | [z0, z1, z2], _ =>
    rw [o0, c0] at t0
    rw [o1, c1] at t1
    rw [o2, c2] at t2
    obtain ⟨k, hk, _, _⟩ := DataW.trod_int u0 t0
    obtain ⟨vv, hvv, _, _⟩ := DataW.trod_int u1 t1
    simp [Value.cells] at hk hvv
    subst hk hvv
    rcases open_ints u2 ul cl t2 with ⟨hz, _⟩ | ⟨la, ll, lc, zs, hz, _, hll, hlc, hzl, _, hzc, hzw⟩
    · simp [Value.cells] at hz
      subst hz
      exact ⟨⟨k, vv, none, [], 0⟩, rfl, fun i hi => absurd hi (by simp), Nat.le_refl _, by simp⟩
    · simp [Value.cells] at hz
      subst hz
      have hll2 : ll ≤ zs.length := by rw [hzl]; split; exact hll; exact Nat.le_refl _
      have htl : (zs.take ll).length = ll := by rw [List.length_take]; omega
      refine ⟨⟨k, vv, some la, zs.take ll, lc⟩, by simp [htl], ?_, by show (zs.take ll).length ≤ lc; omega, hlc⟩
      intro i hi
      rw [htl] at hi
      obtain ⟨b, off, rfl, hcc⟩ := ints_at hzc (by omega)
      refine ⟨b, off, rfl, ?_⟩
      rw [List.getD_eq_getElem?_getD, List.getElem?_take, if_pos hi, ← List.getD_eq_getElem?_getD]
      exact hcc i (by omega)
end
end Go.Proofs.Ytncdambphaodaaa
