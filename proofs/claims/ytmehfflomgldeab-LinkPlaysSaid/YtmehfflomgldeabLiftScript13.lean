/- A link law's script as data, opened to what it is in memory. -/
import Derived.Test.YtmehfflomgldeabScript13
import Derived.Test.YtmehfflomgldeabLift
import Derived.Deep.Slices
import Derived.Deep.Strs
namespace Go.Proofs.Ytmehfflomgldeab
set_option linter.unusedVariables false
open Go.ChangeShapes Go.WideShapes Go.RowKit
section
variable {H : Type} {enc : TypeId × Value → H} {P : Program} {W : World} {base : Nat} {spare : Nat → Bool} {held : Bool}
theorem open_script13 {t e : TypeId} {n0 n1 n2 : Field} {v : Value} {d : DataW H} {ps : List MemPlace} {r : Reach} {b0 : Nat}
    (hu : P.underlying t = some (.slice e)) (he : P.underlying e = some (.struct #[n0, n1, n2])) (hc : P.cellsOf e = 3)
    (o0 : n0.offset = 0) (o1 : n1.offset = 1) (o2 : n2.offset = 2) (c0 : P.cellsOf n0.type = 1) (c1 : P.cellsOf n1.type = 1) (c2 : P.cellsOf n2.type = 1)
    (u0 : P.underlying n0.type = some (.int .i64)) (u1 : P.underlying n1.type = some (.int .i64)) (u2 : P.underlying n2.type = some (.int .u64))
    (hv : Value.okWide P W r b0 t v) (h : DataW.Trod enc P W base spare held t v d ps) :
    ∃ (a : Option Addr) (l : List O13) (cap : Nat), v = .slice a l.length cap ∧ l.length ≤ cap ∧ cap ≤ maxLen ∧ Script13 W a l := by
  obtain ⟨a, len, cap, rfl⟩ := okWide_slice hu hv
  obtain ⟨fuel, hf⟩ := h
  rcases Go.Deep.open_slice hu hf with ⟨hcs, _⟩ | ⟨x, l, c, m, n, D, Pl, hcs, _, hl, hm, hmm, hx, hcell⟩
  · simp [Value.cells] at hcs
    obtain ⟨rfl, rfl, rfl⟩ := hcs
    exact ⟨none, [], 0, rfl, Nat.le_refl _, by decide, fun i hi => absurd hi (by simp)⟩
  · simp [Value.cells] at hcs
    obtain ⟨rfl, rfl, rfl⟩ := hcs
    have hlm : len ≤ m := by rw [hmm]; split; exact hl; exact Nat.le_refl _
    have key : ∀ i, i < len → ∃ o : O13, W.cell? (x.add (i * 3)) = some (.int .i64 o.k) ∧ W.cell? ((x.add (i * 3)).add 1) = some (.int .i64 o.l) ∧ W.cell? ((x.add (i * 3)).add 2) = some (.int .u64 o.x) := by
      intro i hi
      obtain ⟨cs', h1, h2⟩ := hcell i (by omega)
      rw [hc] at h1
      obtain ⟨_, hlen, hat⟩ := World.cells?_some h1
      obtain ⟨y0, y1, y2, m', _, _, t0, t1, t2⟩ := Go.Deep.trod_struct3 he h2
      match cs', hlen with
      | [z0, z1, z2], _ =>
        rw [o0, c0] at t0
        rw [o1, c1] at t1
        rw [o2, c2] at t2
        obtain ⟨k, hk, _, _⟩ := DataW.trod_int u0 t0
        obtain ⟨vv, hvv, _, _⟩ := DataW.trod_int u1 t1
        obtain ⟨xx, hxx, _, _⟩ := DataW.trod_int u2 t2
        simp at hk hvv hxx
        subst hk hvv hxx
        have e0 := hat 0 (by omega)
        have e1 := hat 1 (by omega)
        have e2 := hat 2 (by omega)
        simp [Addr.add] at e0
        exact ⟨⟨k, vv, xx⟩, by simpa [Addr.add] using e0, by simpa using e1, by simpa using e2⟩
    haveI : Inhabited O13 := ⟨⟨0, 0, 0⟩⟩
    obtain ⟨f, hfun⟩ := Go.Deep.choose_lt key
    have hlen : ((List.range len).map f).length = len := by simp
    refine ⟨some x, (List.range len).map f, cap, by rw [hlen], by rw [hlen]; exact hl, hm, ?_⟩
    intro i hi
    rw [hlen] at hi
    obtain ⟨q0, q1, q2⟩ := hfun i hi
    have hsp : x.spot = none := by
      have := hfun 0 (by omega)
      simpa [Addr.add] using World.cell?_spot this.1
    obtain ⟨b, off, spot⟩ := x
    simp only at hsp
    subst hsp
    simp only [Go.WideShapes.add_plain] at q0 q1 q2
    exact ⟨b, off, f i, by simp [hi], rfl, q0, q1, q2⟩
theorem open_arr3 {t e : TypeId} {k : IntKind} {v : Value} {d : DataW H} {ps : List MemPlace} {r : Reach} {b0 : Nat} (hu : P.underlying t = some (.array 3 e)) (he : P.underlying e = some (.int k)) (hc : P.cellsOf e = 1) (hct : P.cellsOf t = 3)
    (hv : Value.okWide P W r b0 t v) (h : DataW.Trod enc P W base spare held t v d ps) : ∃ a b c : Int, v = .agg #[.int k a, .int k b, .int k c] ∧ (Lit.int k a).wf = true ∧ (Lit.int k b).wf = true ∧ (Lit.int k c).wf = true := by
  obtain ⟨l, rfl, hl, hw⟩ := open_arr hu he hc hct hv h
  match l, hl with
  | [a, b, c], _ => exact ⟨a, b, c, rfl, hw a (by simp), hw b (by simp), hw c (by simp)⟩
end
end Go.Proofs.Ytmehfflomgldeab
