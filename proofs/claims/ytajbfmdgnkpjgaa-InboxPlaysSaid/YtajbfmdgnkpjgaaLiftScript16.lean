/- A packet, and an inbox law's script, as data, opened to what they are in memory. -/
import Derived.Test.YtajbfmdgnkpjgaaScript16
import Derived.Test.YtajbfmdgnkpjgaaLift
import Derived.Deep.Slices
import Derived.Deep.Strs
namespace Go.Proofs.Ytajbfmdgnkpjgaa
set_option linter.unusedVariables false
open Go.ChangeShapes Go.WideShapes Go.RowKit
section
variable {H : Type} {enc : TypeId × Value → H} {P : Program} {W : World} {base : Nat} {spare : Nat → Bool} {held : Bool}
theorem open_pkCells {t : TypeId} {f0 f1 f2 f3 : Field} {fuel : Nat} {cs : List Value} {y : DataW H × List MemPlace}
    (he : P.underlying t = some (.struct #[f0, f1, f2, f3])) (o0 : f0.offset = 0) (o1 : f1.offset = 1) (o2 : f2.offset = 2) (o3 : f3.offset = 3)
    (k0 : P.cellsOf f0.type = 1) (k1 : P.cellsOf f1.type = 1) (k2 : P.cellsOf f2.type = 1) (k3 : P.cellsOf f3.type = 1)
    (u0 : P.underlying f0.type = some (.int .i64)) (u1 : P.underlying f1.type = some (.int .i64)) (u2 : P.underlying f2.type = some (.int .i64)) (u3 : P.underlying f3.type = some .string)
    (hcs : cs.length = 4) (h : DataW.trod enc P W base spare held fuel t cs = some y) :
    ∃ p : Pk, cs = [.int .i64 p.src, .int .i64 p.dst, .int .i64 p.seq, .string p.data] ∧ p.Wf := by
  obtain ⟨xs, n, _, _, hl, hlen, hat⟩ := DataW.trod_struct he h
  match cs, hcs with
  | [z0, z1, z2, z3], _ =>
    have t0 := hat 0 f0 rfl
    have t1 := hat 1 f1 rfl
    have t2 := hat 2 f2 rfl
    have t3 := hat 3 f3 rfl
    rw [o0, k0] at t0
    rw [o1, k1] at t1
    rw [o2, k2] at t2
    rw [o3, k3] at t3
    have hx : xs.length = 4 := hlen
    rw [List.getElem?_eq_getElem (by omega)] at t0 t1 t2 t3
    obtain ⟨a0, e0, _, w0⟩ := DataW.trod_int u0 t0
    obtain ⟨a1, e1, _, w1⟩ := DataW.trod_int u1 t1
    obtain ⟨a2, e2, _, w2⟩ := DataW.trod_int u2 t2
    obtain ⟨a3, e3, _, hs⟩ := DataW.trod_string u3 t3
    simp at e0 e1 e2 e3
    subst e0 e1 e2 e3
    exact ⟨⟨a0, a1, a2, a3⟩, rfl, w0, w1, w2⟩
theorem open_packet {t : TypeId} {f0 f1 f2 f3 : Field} {v : Value} {d : DataW H} {ps : List MemPlace} {r : Reach} {b0 : Nat}
    (he : P.underlying t = some (.struct #[f0, f1, f2, f3])) (hc : P.cellsOf t = 4) (o0 : f0.offset = 0) (o1 : f1.offset = 1) (o2 : f2.offset = 2) (o3 : f3.offset = 3)
    (k0 : P.cellsOf f0.type = 1) (k1 : P.cellsOf f1.type = 1) (k2 : P.cellsOf f2.type = 1) (k3 : P.cellsOf f3.type = 1)
    (u0 : P.underlying f0.type = some (.int .i64)) (u1 : P.underlying f1.type = some (.int .i64)) (u2 : P.underlying f2.type = some (.int .i64)) (u3 : P.underlying f3.type = some .string)
    (hv : Value.okWide P W r b0 t v) (h : DataW.Trod enc P W base spare held t v d ps) : ∃ p : Pk, v = p.val ∧ p.Wf := by
  unfold Value.okWide at hv
  rw [he] at hv
  obtain ⟨cs, rfl, hsz, _⟩ := hv
  obtain ⟨fuel, hf⟩ := h
  obtain ⟨p, hcs, hp⟩ := open_pkCells he o0 o1 o2 o3 k0 k1 k2 k3 u0 u1 u2 u3 (by rw [Value.cells, Array.length_toList, hsz, hc]) hf
  refine ⟨p, ?_, hp⟩
  unfold Pk.val
  congr 1
  apply Array.ext'
  exact hcs
theorem open_script16 {s t : TypeId} {m0 m1 f0 f1 f2 f3 : Field} {v : Value} {d : DataW H} {ps : List MemPlace} {r : Reach} {b0 : Nat}
    (hu : P.underlying s = some (.slice t)) (ht : P.underlying t = some (.struct #[m0, m1])) (hc : P.cellsOf t = 5) (q0 : m0.offset = 0) (q1 : m1.offset = 1) (g0 : P.cellsOf m0.type = 1) (g1 : P.cellsOf m1.type = 4)
    (v0 : P.underlying m0.type = some (.int .i64)) (he : P.underlying m1.type = some (.struct #[f0, f1, f2, f3])) (o0 : f0.offset = 0) (o1 : f1.offset = 1) (o2 : f2.offset = 2) (o3 : f3.offset = 3)
    (k0 : P.cellsOf f0.type = 1) (k1 : P.cellsOf f1.type = 1) (k2 : P.cellsOf f2.type = 1) (k3 : P.cellsOf f3.type = 1)
    (u0 : P.underlying f0.type = some (.int .i64)) (u1 : P.underlying f1.type = some (.int .i64)) (u2 : P.underlying f2.type = some (.int .i64)) (u3 : P.underlying f3.type = some .string)
    (hv : Value.okWide P W r b0 s v) (h : DataW.Trod enc P W base spare held s v d ps) :
    ∃ (a : Option Addr) (l : List O16) (cap : Nat), v = .slice a l.length cap ∧ l.length ≤ cap ∧ cap ≤ maxLen ∧ Script16 W a l := by
  obtain ⟨a, len, cap, rfl⟩ := okWide_slice hu hv
  obtain ⟨fuel, hf⟩ := h
  rcases Go.Deep.open_slice hu hf with ⟨hcs, _⟩ | ⟨x, l, c, m, n, D, Pl, hcs, _, hl, hm, hmm, hx, hcell⟩
  · simp [Value.cells] at hcs
    obtain ⟨rfl, rfl, rfl⟩ := hcs
    exact ⟨none, [], 0, rfl, Nat.le_refl _, by decide, fun i hi => absurd hi (by simp)⟩
  · simp [Value.cells] at hcs
    obtain ⟨rfl, rfl, rfl⟩ := hcs
    have hlm : len ≤ m := by rw [hmm]; split; exact hl; exact Nat.le_refl _
    have key : ∀ i, i < len → ∃ o : O16, o.p.Wf ∧ W.cell? (x.add (i * 5)) = some (.int .i64 o.k) ∧ W.cell? ((x.add (i * 5)).add 1) = some (.int .i64 o.p.src) ∧ W.cell? ((x.add (i * 5)).add 2) = some (.int .i64 o.p.dst) ∧ W.cell? ((x.add (i * 5)).add 3) = some (.int .i64 o.p.seq) ∧ W.cell? ((x.add (i * 5)).add 4) = some (.string o.p.data) := by
      intro i hi
      obtain ⟨cs', h1, h2⟩ := hcell i (by omega)
      rw [hc] at h1
      obtain ⟨_, hlen, hat⟩ := World.cells?_some h1
      obtain ⟨xs, n', _, _, hl', hlen', hat'⟩ := DataW.trod_struct ht h2
      have hx2 : xs.length = 2 := hlen'
      match cs', hlen with
      | [z0, z1, z2, z3, z4], _ =>
        have t0 := hat' 0 m0 rfl
        have t1 := hat' 1 m1 rfl
        rw [q0, g0, List.getElem?_eq_getElem (by omega)] at t0
        rw [q1, g1, List.getElem?_eq_getElem (by omega)] at t1
        obtain ⟨a0, e0, _, _⟩ := DataW.trod_int v0 t0
        obtain ⟨p, ep, hp⟩ := open_pkCells he o0 o1 o2 o3 k0 k1 k2 k3 u0 u1 u2 u3 rfl t1
        simp at e0 ep
        obtain ⟨rfl, rfl, rfl, rfl⟩ := ep
        subst e0
        have e0 := hat 0 (by omega)
        have e1 := hat 1 (by omega)
        have e2 := hat 2 (by omega)
        have e3 := hat 3 (by omega)
        have e4 := hat 4 (by omega)
        simp [Addr.add] at e0
        exact ⟨⟨a0, p⟩, hp, by simpa [Addr.add] using e0, by simpa using e1, by simpa using e2, by simpa using e3, by simpa using e4⟩
    haveI : Inhabited O16 := ⟨⟨0, Pk.zero⟩⟩
    obtain ⟨f, hfun⟩ := Go.Deep.choose_lt key
    have hlen : ((List.range len).map f).length = len := by simp
    refine ⟨some x, (List.range len).map f, cap, by rw [hlen], by rw [hlen]; exact hl, hm, ?_⟩
    intro i hi
    rw [hlen] at hi
    obtain ⟨hW, r0, r1, r2, r3, r4⟩ := hfun i hi
    have hsp : x.spot = none := by
      have := (hfun 0 (by omega)).2.1
      simpa [Addr.add] using World.cell?_spot this
    obtain ⟨b, off, spot⟩ := x
    simp only at hsp
    subst hsp
    simp only [Go.WideShapes.add_plain] at r0 r1 r2 r3 r4
    exact ⟨b, off, f i, by simp [hi], rfl, hW, r0, r1, r2, r3, r4⟩
end
end Go.Proofs.Ytajbfmdgnkpjgaa
