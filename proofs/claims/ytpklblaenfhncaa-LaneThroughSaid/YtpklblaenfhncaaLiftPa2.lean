/- A parcel, and a row of parcels, as data, opened to what they are in memory. -/
import Derived.Test.YtpklblaenfhncaaPaMem
import Derived.Test.YtpklblaenfhncaaLift
import Derived.Deep.Slices
import Derived.Deep.SlicePairs
import Derived.Deep.Strs
namespace Go.Proofs.Ytpklblaenfhncaa
set_option linter.unusedVariables false
set_option linter.unusedSimpArgs false
open Go.ChangeShapes Go.WideShapes Go.RowKit
section
variable {H : Type} {enc : TypeId × Value → H} {P : Program} {W : World} {base : Nat} {spare : Nat → Bool} {held : Bool}
theorem open_heads {t e : TypeId} {n0 n1 : Field} {fuel : Nat} {z : Value} {y : DataW H × List MemPlace}
    (hu : P.underlying t = some (.slice e)) (he : P.underlying e = some (.struct #[n0, n1])) (ce : P.cellsOf e = 2) (o0 : n0.offset = 0) (o1 : n1.offset = 1) (c0 : P.cellsOf n0.type = 1) (c1 : P.cellsOf n1.type = 1)
    (u0 : P.underlying n0.type = some (.int .i64)) (u1 : P.underlying n1.type = some (.int .i64))
    (h : DataW.trod enc P W base spare held fuel t [z] = some y) :
    ∃ (a : Option Addr) (l : List T2) (cap : Nat), z = .slice a l.length cap ∧ l.length ≤ maxLen ∧ CellsOff W a (flatT l) [] := by
  rcases Go.Deep.open_slice_pairs hu he ce o0 o1 c0 c1 h with ⟨hcs, _⟩ | ⟨x, len, cap, m, n, V0, V1, D0, D1, P0, P1, hcs, _, hl, hm, hmm, hx, hcell⟩
  · simp at hcs
    subst hcs
    exact ⟨none, [], 0, rfl, by decide, CellsOff.nil⟩
  · simp at hcs
    subst hcs
    have hlm : len ≤ m := by rw [hmm]; split; exact hl; exact Nat.le_refl _
    have key : ∀ i, i < len → ∃ o : T2, W.cell? (x.add (i * 2)) = some (.int .i64 o.node) ∧ W.cell? (x.add (i * 2 + 1)) = some (.int .i64 o.seq) := by
      intro i hi
      obtain ⟨h0, h1, t0, t1⟩ := hcell i (by omega)
      obtain ⟨k, hk, _, _⟩ := DataW.trod_int u0 t0
      obtain ⟨k2, hk2, _, _⟩ := DataW.trod_int u1 t1
      simp at hk hk2
      rw [hk] at h0
      rw [hk2] at h1
      exact ⟨⟨k, k2⟩, h0, h1⟩
    haveI : Inhabited T2 := ⟨T2.zero⟩
    obtain ⟨f, hfun⟩ := Go.Deep.choose_lt key
    have hlen : ((List.range len).map f).length = len := by simp
    refine ⟨some x, (List.range len).map f, cap, by rw [hlen], by rw [hlen]; omega, ?_⟩
    intro j u hu
    have hj : j < (flatT ((List.range len).map f)).length := (List.getElem?_eq_some_iff.1 hu).1
    unfold flatT at hj hu
    rw [flat_len T2.clen, hlen] at hj
    have hi : j / 2 < len := by omega
    have e1 := flat_get T2.clen T2.zero ((List.range len).map f) (j / 2) (j % 2) (by rw [hlen]; exact hi) (by omega)
    rw [show j / 2 * 2 + j % 2 = j from by omega, hu] at e1
    have e2 : ((List.range len).map f).getD (j / 2) T2.zero = f (j / 2) := by simp [List.getD_eq_getElem?_getD, hi]
    rw [e2] at e1
    obtain ⟨q0, q1⟩ := hfun _ hi
    have hsp : x.spot = none := by
      have := (hfun 0 (by omega)).1
      simpa [Addr.add] using World.cell?_spot this
    obtain ⟨b, off, spot⟩ := x
    simp only at hsp
    subst hsp
    simp only [Go.WideShapes.add_plain] at q0 q1
    refine ⟨b, off, rfl, by simp, ?_⟩
    have hr : j % 2 = 0 ∨ j % 2 = 1 := by omega
    rcases hr with hr | hr
    · rw [hr] at e1
      simp [T2.cells] at e1
      rw [show off + j = off + j / 2 * 2 from by omega, q0, e1]
    · rw [hr] at e1
      simp [T2.cells] at e1
      rw [show off + j = off + (j / 2 * 2 + 1) from by omega, q1, e1]
/-- The cells of a parcel. -/
theorem open_paCells {t te : TypeId} {f0 f1 f2 f3 n0 n1 : Field} {fuel : Nat} {cs : List Value} {y : DataW H × List MemPlace}
    (he : P.underlying t = some (.struct #[f0, f1, f2, f3])) (hc : P.cellsOf t = 4) (o0 : f0.offset = 0) (o1 : f1.offset = 1) (o2 : f2.offset = 2) (o3 : f3.offset = 3)
    (k0 : P.cellsOf f0.type = 1) (k1 : P.cellsOf f1.type = 1) (k2 : P.cellsOf f2.type = 1) (k3 : P.cellsOf f3.type = 1)
    (u0 : P.underlying f0.type = some (.int .i64)) (u1 : P.underlying f1.type = some .bool) (u2 : P.underlying f2.type = some (.slice te)) (u3 : P.underlying f3.type = some .string)
    (hte : P.underlying te = some (.struct #[n0, n1])) (cte : P.cellsOf te = 2) (p0 : n0.offset = 0) (p1 : n1.offset = 1) (q0 : P.cellsOf n0.type = 1) (q1 : P.cellsOf n1.type = 1)
    (v0 : P.underlying n0.type = some (.int .i64)) (v1 : P.underlying n1.type = some (.int .i64))
    (hcs : cs.length = 4) (h : DataW.trod enc P W base spare held fuel t cs = some y) :
    ∃ p : PaM, cs = [.int .i64 p.pa.src, .bool p.pa.cast, .slice p.ha p.pa.heads.length p.hc, .string p.pa.data] ∧ p.Here W := by
  obtain ⟨xs, n, _, _, hl, hlen, hat⟩ := DataW.trod_struct he h
  match cs, hcs with
  | [z0, z1, z2, z3], _ =>
    have t0 := hat 0 f0 rfl
    have t1 := hat 1 f1 rfl
    have t2 := hat 2 f2 rfl
    have t3 := hat 3 f3 rfl
    rw [o0, k0] at t0
    rw [o1, k1] at t1
    rw [o2, k2] at t2
    rw [o3, k3] at t3
    have hx : xs.length = 4 := hlen
    rw [List.getElem?_eq_getElem (by omega)] at t0 t1 t2 t3
    obtain ⟨a0, e0, _, _⟩ := DataW.trod_int u0 t0
    obtain ⟨a1, e1, _⟩ := DataW.trod_bool u1 t1
    obtain ⟨a2, l2, c2, e2, hl2, hc2⟩ := open_heads u2 hte cte p0 p1 q0 q1 v0 v1 t2
    obtain ⟨a3, e3, _, hs⟩ := DataW.trod_string u3 t3
    simp at e0 e1 e3
    subst e0 e1 e2 e3
    exact ⟨⟨⟨a0, a1, l2, a3⟩, a2, c2⟩, rfl, hc2, hl2, hs⟩
theorem open_parcel {t te : TypeId} {f0 f1 f2 f3 n0 n1 : Field} {v : Value} {d : DataW H} {ps : List MemPlace} {r : Reach} {b0 : Nat}
    (he : P.underlying t = some (.struct #[f0, f1, f2, f3])) (hc : P.cellsOf t = 4) (o0 : f0.offset = 0) (o1 : f1.offset = 1) (o2 : f2.offset = 2) (o3 : f3.offset = 3)
    (k0 : P.cellsOf f0.type = 1) (k1 : P.cellsOf f1.type = 1) (k2 : P.cellsOf f2.type = 1) (k3 : P.cellsOf f3.type = 1)
    (u0 : P.underlying f0.type = some (.int .i64)) (u1 : P.underlying f1.type = some .bool) (u2 : P.underlying f2.type = some (.slice te)) (u3 : P.underlying f3.type = some .string)
    (hte : P.underlying te = some (.struct #[n0, n1])) (cte : P.cellsOf te = 2) (p0 : n0.offset = 0) (p1 : n1.offset = 1) (q0 : P.cellsOf n0.type = 1) (q1 : P.cellsOf n1.type = 1)
    (v0 : P.underlying n0.type = some (.int .i64)) (v1 : P.underlying n1.type = some (.int .i64))
    (hv : Value.okWide P W r b0 t v) (h : DataW.Trod enc P W base spare held t v d ps) :
    ∃ p : PaM, v = .agg #[.int .i64 p.pa.src, .bool p.pa.cast, .slice p.ha p.pa.heads.length p.hc, .string p.pa.data] ∧ p.Here W := by
  unfold Value.okWide at hv
  rw [he] at hv
  obtain ⟨cs, rfl, hsz, _⟩ := hv
  obtain ⟨fuel, hf⟩ := h
  obtain ⟨p, hcs, hp⟩ := open_paCells he hc o0 o1 o2 o3 k0 k1 k2 k3 u0 u1 u2 u3 hte cte p0 p1 q0 q1 v0 v1 (by rw [Value.cells, Array.length_toList, hsz, hc]) hf
  refine ⟨p, ?_, hp⟩
  congr 1
  apply Array.ext'
  exact hcs
theorem open_parcels {s t te : TypeId} {f0 f1 f2 f3 n0 n1 : Field} {v : Value} {d : DataW H} {ps : List MemPlace} {r : Reach} {b0 : Nat}
    (hu : P.underlying s = some (.slice t))
    (he : P.underlying t = some (.struct #[f0, f1, f2, f3])) (hc : P.cellsOf t = 4) (o0 : f0.offset = 0) (o1 : f1.offset = 1) (o2 : f2.offset = 2) (o3 : f3.offset = 3)
    (k0 : P.cellsOf f0.type = 1) (k1 : P.cellsOf f1.type = 1) (k2 : P.cellsOf f2.type = 1) (k3 : P.cellsOf f3.type = 1)
    (u0 : P.underlying f0.type = some (.int .i64)) (u1 : P.underlying f1.type = some .bool) (u2 : P.underlying f2.type = some (.slice te)) (u3 : P.underlying f3.type = some .string)
    (hte : P.underlying te = some (.struct #[n0, n1])) (cte : P.cellsOf te = 2) (p0 : n0.offset = 0) (p1 : n1.offset = 1) (q0 : P.cellsOf n0.type = 1) (q1 : P.cellsOf n1.type = 1)
    (v0 : P.underlying n0.type = some (.int .i64)) (v1 : P.underlying n1.type = some (.int .i64))
    (hv : Value.okWide P W r b0 s v) (h : DataW.Trod enc P W base spare held s v d ps) :
    ∃ (a : Option Addr) (l : List PaM) (cap : Nat), v = .slice a l.length cap ∧ l.length ≤ cap ∧ cap ≤ maxLen ∧ ParcelsAt W a l := by
  obtain ⟨a, len, cap, rfl⟩ := okWide_slice hu hv
  obtain ⟨fuel, hf⟩ := h
  rcases Go.Deep.open_slice hu hf with ⟨hcs, _⟩ | ⟨x, l, c, m, n, D, Pl, hcs, _, hl, hm, hmm, hx, hcell⟩
  · simp [Value.cells] at hcs
    obtain ⟨rfl, rfl, rfl⟩ := hcs
    exact ⟨none, [], 0, rfl, Nat.le_refl _, by decide, fun i hi => absurd hi (by simp)⟩
  · simp [Value.cells] at hcs
    obtain ⟨rfl, rfl, rfl⟩ := hcs
    have hlm : len ≤ m := by rw [hmm]; split; exact hl; exact Nat.le_refl _
    have key : ∀ i, i < len → ∃ p : PaM, p.Here W ∧ W.cell? (x.add (i * 4)) = some (.int .i64 p.pa.src) ∧ W.cell? ((x.add (i * 4)).add 1) = some (.bool p.pa.cast) ∧ W.cell? ((x.add (i * 4)).add 2) = some (.slice p.ha p.pa.heads.length p.hc) ∧ W.cell? ((x.add (i * 4)).add 3) = some (.string p.pa.data) := by
      intro i hi
      obtain ⟨cs', h1, h2⟩ := hcell i (by omega)
      rw [hc] at h1
      obtain ⟨_, hlen, hat⟩ := World.cells?_some h1
      obtain ⟨p, rfl, hp⟩ := open_paCells he hc o0 o1 o2 o3 k0 k1 k2 k3 u0 u1 u2 u3 hte cte p0 p1 q0 q1 v0 v1 hlen h2
      have e0 := hat 0 (by omega)
      have e1 := hat 1 (by omega)
      have e2 := hat 2 (by omega)
      have e3 := hat 3 (by omega)
      simp [Addr.add] at e0
      exact ⟨p, hp, by simpa [Addr.add] using e0, by simpa using e1, by simpa using e2, by simpa using e3⟩
    haveI : Inhabited PaM := ⟨⟨⟨0, false, [], ByteArray.empty⟩, none, 0⟩⟩
    obtain ⟨f, hfun⟩ := Go.Deep.choose_lt key
    have hlen : ((List.range len).map f).length = len := by simp
    refine ⟨some x, (List.range len).map f, cap, by rw [hlen], by rw [hlen]; exact hl, hm, ?_⟩
    intro i hi
    rw [hlen] at hi
    obtain ⟨hH, r0, r1, r2, r3⟩ := hfun i hi
    have hsp : x.spot = none := by
      have := (hfun 0 (by omega)).2.1
      simpa [Addr.add] using World.cell?_spot this
    obtain ⟨b, off, spot⟩ := x
    simp only at hsp
    subst hsp
    simp only [Go.WideShapes.add_plain] at r0 r1 r2 r3
    exact ⟨b, off, f i, by simp [hi], rfl, r0, r1, r2, r3, hH⟩
end
end Go.Proofs.Ytpklblaenfhncaa
