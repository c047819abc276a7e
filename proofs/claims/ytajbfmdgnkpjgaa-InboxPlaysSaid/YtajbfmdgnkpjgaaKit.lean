/- Small words that all texts of this seat use: how an answer is spelled, how draws add up. -/
import Derived.Test.YtajbfmdgnkpjgaaProg
import Derived.WalkKit
import Derived.Outline
import Derived.Deep.QuietTactic
import Derived.BigQuiet
import Derived.Lib.Hide
import Derived.IntWalk
import Derived.Below
import Derived.OwnWalk
import Derived.Maps.AppendAt
import Derived.Deep.RegionWith
import Derived.LoopTactic
namespace Go.Proofs.Ytajbfmdgnkpjgaa
open Go.RowKit

theorem ret_bool {a b : Bool} (h : a = b) : Ending.returned (.bool a) = .returned (.bool b) := by rw [h]
theorem ret_int {k : IntKind} {a b : Int} (h : a = b) : Ending.returned (.int k a) = .returned (.int k b) := by rw [h]
theorem ret_two {k l : IntKind} {a b c d : Int} (h : a = b) (g : c = d) : Ending.returned (.tuple #[.int k a, .int l c]) = .returned (.tuple #[.int k b, .int l d]) := by rw [h, g]
theorem drew_close {w : World} {K n nd : Nat} : ∃ m, (w.drewN (K + n)).drewN nd = (w.drewN K).drewN m := ⟨n + nd, by simp only [World.drewN_drewN, Nat.add_assoc]⟩
theorem drew_close2 {w : World} {K n nd : Nat} : ∃ m, (w.drewN (K + n)).drewN nd = w.drewN (K + m) := ⟨n + nd, by simp only [World.drewN_drewN, Nat.add_assoc]⟩
theorem drew_close1 {w : World} {n : Nat} : ∃ m, w.drewN n = w.drewN m := ⟨_, rfl⟩
theorem drew_close0 {w : World} {n nd : Nat} : ∃ m, (w.drewN n).drewN nd = w.drewN m := ⟨_, World.drewN_drewN ..⟩
theorem below_drewN' {B : Nat} {a w : World} (h : Below B a w) (n : Nat) : Below B a (w.drewN n) := ⟨h.os, h.tape, h.output, h.size, h.block⟩
/-- a row of whole numbers that is read -/
def IntsAt (k : IntKind) (w : World) (a : Option Addr) (l : List Int) : Prop := ∀ i, i < l.length → ∃ b off, a = some ⟨b, off, none⟩ ∧ w.cell? ⟨b, off + i, none⟩ = some (.int k (l.getD i 0))
theorem IntsAt.drewN {k : IntKind} {w : World} {a : Option Addr} {l : List Int} (h : IntsAt k w a l) (n : Nat) : IntsAt k (w.drewN n) a l := h
theorem IntsAt.below {k : IntKind} {w w' : World} {a : Option Addr} {l : List Int} (h : IntsAt k w a l) (hb : Below w.heap.size w w') : IntsAt k w' a l := fun i hi => by
  obtain ⟨b, off, rfl, hc⟩ := h i hi
  exact ⟨b, off, rfl, by rw [hb.cell (p := ⟨b, off + i, none⟩) (World.block_lt_of_cell? w _ hc)]; exact hc⟩
theorem ownsRow_drewN {w : World} {base : Nat} {e : TypeId} {size : Nat} {v : Value} {n : Nat} {xs : List Value} (h : w.ownsRow base e size v n xs) (k : Nat) : (w.drewN k).ownsRow base e size v n xs := h
/-- 'out = append(out, x)', out a row of the call's own, the cells of x in the newest block: how it runs. -/
theorem append_run {P : Program} {w0 W0 : World} (us : List Value) (base : Nat) (t ty e : TypeId) (z : Value) (size bytes : Nat)
    (hinfo : (P.info? e).map (fun i => (i.zero, i.size, i.bytes)) = some (some z, size, bytes)) (ht : P.underlying t = some (.slice e))
    (hzs : z.cells.size = size) (hsz : 0 < size) (v : Value) (n : Nat) (xs : List Value) (hown : w0.ownsRow base e size v n xs) (hB : Below base W0 w0) (hbase : base ≤ w0.heap.size)
    (hl : us.length = size) (h1 : ∀ u ∈ us, u.oneCell' = true) (hbytes : (n + 1) * bytes ≤ 140737488355328) (hb1 : 0 < bytes) :
    ∃ v' w', (Builtin.append_ #[t, t] ty #[v, .slice (some ⟨w0.heap.size, 0, none⟩) 1 1]).run P (w0.alloc (.cells us.toArray e)) = .ok v' w' ∧
      w'.ownsRow base e size v' (n + 1) (xs ++ us) ∧ Below base W0 w' ∧ w0.grownBy w' v.ownBlock ∧ (v'.ownBlock = v.ownBlock ∨ ∃ b, v'.ownBlock = some b ∧ w0.heap.size ≤ b) := by
  obtain ⟨i, hi, hz, hsize, hby⟩ := info_parts hinfo
  have hc1 : ∀ j u, us[j]? = some u → (w0.alloc (.cells us.toArray e)).cell? ((⟨w0.heap.size, 0, none⟩ : Addr).add j) = some u := by
    intro j u hu
    have hadd : (⟨w0.heap.size, 0, none⟩ : Addr).add j = ⟨w0.heap.size, j, none⟩ := by unfold Addr.add; split <;> simp_all
    rw [hadd, World.cell?_alloc_new]
    simpa using hu
  have hm : n + 1 ≤ maxLen := by
    have : n + 1 ≤ (n + 1) * bytes := Nat.le_mul_of_pos_right _ hb1
    unfold maxLen; omega
  obtain ⟨v', w', hr, h2, h3, _, h4⟩ := run_append_own_at (P := P) (w := w0.alloc (.cells us.toArray e)) base t ty e i z size bytes ht hi hz hsize hby hzs hsz v n xs (hown.alloc _) ⟨w0.heap.size, 0, none⟩ 1 1 us (by rw [hl]; omega) hc1 h1 hm hbytes (by rw [World.size_alloc]; omega)
  have g : w0.grownBy w' v.ownBlock := ⟨h3.os, h3.tape, h3.output, by have := h3.size; rw [World.size_alloc] at this; omega, fun k hk hne => by rw [h3.block k (by rw [World.size_alloc]; omega) hne]; exact Below.heap_alloc _ _ _ hk⟩
  refine ⟨v', w', hr, h2, hB.grown g hbase (fun k hk => (hown.lt k hk).1), g, ?_⟩
  rcases h4 with h4 | h4
  · exact .inl h4
  · exact .inr ⟨_, h4, by rw [World.size_alloc]; omega⟩
/-- The same at the walk's operation. -/
theorem append_own {P : Program} {w0 W0 : World} {ops : Array Oper} {rest : List Oper} {o : Oper} {a : Act} {Q : Exit → Act → World → Prop} (us : List Value) (base : Nat) (t e : TypeId) (z : Value) (size bytes : Nat)
    (hinfo : (P.info? e).map (fun i => (i.zero, i.size, i.bytes)) = some (some z, size, bytes)) (ht : P.underlying t = some (.slice e))
    (hzs : z.cells.size = size) (hsz : 0 < size) (v : Value) (n : Nat) (xs : List Value) (hown : w0.ownsRow base e size v n xs) (hB : Below base W0 w0) (hbase : base ≤ w0.heap.size)
    (hl : us.length = size) (h1 : ∀ u ∈ us, u.oneCell' = true) (hbytes : (n + 1) * bytes ≤ 140737488355328) (hb1 : 0 < bytes)
    (hgd : o.guard = none) (s x : Operand) (ho : o.op = .call { callee := .builtin .append, args := #[s, x], argTypes := #[t, t] })
    (hs : a.eval s = v) (hx : a.eval x = .slice (some ⟨w0.heap.size, 0, none⟩) 1 1)
    (h : ∀ v' w', w'.ownsRow base e size v' (n + 1) (xs ++ us) → Below base W0 w' → w0.grownBy w' v.ownBlock → (v'.ownBlock = v.ownBlock ∨ ∃ b, v'.ownBlock = some b ∧ w0.heap.size ≤ b) → wpList P ops Q rest (a.put o.dst v') w') : wpList P ops Q (o :: rest) a (w0.alloc (.cells us.toArray e)) := by
  obtain ⟨v', w', hr, r1, r2, r3, r4⟩ := append_run (P := P) us base t o.type e z size bytes hinfo ht hzs hsz v n xs hown hB hbase hl h1 hbytes hb1
  refine wpList_plain hgd fun K hK => ?_
  unfold Oper.wp execOp
  simp only [ho, resolve, invoke, builtin, Sem.run_bind, Sem.run_pure, Result.andThen_ok, List.map_toArray, List.map_cons, List.map_nil, hs, hx, hr]
  exact hK _ _ (h v' w' r1 r2 r3 r4)
/-- The same at a step of a region that draws its order. -/
theorem append_step {P : Program} {w0 W0 : World} {ops : Array Oper} {o : Oper} {a : Act} {K : Act → World → Prop} {Q : Exit → Act → World → Prop} {E : Prop} (us : List Value) (base : Nat) (t e : TypeId) (z : Value) (size bytes : Nat)
    (hinfo : (P.info? e).map (fun i => (i.zero, i.size, i.bytes)) = some (some z, size, bytes)) (ht : P.underlying t = some (.slice e))
    (hzs : z.cells.size = size) (hsz : 0 < size) (v : Value) (n : Nat) (xs : List Value) (hown : w0.ownsRow base e size v n xs) (hB : Below base W0 w0) (hbase : base ≤ w0.heap.size)
    (hl : us.length = size) (h1 : ∀ u ∈ us, u.oneCell' = true) (hbytes : (n + 1) * bytes ≤ 140737488355328) (hb1 : 0 < bytes)
    (hgd : o.guard = none) (s x : Operand) (ho : o.op = .call { callee := .builtin .append, args := #[s, x], argTypes := #[t, t] })
    (hs : a.eval s = v) (hx : a.eval x = .slice (some ⟨w0.heap.size, 0, none⟩) 1 1)
    (h : ∀ v' w', w'.ownsRow base e size v' (n + 1) (xs ++ us) → Below base W0 w' → w0.grownBy w' v.ownBlock → (v'.ownBlock = v.ownBlock ∨ ∃ b, v'.ownBlock = some b ∧ w0.heap.size ≤ b) → K (a.put o.dst v') w') :
    if Region.wanted o (yielded ops a.tmps) = true then Oper.wp P o a (w0.alloc (.cells us.toArray e)) K Q else E := by
  obtain ⟨v', w', hr, r1, r2, r3, r4⟩ := append_run (P := P) us base t o.type e z size bytes hinfo ht hzs hsz v n xs hown hB hbase hl h1 hbytes hb1
  have hw : Region.wanted o (yielded ops a.tmps) = true := by simp [Region.wanted, hgd]
  rw [if_pos hw]
  unfold Oper.wp execOp
  simp only [ho, resolve, invoke, builtin, Sem.run_bind, Sem.run_pure, Result.andThen_ok, List.map_toArray, List.map_cons, List.map_nil, hs, hx, hr]
  exact h v' w' r1 r2 r3 r4
/-- A row of the call's own, as one that is read. -/
theorem IntsAt.own {k : IntKind} {w : World} {base : Nat} {e : TypeId} {v : Value} {l : List Int} (h : w.ownsRow base e 1 v l.length (l.map (Value.int k))) : ∃ a c, v = .slice a l.length c ∧ IntsAt k w a l := by
  have h' := h
  rcases h.2 with ⟨rfl, h0⟩ | ⟨g, cap, cur, rfl, _, _, hnc, _⟩
  · exact ⟨none, 0, by rw [h0], fun i hi => by omega⟩
  · refine ⟨_, cap, rfl, fun i hi => ⟨g, 0, rfl, ?_⟩⟩
    rw [Nat.zero_add, h'.cellAt i (by omega), List.getElem?_map, List.getElem?_eq_getElem hi, List.getD_eq_getElem?_getD, List.getElem?_eq_getElem hi]
    rfl
theorem IntsAt.of {k : IntKind} {w : World} {base : Nat} {e : TypeId} {a : Option Addr} {c : Nat} {l : List Int} (h : w.ownsRow base e 1 (.slice a l.length c) l.length (l.map (Value.int k))) : IntsAt k w a l := by
  obtain ⟨a', c', e, hr⟩ := IntsAt.own h
  simp only [Value.slice.injEq, true_and] at e
  rw [e.1]; exact hr
/-- A row that was just written out. -/
theorem IntsAt.lit {k : IntKind} {e : TypeId} (w : World) (l : List Int) : IntsAt k (w.alloc (.cells (l.map (Value.int k)).toArray e)) (some ⟨w.heap.size, 0, none⟩) l := fun i hi => by
  refine ⟨w.heap.size, 0, rfl, ?_⟩
  rw [Nat.zero_add, World.cell?_alloc_new, List.getElem?_toArray, List.getElem?_map, List.getElem?_eq_getElem hi, List.getD_eq_getElem?_getD, List.getElem?_eq_getElem hi]
  rfl
theorem IntsAt.lit' {k : IntKind} {e : TypeId} (w : World) (l : List Int) {b : Nat} (hb : b = w.heap.size) : IntsAt k (w.alloc (.cells (l.map (Value.int k)).toArray e)) (some ⟨b, 0, none⟩) l := hb ▸ IntsAt.lit w l
theorem IntsAt.alloc {k : IntKind} {w : World} {a : Option Addr} {l : List Int} (h : IntsAt k w a l) (o : Obj) : IntsAt k (w.alloc o) a l := h.below ((Below.refl _ _).alloc (Nat.le_refl _) _)
/-- A cell of a block that was just laid, behind a call that leaves it alone. -/
theorem laid_cell {w w1 : World} {cs : Array Value} {e : TypeId} {B : Nat} (hb : Below B (w.alloc (.cells cs e)) w1) (hB : w.heap.size < B) (j : Nat) : w1.cell? ⟨w.heap.size, j, none⟩ = cs[j]? :=
  (hb.cell (p := ⟨w.heap.size, j, none⟩) hB).trans (World.cell?_alloc_new ..)
theorem laid_cell2 {w w1 : World} {cs : Array Value} {e : TypeId} {o : Obj} {B : Nat} (hb : Below B ((w.alloc (.cells cs e)).alloc o) w1) (hB : w.heap.size < B) (j : Nat) : w1.cell? ⟨w.heap.size, j, none⟩ = cs[j]? :=
  ((hb.cell (p := ⟨w.heap.size, j, none⟩) hB).trans (World.cell?_alloc_lt _ _ _ (by simp))).trans (World.cell?_alloc_new ..)
theorem laid_cell_at {w w1 : World} {cs : Array Value} {e : TypeId} {B b : Nat} (hb : Below B (w.alloc (.cells cs e)) w1) (hB : w.heap.size < B) (hw : b = w.heap.size) (j : Nat) : w1.cell? ⟨b, j, none⟩ = cs[j]? := by
  rw [hw]; exact laid_cell hb hB j
/-- An elder cell, behind draws and a new block. -/
theorem cell_alloc_drewN (w : World) (o : Obj) (k n i : Nat) (hn : n < w.heap.size) : ((w.drewN k).alloc o).cell? ⟨n, i, none⟩ = w.cell? ⟨n, i, none⟩ :=
  World.cell?_alloc_lt (w.drewN k) o ⟨n, i, none⟩ hn
theorem frozen_alloc_drewN (w : World) (o : Obj) (k n i : Nat) (hn : n < w.heap.size) : ((w.drewN k).alloc o).frozen? ⟨n, i, none⟩ = w.frozen? ⟨n, i, none⟩ :=
  World.frozen?_alloc_old (w.drewN k) o ⟨n, i, none⟩ (Nat.ne_of_lt hn)
attribute [go_sem] cell_alloc_drewN frozen_alloc_drewN
/-- 'make([]T, n)': the new block, written out. -/
theorem make_new {P : Program} {w : World} {ops : Array Oper} {rest : List Oper} {o : Oper} {a : Act} {Q : Exit → Act → World → Prop} (t e : TypeId) (z : Value) (size bytes : Nat)
    (hinfo : (P.info? e).map (fun i => (i.zero, i.size, i.bytes)) = some (some z, size, bytes)) (ht : P.underlying t = some (.slice e)) (n : Nat) (hb : bytes * n ≤ 281474976710656) (hn : n ≤ maxLen)
    (hgd : o.guard = none) (l c : Operand) (hop : o.op = Op.makeSlice t l c) (kl kc : IntKind) (L C : Int) (hl : a.eval l = .int kl L) (hc : a.eval c = .int kc C) (hL : L = (n : Int)) (hC : C = (n : Int))
    (h : wpList P ops Q rest (a.put o.dst (.slice (some ⟨w.heap.size, 0, none⟩) n n)) (w.alloc (.cells (madeCells z.cells (n * size)) e))) : wpList P ops Q (o :: rest) a w := by
  obtain ⟨i, hi, hz, hsize, hby⟩ := info_parts hinfo
  subst hsize hby
  refine wpList_plain hgd fun K hK' => ?_
  have hb' : (i.bytes : Int) * (n : Int) ≤ 281474976710656 := by
    have h : ((i.bytes * n : Nat) : Int) ≤ 281474976710656 := by omega
    rwa [Int.natCast_mul] at h
  have hr := run_make (P := P) w t e i z ht hi hz kl kc n n (by omega) (Int.le_refl _) hb' (by unfold maxLen at hn; omega)
  simp only [Int.toNat_natCast] at hr
  subst hL hC
  unfold Oper.wp
  simp [execOp, hop, hl, hc, hr, Result.andThen]
  exact hK' _ _ h
theorem int_i64 {a b : Int} (h : a = b) : Value.int .i64 a = Value.int .i64 b := by rw [h]
theorem int_any {k : IntKind} {a b : Int} (h : a = b) : Value.int k a = Value.int k b := by rw [h]
theorem drop_cons {α : Type} {l : List α} {i : Nat} (h : i < l.length) (d : α) : l.drop i = l.getD i d :: l.drop (i + 1) := by
  rw [List.drop_eq_getElem_cons h, List.getD_eq_getElem?_getD, List.getElem?_eq_getElem h]; rfl
end Go.Proofs.Ytajbfmdgnkpjgaa
