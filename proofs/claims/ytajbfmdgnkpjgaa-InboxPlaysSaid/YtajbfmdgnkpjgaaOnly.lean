/- What a call leaves alone: all blocks that lie before it, but those of a list. -/
import Derived.Test.YtajbfmdgnkpjgaaKit
namespace Go.Proofs.Ytajbfmdgnkpjgaa
open Go.RowKit

/-- The same but for the count of draws. -/
def Eqv (w w' : World) : Prop := w'.heap = w.heap ∧ w'.os = w.os ∧ w'.tape = w.tape ∧ w'.output = w.output
theorem Eqv.at {w w' : World} (h : Eqv w w') {b : Nat} {o : Obj} (hb : w.heap[b]? = some o) : w'.heap[b]? = some o := by rw [h.1]; exact hb
/-- Of the blocks that are there only those of S may have turned. -/
structure Only (S : List Nat) (w w' : World) : Prop where
  os : w'.os = w.os
  tape : w'.tape = w.tape
  output : w'.output = w.output
  size : w.heap.size ≤ w'.heap.size
  block : ∀ k, k < w.heap.size → k ∉ S → w'.heap[k]? = w.heap[k]?
theorem Only.refl (S : List Nat) (w : World) : Only S w w := ⟨rfl, rfl, rfl, Nat.le_refl _, fun _ _ _ => rfl⟩
theorem Only.trans {S : List Nat} {a b c : World} (h : Only S a b) (k : Only S b c) : Only S a c :=
  ⟨k.os.trans h.os, k.tape.trans h.tape, k.output.trans h.output, Nat.le_trans h.size k.size, fun i hi hn => (k.block i (Nat.lt_of_lt_of_le hi h.size) hn).trans (h.block i hi hn)⟩
theorem Only.mono {S T : List Nat} {a b : World} (h : Only S a b) (hs : ∀ k ∈ S, k ∈ T) : Only T a b :=
  ⟨h.os, h.tape, h.output, h.size, fun i hi hn => h.block i hi (fun hk => hn (hs i hk))⟩
/-- Blocks that were made since may have turned as well. -/
theorem Only.late {S T : List Nat} {a b c : World} (h : Only S a b) (k : Only T b c) (hT : ∀ x ∈ T, x ∈ S ∨ a.heap.size ≤ x) : Only S a c :=
  ⟨k.os.trans h.os, k.tape.trans h.tape, k.output.trans h.output, Nat.le_trans h.size k.size, fun i hi hn => (k.block i (Nat.lt_of_lt_of_le hi h.size) (fun hk => by rcases hT i hk with h1 | h1; exact hn h1; omega)).trans (h.block i hi hn)⟩
theorem Only.drewN {S : List Nat} {a w : World} (h : Only S a w) (n : Nat) : Only S a (w.drewN n) := ⟨h.os, h.tape, h.output, h.size, h.block⟩
theorem Only.drew {S : List Nat} {a w : World} (h : Only S a w) : Only S a w.drew := ⟨h.os, h.tape, h.output, h.size, h.block⟩
theorem Only.alloc {S : List Nat} {a w : World} (h : Only S a w) (o : Obj) : Only S a (w.alloc o) :=
  h.trans ⟨rfl, rfl, rfl, by simp, fun k hk _ => Below.heap_alloc _ _ _ hk⟩
theorem Only.setCell {S : List Nat} {a w : World} (h : Only S a w) {p : Addr} (hp : p.block ∈ S) (u : Value) : Only S a (w.setCell p u) :=
  h.trans ⟨rfl, rfl, rfl, by simp, fun k hk hn => Below.heap_setCell _ _ _ _ (fun e => hn (e ▸ hp))⟩
theorem Only.setCell' {S : List Nat} {a w : World} (h : Only S a w) {p : Addr} (hp : a.heap.size ≤ p.block) (u : Value) : Only S a (w.setCell p u) :=
  h.late (T := [p.block]) ⟨rfl, rfl, rfl, by simp, fun k hk hn => Below.heap_setCell _ _ _ _ (fun e => hn (by simp [e]))⟩ (by simp [hp])
theorem Only.grown {S : List Nat} {a w w' : World} {row : Option Nat} (h : Only S a w) (hg : w.grownBy w' row) (hr : ∀ k, row = some k → k ∈ S ∨ a.heap.size ≤ k) : Only S a w' :=
  h.late (T := row.toList) ⟨hg.os, hg.tape, hg.output, hg.size, fun k hk hn => hg.block k hk (fun e => hn (by rw [← e]; simp))⟩ (fun x hx => by cases row with | none => simp at hx | some y => simp at hx; subst hx; exact hr _ rfl)
theorem Only.eqv {S : List Nat} {a b c : World} (h : Only S a b) (k : Eqv b c) : Only S a c :=
  ⟨k.2.1.trans h.os, k.2.2.1.trans h.tape, k.2.2.2.trans h.output, by rw [k.1]; exact h.size, fun i hi hn => by rw [k.1]; exact h.block i hi hn⟩
theorem Only.late_below {S : List Nat} {a b c : World} (h : Only S a b) (k : Below a.heap.size b c) : Only S a c :=
  ⟨k.os.trans h.os, k.tape.trans h.tape, k.output.trans h.output, Nat.le_trans h.size k.size, fun i hi hn => (k.block i hi).trans (h.block i hi hn)⟩
theorem Only.below {S : List Nat} {B : Nat} {a w : World} (h : Only S a w) (hS : ∀ k ∈ S, B ≤ k) (hB : B ≤ a.heap.size) : Below B a w :=
  ⟨h.os, h.tape, h.output, h.size, fun k hk => h.block k (by omega) (fun hm => by have := hS k hm; omega)⟩
theorem Only.ofBelow {a w : World} (h : Below a.heap.size a w) (S : List Nat) : Only S a w :=
  ⟨h.os, h.tape, h.output, h.size, fun k hk _ => h.block k hk⟩
/-- A block that is known stays known. -/
theorem Only.at {S : List Nat} {a w : World} (h : Only S a w) {b : Nat} {o : Obj} (hb : a.heap[b]? = some o) (hn : b ∉ S) : w.heap[b]? = some o := by
  rw [h.block b (Array.getElem?_eq_some_iff.1 hb).1 hn]; exact hb
/-- A row of the call's own, behind a call that turns elder blocks alone. -/
theorem ownsRow_only {S : List Nat} {w w' : World} {base : Nat} {e : TypeId} {size : Nat} {v : Value} {n : Nat} {xs : List Value} (h : w.ownsRow base e size v n xs) (ho : Only S w w') (hS : ∀ k ∈ S, k < base) : w'.ownsRow base e size v n xs := by
  obtain ⟨h1, h2⟩ := h
  refine ⟨h1, ?_⟩
  rcases h2 with h2 | ⟨g, cap, cur, hv, hg, hh, r⟩
  · exact .inl h2
  · exact .inr ⟨g, cap, cur, hv, hg, ho.at hh (fun hm => by have := hS g hm; omega), r⟩
theorem Below.at {B : Nat} {a w : World} (h : Below B a w) {b : Nat} {o : Obj} (hb : a.heap[b]? = some o) (hn : b < B) : w.heap[b]? = some o := by
  rw [h.block b hn]; exact hb
theorem block_lt {w : World} {b : Nat} {o : Obj} (hb : w.heap[b]? = some o) : b < w.heap.size := (Array.getElem?_eq_some_iff.1 hb).1
/-- The cells of a block that is known. -/
theorem cell_at {w : World} {b : Nat} {cs : Array Value} {t : TypeId} (hb : w.heap[b]? = some (.cells cs t (0, 0))) (j : Nat) : w.cell? ⟨b, j, none⟩ = cs[j]? := cell_of_row w b j cs t (0, 0) hb
theorem frozen_at {w : World} {b : Nat} {cs : Array Value} {t : TypeId} (hb : w.heap[b]? = some (.cells cs t (0, 0))) (j : Nat) : w.frozen? ⟨b, j, none⟩ = false := frozen_of_row w b j cs t hb
theorem set_at {w : World} {b : Nat} {cs : Array Value} {t : TypeId} (hb : w.heap[b]? = some (.cells cs t (0, 0))) (j : Nat) (u : Value) : (w.setCell ⟨b, j, none⟩ u).heap[b]? = some (.cells (cs.setIfInBounds j u) t (0, 0)) := heap_setCell_same w b j cs t u hb
theorem set_other {w : World} {b c : Nat} {o : Obj} (hb : w.heap[b]? = some o) (hne : b ≠ c) (j : Nat) (u : Value) : (w.setCell ⟨c, j, none⟩ u).heap[b]? = some o := by
  rw [Below.heap_setCell _ _ _ _ hne]; exact hb
theorem alloc_new {w : World} (o : Obj) : (w.alloc o).heap[w.heap.size]? = some o := heap_alloc_new w o
theorem alloc_old {w : World} {b : Nat} {o : Obj} (hb : w.heap[b]? = some o) (u : Obj) : (w.alloc u).heap[b]? = some o := by
  rw [Below.heap_alloc _ _ _ (block_lt hb)]; exact hb
theorem drewN_at {w : World} {b : Nat} {o : Obj} (hb : w.heap[b]? = some o) (n : Nat) : (w.drewN n).heap[b]? = some o := hb
/-- A row that lies off the blocks of S. -/
def IntsOff (k : IntKind) (w : World) (a : Option Addr) (l : List Int) (S : List Nat) : Prop := ∀ i, i < l.length → ∃ blk off, a = some ⟨blk, off, none⟩ ∧ blk ∉ S ∧ w.cell? ⟨blk, off + i, none⟩ = some (.int k (l.getD i 0))
theorem IntsOff.only {k : IntKind} {w w' : World} {a : Option Addr} {l : List Int} {S : List Nat} (h : IntsOff k w a l S) (ho : Only S w w') : IntsOff k w' a l S := fun i hi => by
  obtain ⟨blk, off, e, hn, hc⟩ := h i hi
  refine ⟨blk, off, e, hn, ?_⟩
  rw [World.cell?_of_block (w := w) (ho.block blk (World.block_lt_of_cell? w _ hc) hn)]
  exact hc
theorem IntsOff.at {k : IntKind} {w : World} {a : Option Addr} {l : List Int} {S : List Nat} (h : IntsOff k w a l S) : IntsAt k w a l := fun i hi => by
  obtain ⟨blk, off, e, _, hc⟩ := h i hi
  exact ⟨blk, off, e, hc⟩
theorem IntsOff.drewN {k : IntKind} {w : World} {a : Option Addr} {l : List Int} {S : List Nat} (h : IntsOff k w a l S) (n : Nat) : IntsOff k (w.drewN n) a l S := h
/-- What was there before is off all that was made since. -/
theorem IntsAt.off {k : IntKind} {w w' : World} {a : Option Addr} {l : List Int} {S : List Nat} (h : IntsAt k w a l) (hb : Below w.heap.size w w') (hS : ∀ x ∈ S, w.heap.size ≤ x) : IntsOff k w' a l S := fun i hi => by
  obtain ⟨blk, off, e, hc⟩ := h i hi
  have hlt := World.block_lt_of_cell? w _ hc
  refine ⟨blk, off, e, fun hm => ?_, ?_⟩
  · have h1 := hS blk hm
    have h2 : blk < w.heap.size := hlt
    omega
  · rw [hb.cell (p := ⟨blk, off + i, none⟩) hlt]; exact hc
/-- A row in a block that was made from B on. -/
def IntsNew (B : Nat) (k : IntKind) (w : World) (a : Option Addr) (l : List Int) : Prop := ∀ i, i < l.length → ∃ blk, a = some ⟨blk, 0, none⟩ ∧ B ≤ blk ∧ w.cell? ⟨blk, i, none⟩ = some (.int k (l.getD i 0))
theorem IntsNew.own {k : IntKind} {w : World} {base : Nat} {e : TypeId} {v : Value} {l : List Int} (h : w.ownsRow base e 1 v l.length (l.map (Value.int k))) : ∃ a c, v = .slice a l.length c ∧ IntsNew base k w a l := by
  have h' := h
  rcases h.2 with ⟨rfl, h0⟩ | ⟨g, cap, cur, rfl, hbg, _, hnc, _⟩
  · exact ⟨none, 0, by rw [h0], fun i hi => by omega⟩
  · refine ⟨_, cap, rfl, fun i hi => ⟨g, rfl, hbg, ?_⟩⟩
    rw [h'.cellAt i (by omega), List.getElem?_map, List.getElem?_eq_getElem hi, List.getD_eq_getElem?_getD, List.getElem?_eq_getElem hi]
    rfl
theorem IntsNew.off {B : Nat} {k : IntKind} {w : World} {a : Option Addr} {l : List Int} {S : List Nat} (h : IntsNew B k w a l) (hS : ∀ x ∈ S, x < B) : IntsOff k w a l S := fun i hi => by
  obtain ⟨blk, e, hB, hc⟩ := h i hi
  exact ⟨blk, 0, e, fun hm => by have := hS blk hm; omega, by rw [Nat.zero_add]; exact hc⟩
theorem IntsNew.at {B : Nat} {k : IntKind} {w : World} {a : Option Addr} {l : List Int} (h : IntsNew B k w a l) : IntsAt k w a l := fun i hi => by
  obtain ⟨blk, e, _, hc⟩ := h i hi
  exact ⟨blk, 0, e, by rw [Nat.zero_add]; exact hc⟩
end Go.Proofs.Ytajbfmdgnkpjgaa
