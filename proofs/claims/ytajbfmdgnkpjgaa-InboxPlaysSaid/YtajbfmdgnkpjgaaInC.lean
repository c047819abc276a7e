/- Regions that draw their order and only read, beside calls that leave a class of worlds: one walk of the text's order. Blocks that are known, cell by cell, by one fact each. -/
import Derived.Test.YtajbfmdgnkpjgaaOnly
import Derived.Laws.Tables
namespace Go.Proofs.Ytajbfmdgnkpjgaa
set_option linter.unusedVariables false
open Go.RowKit
/-- A world of a class. -/
structure In (C : World → Prop) where
  w : World
  h : C w
theorem wp_region_in {P : Program} {id : Nat} {Q : Exit → Act → World → Prop} {a : Act} {w : World} {l : List Oper} (C : World → Prop) (hm : P.follows .mixedOrders = true) (hB : Region.lexB .any l.toArray = true) (hC : C w.drew)
    (h : wpQuiet P l.toArray (fun w' => ∃ p : In C, w' = p.w) (fun a' => ∀ w', (∃ p : In C, w' = p.w) → Q .normal a' w') l a) : (Code.region id l.toArray true).wp P Q a w :=
  wp_region_quiet (C := fun w' => ∃ p : In C, w' = p.w) hm hB ⟨⟨w.drew, hC⟩, rfl⟩ (by simpa using h)
theorem in_calls {P : Program} {C : World → Prop} {f : FuncId} {args : Array Value} {w : World} {v : Value} (h : Calls P f args w fun e w' => e = .returned v ∧ C w') :
    Calls P f args w fun e w'' => e = .returned v ∧ ∃ q : In C, w'' = q.w := h.mono fun _ _ ⟨he, hc⟩ => ⟨he, ⟨_, hc⟩, rfl⟩
/-- The class of all that came behind W. -/
abbrev Aft (W : World) : World → Prop := Below W.heap.size W
instance {W : World} : Nonempty (In (Aft W)) := ⟨⟨W, Below.refl _ _⟩⟩
theorem aft_calls {P : Program} {W : World} {f : FuncId} {args : Array Value} {p : In (Aft W)} {v : Value} (h : Calls P f args p.w fun e w' => e = .returned v ∧ Below p.w.heap.size p.w w') :
    Calls P f args p.w fun e w'' => e = .returned v ∧ ∃ q : In (Aft W), w'' = q.w := in_calls (h.mono fun _ _ ⟨he, hb⟩ => ⟨he, p.h.trans (hb.mono p.h.size)⟩)
theorem aft_drew {P : Program} {W : World} {f : FuncId} {args : Array Value} {p : In (Aft W)} {v : Value} (h : Calls P f args p.w fun e w' => e = .returned v ∧ ∃ k, w' = p.w.drewN k) :
    Calls P f args p.w fun e w'' => e = .returned v ∧ ∃ q : In (Aft W), w'' = q.w := in_calls (h.mono fun _ _ ⟨he, k, hk⟩ => ⟨he, hk ▸ below_drewN' p.h k⟩)
/-- A world of the class has a name of its own. -/
theorem toIn {C : World → Prop} {w : World} (h : C w) : ∃ q : In C, w = q.w := ⟨⟨w, h⟩, rfl⟩
theorem below_self (w : World) : Below w.heap.size w w := Below.refl _ _
theorem aft_next {W w w1 : World} (h : Aft W w) (hb : Below w.heap.size w w1) : Aft W w1 := Below.trans h (hb.mono h.size)
/-- A block that is known, of every world of the class. -/
theorem aft_cells {W : World} {b : Nat} {cs : Array Value} {t : TypeId} (h : W.heap[b]? = some (.cells cs t (0, 0))) : ∀ (p : In (Aft W)) (j : Nat), p.w.cell? ⟨b, j, none⟩ = cs[j]? := fun p j => cell_at (Below.at p.h h (block_lt h)) j
theorem aft_frozen {W : World} {b : Nat} {cs : Array Value} {t : TypeId} (h : W.heap[b]? = some (.cells cs t (0, 0))) : ∀ (p : In (Aft W)) (j : Nat), p.w.frozen? ⟨b, j, none⟩ = false := fun p j => frozen_at (Below.at p.h h (block_lt h)) j
theorem aft_at {W : World} {b : Nat} {o : Obj} (h : W.heap[b]? = some o) : ∀ (p : In (Aft W)), p.w.heap[b]? = some o := fun p => Below.at p.h h (block_lt h)
theorem aft_lt {W : World} {b : Nat} (h : b < W.heap.size) : ∀ (p : In (Aft W)), b < p.w.heap.size := fun p => Nat.lt_of_lt_of_le h p.h.size
theorem below_setRowN {B g : Nat} {w0 w : World} (hb : Below B w0 w) (hBg : B ≤ g) (cs : Array Value) : Below B w0 (w.setRow g cs) :=
  ⟨hb.os, hb.tape, hb.output, by simpa using hb.size, fun k hk => by rw [setRow_other _ _ _ _ (by omega)]; exact hb.block k hk⟩
theorem only_setRowN {S : List Nat} {g : Nat} {w0 w : World} (ho : Only S w0 w) (hg : g ∈ S ∨ w0.heap.size ≤ g) (cs : Array Value) : Only S w0 (w.setRow g cs) :=
  ⟨ho.os, ho.tape, ho.output, by simpa using ho.size, fun k hk hn => by rw [setRow_other _ _ _ _ (by rintro rfl; rcases hg with hg | hg; exact hn hg; omega)]; exact ho.block k hk hn⟩
theorem setRow_at {w : World} {g : Nat} {old : Array Value} {t : TypeId} (h : w.heap[g]? = some (.cells old t (0, 0))) (cs : Array Value) : (w.setRow g cs).heap[g]? = some (.cells cs t (0, 0)) := setRow_heap w g old cs t (0, 0) h
theorem setRow_off {w : World} {b g : Nat} {o : Obj} (h : w.heap[b]? = some o) (hne : b ≠ g) (cs : Array Value) : (w.setRow g cs).heap[b]? = some o := by rw [setRow_other _ _ _ _ hne]; exact h
/-- What was there reads as before. -/
theorem bcell {W w1 : World} (hb : Below W.heap.size W w1) : (∀ b o, b < W.heap.size → w1.cell? ⟨b, o, none⟩ = W.cell? ⟨b, o, none⟩) ∧ (∀ b o, b < W.heap.size → w1.frozen? ⟨b, o, none⟩ = W.frozen? ⟨b, o, none⟩) :=
  ⟨fun b o h => hb.cell (p := ⟨b, o, none⟩) h, fun b o h => hb.frozen (p := ⟨b, o, none⟩) h⟩
end Go.Proofs.Ytajbfmdgnkpjgaa
