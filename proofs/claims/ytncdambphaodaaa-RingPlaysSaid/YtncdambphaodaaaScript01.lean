/- A ring law's script in memory: a slice of steps. -/
import Derived.Test.YtncdambphaodaaaRingG
namespace Go.Proofs.Ytncdambphaodaaa
set_option linter.unusedVariables false
open Go.RowKit

structure Op01 where
  k : Int
  v : Int
  la : Option Addr
  ll : List Int
  lc : Nat
/-- The script at an address reads as l. -/
def ScriptAt (w : World) (a : Option Addr) (l : List Op01) : Prop := ∀ i, i < l.length → ∃ blk off o, l[i]? = some o ∧ a = some ⟨blk, off, none⟩ ∧ w.cell? ⟨blk, off + i * 3, none⟩ = some (.int .i64 o.k) ∧ w.cell? ⟨blk, off + i * 3 + 1, none⟩ = some (.int .i64 o.v) ∧ w.cell? ⟨blk, off + i * 3 + 2, none⟩ = some (.slice o.la o.ll.length o.lc) ∧ IntsAt .i64 w o.la o.ll ∧ o.ll.length ≤ o.lc ∧ o.lc ≤ maxLen
theorem ScriptAt.take {w : World} {a : Option Addr} {l : List Op01} (h : ScriptAt w a l) (n : Nat) : ScriptAt w a (l.take n) := fun i hi => by
  rw [List.length_take] at hi
  obtain ⟨blk, off, o, ho, h2⟩ := h i (by omega)
  exact ⟨blk, off, o, by rw [List.getElem?_take, if_pos (by omega)]; exact ho, h2⟩
theorem ScriptAt.below {w w' : World} {a : Option Addr} {l : List Op01} (h : ScriptAt w a l) (hb : Below w.heap.size w w') : ScriptAt w' a l := fun i hi => by
  obtain ⟨blk, off, o, ho, ha, c0, c1, c2, h3, h4⟩ := h i hi
  have hlt : blk < w.heap.size := World.block_lt_of_cell? w _ c0
  exact ⟨blk, off, o, ho, ha, (hb.cell (p := ⟨blk, off + i * 3, none⟩) hlt).trans c0, (hb.cell (p := ⟨blk, off + i * 3 + 1, none⟩) hlt).trans c1, (hb.cell (p := ⟨blk, off + i * 3 + 2, none⟩) hlt).trans c2, h3.below hb, h4⟩
end Go.Proofs.Ytncdambphaodaaa
