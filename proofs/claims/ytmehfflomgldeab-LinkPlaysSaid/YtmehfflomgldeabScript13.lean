/- A link law's script in memory: a slice of steps; its first ones. -/
import Derived.Test.YtmehfflomgldeabLinkH
namespace Go.Proofs.Ytmehfflomgldeab
set_option linter.unusedVariables false
open Go.RowKit
structure O13 where
  k : Int
  l : Int
  x : Int
/-- The script at an address reads as l. -/
def Script13 (w : World) (a : Option Addr) (l : List O13) : Prop := ∀ i, i < l.length → ∃ blk off o, l[i]? = some o ∧ a = some ⟨blk, off, none⟩ ∧ w.cell? ⟨blk, off + i * 3, none⟩ = some (.int .i64 o.k) ∧ w.cell? ⟨blk, off + i * 3 + 1, none⟩ = some (.int .i64 o.l) ∧ w.cell? ⟨blk, off + i * 3 + 2, none⟩ = some (.int .u64 o.x)
theorem Script13.take {w : World} {a : Option Addr} {l : List O13} (h : Script13 w a l) (n : Nat) : Script13 w a (l.take n) := fun i hi => by
  rw [List.length_take] at hi
  obtain ⟨blk, off, o, ho, h2⟩ := h i (by omega)
  exact ⟨blk, off, o, by rw [List.getElem?_take, if_pos (by omega)]; exact ho, h2⟩
theorem Script13.below {w w' : World} {a : Option Addr} {l : List O13} (h : Script13 w a l) (hb : Below w.heap.size w w') : Script13 w' a l := fun i hi => by
  obtain ⟨blk, off, o, ho, ha, c0, c1, c2⟩ := h i hi
  have hlt : blk < w.heap.size := World.block_lt_of_cell? w _ c0
  exact ⟨blk, off, o, ho, ha, (hb.cell (p := ⟨blk, off + i * 3, none⟩) hlt).trans c0, (hb.cell (p := ⟨blk, off + i * 3 + 1, none⟩) hlt).trans c1, (hb.cell (p := ⟨blk, off + i * 3 + 2, none⟩) hlt).trans c2⟩
theorem early13_calls (a : Option Addr) (n c : Nat) (w : World) (hl : n ≤ maxLen) (hc : n ≤ c) :
    Calls Try.prog 18 #[.slice a n c] w fun e w' => e = .returned (.slice a (min n 150) c) ∧ ∃ k, w' = w.drewN k := by
  unfold maxLen at hl
  have e : (min (n : Int) 150).toNat = min n 150 := by omega
  have HE := Lib.hid e
  clear e
  go_enter Try.func18, Try.ntmps18
  go_wp2
  go_ret
  exact ⟨congrArg (fun m => Ending.returned (.slice a m c)) HE.out, 0, rfl⟩
end Go.Proofs.Ytmehfflomgldeab
