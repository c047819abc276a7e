/- An inbox law's script in memory: a slice of steps; its first ones. -/
import Derived.Test.YtajbfmdgnkpjgaaInboxI
namespace Go.Proofs.Ytajbfmdgnkpjgaa
set_option linter.unusedVariables false
open Go.RowKit
structure O16 where
  k : Int
  p : Pk
def Pk.Wf (p : Pk) : Prop := (Lit.int .i64 p.src).wf = true ∧ (Lit.int .i64 p.dst).wf = true ∧ (Lit.int .i64 p.seq).wf = true
/-- The script at an address reads as l. -/
def Script16 (w : World) (a : Option Addr) (l : List O16) : Prop := ∀ i, i < l.length → ∃ blk off o, l[i]? = some o ∧ a = some ⟨blk, off, none⟩ ∧ o.p.Wf ∧ w.cell? ⟨blk, off + i * 5, none⟩ = some (.int .i64 o.k) ∧ w.cell? ⟨blk, off + i * 5 + 1, none⟩ = some (.int .i64 o.p.src) ∧ w.cell? ⟨blk, off + i * 5 + 2, none⟩ = some (.int .i64 o.p.dst) ∧ w.cell? ⟨blk, off + i * 5 + 3, none⟩ = some (.int .i64 o.p.seq) ∧ w.cell? ⟨blk, off + i * 5 + 4, none⟩ = some (.string o.p.data)
theorem Script16.take {w : World} {a : Option Addr} {l : List O16} (h : Script16 w a l) (n : Nat) : Script16 w a (l.take n) := fun i hi => by
  rw [List.length_take] at hi
  obtain ⟨blk, off, o, ho, h2⟩ := h i (by omega)
  exact ⟨blk, off, o, by rw [List.getElem?_take, if_pos (by omega)]; exact ho, h2⟩
theorem Script16.below {w w' : World} {a : Option Addr} {l : List O16} (h : Script16 w a l) (hb : Below w.heap.size w w') : Script16 w' a l := fun i hi => by
  obtain ⟨blk, off, o, ho, ha, hw, c0, c1, c2, c3, c4⟩ := h i hi
  have hlt : blk < w.heap.size := World.block_lt_of_cell? w _ c0
  exact ⟨blk, off, o, ho, ha, hw, (hb.cell (p := ⟨blk, _, none⟩) hlt).trans c0, (hb.cell (p := ⟨blk, _, none⟩) hlt).trans c1, (hb.cell (p := ⟨blk, _, none⟩) hlt).trans c2, (hb.cell (p := ⟨blk, _, none⟩) hlt).trans c3, (hb.cell (p := ⟨blk, _, none⟩) hlt).trans c4⟩
theorem early16_calls (a : Option Addr) (n c : Nat) (w : World) (hl : n ≤ maxLen) (hc : n ≤ c) :
    Calls Try.prog 21 #[.slice a n c] w fun e w' => e = .returned (.slice a (min n 120) c) ∧ ∃ k, w' = w.drewN k := by
  unfold maxLen at hl
  have e : (min (n : Int) 120).toNat = min n 120 := by omega
  have HE := Lib.hid e
  clear e
  go_enter Try.func21, Try.ntmps21
  go_wp2
  go_ret
  exact ⟨congrArg (fun m => Ending.returned (.slice a m c)) HE.out, 0, rfl⟩
theorem kind16_calls (o0 o1 o2 o3 : Int) (d : ByteArray) (w : World) :
    Calls Try.prog 22 #[.agg #[.int .i64 o0, .int .i64 o1, .int .i64 o2, .int .i64 o3, .string d]] w fun e w' => e = .returned (.int .i64 (wrap64 ((IntKind.u64.wrap o0).tmod 4))) ∧ Below w.heap.size w w' := by
  go_enter Try.func22, Try.ntmps22
  go_wp2
  go_ret
  exact ⟨rfl, by repeat' (first | (with_reducible assumption) | (with_reducible refine below_setRowN ?_ ?_ _) | (with_reducible refine Below.setCell ?_ ?_ _) | (with_reducible refine below_drewN' ?_ _) | (with_reducible refine Below.drew ?_) | (with_reducible refine Below.alloc ?_ ?_ _) | (with_reducible exact Below.refl _ _) | (with_reducible exact Nat.le_refl _) | (simp; done) | omega | (simp; omega))⟩
end Go.Proofs.Ytajbfmdgnkpjgaa
