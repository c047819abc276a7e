/- A struct of few cells as a result; what stands in its block behind a store of the whole. -/
import Derived.Test.YtajbfmdgnkpjgaaOnly
namespace Go.Proofs.Ytajbfmdgnkpjgaa
set_option linter.unusedVariables false
open Go.RowKit
theorem res_row_tmp {fn : Func} {P : Program} {p u : Tmp} {ty : TypeId} (h : fn.results = #[.cell p ty, .tmp u]) (tmps : Array Value) (w : World) (g : Nat) (t : TypeId) (cs : Array Value) (fr : Nat × Nat) (d : TypeDesc)
    (hp : tmps.getD p undef = .pointer (some ⟨g, 0, none⟩)) (hg : w.heap[g]? = some (.cells cs t fr))
    (hu : P.underlying ty = some d) (hd : (match d with | .struct _ | .array _ _ => true | _ => false) = true) (hi : (P.info? ty).map (·.size) = some cs.size) :
    (results fn tmps).run P w = .ok (.tuple #[.agg cs, tmps.getD u undef]) w := by
  rw [results_cell_tmp h, hp]
  simp [asAddr, run_loadVar_row w g t ty cs fr d hg hu hd hi, Result.andThen]
theorem stored2 {w : World} {b : Nat} {T : TypeId} {c0 c1 u0 u1 : Value} (h : w.heap[b]? = some (.cells #[c0, c1] T (0, 0))) :
    ((w.setCell ⟨b, 0, none⟩ u0).setCell ⟨b, 1, none⟩ u1).heap[b]? = some (.cells #[u0, u1] T (0, 0)) := by
  rw [set_at (set_at h _ _) _ _]; rfl
theorem stored4 {w : World} {b : Nat} {T : TypeId} {c0 c1 c2 c3 u0 u1 u2 u3 : Value} (h : w.heap[b]? = some (.cells #[c0, c1, c2, c3] T (0, 0))) :
    ((((w.setCell ⟨b, 0, none⟩ u0).setCell ⟨b, 1, none⟩ u1).setCell ⟨b, 2, none⟩ u2).setCell ⟨b, 3, none⟩ u3).heap[b]? = some (.cells #[u0, u1, u2, u3] T (0, 0)) := by
  rw [set_at (set_at (set_at (set_at h _ _) _ _) _ _) _ _]; rfl
end Go.Proofs.Ytajbfmdgnkpjgaa
