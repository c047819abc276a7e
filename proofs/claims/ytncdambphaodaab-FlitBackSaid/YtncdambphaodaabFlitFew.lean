/- A flit law's few: a flit of few bytes. -/
import Derived.Test.YtncdambphaodaabRefFlitG
namespace Go.Proofs.Ytncdambphaodaab
set_option linter.unusedVariables false
open Go.RowKit BM
def fewF (f : Fl) : Fl := ⟨f.kind, f.src, f.dst, f.seq, f.len, f.more, f.cast, f.data.extract 0 (min f.data.size 10)⟩
theorem few_calls (f : Fl) (w : World) (hs : f.data.size ≤ maxLen) : Calls Try.prog 23 #[f.val] w fun e w' => e = .returned (fewF f).val ∧ Below w.heap.size w w' := by
  obtain ⟨k, s, d, q, l, m, c, data⟩ := f
  unfold maxLen at hs
  dsimp only at hs
  obtain ⟨X, hX⟩ : ∃ X : Nat, X = min data.size 10 := ⟨_, rfl⟩
  have m1 : min (data.size : Int) 10 = (X : Int) := by omega
  have hXs : X ≤ data.size := by omega
  have HF : Hid (fewF ⟨k, s, d, q, l, m, c, data⟩ = ⟨k, s, d, q, l, m, c, data.extract 0 X⟩) := by unfold Hid fewF; rw [hX]
  clear hX
  unfold Fl.val
  go_enter Try.func23, Try.ntmps23
  go_wp2
  refine bodyPost_ret (results_cell_row rfl _ _ (w.heap.size + 1) 44 #[.int .i64 k, .int .i64 s, .int .i64 d, .int .i64 q, .int .i64 l, .bool m, .bool c, .string (data.extract 0 X)] (0, 0) _ rfl (alloc_at _ _ (by simp)) Try.underlying44 rfl (by kernel_rfl)) rfl ⟨by rw [HF.out], ?_⟩
  repeat' (first | (with_reducible assumption) | (with_reducible refine Below.setCell ?_ ?_ _) | (with_reducible refine below_drewN' ?_ _) | (with_reducible refine Below.drew ?_) | (with_reducible refine Below.alloc ?_ ?_ _) | (with_reducible exact Below.refl _ _) | (with_reducible exact Nat.le_refl _) | omega | (simp; done) | (simp; omega))
end Go.Proofs.Ytncdambphaodaab
