/- The walk of LinkNil. -/
import Derived.Test.YtmehfflomgldeabLinkG
namespace Go.Proofs.Ytmehfflomgldeab
set_option linter.unusedVariables false
open Go.RowKit
set_option maxRecDepth 100000 in
set_option maxHeartbeats 1000000 in
theorem linkNil_walk (k l x : Int) (w : World) : Calls Try.prog 7 #[.agg #[.int .i64 k, .int .i64 l, .int .u64 x]] w fun e w' => e = .returned (.bool true) ∧ Below w.heap.size w w' := by
  have HL := Lib.hid lives13_calls
  have HS := Lib.hid (fun w => step_nil k l x w)
  have HM := Lib.hid (fun w => nil_may w l)
  have HU := Lib.hid (fun w => nil_sum w l)
  have HI := Lib.hid nil_idle
  go_enter Try.func7, Try.ntmps7
  go_wp2_with (first
    | (go_at_call 15; ((with_reducible refine (HL.out _).mono ?_); rintro e w1 ⟨rfl, hb1⟩; have hF := Below.at hb1 (alloc_new _) (by simp); have f0 := cell_at hF 0; have f1 := cell_at hF 1; have f2 := cell_at hF 2; have HF := Lib.hid hF; have hz1 := block_lt hF; clear hF))
    | (go_at_call 19; ((with_reducible refine (HS.out _).mono ?_); rintro e w2 ⟨rfl, hb2⟩; have hF := Below.at hb2 HF.out (block_lt HF.out); clear f0 f1 f2; have f1 := cell_at hF 1; have hz2 := block_lt hF; clear hF))
    | (go_at_call 28; ((with_reducible refine (HM.out _).mono ?_); rintro e w' ⟨rfl, k, rfl⟩))
    | (go_at_call 30; ((with_reducible refine (HU.out _).mono ?_); rintro e w' ⟨rfl, k, rfl⟩))
    | (go_at_call 34; ((with_reducible refine (HI.out _).mono ?_); rintro e w' ⟨rfl, k, rfl⟩)))
  go_ret
  have h1 : Below w.heap.size w w1 := Below.trans (by repeat' (first | (with_reducible assumption) | (with_reducible refine Below.setCell ?_ ?_ _) | (with_reducible refine below_drewN' ?_ _) | (with_reducible refine Below.drew ?_) | (with_reducible refine Below.alloc ?_ ?_ _) | (with_reducible exact Below.refl _ _) | (with_reducible exact Nat.le_refl _) | omega | (simp; done) | (simp; omega))) (hb1.mono (by simp))
  have h2 : Below w.heap.size w w2 := h1.trans (hb2.mono h1.size)
  have hs2 := h2.size
  exact ⟨rfl, by repeat' (first | (with_reducible assumption) | (with_reducible refine Below.setCell ?_ ?_ _) | (with_reducible refine below_drewN' ?_ _) | (with_reducible refine Below.drew ?_) | (with_reducible refine Below.alloc ?_ ?_ _) | (with_reducible exact Below.refl _ _) | (with_reducible exact Nat.le_refl _) | omega | (simp; done) | (simp; omega))⟩
end Go.Proofs.Ytmehfflomgldeab
