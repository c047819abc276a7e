/- A join that isn't there; the walk of JoinNil. -/
import Derived.Test.YtmehfflomgldeaaJoinF
namespace Go.Proofs.Ytmehfflomgldeaa
set_option linter.unusedVariables false
set_option linter.unusedSimpArgs false
open Go.RowKit BM
theorem joinNil_begun (w : World) : Calls Try.prog 40 #[.pointer none] w fun e w' => e = .returned (.bool false) ∧ ∃ k, w' = w.drewN k := by
  go_enter Try.func40, Try.ntmps40
  go_wp2
  go_ret
  exact ⟨rfl, by first | exact ⟨0, rfl⟩ | exact drew_close1⟩
theorem joinNil_has (w : World) : Calls Try.prog 42 #[.pointer none] w fun e w' => e = .returned (.int .i64 0) ∧ ∃ k, w' = w.drewN k := by
  go_enter Try.func42, Try.ntmps42
  go_wp2
  go_ret
  exact ⟨rfl, by first | exact ⟨0, rfl⟩ | exact drew_close1⟩
theorem joinNil_take (x : Int) (w : World) : Calls Try.prog 39 #[.pointer none, .int .u64 x] w fun e w' => e = .returned (.tuple #[.agg #[.int .i64 0, .int .i64 0, .int .i64 0, .string ⟨#[]⟩], .bool false, .int .i64 1]) ∧ Below w.heap.size w w' := by
  go_enter Try.func39, Try.ntmps39
  go_wp2
  refine bodyPost_ret (res_row_tmp2 rfl _ _ w.heap.size 29 #[.int .i64 0, .int .i64 0, .int .i64 0, .string ⟨#[]⟩] (0, 0) _ rfl (by repeat' (first | (with_reducible exact alloc_new _) | (with_reducible refine alloc_old ?_ _) | (with_reducible apply stored4) | (with_reducible refine set_other ?_ ?_ _ _) | (with_reducible refine drewN_at ?_ _) | (simp; done) | (simp; omega))) Try.underlying29 rfl (by kernel_rfl)) rfl ⟨rfl, by repeat' (first | (with_reducible assumption) | (with_reducible refine below_setRowN ?_ ?_ _) | (with_reducible refine Below.setCell ?_ ?_ _) | (with_reducible refine below_drewN' ?_ _) | (with_reducible refine Below.drew ?_) | (with_reducible refine Below.alloc ?_ ?_ _) | (with_reducible exact Below.refl _ _) | (with_reducible exact Nat.le_refl _) | (simp; done) | omega | (simp; omega))⟩
set_option maxRecDepth 100000 in
set_option maxHeartbeats 2000000 in
theorem joinNil_walk (x : Int) (w : World) :
    Calls Try.prog 14 #[.int .u64 x] w fun e w' => e = .returned (.bool true) ∧ Below w.heap.size w w' := by
  have hJ := fun w' => join_all [] none 0 w' (by decide) (by simp) CellsOff.nil
  dsimp only [JS.allFrom, List.length_nil] at hJ
  have HJ := Lib.hid hJ
  clear hJ
  have HL := Lib.hid (fun w => lives11_calls w)
  have HT := Lib.hid (fun w => joinNil_take x w)
  have HBG := Lib.hid (fun w => joinNil_begun w)
  have HHS := Lib.hid (fun w => joinNil_has w)
  go_enter Try.func14, Try.ntmps14
  go_wp2_with (first
    | (go_at_call 34; ((with_reducible refine (HL.out _).mono ?_); rintro e w1 ⟨rfl, hb1⟩; have HB1 := Lib.hid hb1; clear hb1))
    | (go_at_call 39; ((with_reducible refine (HT.out _).mono ?_); rintro e w2 ⟨rfl, hb2⟩; have HB2 := Lib.hid hb2; clear hb2))
    | (go_at_call 36; ((with_reducible refine (HJ.out _).mono ?_); rintro e w3 ⟨v3, rfl, hown3, hb3⟩; obtain ⟨p3, q3, rfl, -, -, hc3⟩ := CellsOff.own hown3 [] (by simp); have hF : w3.heap[w2.heap.size]? = some (.cells #[.int .i64 0, .int .i64 0, .int .i64 0, .string ⟨#[]⟩] 29 (0, 0)) := Below.at hb3 (by repeat' (first | (with_reducible exact alloc_new _) | (with_reducible refine drewN_at ?_ _) | (simp; done))) (by simp); have fF := fun j => cell_at hF j; have hlF := block_lt hF; have HB3 := Lib.hid hb3; clear hF hown3 hc3 hb3))
    | (go_at_call 40; ((with_reducible refine (HBG.out _).mono ?_); rintro e w4 ⟨rfl, k4, rfl⟩))
    | (go_at_call 42; ((with_reducible refine (HHS.out _).mono ?_); rintro e w5 ⟨rfl, k5, rfl⟩)))
  go_ret
  have h12 : Below w.heap.size w w2 := HB1.out.trans (HB2.out.mono HB1.out.size)
  have h13 : Below w.heap.size w w3 := (h12.alloc h12.size _).trans (HB3.out.mono (by have := h12.size; simp; omega))
  exact ⟨rfl, by repeat' (first | exact h13 | (refine below_drewN' ?_ _))⟩
end Go.Proofs.Ytmehfflomgldeaa
