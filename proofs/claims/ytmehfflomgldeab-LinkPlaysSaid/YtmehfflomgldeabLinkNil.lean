/- A link that isn't there. -/
import Derived.Test.YtmehfflomgldeabLinkE
import Derived.Test.YtmehfflomgldeabTwo
namespace Go.Proofs.Ytmehfflomgldeab
set_option linter.unusedVariables false
open Go.RowKit
theorem nil_is (w : World) (k : Int) : Calls Try.prog 59 #[.pointer none, .int .i64 k] w fun e w' => e = .returned (.bool false) ∧ ∃ n, w' = w.drewN n := by
  go_enter Try.func59, Try.ntmps59
  go_wp2
  go_ret
  exact ⟨rfl, 0, rfl⟩
theorem nil_may (w : World) (k : Int) : Calls Try.prog 28 #[.pointer none, .int .i64 k] w fun e w' => e = .returned (.bool false) ∧ ∃ n, w' = w.drewN n := by
  have HI := Lib.hid (fun w => nil_is w k)
  go_enter Try.func28, Try.ntmps28
  go_wp2_with (first | (go_at_call 59; ((with_reducible refine (HI.out _).mono ?_); rintro e w' ⟨rfl, k, rfl⟩)))
  go_ret
  exact ⟨rfl, _, rfl⟩
theorem nil_credits (w : World) (k : Int) : Calls Try.prog 21 #[.pointer none, .int .i64 k] w fun e w' => e = .returned (.int .i64 0) ∧ ∃ n, w' = w.drewN n := by
  have HI := Lib.hid (fun w => nil_is w k)
  go_enter Try.func21, Try.ntmps21
  go_wp2_with (first | (go_at_call 59; ((with_reducible refine (HI.out _).mono ?_); rintro e w' ⟨rfl, k, rfl⟩)))
  go_ret
  exact ⟨rfl, _, rfl⟩
theorem nil_far (w : World) (k : Int) : Calls Try.prog 23 #[.pointer none, .int .i64 k] w fun e w' => e = .returned (.int .i64 0) ∧ ∃ n, w' = w.drewN n := by
  have HI := Lib.hid (fun w => nil_is w k)
  go_enter Try.func23, Try.ntmps23
  go_wp2_with (first | (go_at_call 59; ((with_reducible refine (HI.out _).mono ?_); rintro e w' ⟨rfl, k, rfl⟩)))
  go_ret
  exact ⟨rfl, _, rfl⟩
theorem nil_flying (w : World) (k : Int) : Calls Try.prog 24 #[.pointer none, .int .i64 k] w fun e w' => e = .returned (.int .i64 0) ∧ ∃ n, w' = w.drewN n := by
  have HI := Lib.hid (fun w => nil_is w k)
  go_enter Try.func24, Try.ntmps24
  go_wp2_with (first | (go_at_call 59; ((with_reducible refine (HI.out _).mono ?_); rintro e w' ⟨rfl, k, rfl⟩)))
  go_ret
  exact ⟨rfl, _, rfl⟩
theorem nil_coming (w : World) (k : Int) : Calls Try.prog 26 #[.pointer none, .int .i64 k] w fun e w' => e = .returned (.int .i64 0) ∧ ∃ n, w' = w.drewN n := by
  have HI := Lib.hid (fun w => nil_is w k)
  go_enter Try.func26, Try.ntmps26
  go_wp2_with (first | (go_at_call 59; ((with_reducible refine (HI.out _).mono ?_); rintro e w' ⟨rfl, k, rfl⟩)))
  go_ret
  exact ⟨rfl, _, rfl⟩
theorem nil_sum (w : World) (k : Int) : Calls Try.prog 30 #[.pointer none, .int .i64 k] w fun e w' => e = .returned (.int .i64 0) ∧ ∃ n, w' = w.drewN n := by
  have H1 := Lib.hid (fun w => nil_credits w k)
  have H2 := Lib.hid (fun w => nil_flying w k)
  have H3 := Lib.hid (fun w => nil_far w k)
  have H4 := Lib.hid (fun w => nil_coming w k)
  go_enter Try.func30, Try.ntmps30
  go_wp2_with (first
    | (go_at_call 21; ((with_reducible refine (H1.out _).mono ?_); rintro e w' ⟨rfl, k, rfl⟩))
    | (go_at_call 24; ((with_reducible refine (H2.out _).mono ?_); rintro e w' ⟨rfl, k, rfl⟩))
    | (go_at_call 23; ((with_reducible refine (H3.out _).mono ?_); rintro e w' ⟨rfl, k, rfl⟩))
    | (go_at_call 26; ((with_reducible refine (H4.out _).mono ?_); rintro e w' ⟨rfl, k, rfl⟩)))
  go_ret
  exact ⟨rfl, by first | exact ⟨_, rfl⟩ | (simp only [World.drewN_drewN]; exact ⟨_, rfl⟩)⟩
theorem nil_idle (w : World) : Calls Try.prog 34 #[.pointer none] w fun e w' => e = .returned (.bool true) ∧ ∃ n, w' = w.drewN n := by
  go_enter Try.func34, Try.ntmps34
  go_wp2
  go_ret
  exact ⟨rfl, 0, rfl⟩
theorem nil_credit (w : World) : Calls Try.prog 33 #[.pointer none] w fun e w' => e = .returned (.int .i64 1) ∧ ∃ n, w' = w.drewN n := by
  go_enter Try.func33, Try.ntmps33
  go_wp2
  go_ret
  exact ⟨rfl, 0, rfl⟩
theorem nil_taken (w : World) (k : Int) : Calls Try.prog 32 #[.pointer none, .int .i64 k] w fun e w' => e = .returned (.int .i64 1) ∧ ∃ n, w' = w.drewN n := by
  have HI := Lib.hid (fun w => nil_is w k)
  go_enter Try.func32, Try.ntmps32
  go_wp2_with (first | (go_at_call 59; ((with_reducible refine (HI.out _).mono ?_); rintro e w' ⟨rfl, k, rfl⟩)))
  go_ret
  exact ⟨rfl, _, rfl⟩
theorem nil_send (w : World) (c : Cl) : Calls Try.prog 35 #[.pointer none, c.val] w fun e w' => e = .returned (.int .i64 1) ∧ Below w.heap.size w w' := by
  obtain ⟨cl, cw⟩ := c
  have HI := Lib.hid (fun w => nil_is w cl)
  go_enter Try.func35, Try.ntmps35
  go_wp2_with (first | (go_at_call 59; ((with_reducible refine (HI.out _).mono ?_); rintro e w' ⟨rfl, k, rfl⟩)))
  go_ret
  exact ⟨rfl, by repeat' (first | (with_reducible assumption) | (with_reducible refine Below.setCell ?_ ?_ _) | (with_reducible refine below_drewN' ?_ _) | (with_reducible refine Below.drew ?_) | (with_reducible refine Below.alloc ?_ ?_ _) | (with_reducible exact Below.refl _ _) | (with_reducible exact Nat.le_refl _) | omega | (simp; done) | (simp; omega))⟩
theorem nil_carry (w : World) : Calls Try.prog 31 #[.pointer none] w fun e w' => e = .returned (.tuple #[Cl.zero.val, .int .i64 1]) ∧ Below w.heap.size w w' := by
  go_enter Try.func31, Try.ntmps31
  go_wp2
  refine bodyPost_ret (res_row_tmp rfl _ _ w.heap.size 35 _ (0, 0) _ rfl (alloc_new _) Try.underlying35 rfl (by kernel_rfl)) rfl ⟨rfl, ?_⟩
  repeat' (first | (with_reducible assumption) | (with_reducible refine Below.setCell ?_ ?_ _) | (with_reducible refine below_drewN' ?_ _) | (with_reducible refine Below.drew ?_) | (with_reducible refine Below.alloc ?_ ?_ _) | (with_reducible exact Below.refl _ _) | (with_reducible exact Nat.le_refl _) | omega | (simp; done) | (simp; omega))
/-! a law's step -/
def kindN (k : Int) : Nat := (k % 4).toNat
theorem kind_int (k : Int) : wrap64 ((IntKind.u64.wrap k).tmod 4) = ((kindN k : Nat) : Int) := by
  have h : IntKind.u64.wrap k = k % 18446744073709551616 := by simp [IntKind.wrap, IntKind.bits, IntKind.signed]
  rw [h, Int.tmod_eq_emod_of_nonneg (by omega)]
  unfold wrap64 kindN
  omega
theorem kind_lt (k : Int) : kindN k < 4 := by unfold kindN; omega
theorem kind13_calls (k l x : Int) (w : World) : Calls Try.prog 29 #[.agg #[.int .i64 k, .int .i64 l, .int .u64 x]] w fun e w' => e = .returned (.int .i64 ((kindN k : Nat) : Int)) ∧ Below w.heap.size w w' := by
  have HK := Lib.hid (kind_int k)
  go_enter Try.func29, Try.ntmps29
  go_wp2
  go_ret
  exact ⟨ret_int HK.out, by repeat' (first | (with_reducible assumption) | (with_reducible refine Below.setCell ?_ ?_ _) | (with_reducible refine below_drewN' ?_ _) | (with_reducible refine Below.drew ?_) | (with_reducible refine Below.alloc ?_ ?_ _) | (with_reducible exact Below.refl _ _) | (with_reducible exact Nat.le_refl _) | omega | (simp; done) | (simp; omega))⟩
theorem kind13_nil : True := trivial
theorem step_nil (k l x : Int) (w : World) : Calls Try.prog 19 #[.pointer none, .agg #[.int .i64 k, .int .i64 l, .int .u64 x]] w fun e w' => e = .returned (.tuple #[Cl.zero.val, .int .i64 1]) ∧ Below w.heap.size w w' := by
  have HK := Lib.hid (fun w => kind13_calls k l x w)
  have HS := Lib.hid (fun w => nil_send w ⟨l, x⟩)
  have HC := Lib.hid (fun w => nil_carry w)
  have HT := Lib.hid (fun w => nil_taken w l)
  have HD := Lib.hid (fun w => nil_credit w)
  have hk := kind_lt k
  generalize kindN k = kd at *
  have h4 : kd = 0 ∨ kd = 1 ∨ kd = 2 ∨ kd = 3 := by omega
  have HX : Hid (∀ w1, Below (w.heap.size + 1 + 1) ((w.alloc (.cells #[.int .i64 k, .int .i64 l, .int .u64 x] 40)).alloc (.cells #[.int .i64 0, .int .u64 0] 35)) w1 → w1.heap[w.heap.size]? = some (.cells #[.int .i64 k, .int .i64 l, .int .u64 x] 40 (0, 0)) ∧ w1.heap[w.heap.size + 1]? = some (.cells #[.int .i64 0, .int .u64 0] 35 (0, 0)) ∧ Below w.heap.size w w1) := fun w1 hb =>
    ⟨Below.at hb (alloc_old (alloc_new _) _) (by omega), Below.at hb (alloc_at _ _ (by simp)) (by omega), Below.trans (((Below.refl _ _).alloc (Nat.le_refl _) _).alloc (by simp) _) (hb.mono (by omega))⟩
  rcases h4 with rfl | rfl | rfl | rfl
  all_goals
    go_enter Try.func19, Try.ntmps19
    go_wp2_with (first
      | (go_at_call 29; ((with_reducible refine (HK.out _).mono ?_); rintro e w1 ⟨rfl, hb1⟩; have hb1' : Below (w.heap.size + 1 + 1) ((w.alloc (.cells #[.int .i64 k, .int .i64 l, .int .u64 x] 40)).alloc (.cells #[.int .i64 0, .int .u64 0] 35)) w1 := (by simpa using hb1); have hF := (HX.out _ hb1').1; have hG := (HX.out _ hb1').2.1; have f1 := cell_at hF 1; have f2 := cell_at hF 2; have g0 := cell_at hG 0; have g1 := cell_at hG 1; have g2 := frozen_at hG 0; have g3 := frozen_at hG 1; have HB1 := Lib.hid hb1'; have HG := Lib.hid hG; have hs1 := hb1'.size; clear hb1 hb1' hF hG))
      | (go_at_call 35; ((with_reducible refine (HS.out _).mono ?_); rintro e w2 ⟨rfl, hb2⟩; have hG2 := Below.at hb2 HG.out (block_lt HG.out); clear g0 g1 g2 g3; have g0 := cell_at hG2 0; have g1 := cell_at hG2 1; have g2 := frozen_at hG2 0; have g3 := frozen_at hG2 1; have HG2 := Lib.hid hG2; clear hG2))
      | (go_at_call 31; ((with_reducible refine (HC.out _).mono ?_); rintro e w2 ⟨rfl, hb2⟩; have hG2 := Below.at hb2 HG.out (block_lt HG.out); clear g0 g1 g2 g3; have g0 := cell_at hG2 0; have g1 := cell_at hG2 1; have g2 := frozen_at hG2 0; have g3 := frozen_at hG2 1; have HG2 := Lib.hid hG2; clear hG2))
      | (go_at_call 32; ((with_reducible refine (HT.out _).mono ?_); rintro e w' ⟨rfl, k, rfl⟩))
      | (go_at_call 33; ((with_reducible refine (HD.out _).mono ?_); rintro e w' ⟨rfl, k, rfl⟩)))
    have hB1 := (HX.out _ HB1.out).2.2
    have hz := hB1.size
    first
    | (have hB2 : Below w.heap.size w w2 := hB1.trans (hb2.mono hz)
       refine bodyPost_ret (res_row_tmp rfl _ _ (w.heap.size + 1) 35 _ (0, 0) _ rfl (stored2 HG2.out) Try.underlying35 rfl (by kernel_rfl)) rfl ⟨rfl, ?_⟩
       repeat' (first | (with_reducible assumption) | (with_reducible refine Below.setCell ?_ ?_ _) | (with_reducible refine below_drewN' ?_ _) | (with_reducible refine Below.drew ?_) | (with_reducible refine Below.alloc ?_ ?_ _) | (with_reducible exact Below.refl _ _) | (with_reducible exact Nat.le_refl _) | omega | (simp; done) | (simp; omega)))
    | (refine bodyPost_ret (res_row_tmp rfl _ _ (w.heap.size + 1) 35 _ (0, 0) _ rfl (stored2 (drewN_at HG.out _)) Try.underlying35 rfl (by kernel_rfl)) rfl ⟨rfl, ?_⟩
       repeat' (first | (with_reducible assumption) | (with_reducible refine Below.setCell ?_ ?_ _) | (with_reducible refine below_drewN' ?_ _) | (with_reducible refine Below.drew ?_) | (with_reducible refine Below.alloc ?_ ?_ _) | (with_reducible exact Below.refl _ _) | (with_reducible exact Nat.le_refl _) | omega | (simp; done) | (simp; omega)))
end Go.Proofs.Ytmehfflomgldeab
