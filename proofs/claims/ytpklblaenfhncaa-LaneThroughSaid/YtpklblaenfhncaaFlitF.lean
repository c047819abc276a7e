/- flit.Read: a word's flit. -/
import Derived.Test.YtpklblaenfhncaaFlitE
namespace Go.Proofs.Ytpklblaenfhncaa
set_option linter.unusedVariables false
open Go.RowKit BM
theorem results_row_tmp {fn : Func} {P : Program} {p u : Tmp} {ty : TypeId} (h : fn.results = #[.cell p ty, .tmp u]) (tmps : Array Value) (w : World) (g : Nat) (t : TypeId) (cs : Array Value) (fr : Nat × Nat) (d : TypeDesc)
    (hp : tmps.getD p undef = .pointer (some ⟨g, 0, none⟩)) (hg : w.heap[g]? = some (.cells cs t fr))
    (hu : P.underlying ty = some d) (hd : (match d with | .struct _ | .array _ _ => true | _ => false) = true) (hi : (P.info? ty).map (·.size) = some cs.size) :
    (results fn tmps).run P w = .ok (.tuple #[.agg cs, tmps.getD u undef]) w := by
  rw [results_cell_tmp h, hp]
  simp [asAddr, run_loadVar_row w g t ty cs fr d hg hu hd hi, Result.andThen]
theorem readF_sum {x : Nat} (h : rightB x = false) : readF x = (zeroFl, 3) := by unfold readF; rw [h]; rfl
theorem readF_yes {x : Nat} (h : rightB x = true) (h2 : writeF (lookF x) = ((x : Int), 0)) : readF x = (lookF x, 0) := by unfold readF; rw [if_pos h, if_pos h2]
theorem readF_no {x : Nat} (h : rightB x = true) (h2 : ¬ writeF (lookF x) = ((x : Int), 0)) : readF x = (zeroFl, 2) := by unfold readF; rw [if_pos h, if_neg h2]
theorem read_sum (x : Nat) (hx : x < 2 ^ 64) (w : World) (h : rightB x = false) :
    Calls Try.prog 42 #[.int .u64 (x : Int)] w fun e w' => e = .returned (.tuple #[zeroFl.val, .int .i64 3]) ∧ Below w.heap.size w w' := by
  have HR := Lib.hid (fun w => right_calls (x : Int) w (by omega) (by omega))
  rw [Int.toNat_natCast, h] at HR
  clear h
  go_enter Try.func42, Try.ntmps42
  go_wp2_with (first | (go_at_call 70; ((with_reducible refine (HR.out _).mono ?_); rintro e w' ⟨rfl, k, rfl⟩)))
  refine bodyPost_ret (results_row_tmp rfl _ _ w.heap.size 32 _ (0, 0) _ rfl (stored8 (drewN_at (alloc_new _) _)) Try.underlying32 rfl (by kernel_rfl)) rfl ⟨rfl, ?_⟩
  repeat' (first | (with_reducible assumption) | (with_reducible refine Below.setCell ?_ ?_ _) | (with_reducible refine below_drewN' ?_ _) | (with_reducible refine Below.alloc ?_ ?_ _) | (with_reducible exact Below.refl _ _) | (with_reducible exact Nat.le_refl _) | omega | (simp; done) | (simp; omega))
theorem unp7_calls (x : Nat) (hx : x < 2 ^ 64) (a : Option Addr) (w : World) (hr : IntsAt .i64 w a headSizes) :
    Calls Try.prog 72 #[.int .u64 (x : Int), .slice a 7 7] w fun e w' => ∃ (g c : Nat) (cs : Array Value), e = .returned (.tuple #[.slice (some ⟨g, 0, none⟩) 7 c, .int .i64 0]) ∧ w'.heap[g]? = some (.cells cs 82 (0, 0)) ∧ (∀ (i u : Nat), [getN x 0 2, getN x 2 12, getN x 14 12, getN x 26 16, getN x 42 7, getN x 49 1, getN x 50 1][i]? = some u → cs[i]? = some (Value.int .u32 (u : Int))) ∧ w.heap.size ≤ g ∧ 7 ≤ c ∧ Below w.heap.size w w' := by
  refine (unpack_calls (x : Int) a 7 headSizes w (by omega) (by omega) (by decide) hr).mono ?_
  rintro e w' ⟨v, rfl, hown, hb⟩
  rw [Int.toNat_natCast] at hown ⊢
  have e1 : unpackR x headSizes = ([getN x 0 2, getN x 2 12, getN x 14 12, getN x 26 16, getN x 42 7, getN x 49 1, getN x 50 1].map (fun n : Nat => (n : Int)), 0) := by
    unfold unpackR; rw [if_pos (by decide)]; rfl
  rw [e1] at hown ⊢
  generalize [getN x 0 2, getN x 2 12, getN x 14 12, getN x 26 16, getN x 42 7, getN x 49 1, getN x 50 1] = L at *
  have hL : L.length = 7 := by have := congrArg (fun p => p.1.length) e1; simp at this; rw [← this]; unfold unpackR; rw [if_pos (by decide)]; exact unpackFrom_length ..
  have h' := hown
  dsimp only at h' hown ⊢
  rcases hown.2 with ⟨rfl, h0⟩ | ⟨g, cap, cur, rfl, hbg, hg, hnc, _, _, ht⟩
  · rw [List.length_map] at h0; omega
  · simp only [List.length_map, hL] at hnc ⊢
    refine ⟨g, cap, cur, rfl, hg, fun i u hu => ?_, hbg, hnc, hb⟩
    have := h'.cells rfl i (.int .u32 (u : Int)) (by rw [List.getElem?_map, List.getElem?_map, hu]; rfl)
    rw [addP, cell_at hg, Nat.zero_add] at this
    exact this
set_option maxRecDepth 100000 in
set_option maxHeartbeats 1000000 in
theorem read_data (x : Nat) (hx : x < 2 ^ 64) (w : World) (h : rightB x = true) (hk : ¬ getN x 0 2 = 1) :
    Calls Try.prog 42 #[.int .u64 (x : Int)] w fun e w' => e = .returned (.tuple #[(readF x).1.val, .int .i64 (readF x).2]) ∧ Below w.heap.size w w' := by
  have HR := Lib.hid (fun w => right_calls (x : Int) w (by omega) (by omega))
  rw [Int.toNat_natCast, h] at HR
  have hlk : lookF x = dataF x := by unfold lookF; rw [if_neg hk]
  have HD := Lib.hid (fun w => data_calls x hx w)
  have HWr := Lib.hid (fun w => flit_write (dataF x) w)
  have hkd : (dataF x).kind = (getN x 0 2 : Nat) := rfl
  have hkk : ¬ (((getN x 0 2 : Nat) : Int)) = 1 := by omega
  rw [← hkd] at hkk
  by_cases hw : writeF (dataF x) = ((x : Int), 0)
  · have HF := Lib.hid (readF_yes h (by rw [hlk]; exact hw))
    rw [HF.out, hlk]
    rw [hw] at HWr
    clear h hw HF hlk hkd hk
    generalize dataF x = f at *
    obtain ⟨kind, src, dst, seq, len, more, cast, data⟩ := f
    dsimp only at hkk
    go_enter Try.func42, Try.ntmps42
    go_wp2_with (first
      | (go_at_call 70; ((with_reducible refine (HR.out _).mono ?_); rintro e w' ⟨rfl, k, rfl⟩))
      | (go_at_call 71; ((with_reducible refine (HD.out _).mono ?_); rintro e w2 ⟨rfl, hB2⟩))
      | (go_at_call 74; ((with_reducible refine (HWr.out _).mono ?_); rintro e w3 ⟨rfl, hB3⟩; (have hlt2 : w.heap.size < w2.heap.size := (by have := hB2.size; simp at this; omega); have hF3 := Below.at hB3 (alloc_new _) (by simp); have hR3 := Below.at hB3 (alloc_old (Below.at hB2 (drewN_at (alloc_new _) _) (by simp)) _) (by simp; omega); have f0 := cell_at hF3 0; have f1 := cell_at hF3 1; have f2 := cell_at hF3 2; have f3 := cell_at hF3 3; have f4 := cell_at hF3 4; have f5 := cell_at hF3 5; have f6 := cell_at hF3 6; have f7 := cell_at hF3 7; have r0 := cell_at hR3 0; have r1 := cell_at hR3 1; have r2 := cell_at hR3 2; have r3 := cell_at hR3 3; have r4 := cell_at hR3 4; have r5 := cell_at hR3 5; have r6 := cell_at hR3 6; have r7 := cell_at hR3 7; have z0 := frozen_at hR3 0; have z1 := frozen_at hR3 1; have z2 := frozen_at hR3 2; have z3 := frozen_at hR3 3; have z4 := frozen_at hR3 4; have z5 := frozen_at hR3 5; have z6 := frozen_at hR3 6; have z7 := frozen_at hR3 7; have HR3 := Lib.hid hR3; have HB3 : Hid (Below w.heap.size w w3) := (Below.trans (Below.alloc (Below.trans (below_drewN' ((Below.refl _ _).alloc (Nat.le_refl _) _) _) (hB2.mono (by simp))) (by omega) _) (hB3.mono (by simp; omega))); clear hF3 hR3 hB2 hB3))))
    refine bodyPost_ret (results_row_tmp rfl _ _ w.heap.size 32 _ (0, 0) _ rfl (stored8 HR3.out) Try.underlying32 rfl (by kernel_rfl)) rfl ⟨rfl, ?_⟩
    have hb3 := HB3.out
    clear f0 f1 f2 f3 f4 f5 f6 f7 r0 r1 r2 r3 r4 r5 r6 r7 z0 z1 z2 z3 z4 z5 z6 z7
    repeat' (first | (with_reducible assumption) | (with_reducible refine Below.setCell ?_ ?_ _) | (with_reducible refine below_drewN' ?_ _) | (with_reducible refine Below.alloc ?_ ?_ _) | (with_reducible exact Below.refl _ _) | (with_reducible exact Nat.le_refl _) | omega | (simp; done) | (simp; omega))
  · have HF := Lib.hid (readF_no h (by rw [hlk]; exact hw))
    rw [HF.out]
    have hx0 : (writeF (dataF x)).2 = 0 → ((writeF (dataF x)).1 != (x : Int)) = true := fun h0 => by
      rw [bne_iff_ne]; intro h1; exact hw (Prod.ext h1 h0)
    generalize writeF (dataF x) = wf at *
    obtain ⟨wv, we⟩ := wf
    dsimp only at HWr hx0
    clear h hw HF hlk hkd hk
    generalize dataF x = f at *
    obtain ⟨kind, src, dst, seq, len, more, cast, data⟩ := f
    dsimp only at hkk
    by_cases h0 : we = 0
    · have hx1 := hx0 h0
      subst h0
      clear hx0
      go_enter Try.func42, Try.ntmps42
      go_wp2_with (first
        | (go_at_call 70; ((with_reducible refine (HR.out _).mono ?_); rintro e w' ⟨rfl, k, rfl⟩))
        | (go_at_call 71; ((with_reducible refine (HD.out _).mono ?_); rintro e w2 ⟨rfl, hB2⟩))
        | (go_at_call 74; ((with_reducible refine (HWr.out _).mono ?_); rintro e w3 ⟨rfl, hB3⟩; (have hlt2 : w.heap.size < w2.heap.size := (by have := hB2.size; simp at this; omega); have hF3 := Below.at hB3 (alloc_new _) (by simp); have hR3 := Below.at hB3 (alloc_old (Below.at hB2 (drewN_at (alloc_new _) _) (by simp)) _) (by simp; omega); have f0 := cell_at hF3 0; have f1 := cell_at hF3 1; have f2 := cell_at hF3 2; have f3 := cell_at hF3 3; have f4 := cell_at hF3 4; have f5 := cell_at hF3 5; have f6 := cell_at hF3 6; have f7 := cell_at hF3 7; have r0 := cell_at hR3 0; have r1 := cell_at hR3 1; have r2 := cell_at hR3 2; have r3 := cell_at hR3 3; have r4 := cell_at hR3 4; have r5 := cell_at hR3 5; have r6 := cell_at hR3 6; have r7 := cell_at hR3 7; have z0 := frozen_at hR3 0; have z1 := frozen_at hR3 1; have z2 := frozen_at hR3 2; have z3 := frozen_at hR3 3; have z4 := frozen_at hR3 4; have z5 := frozen_at hR3 5; have z6 := frozen_at hR3 6; have z7 := frozen_at hR3 7; have HR3 := Lib.hid hR3; have HB3 : Hid (Below w.heap.size w w3) := (Below.trans (Below.alloc (Below.trans (below_drewN' ((Below.refl _ _).alloc (Nat.le_refl _) _) _) (hB2.mono (by simp))) (by omega) _) (hB3.mono (by simp; omega))); clear hF3 hR3 hB2 hB3))))
      refine bodyPost_ret (results_row_tmp rfl _ _ w.heap.size 32 _ (0, 0) _ rfl (stored8 HR3.out) Try.underlying32 rfl (by kernel_rfl)) rfl ⟨rfl, ?_⟩
      have hb3 := HB3.out
      clear f0 f1 f2 f3 f4 f5 f6 f7 r0 r1 r2 r3 r4 r5 r6 r7 z0 z1 z2 z3 z4 z5 z6 z7
      repeat' (first | (with_reducible assumption) | (with_reducible refine Below.setCell ?_ ?_ _) | (with_reducible refine below_drewN' ?_ _) | (with_reducible refine Below.alloc ?_ ?_ _) | (with_reducible exact Below.refl _ _) | (with_reducible exact Nat.le_refl _) | omega | (simp; done) | (simp; omega))
    · have hne : (we != 0) = true := by rw [bne_iff_ne]; exact h0
      clear hx0 h0
      go_enter Try.func42, Try.ntmps42
      go_wp2_with (first
        | (go_at_call 70; ((with_reducible refine (HR.out _).mono ?_); rintro e w' ⟨rfl, k, rfl⟩))
        | (go_at_call 71; ((with_reducible refine (HD.out _).mono ?_); rintro e w2 ⟨rfl, hB2⟩))
        | (go_at_call 74; ((with_reducible refine (HWr.out _).mono ?_); rintro e w3 ⟨rfl, hB3⟩; (have hlt2 : w.heap.size < w2.heap.size := (by have := hB2.size; simp at this; omega); have hF3 := Below.at hB3 (alloc_new _) (by simp); have hR3 := Below.at hB3 (alloc_old (Below.at hB2 (drewN_at (alloc_new _) _) (by simp)) _) (by simp; omega); have f0 := cell_at hF3 0; have f1 := cell_at hF3 1; have f2 := cell_at hF3 2; have f3 := cell_at hF3 3; have f4 := cell_at hF3 4; have f5 := cell_at hF3 5; have f6 := cell_at hF3 6; have f7 := cell_at hF3 7; have r0 := cell_at hR3 0; have r1 := cell_at hR3 1; have r2 := cell_at hR3 2; have r3 := cell_at hR3 3; have r4 := cell_at hR3 4; have r5 := cell_at hR3 5; have r6 := cell_at hR3 6; have r7 := cell_at hR3 7; have z0 := frozen_at hR3 0; have z1 := frozen_at hR3 1; have z2 := frozen_at hR3 2; have z3 := frozen_at hR3 3; have z4 := frozen_at hR3 4; have z5 := frozen_at hR3 5; have z6 := frozen_at hR3 6; have z7 := frozen_at hR3 7; have HR3 := Lib.hid hR3; have HB3 : Hid (Below w.heap.size w w3) := (Below.trans (Below.alloc (Below.trans (below_drewN' ((Below.refl _ _).alloc (Nat.le_refl _) _) _) (hB2.mono (by simp))) (by omega) _) (hB3.mono (by simp; omega))); clear hF3 hR3 hB2 hB3))))
      refine bodyPost_ret (results_row_tmp rfl _ _ w.heap.size 32 _ (0, 0) _ rfl (stored8 HR3.out) Try.underlying32 rfl (by kernel_rfl)) rfl ⟨rfl, ?_⟩
      have hb3 := HB3.out
      clear f0 f1 f2 f3 f4 f5 f6 f7 r0 r1 r2 r3 r4 r5 r6 r7 z0 z1 z2 z3 z4 z5 z6 z7
      repeat' (first | (with_reducible assumption) | (with_reducible refine Below.setCell ?_ ?_ _) | (with_reducible refine below_drewN' ?_ _) | (with_reducible refine Below.alloc ?_ ?_ _) | (with_reducible exact Below.refl _ _) | (with_reducible exact Nat.le_refl _) | omega | (simp; done) | (simp; omega))
end Go.Proofs.Ytpklblaenfhncaa
