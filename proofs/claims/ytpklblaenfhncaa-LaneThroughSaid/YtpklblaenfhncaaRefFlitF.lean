/- The reference's Read of a Head's word. -/
import Derived.Test.YtpklblaenfhncaaRefFlitE
namespace Go.Proofs.Ytpklblaenfhncaa
set_option linter.unusedVariables false
open Go.RowKit BM
theorem runp7_calls (x : Nat) (hx : x < 2 ^ 64) (a : Option Addr) (w : World) (hr : IntsAt .i64 w a headSizes) :
    Calls Try.prog 46 #[.int .u64 (x : Int), .slice a 7 7] w fun e w' => ∃ (g c : Nat) (cs : Array Value), e = .returned (.tuple #[.slice (some ⟨g, 0, none⟩) 7 c, .int .i64 0]) ∧ w'.heap[g]? = some (.cells cs 82 (0, 0)) ∧ (∀ (i u : Nat), [getN x 0 2, getN x 2 12, getN x 14 12, getN x 26 16, getN x 42 7, getN x 49 1, getN x 50 1][i]? = some u → cs[i]? = some (Value.int .u32 (u : Int))) ∧ w.heap.size ≤ g ∧ 7 ≤ c ∧ Below w.heap.size w w' := by
  refine (runpack_calls (x : Int) a 7 headSizes w (by omega) (by omega) (by decide) hr).mono ?_
  rintro e w' ⟨v, rfl, hown, hb⟩
  rw [Int.toNat_natCast] at hown ⊢
  have e1 : unpackR x headSizes = ([getN x 0 2, getN x 2 12, getN x 14 12, getN x 26 16, getN x 42 7, getN x 49 1, getN x 50 1].map (fun n : Nat => (n : Int)), 0) := by
    unfold unpackR; rw [if_pos (by decide)]; rfl
  rw [e1] at hown ⊢
  generalize [getN x 0 2, getN x 2 12, getN x 14 12, getN x 26 16, getN x 42 7, getN x 49 1, getN x 50 1] = L at *
  have hL : L.length = 7 := by have := congrArg (fun p => p.1.length) e1; simp at this; rw [← this]; unfold unpackR; rw [if_pos (by decide)]; exact unpackFrom_length ..
  have h' := hown
  dsimp only at h' hown ⊢
  rcases hown.2 with ⟨rfl, h0⟩ | ⟨g, cap, cur, rfl, hbg, hg, hnc, _, _, ht⟩
  · rw [List.length_map] at h0; omega
  · simp only [List.length_map, hL] at hnc ⊢
    refine ⟨g, cap, cur, rfl, hg, fun i u hu => ?_, hbg, hnc, hb⟩
    have := h'.cells rfl i (.int .u32 (u : Int)) (by rw [List.getElem?_map, List.getElem?_map, hu]; rfl)
    rw [addP, cell_at hg, Nat.zero_add] at this
    exact this

set_option maxRecDepth 100000 in
set_option maxHeartbeats 2000000 in
theorem rread_head (x : Nat) (hx : x < 2 ^ 64) (w : World) (h : rightB x = true) (hk : getN x 0 2 = 1) :
    Calls Try.prog 15 #[.int .u64 (x : Int)] w fun e w' => e = .returned (.tuple #[(readF x).1.val, .int .i64 (readF x).2]) ∧ Below w.heap.size w w' := by
  have HR := Lib.hid (fun w => rright_calls (x : Int) w (by omega) (by omega))
  rw [Int.toNat_natCast, h] at HR
  have hlk : lookF x = headF x := by unfold lookF; rw [if_pos hk]
  have HU : ∀ (w : World) (a : Option Addr), IntsAt .i64 w a headSizes → _ := fun w a hr => runp7_calls x hx a w hr
  have hmod := mod4_get x
  rw [hk] at hmod
  have hb1 := getN_lt x 2 12; have hb2 := getN_lt x 14 12; have hb3 := getN_lt x 26 16; have hb4 := getN_lt x 42 7; have hb5 := getN_lt x 49 1; have hb6 := getN_lt x 50 1
  have hhd : headF x = ⟨1, getN x 2 12, getN x 14 12, getN x 26 16, getN x 42 7, (((getN x 49 1 : Nat) : Int) == 1), (((getN x 50 1 : Nat) : Int) == 1), ByteArray.empty⟩ := by
    unfold headF
    apply Fl.ext' <;> first | rfl | (rw [Bool.eq_iff_iff]; simp; omega)
  rw [hhd] at hlk
  have HWr := fun w => rflit_write ⟨1, getN x 2 12, getN x 14 12, getN x 26 16, getN x 42 7, (((getN x 49 1 : Nat) : Int) == 1), (((getN x 50 1 : Nat) : Int) == 1), ByteArray.empty⟩ w
  generalize getN x 0 2 = n0 at *
  generalize getN x 2 12 = n1 at *
  generalize getN x 14 12 = n2 at *
  generalize getN x 26 16 = n3 at *
  generalize getN x 42 7 = n4 at *
  generalize getN x 49 1 = n5 at *
  generalize getN x 50 1 = n6 at *
  generalize hm1 : ((n5 : Int) == 1) = mm at *
  generalize hm2 : ((n6 : Int) == 1) = mc at *
  have HX : Hid (readF x = (if (writeF ⟨1, n1, n2, n3, n4, mm, mc, ByteArray.empty⟩).2 = 0 ∧ (writeF ⟨1, n1, n2, n3, n4, mm, mc, ByteArray.empty⟩).1 = (x : Int) then (⟨1, n1, n2, n3, n4, mm, mc, ByteArray.empty⟩, 0) else (zeroFl, 2))) := by
    unfold Hid
    by_cases hw : writeF ⟨1, n1, n2, n3, n4, mm, mc, ByteArray.empty⟩ = ((x : Int), 0)
    · rw [readF_yes h (by rw [hlk]; exact hw), hlk, hw, if_pos ⟨rfl, rfl⟩]
    · rw [readF_no h (by rw [hlk]; exact hw), if_neg (fun e => hw (Prod.ext e.2 e.1))]
  rw [HX.out]
  generalize writeF ⟨1, n1, n2, n3, n4, mm, mc, ByteArray.empty⟩ = wf at *
  obtain ⟨wv, we⟩ := wf
  dsimp only at HWr ⊢
  rw [show ByteArray.empty = ⟨#[]⟩ from rfl] at HWr
  have HWr2 := Lib.hid HWr
  have HU2 := Lib.hid HU
  obtain ⟨rf, re, hif, hcase⟩ := if_ways we wv (x : Int) ⟨1, n1, n2, n3, n4, mm, mc, ByteArray.empty⟩
  rw [hif]
  dsimp only
  clear hif h hlk hk HU HWr hhd HX
  rcases hcase with ⟨rfl, rfl, rfl, rfl⟩ | ⟨rfl, hx2, rfl, rfl⟩ | ⟨hx2, rfl, rfl⟩
  all_goals
    go_enter Try.func15, Try.ntmps15
    go_wp2_with (first
      | (go_at_call 45; ((with_reducible refine (HR.out _).mono ?_); rintro e w' ⟨rfl, k, rfl⟩)))
    go_at_call 46
    ((with_reducible refine (HU2.out _ _ ?_).mono ?_); (exact (IntsAt.lit' (k := .i64) _ headSizes (by simp))); rintro e w4 ⟨g, c, cs, rfl, hg, hcs, hg0, hc7, hB4⟩; have hZ4 := Below.at hB4 (alloc_old (alloc_old (drewN_at (alloc_new _) _) _) _) (by simp; omega); have hF4 := Below.at hB4 (b := w.heap.size + 1) (alloc_old (alloc_at _ _ (by simp)) _) (by simp); have HZ := Lib.hid hZ4; have HB4 : Hid (Below w.heap.size w w4) := (Below.trans (by repeat' (first | (with_reducible assumption) | (with_reducible refine Below.setCell ?_ ?_ _) | (with_reducible refine below_drewN' ?_ _) | (with_reducible refine Below.drew ?_) | (with_reducible refine Below.alloc ?_ ?_ _) | (with_reducible exact Below.refl _ _) | (with_reducible exact Nat.le_refl _) | omega | (simp; done) | (simp; omega))) (hB4.mono (by simp; omega))); have q1 : w.heap.size + 2 ≤ g := (by simp at hg0; omega); have HSZ : Hid (w.heap.size + 2 ≤ w4.heap.size) := (by have := block_lt hg; unfold Hid; omega); have hgF : g ≠ w.heap.size + 1 := (by omega); have hgF2 : w.heap.size + 1 ≠ g := (by omega); have hRF : w.heap.size ≠ w.heap.size + 1 := (by omega); have p1 := (cell_at hg 1).trans (hcs 1 n1 rfl); have p2 := (cell_at hg 2).trans (hcs 2 n2 rfl); have p3 := (cell_at hg 3).trans (hcs 3 n3 rfl); have p4 := (cell_at hg 4).trans (hcs 4 n4 rfl); have p5 := (cell_at hg 5).trans (hcs 5 n5 rfl); have p6 := (cell_at hg 6).trans (hcs 6 n6 rfl); have f0 := cell_at hF4 0; have f1 := cell_at hF4 1; have f2 := cell_at hF4 2; have f3 := cell_at hF4 3; have f4 := cell_at hF4 4; have f5 := cell_at hF4 5; have f6 := cell_at hF4 6; have f7 := cell_at hF4 7; have r0 := cell_at hZ4 0; have r1 := cell_at hZ4 1; have r2 := cell_at hZ4 2; have r3 := cell_at hZ4 3; have r4 := cell_at hZ4 4; have r5 := cell_at hZ4 5; have r6 := cell_at hZ4 6; have r7 := cell_at hZ4 7; have s1 := frozen_at hF4 1; have s2 := frozen_at hF4 2; have s3 := frozen_at hF4 3; have s4 := frozen_at hF4 4; have s5 := frozen_at hF4 5; have s6 := frozen_at hF4 6; clear hg hcs hg0 hB4 hZ4)
    go_wp2_with (first
      | (go_at_call 48; ((with_reducible refine (HWr2.out _).mono ?_); rintro e w5 ⟨rfl, hB5⟩; have hF5 := Below.at hB5 (set_at (set_at (set_at (set_at (set_at (set_at hF4 1 _) 2 _) 3 _) 4 _) 5 _) 6 _) (by have := block_lt hF4; simpa using this); have hR5 := Below.at hB5 (set_other (set_other (set_other (set_other (set_other (set_other HZ.out hRF 1 _) hRF 2 _) hRF 3 _) hRF 4 _) hRF 5 _) hRF 6 _) (by have := block_lt HZ.out; simpa using this); simp only [List.setIfInBounds_toArray, List.set_cons_zero, List.set_cons_succ] at hF5; clear f0 f1 f2 f3 f4 f5 f6 f7 r0 r1 r2 r3 r4 r5 r6 r7 p1 p2 p3 p4 p5 p6 s1 s2 s3 s4 s5 s6; have f0 := cell_at hF5 0; have f1 := cell_at hF5 1; have f2 := cell_at hF5 2; have f3 := cell_at hF5 3; have f4 := cell_at hF5 4; have f5 := cell_at hF5 5; have f6 := cell_at hF5 6; have f7 := cell_at hF5 7; have r0 := cell_at hR5 0; have r1 := cell_at hR5 1; have r2 := cell_at hR5 2; have r3 := cell_at hR5 3; have r4 := cell_at hR5 4; have r5 := cell_at hR5 5; have r6 := cell_at hR5 6; have r7 := cell_at hR5 7; have z0 := frozen_at hR5 0; have z1 := frozen_at hR5 1; have z2 := frozen_at hR5 2; have z3 := frozen_at hR5 3; have z4 := frozen_at hR5 4; have z5 := frozen_at hR5 5; have z6 := frozen_at hR5 6; have z7 := frozen_at hR5 7; have HR5 := Lib.hid hR5; have HB5 := Lib.hid hB5; clear hF5 hR5 hB5)))
    refine bodyPost_ret (results_row_tmp rfl _ _ w.heap.size 32 _ (0, 0) _ rfl (stored8 HR5.out) Try.underlying32 rfl (by kernel_rfl)) rfl ⟨rfl, ?_⟩
    have hb := HB4.out
    have hsz := HSZ.out
    have HB5' : Below w.heap.size _ w5 := HB5.out.mono (by simp; omega)
    have HB6 := Below.trans (show Below w.heap.size w _ from (by repeat' (first | (with_reducible assumption) | (with_reducible refine Below.setCell ?_ ?_ _) | (with_reducible refine below_drewN' ?_ _) | (with_reducible refine Below.drew ?_) | (with_reducible refine Below.alloc ?_ ?_ _) | (with_reducible exact Below.refl _ _) | (with_reducible exact Nat.le_refl _) | omega | (simp; done) | (simp; omega)))) HB5'
    clear f0 f1 f2 f3 f4 f5 f6 f7 r0 r1 r2 r3 r4 r5 r6 r7 z0 z1 z2 z3 z4 z5 z6 z7 HB5' HB5
    repeat' (first | (with_reducible assumption) | (with_reducible refine Below.setCell ?_ ?_ _) | (with_reducible refine below_drewN' ?_ _) | (with_reducible refine Below.drew ?_) | (with_reducible refine Below.alloc ?_ ?_ _) | (with_reducible exact Below.refl _ _) | (with_reducible exact Nat.le_refl _) | omega | (simp; done) | (simp; omega))
end Go.Proofs.Ytpklblaenfhncaa
