/- The reference's Read of a word that is no Head's. -/
import Derived.Test.YtpklblaenfhncaaRefFlitD
namespace Go.Proofs.Ytpklblaenfhncaa
set_option linter.unusedVariables false
open Go.RowKit BM
theorem if_ways (we wv x : Int) (f : Fl) : ∃ (rf : Fl) (re : Int), (if we = 0 ∧ wv = x then (f, (0 : Int)) else (zeroFl, 2)) = (rf, re) ∧ ((we = 0 ∧ wv = x ∧ rf = f ∧ re = 0) ∨ (we = 0 ∧ (wv != x) = true ∧ rf = zeroFl ∧ re = 2) ∨ ((we != 0) = true ∧ rf = zeroFl ∧ re = 2)) := by
  by_cases c1 : we = 0
  · by_cases c2 : wv = x
    · exact ⟨f, 0, if_pos ⟨c1, c2⟩, .inl ⟨c1, c2, rfl, rfl⟩⟩
    · exact ⟨zeroFl, 2, if_neg (fun e => c2 e.2), .inr (.inl ⟨c1, by rw [bne_iff_ne]; exact c2, rfl, rfl⟩)⟩
  · exact ⟨zeroFl, 2, if_neg (fun e => c1 e.1), .inr (.inr ⟨by rw [bne_iff_ne]; exact c1, rfl, rfl⟩)⟩
set_option maxRecDepth 100000 in
set_option maxHeartbeats 2000000 in
theorem rread_data (x : Nat) (hx : x < 2 ^ 64) (w : World) (h : rightB x = true) (hk : ¬ getN x 0 2 = 1) :
    Calls Try.prog 15 #[.int .u64 (x : Int)] w fun e w' => e = .returned (.tuple #[(readF x).1.val, .int .i64 (readF x).2]) ∧ Below w.heap.size w w' := by
  have HR := Lib.hid (fun w => rright_calls (x : Int) w (by omega) (by omega))
  rw [Int.toNat_natCast, h] at HR
  have hlk : lookF x = dataF x := by unfold lookF; rw [if_neg hk]
  have HG0 := fun w => rget_calls (x : Int) 2 3 w (by omega) (by omega)
  have e0 : getR ((x : Int)).toNat 2 3 = (((getN x 2 3 : Nat) : Int), 0) := by
    rw [getR_in (by decide), Int.toNat_natCast]; rfl
  rw [e0] at HG0
  have hmod := mod4_get x
  have hkd := getN_lt x 0 2
  have hnn := getN_lt x 2 3
  have HD : Hid (dataF x = ⟨(getN x 0 2 : Nat), 0, 0, 0, 0, false, false, bytesOf ((List.range (min (getN x 2 3) 6)).map (fun i => getN x (5 + 8 * i) 8))⟩) := rfl
  have HX : Hid (readF x = (if (writeF (dataF x)).2 = 0 ∧ (writeF (dataF x)).1 = (x : Int) then (dataF x, 0) else (zeroFl, 2))) := by
    unfold Hid
    by_cases hw : writeF (dataF x) = ((x : Int), 0)
    · rw [readF_yes h (by rw [hlk]; exact hw), hlk, hw, if_pos ⟨rfl, rfl⟩]
    · rw [readF_no h (by rw [hlk]; exact hw), if_neg (fun e => hw (Prod.ext e.2 e.1))]
  rw [HX.out, HD.out]
  generalize getN x 0 2 = kd at *
  generalize getN x 2 3 = nn at *
  obtain ⟨M, hM⟩ : ∃ M, M = min nn 6 := ⟨_, rfl⟩
  rw [← hM]
  have m1 : min (nn : Int) 6 = (M : Int) := by omega
  have HM := Lib.hid hM
  have hM6 : M ≤ 6 := by omega
  have hL : ((List.range M).map (fun i => getN x (5 + 8 * i) 8)).length = M := by simp
  have hby : ∀ y ∈ (List.range M).map (fun i => getN x (5 + 8 * i) 8), y < 256 := fun y hy => by
    obtain ⟨i, _, rfl⟩ := List.mem_map.1 hy
    exact getN_lt x (5 + 8 * i) 8
  have HBY := Lib.hid hby
  have HLL := Lib.hid hL
  have HWr := fun w => rflit_write ⟨(kd : Int), 0, 0, 0, 0, false, false, bytesOf ((List.range M).map (fun i => getN x (5 + 8 * i) 8))⟩ w
  generalize writeF ⟨(kd : Int), 0, 0, 0, 0, false, false, bytesOf ((List.range M).map (fun i => getN x (5 + 8 * i) 8))⟩ = wf at *
  obtain ⟨wv, we⟩ := wf
  dsimp only at HWr ⊢
  have HWr2 := Lib.hid HWr
  have HG := Lib.hid HG0
  obtain ⟨rf, re, hif, hcase⟩ := if_ways we wv (x : Int) ⟨(kd : Int), 0, 0, 0, 0, false, false, bytesOf ((List.range M).map (fun i => getN x (5 + 8 * i) 8))⟩
  rw [hif]
  dsimp only
  clear hif
  clear HG0 e0 HX HD hlk h hM hby hL HWr m1
  rcases hcase with ⟨rfl, rfl, rfl, rfl⟩ | ⟨rfl, hx2, rfl, rfl⟩ | ⟨hx2, rfl, rfl⟩
  all_goals
    go_enter Try.func15, Try.ntmps15
    go_wp2_with (first
      | (go_at_call 45; ((with_reducible refine (HR.out _).mono ?_); rintro e w' ⟨rfl, k, rfl⟩))
      | (go_at_call 47; ((with_reducible refine (HG.out _).mono ?_); rintro e w' ⟨rfl, k, rfl⟩)))
    go_loopw [9, 10] (fun v i wr => ∃ m : Nat, m ≤ M ∧ i = .int .i64 (m : Int) ∧ wr.ownsRow (w.heap.size + 2) 5 1 v m (((List.range m).map (fun i => getN x (5 + 8 * i) 8)).map (fun y : Nat => Value.int .u8 (y : Int))) ∧ wr.heap[w.heap.size]? = some (.cells #[.int .i64 0, .int .i64 0, .int .i64 0, .int .i64 0, .int .i64 0, .bool false, .bool false, .string ByteArray.empty] 32 (0, 0)) ∧ wr.heap[w.heap.size + 1]? = some (.cells #[.int .i64 (kd : Int), .int .i64 0, .int .i64 0, .int .i64 0, .int .i64 0, .bool false, .bool false, .string ByteArray.empty] 32 (0, 0)) ∧ w.heap.size + 2 ≤ wr.heap.size ∧ Below w.heap.size w wr) (fun _ i _ => M - (intOf i).toNat)
    case atStart => exact ⟨0, by omega, rfl, World.ownsRow_nil _ _ _ _, drewN_at (alloc_old (drewN_at (alloc_new _) _) _) _, drewN_at (alloc_at _ _ (by simp)) _, by simp, by repeat' (first | (with_reducible assumption) | (with_reducible refine Below.setCell ?_ ?_ _) | (with_reducible refine below_drewN' ?_ _) | (with_reducible refine Below.drew ?_) | (with_reducible refine Below.alloc ?_ ?_ _) | (with_reducible exact Below.refl _ _) | (with_reducible exact Nat.le_refl _) | omega | (simp; done) | (simp; omega))⟩
    case round =>
      obtain ⟨m, hm, rfl, hown, hZ, hF, hsz, hB⟩ := hrel
      by_cases hlm : m < M
      · have HG1 := fun w => rget_calls (x : Int) (5 + 8 * (m : Int)) 8 w (by omega) (by omega)
        have e1 : getR ((x : Int)).toNat (5 + 8 * (m : Int)) 8 = (((getN x (5 + 8 * m) 8 : Nat) : Int), 0) := by
          rw [getR_in (a := 5 + 8 * (m : Int)) (n := 8) (by simp only [fieldI, decide_eq_true_eq]; omega), Int.toNat_natCast, show (5 + 8 * (m : Int)).toNat = 5 + 8 * m from by omega]
          rfl
        rw [e1] at HG1
        have hy := getN_lt x (5 + 8 * m) 8
        have HRr : Hid ((List.range (m + 1)).map (fun i => getN x (5 + 8 * i) 8) = (List.range m).map (fun i => getN x (5 + 8 * i) 8) ++ [getN x (5 + 8 * m) 8]) := by unfold Hid; rw [List.range_succ, List.map_append]; rfl
        generalize getN x (5 + 8 * m) 8 = y at *
        have hy1 : (y : Int) < 256 := by omega
        have hmn : (m : Int) < (nn : Int) := by have := HM.out; omega
        have hm6 : (m : Int) < 6 := by omega
        have HG2 := Lib.hid HG1
        have HZ := Lib.hid hZ
        have HF := Lib.hid hF
        have HBB := Lib.hid hB
        clear HG1 e1 hy hZ hF hB
        go_wp2_with (first
          | (go_at_call 47; ((with_reducible refine (HG2.out _).mono ?_); rintro e w' ⟨rfl, k, rfl⟩))
          | (at_builtin; refine append_own (W0 := wr) [.int .u8 (y : Int)] (w.heap.size + 2) _ _ _ 1 1 infoU8 Try.underlying96 rfl (by decide) _ _ _ (ownsRow_drewN hown _) (below_drewN' (Below.refl _ _) _) (by exact hsz) rfl (by simp [Value.oneCell']) (by omega) (by decide) rfl _ _ rfl rfl rfl ?_; intro v1 w6 hown1 hb1 hg1 hor1; clear hg1 hor1 hown))
        go_roundw
        case rel => exact ⟨m + 1, by omega, by go_num, by rw [HRr.out, List.map_append]; exact hown1, Below.at hb1 HZ.out (by omega), Below.at hb1 HF.out (by omega), Nat.le_trans hsz hb1.size, HBB.out.trans (hb1.mono (by omega))⟩
        case measure => simp [intOf] <;> omega
      · obtain rfl : m = M := by omega
        have HO : Hid (((List.range m).map (fun i => getN x (5 + 8 * i) 8)).length = m) := HLL.out
        generalize hLL : (List.range m).map (fun i => getN x (5 + 8 * i) 8) = L at *
        have HLQ := Lib.hid hLL
        clear hLL
        have hown' := hown
        have hLe := HO.out
        rw [← hLe] at hown'
        have HOW := Lib.hid hown'
        have HB := Lib.hid hB
        have HF := Lib.hid hF
        have HZ := Lib.hid hZ
        have hcond : (¬ (m : Int) < (nn : Int)) ∨ ((m : Int) < (nn : Int) ∧ ¬ (m : Int) < 6) := by have := HM.out; omega
        have HSZ := Lib.hid hsz
        have f0 := cell_at hF 0; have f1 := cell_at hF 1; have f2 := cell_at hF 2; have f3 := cell_at hF 3; have f4 := cell_at hF 4; have f5 := cell_at hF 5; have f6 := cell_at hF 6; have f7 := cell_at hF 7
        have r0 := cell_at hZ 0; have r1 := cell_at hZ 1; have r2 := cell_at hZ 2; have r3 := cell_at hZ 3; have r4 := cell_at hZ 4; have r5 := cell_at hZ 5; have r6 := cell_at hZ 6; have r7 := cell_at hZ 7
        have q7 := frozen_at hF 7
        clear hown hown' hLe hB hF hZ hsz
        rcases hcond with hc | ⟨hc1, hc2⟩
        all_goals
          go_wp2_with (first
            | (go_at_call 48; ((with_reducible refine (HWr2.out _).mono ?_); rintro e w5 ⟨rfl, hB5⟩; have hF5 := Below.at hB5 (set_at HF.out 7 _) (by have := block_lt HF.out; simpa using this); have hR5 := Below.at hB5 (set_other HZ.out (Nat.ne_of_lt (Nat.lt_succ_self _)) 7 _) (by have := block_lt HZ.out; simpa using this); clear q7 f0 f1 f2 f3 f4 f5 f6 f7 r0 r1 r2 r3 r4 r5 r6 r7; have f0 := cell_at hF5 0; have f1 := cell_at hF5 1; have f2 := cell_at hF5 2; have f3 := cell_at hF5 3; have f4 := cell_at hF5 4; have f5 := cell_at hF5 5; have f6 := cell_at hF5 6; have f7 := cell_at hF5 7; have r0 := cell_at hR5 0; have r1 := cell_at hR5 1; have r2 := cell_at hR5 2; have r3 := cell_at hR5 3; have r4 := cell_at hR5 4; have r5 := cell_at hR5 5; have r6 := cell_at hR5 6; have r7 := cell_at hR5 7; have z0 := frozen_at hR5 0; have z1 := frozen_at hR5 1; have z2 := frozen_at hR5 2; have z3 := frozen_at hR5 3; have z4 := frozen_at hR5 4; have z5 := frozen_at hR5 5; have z6 := frozen_at hR5 6; have z7 := frozen_at hR5 7; have HR5 := Lib.hid hR5; have HB5 := Lib.hid hB5; clear hF5 hR5 hB5))
            | ((with_reducible refine (show wpList _ _ _ (_ :: _) _ _ from ?_)); (refine conv_str 96 9 5 (w.heap.size + 2) _ L _ rfl rfl rfl HBY.out Try.underlying96 Try.underlying5 Try.underlying9 HOW.out ?_)))
          refine bodyPost_ret (results_row_tmp rfl _ _ w.heap.size 32 _ (0, 0) _ rfl (stored8 HR5.out) Try.underlying32 rfl (by kernel_rfl)) rfl ⟨by first | rfl | (rw [← HLQ.out]; rfl), ?_⟩
          have hb := HB.out
          have hsz := HSZ.out
          have HB5' : Below w.heap.size _ w5 := HB5.out.mono (by simp; omega)
          have HB6 := Below.trans (show Below w.heap.size w _ from (by repeat' (first | (with_reducible assumption) | (with_reducible refine Below.setCell ?_ ?_ _) | (with_reducible refine below_drewN' ?_ _) | (with_reducible refine Below.drew ?_) | (with_reducible refine Below.alloc ?_ ?_ _) | (with_reducible exact Below.refl _ _) | (with_reducible exact Nat.le_refl _) | omega | (simp; done) | (simp; omega)))) HB5'
          clear f0 f1 f2 f3 f4 f5 f6 f7 r0 r1 r2 r3 r4 r5 r6 r7 z0 z1 z2 z3 z4 z5 z6 z7 HB5' HB5
          repeat' (first | (with_reducible assumption) | (with_reducible refine Below.setCell ?_ ?_ _) | (with_reducible refine below_drewN' ?_ _) | (with_reducible refine Below.drew ?_) | (with_reducible refine Below.alloc ?_ ?_ _) | (with_reducible exact Below.refl _ _) | (with_reducible exact Nat.le_refl _) | omega | (simp; done) | (simp; omega))
end Go.Proofs.Ytpklblaenfhncaa
