/- flit.Read of a Head's word. -/
import Derived.Test.YtpklblaenfhncaaFlitF
namespace Go.Proofs.Ytpklblaenfhncaa
set_option linter.unusedVariables false
open Go.RowKit BM
theorem other8 {w : World} {b c : Nat} {o : Obj} {u0 u1 u2 u3 u4 u5 u6 u7 : Value} (h : w.heap[b]? = some o) (hne : b ≠ c) :
    ((((((((w.setCell ⟨c, 0, none⟩ u0).setCell ⟨c, 1, none⟩ u1).setCell ⟨c, 2, none⟩ u2).setCell ⟨c, 3, none⟩ u3).setCell ⟨c, 4, none⟩ u4).setCell ⟨c, 5, none⟩ u5).setCell ⟨c, 6, none⟩ u6).setCell ⟨c, 7, none⟩ u7).heap[b]? = some o :=
  set_other (set_other (set_other (set_other (set_other (set_other (set_other (set_other h hne _ _) hne _ _) hne _ _) hne _ _) hne _ _) hne _ _) hne _ _) hne _ _
set_option maxRecDepth 100000 in
set_option maxHeartbeats 4000000 in
theorem read_head (x : Nat) (hx : x < 2 ^ 64) (w : World) (h : rightB x = true) (hk : getN x 0 2 = 1) :
    Calls Try.prog 42 #[.int .u64 (x : Int)] w fun e w' => e = .returned (.tuple #[(readF x).1.val, .int .i64 (readF x).2]) ∧ Below w.heap.size w w' := by
  have HR := Lib.hid (fun w => right_calls (x : Int) w (by omega) (by omega))
  rw [Int.toNat_natCast, h] at HR
  have hlk : lookF x = headF x := by unfold lookF; rw [if_pos hk]
  have HD := Lib.hid (fun w => data_calls x hx w)
  have hdk : (dataF x).kind = 1 := by show ((getN x 0 2 : Nat) : Int) = 1; omega
  generalize dataF x = f at *
  obtain ⟨dk, d1, d2, d3, d4, d5, d6, d7⟩ := f
  dsimp only at hdk
  subst hdk
  have HU := fun a w hr => unp7_calls x hx a w hr
  have hb1 := getN_lt x 2 12; have hb2 := getN_lt x 14 12; have hb3 := getN_lt x 26 16; have hb4 := getN_lt x 42 7; have hb5 := getN_lt x 49 1; have hb6 := getN_lt x 50 1
  have hhd : headF x = ⟨1, getN x 2 12, getN x 14 12, getN x 26 16, getN x 42 7, (((getN x 49 1 : Nat) : Int) == 1), (((getN x 50 1 : Nat) : Int) == 1), ByteArray.empty⟩ := by
    unfold headF
    apply Fl.ext' <;> first | rfl | (rw [Bool.eq_iff_iff]; simp; omega)
  have HWr := fun w => flit_write (headF x) w
  rw [hhd] at HWr hlk
  generalize getN x 0 2 = n0 at *
  generalize getN x 2 12 = n1 at *
  generalize getN x 14 12 = n2 at *
  generalize getN x 26 16 = n3 at *
  generalize getN x 42 7 = n4 at *
  generalize getN x 49 1 = n5 at *
  generalize getN x 50 1 = n6 at *
  generalize hm1 : ((n5 : Int) == 1) = mm at *
  generalize hm2 : ((n6 : Int) == 1) = mc at *
  have HU2 := Lib.hid HU
  have h0 : writeF (lookF x) = writeF ⟨1, n1, n2, n3, n4, mm, mc, ByteArray.empty⟩ := by rw [hlk]
  have HX : Hid (readF x = (if (writeF ⟨1, n1, n2, n3, n4, mm, mc, ByteArray.empty⟩).2 = 0 ∧ (writeF ⟨1, n1, n2, n3, n4, mm, mc, ByteArray.empty⟩).1 = (x : Int) then (⟨1, n1, n2, n3, n4, mm, mc, ByteArray.empty⟩, 0) else (zeroFl, 2))) := by
    by_cases hw : writeF ⟨1, n1, n2, n3, n4, mm, mc, ByteArray.empty⟩ = ((x : Int), 0)
    · unfold Hid; rw [readF_yes h (by rw [h0]; exact hw), hlk, hw, if_pos ⟨rfl, rfl⟩]
    · unfold Hid; rw [readF_no h (by rw [h0]; exact hw), if_neg (fun e => hw (Prod.ext e.2 e.1))]
  rw [HX.out]
  generalize writeF ⟨1, n1, n2, n3, n4, mm, mc, ByteArray.empty⟩ = wf at *
  obtain ⟨wv, we⟩ := wf
  dsimp only at HWr ⊢
  rw [show ByteArray.empty = ⟨#[]⟩ from rfl] at HWr
  have HWr2 := Lib.hid HWr
  have HN := Lib.hid (And.intro hb1 (And.intro hb2 (And.intro hb3 (And.intro hb4 (And.intro hb5 hb6)))))
  clear h hlk hk HU HWr hhd h0 HX
  have hcase : (we = 0 ∧ wv = (x : Int)) ∨ (we = 0 ∧ (wv != (x : Int)) = true) ∨ (we != 0) = true := by
    by_cases c1 : we = 0
    · by_cases c2 : wv = (x : Int)
      · exact .inl ⟨c1, c2⟩
      · exact .inr (.inl ⟨c1, by rw [bne_iff_ne]; exact c2⟩)
    · exact .inr (.inr (by rw [bne_iff_ne]; exact c1))
  rcases hcase with ⟨rfl, rfl⟩ | ⟨rfl, hx2⟩ | hx2
  · rw [if_pos ⟨rfl, rfl⟩]
    go_enter Try.func42, Try.ntmps42
    go_wp2_with (first
      | (go_at_call 70; ((with_reducible refine (HR.out _).mono ?_); rintro e w' ⟨rfl, k, rfl⟩))
      | (go_at_call 71; ((with_reducible refine (HD.out _).mono ?_); rintro e w2 ⟨rfl, hB2⟩))
      | (go_at_call 73; ((with_reducible refine (head_calls _).mono ?_); rintro e w3 ⟨a3, rfl, hi3, hB3⟩))
      | (go_at_call 72; ((with_reducible refine (HU2.out _ _ hi3.at).mono ?_); rintro e w4 ⟨g, c, cs, rfl, hg, hcs, hg0, hc7, hB4⟩)))
    have q1 : w.heap.size < w2.heap.size := by have := hB2.size; simp at this; omega
    have q2 : w2.heap.size < w3.heap.size := by have := hB3.size; simp at this; omega
    have q3 : w3.heap.size ≤ w4.heap.size := hB4.size
    have hF3 := Below.at hB3 (alloc_new _) (by simp)
    have hF4 := Below.at hB4 hF3 (by omega)
    have hR2 := Below.at hB2 (drewN_at (alloc_new _) _) (by simp)
    have hR3 := Below.at hB3 (alloc_old hR2 _) (by simp; omega)
    have hR4 := Below.at hB4 hR3 (by omega)
    have hgF : g ∉ [w2.heap.size] := by simp; omega
    have hcc : ∀ (i u : Nat), [n0, n1, n2, n3, n4, n5, n6][i]? = some u → w4.cell? ⟨g, i, none⟩ = some (.int .u32 (u : Int)) := fun i u hu => by rw [cell_at hg]; exact hcs i u hu
    have HC : Hid (∀ w', Only [w2.heap.size] w4 w' → (w'.cell? ⟨g, 1, none⟩ = some (.int .u32 (n1 : Int)) ∧ w'.cell? ⟨g, 2, none⟩ = some (.int .u32 (n2 : Int)) ∧ w'.cell? ⟨g, 3, none⟩ = some (.int .u32 (n3 : Int)) ∧ w'.cell? ⟨g, 4, none⟩ = some (.int .u32 (n4 : Int)) ∧ w'.cell? ⟨g, 5, none⟩ = some (.int .u32 (n5 : Int)) ∧ w'.cell? ⟨g, 6, none⟩ = some (.int .u32 (n6 : Int)))) := fun w' ho => by
      have hb := ho.block g (block_lt hg) hgF
      have key : ∀ (i u : Nat), [n0, n1, n2, n3, n4, n5, n6][i]? = some u → w'.cell? ⟨g, i, none⟩ = some (.int .u32 (u : Int)) := fun i u hu => by
        rw [World.cell?_of_block (w := w4) hb]; exact hcc i u hu
      exact ⟨key 1 n1 rfl, key 2 n2 rfl, key 3 n3 rfl, key 4 n4 rfl, key 5 n5 rfl, key 6 n6 rfl⟩
    have HB4 : Hid (Below w.heap.size w w4) := (Below.trans (Below.alloc (Below.trans (below_drewN' ((Below.refl _ _).alloc (Nat.le_refl _) _) _) (hB2.mono (by simp))) (by omega) _) (hB3.mono (by simp; omega))).trans (hB4.mono (by omega))
    have HQ1 := Lib.hid q1
    have HF4 := Lib.hid hF4
    have HR4 := Lib.hid hR4
    have hne : w.heap.size ≠ w2.heap.size := by omega
    have hne2 : w2.heap.size ≠ w.heap.size := by omega
    have f0 := cell_at hF4 0; have f1 := cell_at hF4 1; have f2 := cell_at hF4 2; have f3 := cell_at hF4 3; have f4 := cell_at hF4 4; have f5 := cell_at hF4 5; have f6 := cell_at hF4 6; have f7 := cell_at hF4 7
    have q80 := frozen_at hF4 0; have q81 := frozen_at hF4 1; have q82 := frozen_at hF4 2; have q83 := frozen_at hF4 3; have q84 := frozen_at hF4 4; have q85 := frozen_at hF4 5; have q86 := frozen_at hF4 6; have q87 := frozen_at hF4 7
    have v1 : IntKind.i64.wrap (n1 : Int) = (n1 : Int) := IntWalk.i64_in _ (by omega)
    have v2 : IntKind.i64.wrap (n2 : Int) = (n2 : Int) := IntWalk.i64_in _ (by omega)
    have v3 : IntKind.i64.wrap (n3 : Int) = (n3 : Int) := IntWalk.i64_in _ (by omega)
    have v4 : IntKind.i64.wrap (n4 : Int) = (n4 : Int) := IntWalk.i64_in _ (by omega)
    clear hB2 hB3 hB4 hF3 hF4 hR2 hR3 hR4 hg hcs hcc hgF hi3 HD HU2 HR hg0 q1 q2 q3
    obtain ⟨s1, s2, s3, s4, s5, s6⟩ := HC.out w4 (Only.refl _ _)
    clear HC
    go_still_tail 25, (by kernel_rfl)
    change wpList _ _ _ _ _ w4.drew
    clear v1 v2 v3 v4
    go_wp2_with (first
      | (go_at_call 74; ((with_reducible refine (HWr2.out _).mono ?_); rintro e w5 ⟨rfl, hB5⟩; have hF5 := Below.at hB5 (drewN_at (stored8 HF4.out) 1) (by have := block_lt HF4.out; simpa using this); have hR5 := Below.at hB5 (drewN_at (other8 HR4.out hne) 1) (by have := block_lt HR4.out; simpa using this); clear f0 q80 f1 q81 f2 q82 f3 q83 f4 q84 f5 q85 f6 q86 f7 q87 s1 s2 s3 s4 s5 s6; have f0 := cell_at hF5 0; have f1 := cell_at hF5 1; have f2 := cell_at hF5 2; have f3 := cell_at hF5 3; have f4 := cell_at hF5 4; have f5 := cell_at hF5 5; have f6 := cell_at hF5 6; have f7 := cell_at hF5 7; have r0 := cell_at hR5 0; have r1 := cell_at hR5 1; have r2 := cell_at hR5 2; have r3 := cell_at hR5 3; have r4 := cell_at hR5 4; have r5 := cell_at hR5 5; have r6 := cell_at hR5 6; have r7 := cell_at hR5 7; have z0 := frozen_at hR5 0; have z1 := frozen_at hR5 1; have z2 := frozen_at hR5 2; have z3 := frozen_at hR5 3; have z4 := frozen_at hR5 4; have z5 := frozen_at hR5 5; have z6 := frozen_at hR5 6; have z7 := frozen_at hR5 7; have HR5 := Lib.hid hR5; have HB5 := Lib.hid hB5; clear hF5 hR5 hB5)))
    refine bodyPost_ret (results_row_tmp rfl _ _ w.heap.size 32 _ (0, 0) _ rfl (stored8 HR5.out) Try.underlying32 rfl (by kernel_rfl)) rfl ⟨rfl, ?_⟩
    have hb4 := HB4.out
    have hl2 := block_lt HF4.out
    have hl3 := block_lt HR4.out
    have hsz := hb4.size
    have hq1 := HQ1.out
    have HB5' : Below w.heap.size _ w5 := HB5.out.mono (by simp; omega)
    clear f0 f1 f2 f3 f4 f5 f6 f7 r0 r1 r2 r3 r4 r5 r6 r7 z0 z1 z2 z3 z4 z5 z6 z7
    have HB6 := Below.trans (show Below w.heap.size w _ from (by repeat' (first | (with_reducible assumption) | (with_reducible refine Below.setCell ?_ ?_ _) | (with_reducible refine below_drewN' ?_ _) | (with_reducible refine Below.drew ?_) | (with_reducible refine Below.alloc ?_ ?_ _) | (with_reducible exact Below.refl _ _) | (with_reducible exact Nat.le_refl _) | omega | (simp; done) | (simp; omega)))) HB5'
    clear HB5' HB5
    repeat' (first | (with_reducible assumption) | (with_reducible refine Below.setCell ?_ ?_ _) | (with_reducible refine below_drewN' ?_ _) | (with_reducible refine Below.alloc ?_ ?_ _) | (with_reducible exact Below.refl _ _) | (with_reducible exact Nat.le_refl _) | omega | (simp; done) | (simp; omega))
  · rw [if_neg (fun e => by rw [bne_iff_ne] at hx2; exact hx2 e.2)]
    go_enter Try.func42, Try.ntmps42
    go_wp2_with (first
      | (go_at_call 70; ((with_reducible refine (HR.out _).mono ?_); rintro e w' ⟨rfl, k, rfl⟩))
      | (go_at_call 71; ((with_reducible refine (HD.out _).mono ?_); rintro e w2 ⟨rfl, hB2⟩))
      | (go_at_call 73; ((with_reducible refine (head_calls _).mono ?_); rintro e w3 ⟨a3, rfl, hi3, hB3⟩))
      | (go_at_call 72; ((with_reducible refine (HU2.out _ _ hi3.at).mono ?_); rintro e w4 ⟨g, c, cs, rfl, hg, hcs, hg0, hc7, hB4⟩)))
    have q1 : w.heap.size < w2.heap.size := by have := hB2.size; simp at this; omega
    have q2 : w2.heap.size < w3.heap.size := by have := hB3.size; simp at this; omega
    have q3 : w3.heap.size ≤ w4.heap.size := hB4.size
    have hF3 := Below.at hB3 (alloc_new _) (by simp)
    have hF4 := Below.at hB4 hF3 (by omega)
    have hR2 := Below.at hB2 (drewN_at (alloc_new _) _) (by simp)
    have hR3 := Below.at hB3 (alloc_old hR2 _) (by simp; omega)
    have hR4 := Below.at hB4 hR3 (by omega)
    have hgF : g ∉ [w2.heap.size] := by simp; omega
    have hcc : ∀ (i u : Nat), [n0, n1, n2, n3, n4, n5, n6][i]? = some u → w4.cell? ⟨g, i, none⟩ = some (.int .u32 (u : Int)) := fun i u hu => by rw [cell_at hg]; exact hcs i u hu
    have HC : Hid (∀ w', Only [w2.heap.size] w4 w' → (w'.cell? ⟨g, 1, none⟩ = some (.int .u32 (n1 : Int)) ∧ w'.cell? ⟨g, 2, none⟩ = some (.int .u32 (n2 : Int)) ∧ w'.cell? ⟨g, 3, none⟩ = some (.int .u32 (n3 : Int)) ∧ w'.cell? ⟨g, 4, none⟩ = some (.int .u32 (n4 : Int)) ∧ w'.cell? ⟨g, 5, none⟩ = some (.int .u32 (n5 : Int)) ∧ w'.cell? ⟨g, 6, none⟩ = some (.int .u32 (n6 : Int)))) := fun w' ho => by
      have hb := ho.block g (block_lt hg) hgF
      have key : ∀ (i u : Nat), [n0, n1, n2, n3, n4, n5, n6][i]? = some u → w'.cell? ⟨g, i, none⟩ = some (.int .u32 (u : Int)) := fun i u hu => by
        rw [World.cell?_of_block (w := w4) hb]; exact hcc i u hu
      exact ⟨key 1 n1 rfl, key 2 n2 rfl, key 3 n3 rfl, key 4 n4 rfl, key 5 n5 rfl, key 6 n6 rfl⟩
    have HB4 : Hid (Below w.heap.size w w4) := (Below.trans (Below.alloc (Below.trans (below_drewN' ((Below.refl _ _).alloc (Nat.le_refl _) _) _) (hB2.mono (by simp))) (by omega) _) (hB3.mono (by simp; omega))).trans (hB4.mono (by omega))
    have HQ1 := Lib.hid q1
    have HF4 := Lib.hid hF4
    have HR4 := Lib.hid hR4
    have hne : w.heap.size ≠ w2.heap.size := by omega
    have hne2 : w2.heap.size ≠ w.heap.size := by omega
    have f0 := cell_at hF4 0; have f1 := cell_at hF4 1; have f2 := cell_at hF4 2; have f3 := cell_at hF4 3; have f4 := cell_at hF4 4; have f5 := cell_at hF4 5; have f6 := cell_at hF4 6; have f7 := cell_at hF4 7
    have q80 := frozen_at hF4 0; have q81 := frozen_at hF4 1; have q82 := frozen_at hF4 2; have q83 := frozen_at hF4 3; have q84 := frozen_at hF4 4; have q85 := frozen_at hF4 5; have q86 := frozen_at hF4 6; have q87 := frozen_at hF4 7
    have v1 : IntKind.i64.wrap (n1 : Int) = (n1 : Int) := IntWalk.i64_in _ (by omega)
    have v2 : IntKind.i64.wrap (n2 : Int) = (n2 : Int) := IntWalk.i64_in _ (by omega)
    have v3 : IntKind.i64.wrap (n3 : Int) = (n3 : Int) := IntWalk.i64_in _ (by omega)
    have v4 : IntKind.i64.wrap (n4 : Int) = (n4 : Int) := IntWalk.i64_in _ (by omega)
    clear hB2 hB3 hB4 hF3 hF4 hR2 hR3 hR4 hg hcs hcc hgF hi3 HD HU2 HR hg0 q1 q2 q3
    obtain ⟨s1, s2, s3, s4, s5, s6⟩ := HC.out w4 (Only.refl _ _)
    clear HC
    go_still_tail 25, (by kernel_rfl)
    change wpList _ _ _ _ _ w4.drew
    clear v1 v2 v3 v4
    go_wp2_with (first
      | (go_at_call 74; ((with_reducible refine (HWr2.out _).mono ?_); rintro e w5 ⟨rfl, hB5⟩; have hF5 := Below.at hB5 (drewN_at (stored8 HF4.out) 1) (by have := block_lt HF4.out; simpa using this); have hR5 := Below.at hB5 (drewN_at (other8 HR4.out hne) 1) (by have := block_lt HR4.out; simpa using this); clear f0 q80 f1 q81 f2 q82 f3 q83 f4 q84 f5 q85 f6 q86 f7 q87 s1 s2 s3 s4 s5 s6; have f0 := cell_at hF5 0; have f1 := cell_at hF5 1; have f2 := cell_at hF5 2; have f3 := cell_at hF5 3; have f4 := cell_at hF5 4; have f5 := cell_at hF5 5; have f6 := cell_at hF5 6; have f7 := cell_at hF5 7; have r0 := cell_at hR5 0; have r1 := cell_at hR5 1; have r2 := cell_at hR5 2; have r3 := cell_at hR5 3; have r4 := cell_at hR5 4; have r5 := cell_at hR5 5; have r6 := cell_at hR5 6; have r7 := cell_at hR5 7; have z0 := frozen_at hR5 0; have z1 := frozen_at hR5 1; have z2 := frozen_at hR5 2; have z3 := frozen_at hR5 3; have z4 := frozen_at hR5 4; have z5 := frozen_at hR5 5; have z6 := frozen_at hR5 6; have z7 := frozen_at hR5 7; have HR5 := Lib.hid hR5; have HB5 := Lib.hid hB5; clear hF5 hR5 hB5)))
    refine bodyPost_ret (results_row_tmp rfl _ _ w.heap.size 32 _ (0, 0) _ rfl (stored8 HR5.out) Try.underlying32 rfl (by kernel_rfl)) rfl ⟨rfl, ?_⟩
    have hb4 := HB4.out
    have hl2 := block_lt HF4.out
    have hl3 := block_lt HR4.out
    have hsz := hb4.size
    have hq1 := HQ1.out
    have HB5' : Below w.heap.size _ w5 := HB5.out.mono (by simp; omega)
    clear f0 f1 f2 f3 f4 f5 f6 f7 r0 r1 r2 r3 r4 r5 r6 r7 z0 z1 z2 z3 z4 z5 z6 z7
    have HB6 := Below.trans (show Below w.heap.size w _ from (by repeat' (first | (with_reducible assumption) | (with_reducible refine Below.setCell ?_ ?_ _) | (with_reducible refine below_drewN' ?_ _) | (with_reducible refine Below.drew ?_) | (with_reducible refine Below.alloc ?_ ?_ _) | (with_reducible exact Below.refl _ _) | (with_reducible exact Nat.le_refl _) | omega | (simp; done) | (simp; omega)))) HB5'
    clear HB5' HB5
    repeat' (first | (with_reducible assumption) | (with_reducible refine Below.setCell ?_ ?_ _) | (with_reducible refine below_drewN' ?_ _) | (with_reducible refine Below.alloc ?_ ?_ _) | (with_reducible exact Below.refl _ _) | (with_reducible exact Nat.le_refl _) | omega | (simp; done) | (simp; omega))
  · rw [if_neg (fun e => by rw [bne_iff_ne] at hx2; exact hx2 e.1)]
    go_enter Try.func42, Try.ntmps42
    go_wp2_with (first
      | (go_at_call 70; ((with_reducible refine (HR.out _).mono ?_); rintro e w' ⟨rfl, k, rfl⟩))
      | (go_at_call 71; ((with_reducible refine (HD.out _).mono ?_); rintro e w2 ⟨rfl, hB2⟩))
      | (go_at_call 73; ((with_reducible refine (head_calls _).mono ?_); rintro e w3 ⟨a3, rfl, hi3, hB3⟩))
      | (go_at_call 72; ((with_reducible refine (HU2.out _ _ hi3.at).mono ?_); rintro e w4 ⟨g, c, cs, rfl, hg, hcs, hg0, hc7, hB4⟩)))
    have q1 : w.heap.size < w2.heap.size := by have := hB2.size; simp at this; omega
    have q2 : w2.heap.size < w3.heap.size := by have := hB3.size; simp at this; omega
    have q3 : w3.heap.size ≤ w4.heap.size := hB4.size
    have hF3 := Below.at hB3 (alloc_new _) (by simp)
    have hF4 := Below.at hB4 hF3 (by omega)
    have hR2 := Below.at hB2 (drewN_at (alloc_new _) _) (by simp)
    have hR3 := Below.at hB3 (alloc_old hR2 _) (by simp; omega)
    have hR4 := Below.at hB4 hR3 (by omega)
    have hgF : g ∉ [w2.heap.size] := by simp; omega
    have hcc : ∀ (i u : Nat), [n0, n1, n2, n3, n4, n5, n6][i]? = some u → w4.cell? ⟨g, i, none⟩ = some (.int .u32 (u : Int)) := fun i u hu => by rw [cell_at hg]; exact hcs i u hu
    have HC : Hid (∀ w', Only [w2.heap.size] w4 w' → (w'.cell? ⟨g, 1, none⟩ = some (.int .u32 (n1 : Int)) ∧ w'.cell? ⟨g, 2, none⟩ = some (.int .u32 (n2 : Int)) ∧ w'.cell? ⟨g, 3, none⟩ = some (.int .u32 (n3 : Int)) ∧ w'.cell? ⟨g, 4, none⟩ = some (.int .u32 (n4 : Int)) ∧ w'.cell? ⟨g, 5, none⟩ = some (.int .u32 (n5 : Int)) ∧ w'.cell? ⟨g, 6, none⟩ = some (.int .u32 (n6 : Int)))) := fun w' ho => by
      have hb := ho.block g (block_lt hg) hgF
      have key : ∀ (i u : Nat), [n0, n1, n2, n3, n4, n5, n6][i]? = some u → w'.cell? ⟨g, i, none⟩ = some (.int .u32 (u : Int)) := fun i u hu => by
        rw [World.cell?_of_block (w := w4) hb]; exact hcc i u hu
      exact ⟨key 1 n1 rfl, key 2 n2 rfl, key 3 n3 rfl, key 4 n4 rfl, key 5 n5 rfl, key 6 n6 rfl⟩
    have HB4 : Hid (Below w.heap.size w w4) := (Below.trans (Below.alloc (Below.trans (below_drewN' ((Below.refl _ _).alloc (Nat.le_refl _) _) _) (hB2.mono (by simp))) (by omega) _) (hB3.mono (by simp; omega))).trans (hB4.mono (by omega))
    have HQ1 := Lib.hid q1
    have HF4 := Lib.hid hF4
    have HR4 := Lib.hid hR4
    have hne : w.heap.size ≠ w2.heap.size := by omega
    have hne2 : w2.heap.size ≠ w.heap.size := by omega
    have f0 := cell_at hF4 0; have f1 := cell_at hF4 1; have f2 := cell_at hF4 2; have f3 := cell_at hF4 3; have f4 := cell_at hF4 4; have f5 := cell_at hF4 5; have f6 := cell_at hF4 6; have f7 := cell_at hF4 7
    have q80 := frozen_at hF4 0; have q81 := frozen_at hF4 1; have q82 := frozen_at hF4 2; have q83 := frozen_at hF4 3; have q84 := frozen_at hF4 4; have q85 := frozen_at hF4 5; have q86 := frozen_at hF4 6; have q87 := frozen_at hF4 7
    have v1 : IntKind.i64.wrap (n1 : Int) = (n1 : Int) := IntWalk.i64_in _ (by omega)
    have v2 : IntKind.i64.wrap (n2 : Int) = (n2 : Int) := IntWalk.i64_in _ (by omega)
    have v3 : IntKind.i64.wrap (n3 : Int) = (n3 : Int) := IntWalk.i64_in _ (by omega)
    have v4 : IntKind.i64.wrap (n4 : Int) = (n4 : Int) := IntWalk.i64_in _ (by omega)
    clear hB2 hB3 hB4 hF3 hF4 hR2 hR3 hR4 hg hcs hcc hgF hi3 HD HU2 HR hg0 q1 q2 q3
    obtain ⟨s1, s2, s3, s4, s5, s6⟩ := HC.out w4 (Only.refl _ _)
    clear HC
    go_still_tail 25, (by kernel_rfl)
    change wpList _ _ _ _ _ w4.drew
    clear v1 v2 v3 v4
    go_wp2_with (first
      | (go_at_call 74; ((with_reducible refine (HWr2.out _).mono ?_); rintro e w5 ⟨rfl, hB5⟩; have hF5 := Below.at hB5 (drewN_at (stored8 HF4.out) 1) (by have := block_lt HF4.out; simpa using this); have hR5 := Below.at hB5 (drewN_at (other8 HR4.out hne) 1) (by have := block_lt HR4.out; simpa using this); clear f0 q80 f1 q81 f2 q82 f3 q83 f4 q84 f5 q85 f6 q86 f7 q87 s1 s2 s3 s4 s5 s6; have f0 := cell_at hF5 0; have f1 := cell_at hF5 1; have f2 := cell_at hF5 2; have f3 := cell_at hF5 3; have f4 := cell_at hF5 4; have f5 := cell_at hF5 5; have f6 := cell_at hF5 6; have f7 := cell_at hF5 7; have r0 := cell_at hR5 0; have r1 := cell_at hR5 1; have r2 := cell_at hR5 2; have r3 := cell_at hR5 3; have r4 := cell_at hR5 4; have r5 := cell_at hR5 5; have r6 := cell_at hR5 6; have r7 := cell_at hR5 7; have z0 := frozen_at hR5 0; have z1 := frozen_at hR5 1; have z2 := frozen_at hR5 2; have z3 := frozen_at hR5 3; have z4 := frozen_at hR5 4; have z5 := frozen_at hR5 5; have z6 := frozen_at hR5 6; have z7 := frozen_at hR5 7; have HR5 := Lib.hid hR5; have HB5 := Lib.hid hB5; clear hF5 hR5 hB5)))
    refine bodyPost_ret (results_row_tmp rfl _ _ w.heap.size 32 _ (0, 0) _ rfl (stored8 HR5.out) Try.underlying32 rfl (by kernel_rfl)) rfl ⟨rfl, ?_⟩
    have hb4 := HB4.out
    have hl2 := block_lt HF4.out
    have hl3 := block_lt HR4.out
    have hsz := hb4.size
    have hq1 := HQ1.out
    have HB5' : Below w.heap.size _ w5 := HB5.out.mono (by simp; omega)
    clear f0 f1 f2 f3 f4 f5 f6 f7 r0 r1 r2 r3 r4 r5 r6 r7 z0 z1 z2 z3 z4 z5 z6 z7
    have HB6 := Below.trans (show Below w.heap.size w _ from (by repeat' (first | (with_reducible assumption) | (with_reducible refine Below.setCell ?_ ?_ _) | (with_reducible refine below_drewN' ?_ _) | (with_reducible refine Below.drew ?_) | (with_reducible refine Below.alloc ?_ ?_ _) | (with_reducible exact Below.refl _ _) | (with_reducible exact Nat.le_refl _) | omega | (simp; done) | (simp; omega)))) HB5'
    clear HB5' HB5
    repeat' (first | (with_reducible assumption) | (with_reducible refine Below.setCell ?_ ?_ _) | (with_reducible refine below_drewN' ?_ _) | (with_reducible refine Below.alloc ?_ ?_ _) | (with_reducible exact Below.refl _ _) | (with_reducible exact Nat.le_refl _) | omega | (simp; done) | (simp; omega))
end Go.Proofs.Ytpklblaenfhncaa
