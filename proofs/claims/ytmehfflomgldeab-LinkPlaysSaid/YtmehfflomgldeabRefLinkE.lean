/- The reference's link: Carry. -/
import Derived.Test.YtmehfflomgldeabRefLinkD
import Derived.BigRegion
namespace Go.Proofs.Ytmehfflomgldeab
set_option linter.unusedVariables false
open Go.RowKit
theorem results_cell_cell_tmp {fn : Func} {p q u : Tmp} {ty ty2 : TypeId} (h : fn.results = #[.cell p ty, .cell q ty2, .tmp u]) (tmps : Array Value) (P : Program) (w : World) :
    (results fn tmps).run P w =
      ((asAddr (tmps.getD p undef)).run P w).andThen fun a w₁ => ((loadVar ty a).run P w₁).andThen fun v w₂ => ((asAddr (tmps.getD q undef)).run P w₂).andThen fun b w₃ => ((loadVar ty2 b).run P w₃).andThen fun v2 w₄ => .ok (.tuple #[v, v2, tmps.getD u undef]) w₄ := by
  simp only [results, h]
  simp [Sem.run_bind, Result.andThen]
theorem res_two_tmp {fn : Func} {P : Program} {p q u : Tmp} {ty ty2 : TypeId} (h : fn.results = #[.cell p ty, .cell q ty2, .tmp u]) (tmps : Array Value) (w : World) (g g2 : Nat) (t t2 : TypeId) (cs cs2 : Array Value) (fr fr2 : Nat × Nat) (d d2 : TypeDesc)
    (hp : tmps.getD p undef = .pointer (some ⟨g, 0, none⟩)) (hg : w.heap[g]? = some (.cells cs t fr))
    (hu : P.underlying ty = some d) (hd : (match d with | .struct _ | .array _ _ => true | _ => false) = true) (hi : (P.info? ty).map (·.size) = some cs.size)
    (hq : tmps.getD q undef = .pointer (some ⟨g2, 0, none⟩)) (hg2 : w.heap[g2]? = some (.cells cs2 t2 fr2))
    (hu2 : P.underlying ty2 = some d2) (hd2 : (match d2 with | .struct _ | .array _ _ => true | _ => false) = true) (hi2 : (P.info? ty2).map (·.size) = some cs2.size) :
    (results fn tmps).run P w = .ok (.tuple #[.agg cs, .agg cs2, tmps.getD u undef]) w := by
  rw [results_cell_cell_tmp h, hp, hq]
  simp [asAddr, run_loadVar_row w g t ty cs fr d hg hu hd hi, run_loadVar_row w g2 t2 ty2 cs2 fr2 d2 hg2 hu2 hd2 hi2, Result.andThen]
set_option maxRecDepth 100000 in
set_option maxHeartbeats 1000000 in
theorem ref_carry (w : World) (s : LS) (r : LA) (S : List Nat) (h : RL w s r S) (hS : ∀ x ∈ S, x < w.heap.size) :
    Calls Try.prog 56 #[.agg (s.vals r)] w fun e w' => ∃ r', e = .returned (.tuple #[.agg (s.carry.1.vals r'), s.carry.2.1.val, .int .i64 s.carry.2.2]) ∧ RL w' s.carry.1 r' S ∧ Below w.heap.size w w' := by
  have hok2 := h.ok.carry
  cases hwd : s.wd with
  | nil =>
    have e1 : s.carry = (s, Cl.zero, 8) := by unfold LS.carry; rw [hwd]
    rw [e1]
    have hl0 : s.wd.length = 0 := by rw [hwd]; rfl
    have HH := Lib.hid h
    have HL := Lib.hid hl0
    obtain ⟨a1, c1, a2, c2, a3, c3, a4, c4⟩ := r
    unfold LS.vals
    rw [hl0]
    clear h hok2 hwd hl0 e1
    go_enter Try.func56, Try.ntmps56
    go_wp2
    refine bodyPost_ret (res_two_tmp rfl _ _ (w.heap.size + 1) (w.heap.size + 1 + 1) 30 35 _ _ (0, 0) (0, 0) _ _ rfl (alloc_old (alloc_at _ _ (by simp)) _) Try.underlying30 rfl (by kernel_rfl) rfl (alloc_at _ _ (by simp)) Try.underlying35 rfl (by kernel_rfl)) rfl ⟨⟨a1, c1, a2, c2, a3, c3, a4, c4⟩, rfl, ?_, ?_⟩
    · exact HH.out.below (by repeat' (first | (with_reducible assumption) | (with_reducible refine Below.setCell ?_ ?_ _) | (with_reducible refine below_drewN' ?_ _) | (with_reducible refine Below.drew ?_) | (with_reducible refine Below.alloc ?_ ?_ _) | (with_reducible exact Below.refl _ _) | (with_reducible exact Nat.le_refl _) | omega | (simp; done) | (simp; omega)))
    · repeat' (first | (with_reducible assumption) | (with_reducible refine Below.setCell ?_ ?_ _) | (with_reducible refine below_drewN' ?_ _) | (with_reducible refine Below.drew ?_) | (with_reducible refine Below.alloc ?_ ?_ _) | (with_reducible exact Below.refl _ _) | (with_reducible exact Nat.le_refl _) | omega | (simp; done) | (simp; omega))
  | cons c l =>
    have hk := h.ok.win c (by rw [hwd]; exact List.mem_cons_self ..)
    obtain ⟨cl, cw⟩ := c
    dsimp only at hk
    obtain ⟨i, rfl⟩ := Int.eq_ofNat_of_zero_le hk.1
    have hi : i < s.lanes := by omega
    have hsum := h.ok.sum i hi
    have hd64 := h.ok.d64
    have hil : i < s.fa.length := by rw [h.ok.fal]; omega
    have hl8 : s.fa.length ≤ 8 := by rw [h.ok.fal]; exact h.ok.l8
    have e1 : s.carry = (({ s with wd := l, fa := s.fa.set i (s.fa.getD i 0 + 1) } : LS), (⟨i, cw⟩ : Cl), (0 : Int)) := by unfold LS.carry; rw [hwd]; rfl
    rw [e1] at hok2 ⊢
    have hW := fun w S hr hS => ref_with w r.a3 r.c3 s.fa i 1 (s.fa.getD i 0 + 1) S hr hil hl8 (by simp) (by omega) (by omega) hS
    have hlen : (s.fa.set i (s.fa.getD i 0 + 1)).length = s.fa.length := List.length_set
    generalize s.fa.set i (s.fa.getD i 0 + 1) = fa2 at *
    have HW := Lib.hid hW
    have HLEN := Lib.hid hlen
    clear hW hlen
    obtain ⟨blk, off, ha2, hn2, hc0⟩ := h.r2 0 (.int .i64 (i : Int)) (by rw [hwd]; rfl)
    have hc1' := h.r2 1 (.int .u64 cw) (by rw [hwd]; rfl)
    rw [ha2] at hc1'
    obtain ⟨_, _, hee, _, hc1⟩ := hc1'
    simp only [Option.some.injEq, Addr.mk.injEq, and_true] at hee
    obtain ⟨rfl, rfl⟩ := hee
    rw [Nat.add_zero] at hc0
    have hlb : s.wd.length = l.length + 1 := by rw [hwd]; rfl
    have hk2 := h.k2
    have hbll : l.length ≤ 64 := by have := Nat.le_trans h.ok.wle h.ok.s64; omega
    have HH := Lib.hid h
    have HOK := Lib.hid hok2
    have HL := Lib.hid hlb
    have HWD := Lib.hid hwd
    have HS := Lib.hid hS
    obtain ⟨a1, c1, a2, c2, a3, c3, a4, c4⟩ := r
    dsimp only at ha2 hk2 HW
    subst ha2
    rw [hlb] at hk2
    unfold LS.vals
    rw [hlb]
    have hlt : blk < w.heap.size := World.block_lt_of_cell? w _ hc0
    have hlt1 : blk < w.heap.size + 1 := by omega
    have hlt2 : blk < w.heap.size + 1 + 1 := by omega
    have hlt3 : blk < w.heap.size + 1 + 1 + 1 := by omega
    have HX : Hid (∀ w1, Below (w.heap.size + 1 + 1 + 1 + 1) ((((w.alloc (.cells #[.int .i64 (s.lanes : Int), .int .i64 (s.depth : Int), .int .i64 (s.size : Int), .slice a1 s.cr.length c1, .slice (if c2 = 1 then some (⟨blk, off, none⟩ : Addr) else some ⟨blk, off + 2, none⟩) l.length (c2 - 1), .slice a3 s.fa.length c3, .slice a4 s.bk.length c4] 30)).alloc (.cells #[.int .i64 0, .int .i64 0, .int .i64 0, .slice none 0 0, .slice none 0 0, .slice none 0 0, .slice none 0 0] 30)).alloc (.cells #[.int .i64 0, .int .u64 0] 35)).alloc (.cells #[.int .i64 (i : Int), .int .u64 cw] 35)) w1 → w1.heap[w.heap.size]? = some (.cells #[.int .i64 (s.lanes : Int), .int .i64 (s.depth : Int), .int .i64 (s.size : Int), .slice a1 s.cr.length c1, .slice (if c2 = 1 then some (⟨blk, off, none⟩ : Addr) else some ⟨blk, off + 2, none⟩) l.length (c2 - 1), .slice a3 s.fa.length c3, .slice a4 s.bk.length c4] 30 (0, 0)) ∧ w1.heap[w.heap.size + 1]? = some (.cells #[.int .i64 0, .int .i64 0, .int .i64 0, .slice none 0 0, .slice none 0 0, .slice none 0 0, .slice none 0 0] 30 (0, 0)) ∧ w1.heap[w.heap.size + 1 + 1]? = some (.cells #[.int .i64 0, .int .u64 0] 35 (0, 0)) ∧ w1.heap[w.heap.size + 1 + 1 + 1]? = some (.cells #[.int .i64 (i : Int), .int .u64 cw] 35 (0, 0)) ∧ Below w.heap.size w w1) := fun w1 hb =>
      ⟨Below.at hb (alloc_old (alloc_old (alloc_old (alloc_new _) _) _) _) (by omega), Below.at hb (alloc_old (alloc_old (alloc_at _ _ (by simp)) _) _) (by omega), Below.at hb (alloc_old (alloc_at _ _ (by simp)) _) (by omega), Below.at hb (alloc_at _ _ (by simp)) (by omega), Below.trans (((((Below.refl _ _).alloc (Nat.le_refl _) _).alloc (by first | (simp; done) | (simp; omega)) _).alloc (by first | (simp; done) | (simp; omega)) _).alloc (by first | (simp; done) | (simp; omega)) _) (hb.mono (by omega))⟩
    clear h hok2 hlb hwd hS e1 hsum hk
    go_enter Try.func56, Try.ntmps56
    go_upto_region 6 with (first
      | (go_at_call 87; ((with_reducible refine (HW.out _ ([w.heap.size, w.heap.size + 1, w.heap.size + 1 + 1, w.heap.size + 1 + 1 + 1] ++ S) ?_ ?_).mono ?_); exact (HH.out.r3.offNew [w.heap.size, w.heap.size + 1, w.heap.size + 1 + 1, w.heap.size + 1 + 1 + 1] (fun x hx => by simp at hx; omega)).below (by repeat' (first | (with_reducible assumption) | (with_reducible refine Below.setCell ?_ ?_ _) | (with_reducible refine below_drewN' ?_ _) | (with_reducible refine Below.drew ?_) | (with_reducible refine Below.alloc ?_ ?_ _) | (with_reducible exact Below.refl _ _) | (with_reducible exact Nat.le_refl _) | omega | (simp; done) | (simp; omega))); (intro x hx; rcases List.mem_append.1 hx with hx | hx; (simp at hx; simp; omega); (have := HS.out x hx; simp; omega)); rintro e w2 ⟨a', c', rfl, hr2, hk3, hb2⟩; have hb2' : Below (w.heap.size + 1 + 1 + 1 + 1) ((((w.alloc (.cells #[.int .i64 (s.lanes : Int), .int .i64 (s.depth : Int), .int .i64 (s.size : Int), .slice a1 s.cr.length c1, .slice (if c2 = 1 then some (⟨blk, off, none⟩ : Addr) else some ⟨blk, off + 2, none⟩) l.length (c2 - 1), .slice a3 s.fa.length c3, .slice a4 s.bk.length c4] 30)).alloc (.cells #[.int .i64 0, .int .i64 0, .int .i64 0, .slice none 0 0, .slice none 0 0, .slice none 0 0, .slice none 0 0] 30)).alloc (.cells #[.int .i64 0, .int .u64 0] 35)).alloc (.cells #[.int .i64 (i : Int), .int .u64 cw] 35)) w2 := (Below.trans (by repeat (first | (with_reducible exact Below.refl _ _) | (with_reducible refine Below.drew ?_) | (with_reducible refine below_drewN' ?_ _))) (hb2.mono (by simp))); have hF := (HX.out _ hb2').1; have f5 := cell_at hF 5; have x5 := frozen_at hF 5; have HF := Lib.hid hF; have HB2 := Lib.hid hb2'; have HR2 := Lib.hid hr2; clear hb2 hb2' hF hr2)))
    have hF3 : (w2.setCell ⟨w.heap.size, 5, none⟩ (.slice a' s.fa.length c')).heap[w.heap.size]? = some (.cells #[.int .i64 (s.lanes : Int), .int .i64 (s.depth : Int), .int .i64 (s.size : Int), .slice a1 s.cr.length c1, .slice (if c2 = 1 then some (⟨blk, off, none⟩ : Addr) else some ⟨blk, off + 2, none⟩) l.length (c2 - 1), .slice a' s.fa.length c', .slice a4 s.bk.length c4] 30 (0, 0)) := set_at HF.out 5 _
    have hG3 := set_other (c := w.heap.size) (HX.out _ HB2.out).2.1 (by omega) 5 (.slice a' s.fa.length c')
    have hT3 := set_other (c := w.heap.size) (HX.out _ HB2.out).2.2.1 (by omega) 5 (.slice a' s.fa.length c')
    have hU3 := set_other (c := w.heap.size) (HX.out _ HB2.out).2.2.2.1 (by omega) 5 (.slice a' s.fa.length c')
    have hR3 := HR2.out.only (T := [w.heap.size]) (((Only.refl _ w2).setCell (p := ⟨w.heap.size, 5, none⟩) (by simp) (.slice a' s.fa.length c'))) (by simp)
    have hB3 : Below w.heap.size w (w2.setCell ⟨w.heap.size, 5, none⟩ (.slice a' s.fa.length c')) := by
      have := (HX.out _ HB2.out).2.2.2.2
      repeat' (first | (with_reducible assumption) | (with_reducible refine Below.setCell ?_ ?_ _) | (with_reducible refine below_drewN' ?_ _) | (with_reducible refine Below.drew ?_) | (with_reducible refine Below.alloc ?_ ?_ _) | (with_reducible exact Below.refl _ _) | (with_reducible exact Nat.le_refl _) | omega | (simp; done) | (simp; omega))
    clear HF HB2 HR2 HX HW f5 x5
    generalize w2.setCell ⟨w.heap.size, 5, none⟩ (.slice a' s.fa.length c') = w3 at *
    have f0 := cell_at hF3 0; have f1 := cell_at hF3 1; have f2 := cell_at hF3 2; have f3 := cell_at hF3 3; have f4 := cell_at hF3 4; have f5 := cell_at hF3 5; have f6 := cell_at hF3 6; have g0 := cell_at hG3 0; have g1 := cell_at hG3 1; have g2 := cell_at hG3 2; have g3 := cell_at hG3 3; have g4 := cell_at hG3 4; have g5 := cell_at hG3 5; have g6 := cell_at hG3 6; have y0 := frozen_at hG3 0; have y1 := frozen_at hG3 1; have y2 := frozen_at hG3 2; have y3 := frozen_at hG3 3; have y4 := frozen_at hG3 4; have y5 := frozen_at hG3 5; have y6 := frozen_at hG3 6; have t0 := cell_at hT3 0; have t1 := cell_at hT3 1; have z0 := frozen_at hT3 0; have z1 := frozen_at hT3 1; have u0 := cell_at hU3 0; have u1 := cell_at hU3 1
    have hz1 : w.heap.size ≠ w.heap.size + 1 := by omega
    have hz2 : w.heap.size + 1 ≠ w.heap.size + 1 + 1 := by omega
    have hz3 : w.heap.size + 1 + 1 ≠ w.heap.size + 1 := by omega
    have hz4 : w.heap.size + 1 + 1 + 1 ≠ w.heap.size + 1 := by omega
    have hz5 : w.heap.size ≠ w.heap.size + 1 + 1 := by omega
    have hz6 : w.heap.size + 1 + 1 + 1 ≠ w.heap.size + 1 + 1 := by omega
    have HG3 := Lib.hid hG3
    have HT3 := Lib.hid hT3
    have HR3 := Lib.hid hR3
    have HB3 := Lib.hid hB3
    clear hF3 hG3 hT3 hU3 hR3 hB3
    have hdr : flatC l = (flatC s.wd).drop 2 := by rw [HWD.out]; rfl
    have HDR := Lib.hid hdr
    clear hdr
    go_region
    go_wp2
    · have hB := HB3.out
      have hsz := hB.size
      have hl0 : l = [] := List.eq_nil_of_length_eq_zero (by omega)
      refine bodyPost_ret (res_two_tmp rfl _ _ (w.heap.size + 1) (w.heap.size + 1 + 1) 30 35 _ _ (0, 0) (0, 0) _ _ rfl (drew_at (set_other (set_other (stored7 HG3.out) hz2 _ _) hz2 _ _)) Try.underlying30 rfl (by kernel_rfl) rfl (drew_at (stored2 (set_other (set_other (set_other (set_other (set_other (set_other (set_other HT3.out hz3 _ _) hz3 _ _) hz3 _ _) hz3 _ _) hz3 _ _) hz3 _ _) hz3 _ _))) Try.underlying35 rfl (by kernel_rfl)) rfl ⟨⟨a1, c1, some ⟨blk, off, none⟩, 0, a', c', a4, c4⟩, by rw [HLEN.out]; rfl, ⟨HOK.out, HH.out.r1.below (by repeat' (first | (with_reducible assumption) | (with_reducible refine Below.setCell ?_ ?_ _) | (with_reducible refine below_drewN' ?_ _) | (with_reducible refine Below.drew ?_) | (with_reducible refine Below.alloc ?_ ?_ _) | (with_reducible exact Below.refl _ _) | (with_reducible exact Nat.le_refl _) | omega | (simp; done) | (simp; omega))), by (show CellsOff _ _ (flatC l) S); rw [hl0]; exact CellsOff.nil, (HR3.out.only (T := [w.heap.size, w.heap.size + 1, w.heap.size + 1 + 1, w.heap.size + 1 + 1 + 1]) (((((((((((Only.refl _ _).setCell (by simp) _).setCell (by simp) _).setCell (by simp) _).setCell (by simp) _).setCell (by simp) _).setCell (by simp) _).setCell (by simp) _).setCell (by simp) _).setCell (by simp) _).drew) (by simp)).weak (fun x hx => List.mem_append_right _ hx), HH.out.r4.below (by repeat' (first | (with_reducible assumption) | (with_reducible refine Below.setCell ?_ ?_ _) | (with_reducible refine below_drewN' ?_ _) | (with_reducible refine Below.drew ?_) | (with_reducible refine Below.alloc ?_ ?_ _) | (with_reducible exact Below.refl _ _) | (with_reducible exact Nat.le_refl _) | omega | (simp; done) | (simp; omega))), HH.out.k1, by show l.length ≤ 0; rw [hl0]; exact Nat.le_refl _, by show fa2.length ≤ c'; rw [HLEN.out]; exact hk3, HH.out.k4⟩, by repeat' (first | (with_reducible assumption) | (with_reducible refine Below.setCell ?_ ?_ _) | (with_reducible refine below_drewN' ?_ _) | (with_reducible refine Below.drew ?_) | (with_reducible refine Below.alloc ?_ ?_ _) | (with_reducible exact Below.refl _ _) | (with_reducible exact Nat.le_refl _) | omega | (simp; done) | (simp; omega))⟩
    · have hB := HB3.out
      have hsz := hB.size
      refine bodyPost_ret (res_two_tmp rfl _ _ (w.heap.size + 1) (w.heap.size + 1 + 1) 30 35 _ _ (0, 0) (0, 0) _ _ rfl (drew_at (set_other (set_other (stored7 HG3.out) hz2 _ _) hz2 _ _)) Try.underlying30 rfl (by kernel_rfl) rfl (drew_at (stored2 (set_other (set_other (set_other (set_other (set_other (set_other (set_other HT3.out hz3 _ _) hz3 _ _) hz3 _ _) hz3 _ _) hz3 _ _) hz3 _ _) hz3 _ _))) Try.underlying35 rfl (by kernel_rfl)) rfl ⟨⟨a1, c1, some ⟨blk, off + 2, none⟩, c2 - 1, a', c', a4, c4⟩, by rw [HLEN.out]; rfl, ⟨HOK.out, HH.out.r1.below (by repeat' (first | (with_reducible assumption) | (with_reducible refine Below.setCell ?_ ?_ _) | (with_reducible refine below_drewN' ?_ _) | (with_reducible refine Below.drew ?_) | (with_reducible refine Below.alloc ?_ ?_ _) | (with_reducible exact Below.refl _ _) | (with_reducible exact Nat.le_refl _) | omega | (simp; done) | (simp; omega))), by (show CellsOff _ (some ⟨blk, off + 2, none⟩) (flatC l) S); rw [HDR.out]; exact (HH.out.r2.below (by repeat' (first | (with_reducible assumption) | (with_reducible refine Below.setCell ?_ ?_ _) | (with_reducible refine below_drewN' ?_ _) | (with_reducible refine Below.drew ?_) | (with_reducible refine Below.alloc ?_ ?_ _) | (with_reducible exact Below.refl _ _) | (with_reducible exact Nat.le_refl _) | omega | (simp; done) | (simp; omega)))).dropAt 2, (HR3.out.only (T := [w.heap.size, w.heap.size + 1, w.heap.size + 1 + 1, w.heap.size + 1 + 1 + 1]) (((((((((((Only.refl _ _).setCell (by simp) _).setCell (by simp) _).setCell (by simp) _).setCell (by simp) _).setCell (by simp) _).setCell (by simp) _).setCell (by simp) _).setCell (by simp) _).setCell (by simp) _).drew) (by simp)).weak (fun x hx => List.mem_append_right _ hx), HH.out.r4.below (by repeat' (first | (with_reducible assumption) | (with_reducible refine Below.setCell ?_ ?_ _) | (with_reducible refine below_drewN' ?_ _) | (with_reducible refine Below.drew ?_) | (with_reducible refine Below.alloc ?_ ?_ _) | (with_reducible exact Below.refl _ _) | (with_reducible exact Nat.le_refl _) | omega | (simp; done) | (simp; omega))), HH.out.k1, by show l.length ≤ c2 - 1; omega, by show fa2.length ≤ c'; rw [HLEN.out]; exact hk3, HH.out.k4⟩, by repeat' (first | (with_reducible assumption) | (with_reducible refine Below.setCell ?_ ?_ _) | (with_reducible refine below_drewN' ?_ _) | (with_reducible refine Below.drew ?_) | (with_reducible refine Below.alloc ?_ ?_ _) | (with_reducible exact Below.refl _ _) | (with_reducible exact Nat.le_refl _) | omega | (simp; done) | (simp; omega))⟩
end Go.Proofs.Ytmehfflomgldeab
