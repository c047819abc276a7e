/- The reference's link: Send. -/
import Derived.Test.YtmehfflomgldeabRefLinkE
namespace Go.Proofs.Ytmehfflomgldeab
set_option linter.unusedVariables false
open Go.RowKit
theorem oneCell_flat (l : List Cl) : ∀ u ∈ flatC l, u.oneCell' = true := fun u hu => by
  unfold flatC at hu
  obtain ⟨c, _, hc⟩ := List.mem_flatMap.1 hu
  simp only [Cl.cells, List.mem_cons, List.not_mem_nil, or_false] at hc
  rcases hc with rfl | rfl <;> rfl
set_option maxRecDepth 100000 in
set_option maxHeartbeats 1000000 in
theorem ref_send (w : World) (s : LS) (r : LA) (c : Cl) (S : List Nat) (h : RL w s r S) (hS : ∀ x ∈ S, x < w.heap.size) :
    Calls Try.prog 55 #[.agg (s.vals r), c.val] w fun e w' => ∃ r', e = .returned (.tuple #[.agg ((s.send c).1.vals r'), .int .i64 (s.send c).2]) ∧ RL w' (s.send c).1 r' S ∧ Below w.heap.size w w' := by
  have hok2 := h.ok.send c
  have HI := fun w => ref_is w s r c.lane
  have HH := Lib.hid h
  have HS := Lib.hid hS
  obtain ⟨a1, c1, a2, c2, a3, c3, a4, c4⟩ := r
  obtain ⟨cl, cw⟩ := c
  dsimp only at HI
  unfold LS.vals at HI
  by_cases e : s.is cl = true
  · have hi := LS.is_iff.1 e
    obtain ⟨i, rfl⟩ := Int.eq_ofNat_of_zero_le hi.1
    have hil : i < s.cr.length := by rw [h.ok.crl]; omega
    have hl8 : s.cr.length ≤ 8 := by rw [h.ok.crl]; exact h.ok.l8
    have hsum := h.ok.sum i (by omega)
    have hd64 := h.ok.d64
    have hwle := h.ok.wle
    have hs64 := h.ok.s64
    rw [e] at HI
    obtain ⟨blk, off, ha1, hn1, hc1⟩ := h.r1 i (NV (s.cr.getD i 0)) (by rw [List.getElem?_map, List.getElem?_eq_getElem hil, List.getD_eq_getElem?_getD, List.getElem?_eq_getElem hil]; rfl)
    dsimp only at ha1
    subst ha1
    have hlt := World.block_lt_of_cell? w _ hc1
    have HC : Hid (∀ w', Below w.heap.size w w' → w'.cell? ⟨blk, off + i, none⟩ = some (NV (s.cr.getD i 0))) := fun w' hb => (hb.cell (p := ⟨blk, off + i, none⟩) hlt).trans hc1
    have hilI : (i : Int) < (s.cr.length : Int) := by omega
    have HX : Hid (∀ w1, Below (w.heap.size + 1 + 1 + 1) (((w.alloc (.cells #[.int .i64 (s.lanes : Int), .int .i64 (s.depth : Int), .int .i64 (s.size : Int), .slice (some ⟨blk, off, none⟩) s.cr.length c1, .slice a2 s.wd.length c2, .slice a3 s.fa.length c3, .slice a4 s.bk.length c4] 30)).alloc (.cells #[.int .i64 (i : Int), .int .u64 cw] 35)).alloc (.cells #[.int .i64 0, .int .i64 0, .int .i64 0, .slice none 0 0, .slice none 0 0, .slice none 0 0, .slice none 0 0] 30)) w1 → w1.heap[w.heap.size]? = some (.cells #[.int .i64 (s.lanes : Int), .int .i64 (s.depth : Int), .int .i64 (s.size : Int), .slice (some ⟨blk, off, none⟩) s.cr.length c1, .slice a2 s.wd.length c2, .slice a3 s.fa.length c3, .slice a4 s.bk.length c4] 30 (0, 0)) ∧ w1.heap[w.heap.size + 1]? = some (.cells #[.int .i64 (i : Int), .int .u64 cw] 35 (0, 0)) ∧ w1.heap[w.heap.size + 1 + 1]? = some (.cells #[.int .i64 0, .int .i64 0, .int .i64 0, .slice none 0 0, .slice none 0 0, .slice none 0 0, .slice none 0 0] 30 (0, 0)) ∧ Below w.heap.size w w1) := fun w1 hb =>
      ⟨Below.at hb (alloc_old (alloc_old (alloc_new _) _) _) (by omega), Below.at hb (alloc_old (alloc_at _ _ (by simp)) _) (by omega), Below.at hb (alloc_at _ _ (by simp)) (by omega), Below.trans ((((Below.refl _ _).alloc (Nat.le_refl _) _).alloc (by first | (simp; done) | (simp; omega)) _).alloc (by first | (simp; done) | (simp; omega)) _) (hb.mono (by omega))⟩
    obtain ⟨y, hyd⟩ : ∃ y, y = s.cr.getD i 0 := ⟨_, rfl⟩
    rw [← hyd] at HC hsum
    by_cases hy : y = 0
    · have e1 : s.send ⟨i, cw⟩ = (s, 8) := by unfold LS.send; rw [if_pos e]; show (if s.cr.getD i 0 = 0 then _ else _) = _; rw [← hyd, if_pos hy]
      rw [e1]
      subst hy
      have HI2 := Lib.hid HI
      clear HI e hi h hS hok2 hsum e1 hyd hc1
      unfold LS.vals
      go_enter Try.func55, Try.ntmps55
      go_wp2_with (first
        | (go_at_call 60; ((with_reducible refine (HI2.out _).mono ?_); rintro e w1 ⟨rfl, hb1⟩; have hb1' : Below (w.heap.size + 1 + 1 + 1) (((w.alloc (.cells #[.int .i64 (s.lanes : Int), .int .i64 (s.depth : Int), .int .i64 (s.size : Int), .slice (some ⟨blk, off, none⟩) s.cr.length c1, .slice a2 s.wd.length c2, .slice a3 s.fa.length c3, .slice a4 s.bk.length c4] 30)).alloc (.cells #[.int .i64 (i : Int), .int .u64 cw] 35)).alloc (.cells #[.int .i64 0, .int .i64 0, .int .i64 0, .slice none 0 0, .slice none 0 0, .slice none 0 0, .slice none 0 0] 30)) w1 := (Below.trans (by repeat (first | (with_reducible exact Below.refl _ _) | (with_reducible refine Below.drew ?_) | (with_reducible refine below_drewN' ?_ _))) (hb1.mono (by simp))); have hF := (HX.out _ hb1').1; have hC := (HX.out _ hb1').2.1; have hG := (HX.out _ hb1').2.2.1; have c0 := HC.out _ (HX.out _ hb1').2.2.2; have f0 := cell_at hF 0; have f1 := cell_at hF 1; have f2 := cell_at hF 2; have f3 := cell_at hF 3; have f4 := cell_at hF 4; have f5 := cell_at hF 5; have f6 := cell_at hF 6; have t0 := cell_at hC 0; have t1 := cell_at hC 1; have g0 := cell_at hG 0; have g1 := cell_at hG 1; have g2 := cell_at hG 2; have g3 := cell_at hG 3; have g4 := cell_at hG 4; have g5 := cell_at hG 5; have g6 := cell_at hG 6; have y0 := frozen_at hG 0; have y1 := frozen_at hG 1; have y2 := frozen_at hG 2; have y3 := frozen_at hG 3; have y4 := frozen_at hG 4; have y5 := frozen_at hG 5; have y6 := frozen_at hG 6; have HG := Lib.hid hG; have HB1 := Lib.hid hb1'; clear hb1 hb1' hF hG hC)))
      have hB := (HX.out _ HB1.out).2.2.2
      have hsz := hB.size
      refine bodyPost_ret (res_row_tmp rfl _ _ (w.heap.size + 1 + 1) 30 _ (0, 0) _ rfl (stored7 HG.out) Try.underlying30 rfl (by kernel_rfl)) rfl ⟨⟨some ⟨blk, off, none⟩, c1, a2, c2, a3, c3, a4, c4⟩, rfl, HH.out.below (by repeat' (first | (with_reducible assumption) | (with_reducible refine Below.setCell ?_ ?_ _) | (with_reducible refine below_drewN' ?_ _) | (with_reducible refine Below.drew ?_) | (with_reducible refine Below.alloc ?_ ?_ _) | (with_reducible exact Below.refl _ _) | (with_reducible exact Nat.le_refl _) | omega | (simp; done) | (simp; omega))), by repeat' (first | (with_reducible assumption) | (with_reducible refine Below.setCell ?_ ?_ _) | (with_reducible refine below_drewN' ?_ _) | (with_reducible refine Below.drew ?_) | (with_reducible refine Below.alloc ?_ ?_ _) | (with_reducible exact Below.refl _ _) | (with_reducible exact Nat.le_refl _) | omega | (simp; done) | (simp; omega))⟩
    · have hyI : ((y : Int) == 0) = false := beq_eq_false_iff_ne.2 (by omega)
      by_cases hf : s.wd.length = s.size
      · have e1 : s.send ⟨i, cw⟩ = (s, 7) := by unfold LS.send; rw [if_pos e]; show (if s.cr.getD i 0 = 0 then _ else if s.wd.length = s.size then _ else _) = _; rw [← hyd, if_neg hy, if_pos hf]
        rw [e1]
        have hfI : (s.size : Int) ≤ (s.wd.length : Int) := by omega
        have HI2 := Lib.hid HI
        clear HI e hi h hS hok2 hsum e1 hyd hc1 hf hy
        unfold LS.vals
        go_enter Try.func55, Try.ntmps55
        go_wp2_with (first
          | (go_at_call 60; ((with_reducible refine (HI2.out _).mono ?_); rintro e w1 ⟨rfl, hb1⟩; have hb1' : Below (w.heap.size + 1 + 1 + 1) (((w.alloc (.cells #[.int .i64 (s.lanes : Int), .int .i64 (s.depth : Int), .int .i64 (s.size : Int), .slice (some ⟨blk, off, none⟩) s.cr.length c1, .slice a2 s.wd.length c2, .slice a3 s.fa.length c3, .slice a4 s.bk.length c4] 30)).alloc (.cells #[.int .i64 (i : Int), .int .u64 cw] 35)).alloc (.cells #[.int .i64 0, .int .i64 0, .int .i64 0, .slice none 0 0, .slice none 0 0, .slice none 0 0, .slice none 0 0] 30)) w1 := (Below.trans (by repeat (first | (with_reducible exact Below.refl _ _) | (with_reducible refine Below.drew ?_) | (with_reducible refine below_drewN' ?_ _))) (hb1.mono (by simp))); have hF := (HX.out _ hb1').1; have hC := (HX.out _ hb1').2.1; have hG := (HX.out _ hb1').2.2.1; have c0 := HC.out _ (HX.out _ hb1').2.2.2; have f0 := cell_at hF 0; have f1 := cell_at hF 1; have f2 := cell_at hF 2; have f3 := cell_at hF 3; have f4 := cell_at hF 4; have f5 := cell_at hF 5; have f6 := cell_at hF 6; have t0 := cell_at hC 0; have t1 := cell_at hC 1; have g0 := cell_at hG 0; have g1 := cell_at hG 1; have g2 := cell_at hG 2; have g3 := cell_at hG 3; have g4 := cell_at hG 4; have g5 := cell_at hG 5; have g6 := cell_at hG 6; have y0 := frozen_at hG 0; have y1 := frozen_at hG 1; have y2 := frozen_at hG 2; have y3 := frozen_at hG 3; have y4 := frozen_at hG 4; have y5 := frozen_at hG 5; have y6 := frozen_at hG 6; have HG := Lib.hid hG; have HB1 := Lib.hid hb1'; clear hb1 hb1' hF hG hC)))
        have hB := (HX.out _ HB1.out).2.2.2
        have hsz := hB.size
        refine bodyPost_ret (res_row_tmp rfl _ _ (w.heap.size + 1 + 1) 30 _ (0, 0) _ rfl (stored7 HG.out) Try.underlying30 rfl (by kernel_rfl)) rfl ⟨⟨some ⟨blk, off, none⟩, c1, a2, c2, a3, c3, a4, c4⟩, rfl, HH.out.below (by repeat' (first | (with_reducible assumption) | (with_reducible refine Below.setCell ?_ ?_ _) | (with_reducible refine below_drewN' ?_ _) | (with_reducible refine Below.drew ?_) | (with_reducible refine Below.alloc ?_ ?_ _) | (with_reducible exact Below.refl _ _) | (with_reducible exact Nat.le_refl _) | omega | (simp; done) | (simp; omega))), by repeat' (first | (with_reducible assumption) | (with_reducible refine Below.setCell ?_ ?_ _) | (with_reducible refine below_drewN' ?_ _) | (with_reducible refine Below.drew ?_) | (with_reducible refine Below.alloc ?_ ?_ _) | (with_reducible exact Below.refl _ _) | (with_reducible exact Nat.le_refl _) | omega | (simp; done) | (simp; omega))⟩
      · have e1 : s.send ⟨i, cw⟩ = (({ s with cr := s.cr.set i (y - 1), wd := s.wd ++ [(⟨i, cw⟩ : Cl)] } : LS), (0 : Int)) := by unfold LS.send; rw [if_pos e]; show (if s.cr.getD i 0 = 0 then _ else if s.wd.length = s.size then _ else (({ s with cr := s.cr.set i (s.cr.getD i 0 - 1), wd := s.wd ++ [(⟨i, cw⟩ : Cl)] } : LS), (0 : Int))) = _; rw [← hyd, if_neg hy, if_neg hf]
        rw [e1] at hok2 ⊢
        have hW := fun w S hr hS => ref_with w (some ⟨blk, off, none⟩) c1 s.cr i (-1) (y - 1) S hr hil hl8 (by rw [← hyd]; omega) (by omega) (by simp) hS
        have hlen : (s.cr.set i (y - 1)).length = s.cr.length := List.length_set
        generalize s.cr.set i (y - 1) = cr2 at *
        have hfI : ¬ ((s.size : Int) ≤ (s.wd.length : Int)) := by omega
        have hw64 : s.wd.length ≤ 64 := by omega
        have HW := Lib.hid hW
        have HLEN := Lib.hid hlen
        have HLB := Lib.hid (show (flatC s.wd).length = s.wd.length * 2 by rw [flatC_len]; omega)
        have HOK := Lib.hid hok2
        have HI2 := Lib.hid HI
        clear hW hlen HI e hi h hS hok2 hsum e1 hyd hc1 hy hf
        unfold LS.vals
        go_enter Try.func55, Try.ntmps55
        go_upto_region 8 with (first
          | (go_at_call 60; ((with_reducible refine (HI2.out _).mono ?_); rintro e w1 ⟨rfl, hb1⟩; have hb1' : Below (w.heap.size + 1 + 1 + 1) (((w.alloc (.cells #[.int .i64 (s.lanes : Int), .int .i64 (s.depth : Int), .int .i64 (s.size : Int), .slice (some ⟨blk, off, none⟩) s.cr.length c1, .slice a2 s.wd.length c2, .slice a3 s.fa.length c3, .slice a4 s.bk.length c4] 30)).alloc (.cells #[.int .i64 (i : Int), .int .u64 cw] 35)).alloc (.cells #[.int .i64 0, .int .i64 0, .int .i64 0, .slice none 0 0, .slice none 0 0, .slice none 0 0, .slice none 0 0] 30)) w1 := (Below.trans (by repeat (first | (with_reducible exact Below.refl _ _) | (with_reducible refine Below.drew ?_) | (with_reducible refine below_drewN' ?_ _))) (hb1.mono (by simp))); have hF := (HX.out _ hb1').1; have hC := (HX.out _ hb1').2.1; have hG := (HX.out _ hb1').2.2.1; have c0 := HC.out _ (HX.out _ hb1').2.2.2; have f0 := cell_at hF 0; have f1 := cell_at hF 1; have f2 := cell_at hF 2; have f3 := cell_at hF 3; have f4 := cell_at hF 4; have f5 := cell_at hF 5; have f6 := cell_at hF 6; have t0 := cell_at hC 0; have t1 := cell_at hC 1; have g0 := cell_at hG 0; have g1 := cell_at hG 1; have g2 := cell_at hG 2; have g3 := cell_at hG 3; have g4 := cell_at hG 4; have g5 := cell_at hG 5; have g6 := cell_at hG 6; have y0 := frozen_at hG 0; have y1 := frozen_at hG 1; have y2 := frozen_at hG 2; have y3 := frozen_at hG 3; have y4 := frozen_at hG 4; have y5 := frozen_at hG 5; have y6 := frozen_at hG 6; have HG := Lib.hid hG; have HB1 := Lib.hid hb1'; clear hb1 hb1' hF hG hC))
          | (go_at_call 87; ((with_reducible refine (HW.out _ ([w.heap.size, w.heap.size + 1, w.heap.size + 1 + 1] ++ S) ?_ ?_).mono ?_); exact (HH.out.r1.offNew [w.heap.size, w.heap.size + 1, w.heap.size + 1 + 1] (fun x hx => by simp at hx; omega)).below (HX.out _ HB1.out).2.2.2; (intro x hx; have hz := HB1.out.size; simp at hz; rcases List.mem_append.1 hx with hx | hx; (simp at hx; omega); (have := HS.out x hx; omega)); rintro e w2 ⟨a', c', rfl, hr2, hk2, hb2⟩; have hb2' : Below (w.heap.size + 1 + 1 + 1) (((w.alloc (.cells #[.int .i64 (s.lanes : Int), .int .i64 (s.depth : Int), .int .i64 (s.size : Int), .slice (some ⟨blk, off, none⟩) s.cr.length c1, .slice a2 s.wd.length c2, .slice a3 s.fa.length c3, .slice a4 s.bk.length c4] 30)).alloc (.cells #[.int .i64 (i : Int), .int .u64 cw] 35)).alloc (.cells #[.int .i64 0, .int .i64 0, .int .i64 0, .slice none 0 0, .slice none 0 0, .slice none 0 0, .slice none 0 0] 30)) w2 := HB1.out.trans (hb2.mono (by simpa using HB1.out.size)); have hF := (HX.out _ hb2').1; clear f0 f1 f2 f3 f4 f5 f6 t0 t1 g0 g1 g2 g3 g4 g5 g6 y0 y1 y2 y3 y4 y5 y6; have f3 := cell_at hF 3; have x3 := frozen_at hF 3; have HF := Lib.hid hF; have HB2 := Lib.hid hb2'; have HR2 := Lib.hid hr2; clear hb2 hb2' hF hr2)))
        have hF3 : (w2.setCell ⟨w.heap.size, 3, none⟩ (.slice a' s.cr.length c')).heap[w.heap.size]? = some (.cells #[.int .i64 (s.lanes : Int), .int .i64 (s.depth : Int), .int .i64 (s.size : Int), .slice a' s.cr.length c', .slice a2 s.wd.length c2, .slice a3 s.fa.length c3, .slice a4 s.bk.length c4] 30 (0, 0)) := set_at HF.out 3 _
        have hT3 := set_other (c := w.heap.size) (HX.out _ HB2.out).2.1 (by omega) 3 (.slice a' s.cr.length c')
        have hG3 := set_other (c := w.heap.size) (HX.out _ HB2.out).2.2.1 (by omega) 3 (.slice a' s.cr.length c')
        have hR3 := HR2.out.only (T := [w.heap.size]) (((Only.refl _ w2).setCell (p := ⟨w.heap.size, 3, none⟩) (by simp) (.slice a' s.cr.length c'))) (by simp)
        have hB3 : Below w.heap.size w (w2.setCell ⟨w.heap.size, 3, none⟩ (.slice a' s.cr.length c')) := by
          have := (HX.out _ HB2.out).2.2.2
          repeat' (first | (with_reducible assumption) | (with_reducible refine Below.setCell ?_ ?_ _) | (with_reducible refine below_drewN' ?_ _) | (with_reducible refine Below.drew ?_) | (with_reducible refine Below.alloc ?_ ?_ _) | (with_reducible exact Below.refl _ _) | (with_reducible exact Nat.le_refl _) | omega | (simp; done) | (simp; omega))
        clear HF HB2 HR2 HB1 HX HW f3 x3 c0 HC
        generalize w2.setCell ⟨w.heap.size, 3, none⟩ (.slice a' s.cr.length c') = w3 at *
        have h4 := (HH.out.r2.weak (T := []) (by simp)).below hB3
        have hlt3 := block_lt hG3
        have f0 := cell_at hF3 0; have f1 := cell_at hF3 1; have f2 := cell_at hF3 2; have f3 := cell_at hF3 3; have f4 := cell_at hF3 4; have f5 := cell_at hF3 5; have f6 := cell_at hF3 6
        have t0 := cell_at hT3 0; have t1 := cell_at hT3 1
        have HF3 := Lib.hid hF3
        have HT3 := Lib.hid hT3
        have HG3 := Lib.hid hG3
        have HR3 := Lib.hid hR3
        have HB3 := Lib.hid hB3
        have H4 := Lib.hid h4
        clear hF3 hT3 hG3 hR3 hB3 h4
        go_wp2_with (first
          | (at_builtin; first
              | (refine append_rows (W0 := w3) (flatC s.wd) s.wd.length w3.heap.size 28 35 _ 2 16 infoC Try.underlying28 rfl (by decide) (.slice none 0 0) 0 [] (World.ownsRow_nil _ _ _ _) (Below.refl _ _) (Nat.le_refl _) a2 c2 HLB.out H4.out (oneCell_flat _) (by omega) (by decide) rfl _ _ rfl rfl rfl ?_; intro v1 w4 hown4 hb4 hg4 hor4; clear hg4 hor4; simp only [Nat.zero_add, List.nil_append] at hown4; have hs4 := hb4.size; have hF4 := Below.at hb4 HF3.out (block_lt HF3.out); have hT4 := Below.at hb4 HT3.out (block_lt HT3.out); clear f0 f1 f2 f3 f4 f5 f6 t0 t1; have f0 := cell_at hF4 0; have f1 := cell_at hF4 1; have f2 := cell_at hF4 2; have f3 := cell_at hF4 3; have f4 := cell_at hF4 4; have f5 := cell_at hF4 5; have f6 := cell_at hF4 6; have t0 := cell_at hT4 0; have t1 := cell_at hT4 1; have HF4 := Lib.hid hF4; have HB4 := Lib.hid hb4; clear hF4 hb4 hT4)
              | (refine append_own (W0 := w4) [.int .i64 (i : Int), .int .u64 cw] w3.heap.size _ _ _ 2 16 infoC Try.underlying28 rfl (by decide) _ _ _ hown4 (Below.refl _ _) hs4 rfl (by simp [Value.oneCell']) (by omega) (by decide) rfl _ _ rfl rfl rfl ?_; intro v2 w5 hown5 hb5 hg5 hor5; clear hg5 hor5; obtain ⟨a5, c5, rfl, hk5, hm5, hr5⟩ := CellsOff.own hown5 ([w.heap.size, w.heap.size + 1, w.heap.size + 1 + 1] ++ S) (fun x hx => by rcases List.mem_append.1 hx with hx | hx; (simp at hx; omega); (have := HS.out x hx; omega)); have hF5 := Below.at hb5 HF4.out (by omega); have hG5 := Below.at hb5 (Below.at HB4.out HG3.out hlt3) hlt3; clear f0 f1 f2 f3 f4 f5 f6 t0 t1; have f0 := cell_at hF5 0; have f1 := cell_at hF5 1; have f2 := cell_at hF5 2; have f3 := cell_at hF5 3; have f4 := cell_at hF5 4; have f5 := cell_at hF5 5; have f6 := cell_at hF5 6; have x4 := frozen_at hF5 4; have g0 := cell_at hG5 0; have g1 := cell_at hG5 1; have g2 := cell_at hG5 2; have g3 := cell_at hG5 3; have g4 := cell_at hG5 4; have g5 := cell_at hG5 5; have g6 := cell_at hG5 6; have y0 := frozen_at hG5 0; have y1 := frozen_at hG5 1; have y2 := frozen_at hG5 2; have y3 := frozen_at hG5 3; have y4 := frozen_at hG5 4; have y5 := frozen_at hG5 5; have y6 := frozen_at hG5 6; have HG5 := Lib.hid hG5; have HB5 := Lib.hid (HB4.out.trans hb5); have HR5 := Lib.hid hr5; clear hF5 hG5 hb5 hown5 hr5)))
        have hz1 : w.heap.size ≠ w.heap.size + 1 + 1 := by omega
        have hz2 : w.heap.size + 1 + 1 ≠ w.heap.size := by omega
        have hB5 : Below w.heap.size w w5 := HB3.out.trans (HB5.out.mono (by omega))
        have hsz := hB5.size
        refine bodyPost_ret (res_row_tmp rfl _ _ (w.heap.size + 1 + 1) 30 _ (0, 0) _ rfl (stored7 (set_other HG5.out hz2 _ _)) Try.underlying30 rfl (by kernel_rfl)) rfl ⟨⟨a', c', a5, c5, a3, c3, a4, c4⟩, by rw [HLEN.out]; rfl, ⟨HOK.out, ((HR3.out.below HB5.out).only (T := [w.heap.size, w.heap.size + 1, w.heap.size + 1 + 1]) ((((((((( Only.refl _ _).setCell (by simp) _).setCell (by simp) _).setCell (by simp) _).setCell (by simp) _).setCell (by simp) _).setCell (by simp) _).setCell (by simp) _).setCell (by simp) _) (by simp)).weak (fun x hx => List.mem_append_right _ hx), ?_, HH.out.r3.below (by repeat' (first | (with_reducible assumption) | (with_reducible refine Below.setCell ?_ ?_ _) | (with_reducible refine below_drewN' ?_ _) | (with_reducible refine Below.drew ?_) | (with_reducible refine Below.alloc ?_ ?_ _) | (with_reducible exact Below.refl _ _) | (with_reducible exact Nat.le_refl _) | omega | (simp; done) | (simp; omega))), HH.out.r4.below (by repeat' (first | (with_reducible assumption) | (with_reducible refine Below.setCell ?_ ?_ _) | (with_reducible refine below_drewN' ?_ _) | (with_reducible refine Below.drew ?_) | (with_reducible refine Below.alloc ?_ ?_ _) | (with_reducible exact Below.refl _ _) | (with_reducible exact Nat.le_refl _) | omega | (simp; done) | (simp; omega))), by show cr2.length ≤ c'; rw [HLEN.out]; exact hk2, by show (s.wd ++ [(⟨i, cw⟩ : Cl)]).length ≤ c5; rw [List.length_append]; exact hk5, HH.out.k3, HH.out.k4⟩, by repeat' (first | (with_reducible assumption) | (with_reducible refine Below.setCell ?_ ?_ _) | (with_reducible refine below_drewN' ?_ _) | (with_reducible refine Below.drew ?_) | (with_reducible refine Below.alloc ?_ ?_ _) | (with_reducible exact Below.refl _ _) | (with_reducible exact Nat.le_refl _) | omega | (simp; done) | (simp; omega))⟩
        show CellsOff _ a5 (flatC (s.wd ++ [(⟨i, cw⟩ : Cl)])) S
        rw [flatC_snoc]
        exact (HR5.out.only (T := [w.heap.size, w.heap.size + 1, w.heap.size + 1 + 1]) ((((((((( Only.refl _ _).setCell (by simp) _).setCell (by simp) _).setCell (by simp) _).setCell (by simp) _).setCell (by simp) _).setCell (by simp) _).setCell (by simp) _).setCell (by simp) _) (by simp)).weak (fun x hx => List.mem_append_right _ hx)
  · have e1 : s.send ⟨cl, cw⟩ = (s, 1) := by unfold LS.send; rw [if_neg e]
    rw [e1]
    have HX : Hid (∀ w1, Below (w.heap.size + 1 + 1 + 1) (((w.alloc (.cells #[.int .i64 (s.lanes : Int), .int .i64 (s.depth : Int), .int .i64 (s.size : Int), .slice a1 s.cr.length c1, .slice a2 s.wd.length c2, .slice a3 s.fa.length c3, .slice a4 s.bk.length c4] 30)).alloc (.cells #[.int .i64 cl, .int .u64 cw] 35)).alloc (.cells #[.int .i64 0, .int .i64 0, .int .i64 0, .slice none 0 0, .slice none 0 0, .slice none 0 0, .slice none 0 0] 30)) w1 → w1.heap[w.heap.size]? = some (.cells #[.int .i64 (s.lanes : Int), .int .i64 (s.depth : Int), .int .i64 (s.size : Int), .slice a1 s.cr.length c1, .slice a2 s.wd.length c2, .slice a3 s.fa.length c3, .slice a4 s.bk.length c4] 30 (0, 0)) ∧ w1.heap[w.heap.size + 1]? = some (.cells #[.int .i64 cl, .int .u64 cw] 35 (0, 0)) ∧ w1.heap[w.heap.size + 1 + 1]? = some (.cells #[.int .i64 0, .int .i64 0, .int .i64 0, .slice none 0 0, .slice none 0 0, .slice none 0 0, .slice none 0 0] 30 (0, 0)) ∧ Below w.heap.size w w1) := fun w1 hb =>
      ⟨Below.at hb (alloc_old (alloc_old (alloc_new _) _) _) (by omega), Below.at hb (alloc_old (alloc_at _ _ (by simp)) _) (by omega), Below.at hb (alloc_at _ _ (by simp)) (by omega), Below.trans ((((Below.refl _ _).alloc (Nat.le_refl _) _).alloc (by first | (simp; done) | (simp; omega)) _).alloc (by first | (simp; done) | (simp; omega)) _) (hb.mono (by omega))⟩
    rw [Bool.eq_false_iff.2 e] at HI
    have HI2 := Lib.hid HI
    clear HI e h hS hok2 e1
    unfold LS.vals
    go_enter Try.func55, Try.ntmps55
    go_wp2_with (first
      | (go_at_call 60; ((with_reducible refine (HI2.out _).mono ?_); rintro e w1 ⟨rfl, hb1⟩; have hb1' : Below (w.heap.size + 1 + 1 + 1) (((w.alloc (.cells #[.int .i64 (s.lanes : Int), .int .i64 (s.depth : Int), .int .i64 (s.size : Int), .slice a1 s.cr.length c1, .slice a2 s.wd.length c2, .slice a3 s.fa.length c3, .slice a4 s.bk.length c4] 30)).alloc (.cells #[.int .i64 cl, .int .u64 cw] 35)).alloc (.cells #[.int .i64 0, .int .i64 0, .int .i64 0, .slice none 0 0, .slice none 0 0, .slice none 0 0, .slice none 0 0] 30)) w1 := (Below.trans (by repeat (first | (with_reducible exact Below.refl _ _) | (with_reducible refine Below.drew ?_) | (with_reducible refine below_drewN' ?_ _))) (hb1.mono (by simp))); have hF := (HX.out _ hb1').1; have hC := (HX.out _ hb1').2.1; have hG := (HX.out _ hb1').2.2.1; have f0 := cell_at hF 0; have f1 := cell_at hF 1; have f2 := cell_at hF 2; have f3 := cell_at hF 3; have f4 := cell_at hF 4; have f5 := cell_at hF 5; have f6 := cell_at hF 6; have t0 := cell_at hC 0; have t1 := cell_at hC 1; have g0 := cell_at hG 0; have g1 := cell_at hG 1; have g2 := cell_at hG 2; have g3 := cell_at hG 3; have g4 := cell_at hG 4; have g5 := cell_at hG 5; have g6 := cell_at hG 6; have y0 := frozen_at hG 0; have y1 := frozen_at hG 1; have y2 := frozen_at hG 2; have y3 := frozen_at hG 3; have y4 := frozen_at hG 4; have y5 := frozen_at hG 5; have y6 := frozen_at hG 6; have HG := Lib.hid hG; have HB1 := Lib.hid hb1'; clear hb1 hb1' hF hG hC)))
    have hB := (HX.out _ HB1.out).2.2.2
    have hsz := hB.size
    refine bodyPost_ret (res_row_tmp rfl _ _ (w.heap.size + 1 + 1) 30 _ (0, 0) _ rfl (stored7 HG.out) Try.underlying30 rfl (by kernel_rfl)) rfl ⟨⟨a1, c1, a2, c2, a3, c3, a4, c4⟩, rfl, HH.out.below (by repeat' (first | (with_reducible assumption) | (with_reducible refine Below.setCell ?_ ?_ _) | (with_reducible refine below_drewN' ?_ _) | (with_reducible refine Below.drew ?_) | (with_reducible refine Below.alloc ?_ ?_ _) | (with_reducible exact Below.refl _ _) | (with_reducible exact Nat.le_refl _) | omega | (simp; done) | (simp; omega))), by repeat' (first | (with_reducible assumption) | (with_reducible refine Below.setCell ?_ ?_ _) | (with_reducible refine below_drewN' ?_ _) | (with_reducible refine Below.drew ?_) | (with_reducible refine Below.alloc ?_ ?_ _) | (with_reducible exact Below.refl _ _) | (with_reducible exact Nat.le_refl _) | omega | (simp; done) | (simp; omega))⟩
end Go.Proofs.Ytmehfflomgldeab
