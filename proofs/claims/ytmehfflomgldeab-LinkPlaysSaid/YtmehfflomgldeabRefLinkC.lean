/- The reference's link: Credit. -/
import Derived.Test.YtmehfflomgldeabRefLinkB
import Derived.Deep.RegionWith
import Derived.Deep.DeepCutAuto
namespace Go.Proofs.Ytmehfflomgldeab
set_option linter.unusedVariables false
open Go.RowKit
theorem stored7 {w : World} {b : Nat} {T : TypeId} {c0 c1 c2 c3 c4 c5 c6 u0 u1 u2 u3 u4 u5 u6 : Value} (h : w.heap[b]? = some (.cells #[c0, c1, c2, c3, c4, c5, c6] T (0, 0))) :
    (((((((w.setCell ⟨b, 0, none⟩ u0).setCell ⟨b, 1, none⟩ u1).setCell ⟨b, 2, none⟩ u2).setCell ⟨b, 3, none⟩ u3).setCell ⟨b, 4, none⟩ u4).setCell ⟨b, 5, none⟩ u5).setCell ⟨b, 6, none⟩ u6).heap[b]? = some (.cells #[u0, u1, u2, u3, u4, u5, u6] T (0, 0)) := by
  rw [set_at (set_at (set_at (set_at (set_at (set_at (set_at h _ _) _ _) _ _) _ _) _ _) _ _) _ _]
  simp only [List.setIfInBounds_toArray, List.set_cons_zero, List.set_cons_succ]
theorem CellsOff.offNew {w : World} {a : Option Addr} {xs : List Value} {S : List Nat} (h : CellsOff w a xs S) (T : List Nat) (hT : ∀ x ∈ T, w.heap.size ≤ x) : CellsOff w a xs (T ++ S) := fun j u hu => by
  obtain ⟨blk, off, e, hn, hc⟩ := h j u hu
  refine ⟨blk, off, e, fun hm => ?_, hc⟩
  rcases List.mem_append.1 hm with hm | hm
  · have := hT _ hm
    have hl : blk < w.heap.size := World.block_lt_of_cell? w _ hc
    omega
  · exact hn hm
set_option maxRecDepth 100000 in
set_option maxHeartbeats 1000000 in
theorem ref_credit (w : World) (s : LS) (r : LA) (S : List Nat) (h : RL w s r S) (hS : ∀ x ∈ S, x < w.heap.size) :
    Calls Try.prog 58 #[.agg (s.vals r)] w fun e w' => ∃ r', e = .returned (.tuple #[.agg (s.credit.1.vals r'), .int .i64 s.credit.2]) ∧ RL w' s.credit.1 r' S ∧ Below w.heap.size w w' := by
  have hok2 := h.ok.credit
  cases hbk : s.bk with
  | nil =>
    have e1 : s.credit = (s, 8) := by unfold LS.credit; rw [hbk]
    rw [e1]
    have hl0 : s.bk.length = 0 := by rw [hbk]; rfl
    have HH := Lib.hid h
    have HL := Lib.hid hl0
    obtain ⟨a1, c1, a2, c2, a3, c3, a4, c4⟩ := r
    unfold LS.vals
    rw [hl0]
    clear h hok2 hbk hl0 e1
    go_enter Try.func58, Try.ntmps58
    go_wp2
    refine bodyPost_ret (res_row_tmp rfl _ _ (w.heap.size + 1) 30 _ (0, 0) _ rfl (alloc_at _ _ (by simp)) Try.underlying30 rfl (by kernel_rfl)) rfl ⟨⟨a1, c1, a2, c2, a3, c3, a4, c4⟩, rfl, ?_, ?_⟩
    · exact HH.out.below (by repeat' (first | (with_reducible assumption) | (with_reducible refine Below.setCell ?_ ?_ _) | (with_reducible refine below_drewN' ?_ _) | (with_reducible refine Below.drew ?_) | (with_reducible refine Below.alloc ?_ ?_ _) | (with_reducible exact Below.refl _ _) | (with_reducible exact Nat.le_refl _) | omega | (simp; done) | (simp; omega)))
    · repeat' (first | (with_reducible assumption) | (with_reducible refine Below.setCell ?_ ?_ _) | (with_reducible refine below_drewN' ?_ _) | (with_reducible refine Below.drew ?_) | (with_reducible refine Below.alloc ?_ ?_ _) | (with_reducible exact Below.refl _ _) | (with_reducible exact Nat.le_refl _) | omega | (simp; done) | (simp; omega))
  | cons k l =>
    have hk := h.ok.bin k (by rw [hbk]; exact List.mem_cons_self ..)
    obtain ⟨i, rfl⟩ := Int.eq_ofNat_of_zero_le hk.1
    have hi : i < s.lanes := by omega
    have hsum := h.ok.sum i hi
    have hd64 := h.ok.d64
    have hcl := h.ok.crl
    have e1 : s.credit = (({ s with bk := l, cr := s.cr.set i (s.cr.getD i 0 + 1) } : LS), (0 : Int)) := by unfold LS.credit; rw [hbk]; rfl
    rw [e1] at hok2 ⊢
    have hW := fun w S hr hS => ref_with w r.a1 r.c1 s.cr i 1 (s.cr.getD i 0 + 1) S hr (by omega) (by have := h.ok.l8; omega) (by simp) (by omega) (by omega) hS
    have hlen : (s.cr.set i (s.cr.getD i 0 + 1)).length = s.cr.length := List.length_set
    generalize s.cr.set i (s.cr.getD i 0 + 1) = cr2 at *
    have HW := Lib.hid hW
    have HLEN := Lib.hid hlen
    clear hW hlen
    obtain ⟨blk, off, ha4, hn4, hc4⟩ := h.r4 0 (.int .i64 (i : Int)) (by rw [hbk]; rfl)
    rw [Nat.add_zero] at hc4
    have hlb : s.bk.length = l.length + 1 := by rw [hbk]; rfl
    have hk4 := h.k4
    have hbll : l.length ≤ 511 := by have := Nat.le_trans h.ok.ble (Nat.le_trans (Nat.mul_le_mul h.ok.l8 h.ok.d64) (by decide : 8 * 64 ≤ 512)); omega
    have HH := Lib.hid h
    have HOK := Lib.hid hok2
    have HL := Lib.hid hlb
    have HBK := Lib.hid hbk
    have HS := Lib.hid hS
    obtain ⟨a1, c1, a2, c2, a3, c3, a4, c4⟩ := r
    dsimp only at ha4 hn4 hk4 HW
    subst ha4
    rw [hlb] at hk4
    unfold LS.vals
    rw [hlb]
    have hlt := World.block_lt_of_cell? w _ hc4
    have HX : Hid (∀ w1, Below (w.heap.size + 1 + 1) ((w.alloc (.cells #[.int .i64 (s.lanes : Int), .int .i64 (s.depth : Int), .int .i64 (s.size : Int), .slice a1 s.cr.length c1, .slice a2 s.wd.length c2, .slice a3 s.fa.length c3, .slice (some ⟨blk, off, none⟩) (l.length + 1) c4] 30)).alloc (.cells #[.int .i64 0, .int .i64 0, .int .i64 0, .slice none 0 0, .slice none 0 0, .slice none 0 0, .slice none 0 0] 30)) w1 → w1.heap[w.heap.size]? = some (.cells #[.int .i64 (s.lanes : Int), .int .i64 (s.depth : Int), .int .i64 (s.size : Int), .slice a1 s.cr.length c1, .slice a2 s.wd.length c2, .slice a3 s.fa.length c3, .slice (some ⟨blk, off, none⟩) (l.length + 1) c4] 30 (0, 0)) ∧ w1.heap[w.heap.size + 1]? = some (.cells #[.int .i64 0, .int .i64 0, .int .i64 0, .slice none 0 0, .slice none 0 0, .slice none 0 0, .slice none 0 0] 30 (0, 0)) ∧ Below w.heap.size w w1) := fun w1 hb =>
      ⟨Below.at hb (alloc_old (alloc_new _) _) (by omega), Below.at hb (alloc_at _ _ (by simp)) (by omega), Below.trans (((Below.refl _ _).alloc (Nat.le_refl _) _).alloc (by simp) _) (hb.mono (by omega))⟩
    have HCL := Lib.hid hcl
    clear h hok2 hlb hbk hS e1 hsum hk hcl
    go_enter Try.func58, Try.ntmps58
    go_upto_region 3 with (fail)
    go_cut [] (fun wx => ∃ a' c', wx.heap[w.heap.size]? = some (.cells #[.int .i64 (s.lanes : Int), .int .i64 (s.depth : Int), .int .i64 (s.size : Int), .slice a' s.cr.length c', .slice a2 s.wd.length c2, .slice a3 s.fa.length c3, .slice (some ⟨blk, off, none⟩) (l.length + 1) c4] 30 (0, 0)) ∧ wx.heap[w.heap.size + 1]? = some (.cells #[.int .i64 0, .int .i64 0, .int .i64 0, .slice none 0 0, .slice none 0 0, .slice none 0 0, .slice none 0 0] 30 (0, 0)) ∧ CellsOff wx a' (cr2.map NV) ([w.heap.size, w.heap.size + 1] ++ S) ∧ s.cr.length ≤ c' ∧ Below w.heap.size w wx)
    case first =>
      go_region_with (first
        | (go_at_call 87; ((with_reducible refine (HW.out _ ([w.heap.size, w.heap.size + 1] ++ S) ?_ ?_).mono ?_); exact (HH.out.r1.offNew [w.heap.size, w.heap.size + 1] (by simp)).below (by repeat' (first | (with_reducible assumption) | (with_reducible refine Below.setCell ?_ ?_ _) | (with_reducible refine below_drewN' ?_ _) | (with_reducible refine Below.drew ?_) | (with_reducible refine Below.alloc ?_ ?_ _) | (with_reducible exact Below.refl _ _) | (with_reducible exact Nat.le_refl _) | omega | (simp; done) | (simp; omega))); (intro x hx; rcases List.mem_append.1 hx with hx | hx; (simp at hx; simp; omega); (have := HS.out x hx; simp; omega)); rintro e w1 ⟨a', c', rfl, hr1, hk1, hb1⟩; have hb1' : Below (w.heap.size + 1 + 1) ((w.alloc (.cells #[.int .i64 (s.lanes : Int), .int .i64 (s.depth : Int), .int .i64 (s.size : Int), .slice a1 s.cr.length c1, .slice a2 s.wd.length c2, .slice a3 s.fa.length c3, .slice (some ⟨blk, off, none⟩) (l.length + 1) c4] 30)).alloc (.cells #[.int .i64 0, .int .i64 0, .int .i64 0, .slice none 0 0, .slice none 0 0, .slice none 0 0, .slice none 0 0] 30)) w1 := (Below.trans (by repeat (first | (with_reducible exact Below.refl _ _) | (with_reducible refine Below.drew ?_) | (with_reducible refine below_drewN' ?_ _))) (hb1.mono (by simp))); have hF := (HX.out _ hb1').1; have f3 := cell_at hF 3; have g3 := frozen_at hF 3; have HB1 := Lib.hid hb1'; have HF := Lib.hid hF; have HR1 := Lib.hid hr1; clear hb1 hb1' hF hr1)))
      all_goals
        go_wp2
        go_meet
        have hb := (HX.out _ HB1.out).2.2
        have hs := hb.size
        refine ⟨a', c', set_at HF.out 3 _, set_other (HX.out _ HB1.out).2.1 (by omega) _ _, HR1.out.only (T := [w.heap.size]) ((Only.refl _ _).setCell (by simp) _) (by simp), hk1, by repeat' (first | (with_reducible assumption) | (with_reducible refine Below.setCell ?_ ?_ _) | (with_reducible refine below_drewN' ?_ _) | (with_reducible refine Below.drew ?_) | (with_reducible refine Below.alloc ?_ ?_ _) | (with_reducible exact Below.refl _ _) | (with_reducible exact Nat.le_refl _) | omega | (simp; done) | (simp; omega))⟩
    case rest =>
      obtain ⟨a', c', hF, hG, hR1, hk1, hB⟩ := hcut
      have f0 := cell_at hF 0; have f1 := cell_at hF 1; have f2 := cell_at hF 2; have f3 := cell_at hF 3; have f4 := cell_at hF 4; have f5 := cell_at hF 5; have f6 := cell_at hF 6
      have x6 := frozen_at hF 6
      have g0 := cell_at hG 0; have g1 := cell_at hG 1; have g2 := cell_at hG 2; have g3 := cell_at hG 3; have g4 := cell_at hG 4; have g5 := cell_at hG 5; have g6 := cell_at hG 6
      have y0 := frozen_at hG 0; have y1 := frozen_at hG 1; have y2 := frozen_at hG 2; have y3 := frozen_at hG 3; have y4 := frozen_at hG 4; have y5 := frozen_at hG 5; have y6 := frozen_at hG 6
      have HF := Lib.hid hF
      have HG := Lib.hid hG
      have HR1 := Lib.hid hR1
      have HB := Lib.hid hB
      have hz1 : w.heap.size ≠ w.heap.size + 1 := by omega
      have hz2 : w.heap.size + 1 ≠ w.heap.size := by omega
      clear hF hG hR1 hB HX HW
      go_wp2
      · have hl0 : l = [] := List.eq_nil_of_length_eq_zero (by omega)
        have hB := HB.out
        have hsz := hB.size
        refine bodyPost_ret (res_row_tmp rfl _ _ (w.heap.size + 1) 30 _ (0, 0) _ rfl (stored7 (set_other HG.out hz2 _ _)) Try.underlying30 rfl (by kernel_rfl)) rfl ⟨⟨a', c', a2, c2, a3, c3, some ⟨blk, off, none⟩, 0⟩, by rw [HLEN.out]; rfl, ⟨HOK.out, (HR1.out.only (T := [w.heap.size, w.heap.size + 1]) ((((((((( Only.refl _ _).setCell (by simp) _).setCell (by simp) _).setCell (by simp) _).setCell (by simp) _).setCell (by simp) _).setCell (by simp) _).setCell (by simp) _).setCell (by simp) _) (by simp)).weak (fun x hx => List.mem_append_right _ hx), HH.out.r2.below (by repeat' (first | (with_reducible assumption) | (with_reducible refine Below.setCell ?_ ?_ _) | (with_reducible refine below_drewN' ?_ _) | (with_reducible refine Below.drew ?_) | (with_reducible refine Below.alloc ?_ ?_ _) | (with_reducible exact Below.refl _ _) | (with_reducible exact Nat.le_refl _) | omega | (simp; done) | (simp; omega))), HH.out.r3.below (by repeat' (first | (with_reducible assumption) | (with_reducible refine Below.setCell ?_ ?_ _) | (with_reducible refine below_drewN' ?_ _) | (with_reducible refine Below.drew ?_) | (with_reducible refine Below.alloc ?_ ?_ _) | (with_reducible exact Below.refl _ _) | (with_reducible exact Nat.le_refl _) | omega | (simp; done) | (simp; omega))), by rw [show ({ s with bk := l, cr := cr2 } : LS).bk = [] from hl0]; exact CellsOff.nil, by show cr2.length ≤ c'; rw [HLEN.out]; exact hk1, HH.out.k2, HH.out.k3, by show l.length ≤ 0; rw [hl0]; exact Nat.le_refl _⟩, by repeat' (first | (with_reducible assumption) | (with_reducible refine Below.setCell ?_ ?_ _) | (with_reducible refine below_drewN' ?_ _) | (with_reducible refine Below.drew ?_) | (with_reducible refine Below.alloc ?_ ?_ _) | (with_reducible exact Below.refl _ _) | (with_reducible exact Nat.le_refl _) | omega | (simp; done) | (simp; omega))⟩
      · have hB := HB.out
        have hsz := hB.size
        refine bodyPost_ret (res_row_tmp rfl _ _ (w.heap.size + 1) 30 _ (0, 0) _ rfl (stored7 (set_other HG.out hz2 _ _)) Try.underlying30 rfl (by kernel_rfl)) rfl ⟨⟨a', c', a2, c2, a3, c3, some ⟨blk, off + 1, none⟩, c4 - 1⟩, by rw [HLEN.out]; rfl, ⟨HOK.out, (HR1.out.only (T := [w.heap.size, w.heap.size + 1]) ((((((((( Only.refl _ _).setCell (by simp) _).setCell (by simp) _).setCell (by simp) _).setCell (by simp) _).setCell (by simp) _).setCell (by simp) _).setCell (by simp) _).setCell (by simp) _) (by simp)).weak (fun x hx => List.mem_append_right _ hx), HH.out.r2.below (by repeat' (first | (with_reducible assumption) | (with_reducible refine Below.setCell ?_ ?_ _) | (with_reducible refine below_drewN' ?_ _) | (with_reducible refine Below.drew ?_) | (with_reducible refine Below.alloc ?_ ?_ _) | (with_reducible exact Below.refl _ _) | (with_reducible exact Nat.le_refl _) | omega | (simp; done) | (simp; omega))), HH.out.r3.below (by repeat' (first | (with_reducible assumption) | (with_reducible refine Below.setCell ?_ ?_ _) | (with_reducible refine below_drewN' ?_ _) | (with_reducible refine Below.drew ?_) | (with_reducible refine Below.alloc ?_ ?_ _) | (with_reducible exact Below.refl _ _) | (with_reducible exact Nat.le_refl _) | omega | (simp; done) | (simp; omega))), ?_, by show cr2.length ≤ c'; rw [HLEN.out]; exact hk1, HH.out.k2, HH.out.k3, by show l.length ≤ c4 - 1; omega⟩, by repeat' (first | (with_reducible assumption) | (with_reducible refine Below.setCell ?_ ?_ _) | (with_reducible refine below_drewN' ?_ _) | (with_reducible refine Below.drew ?_) | (with_reducible refine Below.alloc ?_ ?_ _) | (with_reducible exact Below.refl _ _) | (with_reducible exact Nat.le_refl _) | omega | (simp; done) | (simp; omega))⟩
        have hd : l.map (Value.int .i64) = (s.bk.map (Value.int .i64)).drop 1 := by rw [HBK.out]; rfl
        show CellsOff _ (some ⟨blk, off + 1, none⟩) (l.map (Value.int .i64)) S
        rw [hd]
        exact (HH.out.r4.below (by repeat' (first | (with_reducible assumption) | (with_reducible refine Below.setCell ?_ ?_ _) | (with_reducible refine below_drewN' ?_ _) | (with_reducible refine Below.drew ?_) | (with_reducible refine Below.alloc ?_ ?_ _) | (with_reducible exact Below.refl _ _) | (with_reducible exact Nat.le_refl _) | omega | (simp; done) | (simp; omega)))).dropAt 1
end Go.Proofs.Ytmehfflomgldeab
