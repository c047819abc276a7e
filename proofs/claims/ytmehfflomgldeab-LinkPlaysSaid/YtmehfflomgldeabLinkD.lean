/- A link's Carry. -/
import Derived.Test.YtmehfflomgldeabLinkC
namespace Go.Proofs.Ytmehfflomgldeab
set_option linter.unusedVariables false
open Go.RowKit
set_option maxRecDepth 100000 in
set_option maxHeartbeats 1000000 in
theorem link_carry (w : World) (b : Nat) (B : List Nat) (s : LS) (h : LinkAt w b B s) :
    Calls Try.prog 31 #[.pointer (some ⟨b, 0, none⟩)] w fun e w' => e = .returned (.tuple #[s.carry.2.1.val, .int .i64 s.carry.2.2]) ∧ LinkAt w' b B s.carry.1 ∧ Only B w w' := by
  have hok2 := h.ok.carry
  obtain ⟨bb, bg, wb, wg, cb, fb, rb, rw, rfl, hr⟩ := h
  obtain ⟨c0, c1, c2, c3⟩ := hr.cells
  have hlt := hr.lt
  have hba : b < w.heap.size := hlt _ (by simp)
  have hfa : fb < w.heap.size := hlt _ (by simp)
  have hwb : wb < w.heap.size := hlt _ (by simp)
  have hwg : wg < w.heap.size := hlt _ (by simp)
  have HP := fun w h => ringC_pop w wb wg rw h
  have hN := nodup7 hr.nd
  have obw : b ∉ [wb, wg] := off2 hN.2.2.1 hN.2.2.2.1
  have ofw : fb ∉ [wb, wg] := off2 hN.2.2.2.2.2.2.2.2.2.2.2.2.2.2.2.2.2.1.symm hN.2.2.2.2.2.2.2.2.2.2.2.2.2.2.2.2.2.2.2.1.symm
  have oaw : w.heap.size ∉ [wb, wg] := off2 (Nat.ne_of_gt hwb) (Nat.ne_of_gt hwg)
  have hRA : ∀ o, RingC (w.alloc o) wb wg rw := fun o => hr.words.only (S := []) ((Only.refl _ _).alloc _) (by simp) (by simp)
  cases hwd : s.wd with
  | nil =>
    have e1 : s.carry = (s, Cl.zero, 8) := by unfold LS.carry; rw [hwd]
    obtain ⟨p1, p2⟩ := free_none (hr.wq.trans hwd)
    rw [p1, p2, hr.wq, hwd] at HP
    rw [e1]
    have HP2 := Lib.hid HP
    have HR := Lib.hid hr
    have HN := Lib.hid hN
    have HRA := Lib.hid hRA
    clear e1 p1 p2 HP hr hwd hok2 hN hRA hlt
    go_enter Try.func31, Try.ntmps31
    go_wp2_with (first
      | (go_at_call 64; ((with_reducible refine (HP2.out _ (HRA.out _)).mono ?_); rintro e w2 ⟨rfl, hR2, hO2⟩; have hM := hO2.at (alloc_new _) oaw; have m0 := cell_at hM 0; have m1 := cell_at hM 1; have m2 := frozen_at hM 0; have m3 := frozen_at hM 1; have hlw := block_lt hM; have HM := Lib.hid hM; clear hM)))
    have hr := HR.out
    have hlw := block_lt HM.out
    obtain ⟨n1, n2, n3, n4, n5, n6, n7, n8, n9, n10, n11, n12, n13, n14, n15, n16, n17, n18, n19, n20, n21⟩ := HN.out
    have hT : Only [wb, wg] w w2 := ((Only.refl _ _).alloc _).trans hO2
    have hL2 : LinkRaw w2 b bb bg wb wg cb fb s rb rw := ⟨hr.ok, hT.at hr.obj obw, hT.at hr.crs (off2 n17.symm n19.symm), hT.at hr.fas ofw, hr.back.only hT (off2 n8 n9) (off2 n12 n13), hr.bq, hr.bl, hr.bn, hR2, hr.wq, hr.wl, hr.wn, hr.nd⟩
    have hT2 : Only [w.heap.size] w2 (((w2.setCell ⟨w.heap.size, 0, none⟩ (.int .i64 Cl.zero.lane)).setCell ⟨w.heap.size, 1, none⟩ (.int .u64 Cl.zero.word)).alloc (.cells #[.int .i64 Cl.zero.lane, .int .u64 Cl.zero.word] 35)) := (((Only.refl _ _).setCell (by simp) _).setCell (by simp) _).alloc _
    refine bodyPost_ret (res_row_tmp rfl _ _ w.heap.size 35 _ (0, 0) _ rfl (alloc_old (stored2 HM.out) _) Try.underlying35 rfl (by kernel_rfl)) rfl ⟨rfl, ⟨bb, bg, wb, wg, cb, fb, rb, rw, rfl, hL2.only hT2 (fun k hk => off1 (Nat.ne_of_lt (hr.lt k hk)))⟩, ?_⟩
    exact (((((Only.refl _ _).alloc _).trans (hO2.mono (by simp))).setCell' (Nat.le_refl _) _).setCell' (Nat.le_refl _) _).alloc _
  | cons c l =>
    have hk := hr.ok.win c (by rw [hwd]; exact List.mem_cons_self ..)
    obtain ⟨cl, cw⟩ := c
    dsimp only at hk
    obtain ⟨i, rfl⟩ := Int.eq_ofNat_of_zero_le hk.1
    have hi : i < s.lanes := by omega
    have hcl := hr.ok.fal
    have hc := nat_cell (i := i) hr.fas (by omega)
    have hl2 : (i : Int) < s.lanes := by omega
    have hsum := hr.ok.sum i hi
    have hd64 := hr.ok.d64
    obtain ⟨y, hyd⟩ : ∃ y, y = s.fa.getD i 0 := ⟨_, rfl⟩
    have e1 : s.carry = (({ s with wd := l, fa := s.fa.set i (y + 1) } : LS), (⟨i, cw⟩ : Cl), (0 : Int)) := by unfold LS.carry; rw [hwd, hyd]; rfl
    rw [← hyd] at hc hsum
    obtain ⟨p1, p2, p3, p4⟩ := free_ok hr.wl (hr.wq.trans hwd)
    rw [p1, hr.wq, hwd] at HP
    generalize rw.free = rw2 at *
    rw [e1] at hok2 ⊢
    have hy2 : (y : Int) ≤ 64 := by omega
    have hcast : (y : Int) + 1 = ((y + 1 : Nat) : Int) := by omega
    have HP2 := Lib.hid HP
    have HR := Lib.hid hr
    have HN := Lib.hid hN
    have HRA := Lib.hid hRA
    have HOK := Lib.hid hok2
    have HCA := Lib.hid hcast
    have HQ := Lib.hid (And.intro p2 (And.intro p3 p4))
    clear e1 p1 p2 p3 p4 HP hr hwd hok2 hN hk hi hcl hsum hyd hcast hRA hlt
    go_enter Try.func31, Try.ntmps31
    go_wp2_with (first
      | (go_at_call 64; ((with_reducible refine (HP2.out _ (HRA.out _)).mono ?_); rintro e w2 ⟨rfl, hR2, hO2⟩)))
    have hT : Only [wb, wg] w (w2.alloc (.cells #[.int .i64 (i : Int), .int .u64 cw] 35)) := (((Only.refl _ _).alloc _).trans hO2).alloc _
    have hM := alloc_old (hO2.at (alloc_new _) oaw) (.cells #[.int .i64 (i : Int), .int .u64 cw] 35)
    have hM2 := alloc_new (w := w2) (.cells #[.int .i64 (i : Int), .int .u64 cw] 35)
    have hR3 : RingC (w2.alloc (.cells #[.int .i64 (i : Int), .int .u64 cw] 35)) wb wg rw2 := hR2.only (S := []) ((Only.refl _ _).alloc _) (by simp) (by simp)
    have hlw : w.heap.size < w2.heap.size := block_lt (hO2.at (alloc_new _) oaw)
    clear hO2 hR2
    generalize w2.alloc (.cells #[.int .i64 (i : Int), .int .u64 cw] 35) = w3 at *
    have d3 := only_cell hT obw c3
    have df := only_cell hT ofw hc
    have m0 := cell_at hM2 0
    have HT := Lib.hid hT
    have HM := Lib.hid hM
    have HM2 := Lib.hid hM2
    have HR3 := Lib.hid hR3
    clear hT hM hM2 hR3
    go_still_tail 10, (by kernel_rfl)
    change wpList _ _ _ _ _ w3.drew
    have hT : Only [wb, wg] w w3.drew := HT.out.drew
    have hM : w3.drew.heap[w.heap.size]? = some (.cells #[.int .i64 0, .int .u64 0] 35 (0, 0)) := HM.out
    have hM2 : w3.drew.heap[w2.heap.size]? = some (.cells #[.int .i64 (i : Int), .int .u64 cw] 35 (0, 0)) := HM2.out
    have hR3 : RingC w3.drew wb wg rw2 := HR3.out.only (S := []) ((Only.refl _ _).drew) (by simp) (by simp)
    clear HT HM HM2 HR3 d3 df m0
    generalize w3.drew = w4 at *
    have df := only_cell hT ofw hc
    have dz := frozen_at (hT.at HR.out.fas ofw) i
    have m0 := cell_at hM2 0
    have m1 := cell_at hM2 1
    have r0 := cell_at hM 0
    have r1 := cell_at hM 1
    have r2 := frozen_at hM 0
    have r3 := frozen_at hM 1
    have hne1 : fb ≠ w.heap.size := Nat.ne_of_lt hfa
    have hne2 : fb ≠ w2.heap.size := by omega
    have hne3 : w.heap.size ≠ fb := hne1.symm
    have hne4 : w2.heap.size ≠ fb := hne2.symm
    have HT := Lib.hid hT
    have HM := Lib.hid hM
    have HR3 := Lib.hid hR3
    clear hT hM hM2 hR3
    go_wp2
    have hr := HR.out
    have hT := HT.out
    obtain ⟨n1, n2, n3, n4, n5, n6, n7, n8, n9, n10, n11, n12, n13, n14, n15, n16, n17, n18, n19, n20, n21⟩ := HN.out
    obtain ⟨q1, q2, q3⟩ := HQ.out
    have hT1 : Only [fb] w4 (w4.setCell ⟨fb, i, none⟩ (.int .i64 ((y : Int) + 1))) := (Only.refl _ _).setCell (by simp) _
    have hL4 : LinkRaw (w4.setCell ⟨fb, i, none⟩ (.int .i64 ((y : Int) + 1))) b bb bg wb wg cb fb { s with wd := l, fa := s.fa.set i (y + 1) } rb rw2 := ⟨HOK.out, hT1.at (hT.at hr.obj obw) (off1 n6), hT1.at (hT.at hr.crs (off2 n17.symm n19.symm)) (off1 n21), by rw [HCA.out]; exact nat_set (hT.at hr.fas ofw) _, (hr.back.only hT (off2 n8 n9) (off2 n12 n13)).only hT1 (off1 n11) (off1 n15), hr.bq, hr.bl, hr.bn, HR3.out.only hT1 (off1 n18) (off1 n20), q1, q2, by rw [q3]; exact hr.wn, hr.nd⟩
    have hT2 : Only [w.heap.size] (w4.setCell ⟨fb, i, none⟩ (.int .i64 ((y : Int) + 1))) (((w4.setCell ⟨fb, i, none⟩ (.int .i64 ((y : Int) + 1))).setCell ⟨w.heap.size, 0, none⟩ (.int .i64 (i : Int))).setCell ⟨w.heap.size, 1, none⟩ (.int .u64 cw)) := ((Only.refl _ _).setCell (by simp) _).setCell (by simp) _
    refine bodyPost_ret (res_row_tmp rfl _ _ w.heap.size 35 _ (0, 0) _ rfl (stored2 (set_other HM.out hne3 _ _)) Try.underlying35 rfl (by kernel_rfl)) rfl ⟨rfl, ⟨bb, bg, wb, wg, cb, fb, rb, rw2, rfl, hL4.only hT2 (fun k hk => off1 (Nat.ne_of_lt (hr.lt k hk)))⟩, ?_⟩
    exact (((hT.mono (by simp)).trans (hT1.mono (by simp))).setCell' (Nat.le_refl _) _).setCell' (Nat.le_refl _) _
end Go.Proofs.Ytmehfflomgldeab
