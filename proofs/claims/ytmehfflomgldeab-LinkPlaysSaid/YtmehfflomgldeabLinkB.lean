/- A link's May, Send, Carry, Taken and Credit. -/
import Derived.Test.YtmehfflomgldeabLinkA
import Derived.StillTailTactics
import Derived.Deep.RegionHeld3
import Derived.Deep.DeepCutAuto
namespace Go.Proofs.Ytmehfflomgldeab
set_option linter.unusedVariables false
open Go.RowKit
theorem link_may (w : World) (b : Nat) (B : List Nat) (s : LS) (k : Int) (h : LinkAt w b B s) :
    Calls Try.prog 28 #[.pointer (some ⟨b, 0, none⟩), .int .i64 k] w fun e w' => e = .returned (.bool (s.may k)) ∧ ∃ n, w' = w.drewN n := by
  have HI := fun w h => link_is w b B s k h
  have hh := h
  obtain ⟨bb, bg, wb, wg, cb, fb, rb, rw, rfl, hr⟩ := h
  obtain ⟨c0, c1, c2, c3⟩ := hr.cells
  have HRo := fun w h => ringC_room w wb wg rw h
  have hro : rw.room = (s.size : Int) - (s.wd.length : Int) := by unfold RS.room; rw [hr.wl, hr.wq, hr.wn]; simp
  rw [hro] at HRo
  have hRC := hr.words
  by_cases e : s.is k = true
  · have hi := LS.is_iff.1 e
    obtain ⟨i, rfl⟩ := Int.eq_ofNat_of_zero_le hi.1
    have e1 : s.may i = (decide (0 < s.cr.getD i 0) && decide (s.wd.length < s.size)) := by unfold LS.may; rw [e, Int.toNat_natCast]; rfl
    have hcl := hr.ok.crl
    have hwle := hr.ok.wle
    have hc := nat_cell (i := i) hr.crs (by omega)
    rw [e1]
    have hl2 : (i : Int) < s.lanes := by omega
    rw [e] at HI
    clear e e1 hr hi hcl hro
    generalize s.cr.getD i 0 = y at *
    generalize s.wd.length = q at *
    generalize s.size = z at *
    have HI2 := Lib.hid HI
    have HH := Lib.hid hh
    have HR2 := Lib.hid HRo
    have HC := Lib.hid hRC
    clear HI hh HRo hRC
    by_cases hy : 0 < y
    · have hyI : (0 : Int) < (y : Int) := by omega
      rw [decide_eq_true hy]
      go_enter Try.func28, Try.ntmps28
      go_wp2_with (first
        | (go_at_call 59; ((with_reducible refine (HI2.out _ HH.out).mono ?_); rintro e w' ⟨rfl, k, rfl⟩))
        | (go_at_call 63; ((with_reducible refine (HR2.out _ (by first | exact HC.out | exact HC.out.drewN _)).mono ?_); rintro e w' ⟨rfl, k, rfl⟩)))
      go_ret
      exact ⟨ret_bool (by rw [Bool.true_and, decide_eq_decide] <;> omega), _, rfl⟩
    · have hyI : ¬ (0 : Int) < (y : Int) := by omega
      rw [decide_eq_false hy]
      go_enter Try.func28, Try.ntmps28
      go_wp2_with (first
        | (go_at_call 59; ((with_reducible refine (HI2.out _ HH.out).mono ?_); rintro e w' ⟨rfl, k, rfl⟩))
        | (go_at_call 63; ((with_reducible refine (HR2.out _ (by first | exact HC.out | exact HC.out.drewN _)).mono ?_); rintro e w' ⟨rfl, k, rfl⟩)))
      go_ret
      exact ⟨rfl, _, rfl⟩
  · have e1 : s.may k = false := by unfold LS.may; rw [Bool.eq_false_iff.2 e]; rfl
    rw [e1]
    rw [Bool.eq_false_iff.2 e] at HI
    clear e e1 hr hro HRo hRC
    have HI2 := Lib.hid HI
    have HH := Lib.hid hh
    clear HI hh
    go_enter Try.func28, Try.ntmps28
    go_wp2_with (first | (go_at_call 59; ((with_reducible refine (HI2.out _ HH.out).mono ?_); rintro e w' ⟨rfl, k, rfl⟩)))
    go_ret
    exact ⟨rfl, _, rfl⟩
theorem push_ok {α : Type} {s : RS α} (v : α) (h : s.ld = none) (hn : s.q.length ≠ s.n) : (s.push v).2 = 0 ∧ (s.push v).1.q = s.q ++ [v] ∧ (s.push v).1.ld = none ∧ (s.push v).1.n = s.n := by
  unfold RS.push
  rw [if_neg (by rw [h]; simp), if_neg hn]
  exact ⟨rfl, rfl, h, rfl⟩
theorem push_full {α : Type} {s : RS α} (v : α) (h : s.ld = none) (hn : s.q.length = s.n) : s.push v = (s, 7) := by
  unfold RS.push
  rw [if_neg (by rw [h]; simp), if_pos hn]
theorem only_cell {S : List Nat} {w w' : World} {p : Addr} {v : Value} (ho : Only S w w') (hp : p.block ∉ S) (hc : w.cell? p = some v) : w'.cell? p = some v := by
  rw [World.cell?_of_block (w := w) (ho.block p.block (World.block_lt_of_cell? w _ hc) hp)]; exact hc
set_option maxRecDepth 100000 in
set_option maxHeartbeats 1000000 in
theorem link_send (w : World) (b : Nat) (B : List Nat) (s : LS) (c : Cl) (h : LinkAt w b B s) :
    Calls Try.prog 35 #[.pointer (some ⟨b, 0, none⟩), c.val] w fun e w' => e = .returned (.int .i64 (s.send c).2) ∧ LinkAt w' b B (s.send c).1 ∧ Only B w w' := by
  have HI := fun w h => link_is w b B s c.lane h
  have hh := h
  have hok2 := hh.ok.send c
  have hbB := hh.mem
  obtain ⟨bb, bg, wb, wg, cb, fb, rb, rw, rfl, hr⟩ := h
  obtain ⟨c0, c1, c2, c3⟩ := hr.cells
  have hlt := hr.lt
  obtain ⟨cl, cw⟩ := c
  dsimp only at HI
  have HP := fun w h => ringC_push w wb wg rw ⟨cl, cw⟩ h
  have hba : b < w.heap.size := hlt _ (by simp)
  have hca : cb < w.heap.size := hlt _ (by simp)
  by_cases e : s.is cl = true
  · have hi := LS.is_iff.1 e
    obtain ⟨i, rfl⟩ := Int.eq_ofNat_of_zero_le hi.1
    have hcl := hr.ok.crl
    have hwle := hr.ok.wle
    have hc := nat_cell (i := i) hr.crs (by omega)
    have hfr := frozen_at hr.crs i
    have hl2 : (i : Int) < s.lanes := by omega
    have hsum := hr.ok.sum i (by omega)
    have hd64 := hr.ok.d64
    rw [e] at HI
    by_cases hy : s.cr.getD i 0 = 0
    · have e1 : s.send ⟨i, cw⟩ = (s, 8) := by unfold LS.send; rw [if_pos e]; show (if s.cr.getD i 0 = 0 then _ else _) = _; rw [if_pos hy]
      rw [e1]
      rw [hy] at hc
      clear e e1 hr hi hcl hok2 hsum HP hy
      have HI2 := Lib.hid HI
      have HH := Lib.hid hh
      clear HI hh hlt hbB
      go_enter Try.func35, Try.ntmps35
      go_wp2_with (first | (go_at_call 59; ((with_reducible refine (HI2.out _ (HH.out.alloc _)).mono ?_); rintro e w' ⟨rfl, k, rfl⟩)))
      go_quiet (fail)
      go_wp2
      go_ret
      exact ⟨rfl, (HH.out.alloc _).drewN _ |>.drewN _, (((Only.refl _ _).alloc _).drewN _).drewN _⟩
    · obtain ⟨n1, n2, n3, n4, n5, n6, n7, n8, n9, n10, n11, n12, n13, n14, n15, n16, n17, n18, n19, n20, n21⟩ := nodup7 hr.nd
      have hwb : wb < w.heap.size := hlt _ (by simp)
      have hwg : wg < w.heap.size := hlt _ (by simp)
      have o1 : b ∉ [wb, wg] := off2 n3 n4
      have o2 : cb ∉ [wb, wg] := off2 n17.symm n19.symm
      have o3 : w.heap.size ∉ [wb, wg] := off2 (Nat.ne_of_gt hwb) (Nat.ne_of_gt hwg)
      clear n1 n2 n3 n4 n5 n6 n7 n8 n9 n10 n11 n12 n13 n14 n15 n16 n17 n18 n19 n20 n21
      obtain ⟨y, hyd⟩ : ∃ y, y = s.cr.getD i 0 := ⟨_, rfl⟩
      rw [← hyd] at hc hsum hy
      have HS : Hid (∀ w', Only [wb, wg] (w.alloc (.cells #[.int .i64 (i : Int), .int .u64 cw] 35)) w' → (w'.cell? ⟨b, 1, none⟩ = some (.pointer (some ⟨wb, 0, none⟩)) ∧ w'.cell? ⟨b, 2, none⟩ = some (.slice (some ⟨cb, 0, none⟩) s.lanes s.lanes) ∧ w'.cell? ⟨cb, i, none⟩ = some (.int .i64 (y : Int)) ∧ w'.cell? ⟨w.heap.size, 0, none⟩ = some (.int .i64 (i : Int)) ∧ w'.cell? ⟨w.heap.size, 1, none⟩ = some (.int .u64 cw))) := fun w' ho =>
        ⟨only_cell ho o1 ((World.cell?_alloc_lt w _ _ hba).trans c1), only_cell ho o1 ((World.cell?_alloc_lt w _ _ hba).trans c2), only_cell ho o2 ((World.cell?_alloc_lt w _ _ hca).trans hc), only_cell ho o3 (cell_at (alloc_new _) 0), only_cell ho o3 (cell_at (alloc_new _) 1)⟩
      have HS3 : Hid (∀ w', Only [wb, wg] (w.alloc (.cells #[.int .i64 (i : Int), .int .u64 cw] 35)) w' → (w'.cell? ⟨b, 1, none⟩ = some (.pointer (some ⟨wb, 0, none⟩)) ∧ w'.cell? ⟨w.heap.size, 0, none⟩ = some (.int .i64 (i : Int)) ∧ w'.cell? ⟨w.heap.size, 1, none⟩ = some (.int .u64 cw))) := fun w' ho => ⟨(HS.out w' ho).1, (HS.out w' ho).2.2.2⟩
      have HF : Hid (∀ w', Only [wb, wg] (w.alloc (.cells #[.int .i64 (i : Int), .int .u64 cw] 35)) w' → w'.heap[cb]? = some (.cells (s.cr.map NV).toArray 3 (0, 0))) := fun w' ho => ho.at (alloc_old hr.crs _) o2
      have hyI : ((y : Int) == 0) = false := beq_eq_false_iff_ne.2 (by omega)
      have hy2 : (y : Int) ≤ 64 := by omega
      have hy1 : (1 : Int) ≤ (y : Int) := by omega
      have hcast : (y : Int) - 1 = ((y - 1 : Nat) : Int) := by omega
      have hRA : RingC (w.alloc (.cells #[.int .i64 (i : Int), .int .u64 cw] 35)) wb wg rw := hr.words.only (S := []) ((Only.refl _ _).alloc _) (by simp) (by simp)
      by_cases hf : s.wd.length = s.size
      · have e1 : s.send ⟨i, cw⟩ = (s, 7) := by unfold LS.send; rw [if_pos e]; show (if s.cr.getD i 0 = 0 then _ else _) = _; rw [← hyd, if_neg hy, if_pos hf]
        rw [e1]
        rw [push_full _ hr.wl (by rw [hr.wq, hr.wn]; exact hf)] at HP
        clear e e1 hi hcl hok2 hsum
        have HRw := Lib.hid hr
        have HI2 := Lib.hid HI
        have HH := Lib.hid hh
        have HP2 := Lib.hid HP
        have HRA := Lib.hid hRA
        have HCA := Lib.hid hcast
        have HYD := Lib.hid hyd
        clear HI hh hlt hbB hr HP hRA hcast hy hf hyd
        go_enter Try.func35, Try.ntmps35
        go_upto_region 3 with (first | (go_at_call 59; ((with_reducible refine (HI2.out _ (HH.out.alloc _)).mono ?_); rintro e w' ⟨rfl, k, rfl⟩)))
        go_cut [12] (fun s12 wx => s12 = .bool false ∧ Only [] (w.alloc (.cells #[.int .i64 (i : Int), .int .u64 cw] 35)) wx)
        case first =>
          go_quiet (fail)
          go_wp2
          go_meet
          exact ⟨rfl, by (repeat (first | (with_reducible exact hOO) | (with_reducible exact Only.refl _ _) | (with_reducible refine Only.drewN ?_ _) | (with_reducible refine Only.drew ?_)))⟩
        case rest =>
        obtain ⟨rfl, hO1⟩ := hcut
        obtain ⟨d1, d2, d3, d4, d5⟩ := HS.out _ (hO1.mono (by simp))
        have HO1 := Lib.hid hO1
        clear hO1 c0 c1 c2 c3 hc hfr
        go_wp2
        go_region_held3 (fun w' => (w'.cell? ⟨b, 1, none⟩ = some (.pointer (some ⟨wb, 0, none⟩)) ∧ w'.cell? ⟨w.heap.size, 0, none⟩ = some (.int .i64 (i : Int)) ∧ w'.cell? ⟨w.heap.size, 1, none⟩ = some (.int .u64 cw))) ((first | go_keep | exact HS3.out _ hOO)) (first
          | (go_at_call 69; ((with_reducible refine (HP2.out _ ?_).mono ?_); exact HRA.out.only (S := []) (by have hOO := HO1.out; (repeat (first | (with_reducible exact hOO) | (with_reducible exact Only.refl _ _) | (with_reducible refine Only.drewN ?_ _) | (with_reducible refine Only.drew ?_)))) (by simp) (by simp); rintro e w2 ⟨rfl, hR2, hO2⟩; have hOO : Only [wb, wg] (w.alloc (.cells #[.int .i64 (i : Int), .int .u64 cw] 35)) w2 := Only.trans (by have hOO := HO1.out.mono (T := [wb, wg]) (by simp); (repeat (first | (with_reducible exact hOO) | (with_reducible exact Only.refl _ _) | (with_reducible refine Only.drewN ?_ _) | (with_reducible refine Only.drew ?_)))) hO2)))
        have HO2 := Lib.hid hOO
        clear hO2 hOO
        go_wp2
        go_ret
        have hr := HRw.out
        have hT : Only [wb, wg] w w2 := ((Only.refl _ _).alloc _).trans HO2.out
        have hT2 : Only [b, bb, bg, wb, wg, cb, fb] w w2 := hT.mono (by simp)
        obtain ⟨n1, n2, n3, n4, n5, n6, n7, n8, n9, n10, n11, n12, n13, n14, n15, n16, n17, n18, n19, n20, n21⟩ := nodup7 hr.nd
        exact ⟨rfl, ⟨bb, bg, wb, wg, cb, fb, rb, rw, rfl, hr.ok, hT.at hr.obj o1, hT.at hr.crs o2, hT.at hr.fas (off2 n18.symm n20.symm), hr.back.only hT (off2 n8 n9) (off2 n12 n13), hr.bq, hr.bl, hr.bn, hR2, hr.wq, hr.wl, hr.wn, hr.nd⟩, hT2⟩
      · have e1 : s.send ⟨i, cw⟩ = (({ s with cr := s.cr.set i (y - 1), wd := s.wd ++ [(⟨i, cw⟩ : Cl)] } : LS), (0 : Int)) := by unfold LS.send; rw [if_pos e]; show (if s.cr.getD i 0 = 0 then _ else if s.wd.length = s.size then _ else (({ s with cr := s.cr.set i (s.cr.getD i 0 - 1), wd := s.wd ++ [(⟨i, cw⟩ : Cl)] } : LS), (0 : Int))) = _; rw [← hyd, if_neg hy, if_neg hf]
        rw [e1] at hok2 ⊢
        have hpk := push_ok (s := rw) (⟨i, cw⟩ : Cl) hr.wl (by rw [hr.wq, hr.wn]; exact hf)
        rw [hpk.1] at HP
        have HPK := Lib.hid hpk.2
        have HOK := Lib.hid hok2
        clear hpk
        generalize (rw.push ⟨i, cw⟩).1 = rw2 at *
        clear e e1 hi hcl hok2 hsum
        have HRw := Lib.hid hr
        have HI2 := Lib.hid HI
        have HH := Lib.hid hh
        have HP2 := Lib.hid HP
        have HRA := Lib.hid hRA
        have HCA := Lib.hid hcast
        have HYD := Lib.hid hyd
        clear HI hh hlt hbB hr HP hRA hcast hy hf hyd
        go_enter Try.func35, Try.ntmps35
        go_upto_region 3 with (first | (go_at_call 59; ((with_reducible refine (HI2.out _ (HH.out.alloc _)).mono ?_); rintro e w' ⟨rfl, k, rfl⟩)))
        go_cut [12] (fun s12 wx => s12 = .bool false ∧ Only [] (w.alloc (.cells #[.int .i64 (i : Int), .int .u64 cw] 35)) wx)
        case first =>
          go_quiet (fail)
          go_wp2
          go_meet
          exact ⟨rfl, by (repeat (first | (with_reducible exact hOO) | (with_reducible exact Only.refl _ _) | (with_reducible refine Only.drewN ?_ _) | (with_reducible refine Only.drew ?_)))⟩
        case rest =>
        obtain ⟨rfl, hO1⟩ := hcut
        obtain ⟨d1, d2, d3, d4, d5⟩ := HS.out _ (hO1.mono (by simp))
        have HO1 := Lib.hid hO1
        clear hO1 c0 c1 c2 c3 hc hfr
        go_wp2
        go_region_held3 (fun w' => (w'.cell? ⟨b, 1, none⟩ = some (.pointer (some ⟨wb, 0, none⟩)) ∧ w'.cell? ⟨w.heap.size, 0, none⟩ = some (.int .i64 (i : Int)) ∧ w'.cell? ⟨w.heap.size, 1, none⟩ = some (.int .u64 cw))) ((first | go_keep | exact HS3.out _ hOO)) (first
          | (go_at_call 69; ((with_reducible refine (HP2.out _ ?_).mono ?_); exact HRA.out.only (S := []) (by have hOO := HO1.out; (repeat (first | (with_reducible exact hOO) | (with_reducible exact Only.refl _ _) | (with_reducible refine Only.drewN ?_ _) | (with_reducible refine Only.drew ?_)))) (by simp) (by simp); rintro e w2 ⟨rfl, hR2, hO2⟩; have hOO : Only [wb, wg] (w.alloc (.cells #[.int .i64 (i : Int), .int .u64 cw] 35)) w2 := Only.trans (by have hOO := HO1.out.mono (T := [wb, wg]) (by simp); (repeat (first | (with_reducible exact hOO) | (with_reducible exact Only.refl _ _) | (with_reducible refine Only.drewN ?_ _) | (with_reducible refine Only.drew ?_)))) hO2)))
        have HO2 := Lib.hid hOO
        obtain ⟨d1, d2, d3, d4, d5⟩ := HS.out _ HO2.out
        have d6 := frozen_at (HF.out _ HO2.out) i
        have hF2 := HF.out _ HO2.out
        clear hO2 hOO
        go_wp2
        go_still_tail 10, (by kernel_rfl)
        change wpList _ _ _ _ _ w2.drew
        obtain ⟨d1, d2, d3, d4, d5⟩ := HS.out _ (HO2.out.drew)
        have d6 := frozen_at (HF.out _ HO2.out.drew) i
        have hRD : RingC w2.drew wb wg rw2 := hR2.only (S := []) ((Only.refl _ _).drew) (by simp) (by simp)
        have HO3 := Lib.hid HO2.out.drew
        have HRD := Lib.hid hRD
        clear hRD hR2 HO2 hF2
        generalize w2.drew = w3 at *
        go_wp2
        go_ret
        have hr := HRw.out
        have hT : Only [wb, wg] w w3 := ((Only.refl _ _).alloc _).trans HO3.out
        have hT1 : Only [cb] w3 (w3.setCell ⟨cb, i, none⟩ (.int .i64 ((y : Int) - 1))) := (Only.refl _ _).setCell (by simp) _
        have hT2 : Only [b, bb, bg, wb, wg, cb, fb] w (w3.setCell ⟨cb, i, none⟩ (.int .i64 ((y : Int) - 1))) := (hT.mono (by simp)).trans (hT1.mono (by simp))
        have off1 : ∀ {k x : Nat}, k ≠ x → k ∉ [x] := fun h => by simp [h]
        obtain ⟨n1, n2, n3, n4, n5, n6, n7, n8, n9, n10, n11, n12, n13, n14, n15, n16, n17, n18, n19, n20, n21⟩ := nodup7 hr.nd
        obtain ⟨q1, q2, q3⟩ := HPK.out
        exact ⟨rfl, ⟨bb, bg, wb, wg, cb, fb, rb, rw2, rfl, HOK.out, hT1.at (hT.at hr.obj o1) (off1 n5), by rw [HCA.out]; exact nat_set (hT.at hr.crs o2) _, hT1.at (hT.at hr.fas (off2 n18.symm n20.symm)) (off1 n21.symm), (hr.back.only hT (off2 n8 n9) (off2 n12 n13)).only hT1 (off1 n10) (off1 n14), hr.bq, hr.bl, hr.bn, HRD.out.only hT1 (off1 n17) (off1 n19), by rw [q1, hr.wq], q2, by rw [q3]; exact hr.wn, hr.nd⟩, hT2⟩
  · have e1 : s.send ⟨cl, cw⟩ = (s, 1) := by unfold LS.send; rw [if_neg e]
    rw [e1]
    rw [Bool.eq_false_iff.2 e] at HI
    clear e e1 hr hok2 HP
    have HI2 := Lib.hid HI
    have HH := Lib.hid hh
    clear HI hh hlt hbB
    go_enter Try.func35, Try.ntmps35
    go_wp2_with (first | (go_at_call 59; ((with_reducible refine (HI2.out _ (HH.out.alloc _)).mono ?_); rintro e w' ⟨rfl, k, rfl⟩)))
    go_ret
    exact ⟨rfl, (HH.out.alloc _).drewN _, ((Only.refl _ _).alloc _).drewN _⟩
end Go.Proofs.Ytmehfflomgldeab
