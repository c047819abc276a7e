/- A link's Carry, Taken and Credit. -/
import Derived.Test.YtmehfflomgldeabLinkB
namespace Go.Proofs.Ytmehfflomgldeab
set_option linter.unusedVariables false
open Go.RowKit
theorem off1 {k x : Nat} (h : k ≠ x) : k ∉ [x] := by simp [h]
theorem getD_headD {l : List Int} : l.headD 0 = l.getD 0 0 := by cases l <;> rfl
set_option maxRecDepth 100000 in
set_option maxHeartbeats 1000000 in
theorem link_taken (w : World) (b : Nat) (B : List Nat) (s : LS) (k : Int) (h : LinkAt w b B s) :
    Calls Try.prog 32 #[.pointer (some ⟨b, 0, none⟩), .int .i64 k] w fun e w' => e = .returned (.int .i64 (s.taken k).2) ∧ LinkAt w' b B (s.taken k).1 ∧ Only B w w' := by
  have HI := fun w h => link_is w b B s k h
  have hh := h
  have hok2 := hh.ok.taken k
  obtain ⟨bb, bg, wb, wg, cb, fb, rb, rw, rfl, hr⟩ := h
  obtain ⟨c0, c1, c2, c3⟩ := hr.cells
  have hlt := hr.lt
  have HP := fun w h => ring_push w bb bg rb k h
  by_cases e : s.is k = true
  · have hi := LS.is_iff.1 e
    obtain ⟨i, rfl⟩ := Int.eq_ofNat_of_zero_le hi.1
    have hcl := hr.ok.fal
    have hc := nat_cell (i := i) hr.fas (by omega)
    have hfr := frozen_at hr.fas i
    have hl2 : (i : Int) < s.lanes := by omega
    have hsum := hr.ok.sum i (by omega)
    have hd64 := hr.ok.d64
    rw [e] at HI
    obtain ⟨y, hyd⟩ : ∃ y, y = s.fa.getD i 0 := ⟨_, rfl⟩
    rw [← hyd] at hc hsum
    by_cases hy : y = 0
    · have e1 : s.taken i = (s, 13) := by unfold LS.taken; rw [if_pos e]; show (if s.fa.getD i 0 = 0 then _ else _) = _; rw [← hyd, if_pos hy]
      rw [e1]
      subst hy
      have HH := Lib.hid hh
      have HI2 := Lib.hid HI
      clear e e1 hi hcl hok2 hsum HP hyd hh hlt HI hr
      go_enter Try.func32, Try.ntmps32
      go_wp2_with (first | (go_at_call 59; ((with_reducible refine (HI2.out _ HH.out).mono ?_); rintro e w' ⟨rfl, k, rfl⟩)))
      go_ret
      exact ⟨rfl, HH.out.drewN _, (Only.refl _ _).drewN _⟩
    · have e1 : s.taken i = (({ s with fa := s.fa.set i (y - 1), bk := s.bk ++ [(i : Int)] } : LS), (0 : Int)) := by unfold LS.taken; rw [if_pos e]; show (if s.fa.getD i 0 = 0 then _ else (({ s with fa := s.fa.set i (s.fa.getD i 0 - 1), bk := s.bk ++ [(i : Int)] } : LS), (0 : Int))) = _; rw [← hyd, if_neg hy]
      have hroom := hr.ok.room e (by show s.fa.getD i 0 ≠ 0; omega)
      rw [e1] at hok2 ⊢
      have hpk := push_ok (s := rb) (i : Int) hr.bl (by rw [hr.bq, hr.bn]; omega)
      rw [hpk.1] at HP
      have HPK := Lib.hid hpk.2
      generalize (rb.push i).1 = rb2 at *
      have hyI : ((y : Int) == 0) = false := beq_eq_false_iff_ne.2 (by omega)
      have hy2 : (y : Int) ≤ 64 := by omega
      have hy1 : (1 : Int) ≤ (y : Int) := by omega
      have hcast : (y : Int) - 1 = ((y - 1 : Nat) : Int) := by omega
      have HH := Lib.hid hh
      have HI2 := Lib.hid HI
      have HP2 := Lib.hid HP
      have HR := Lib.hid hr
      have HOK := Lib.hid hok2
      have HCA := Lib.hid hcast
      obtain ⟨n1, n2, n3, n4, n5, n6, n7, n8, n9, n10, n11, n12, n13, n14, n15, n16, n17, n18, n19, n20, n21⟩ := nodup7 hr.nd
      have HN := Lib.hid (nodup7 hr.nd)
      have nbf : b ≠ fb := n6
      have nfb : fb ≠ b := n6.symm
      clear n1 n2 n3 n4 n5 n6 n7 n8 n9 n10 n11 n12 n13 n14 n15 n16 n17 n18 n19 n20 n21
      clear e e1 hi hcl hok2 hsum HP hyd hh hlt HI hr hpk hcast hroom hy
      go_enter Try.func32, Try.ntmps32
      go_wp2_with (first
        | (go_at_call 59; ((with_reducible refine (HI2.out _ HH.out).mono ?_); rintro e w' ⟨rfl, k, rfl⟩))
        | (go_at_call 65; ((with_reducible refine (HP2.out _ ?_).mono ?_); exact (HR.out.back.drewN _).only (S := [fb]) ((Only.refl _ _).setCell (by simp) _) (off1 HN.out.2.2.2.2.2.2.2.2.2.2.1) (off1 HN.out.2.2.2.2.2.2.2.2.2.2.2.2.2.2.1); rintro e w2 ⟨rfl, hR2, hO2⟩)))
      go_ret
      have hr := HR.out
      obtain ⟨n1, n2, n3, n4, n5, n6, n7, n8, n9, n10, n11, n12, n13, n14, n15, n16, n17, n18, n19, n20, n21⟩ := HN.out
      obtain ⟨q1, q2, q3⟩ := HPK.out
      exact ⟨rfl, ⟨bb, bg, wb, wg, cb, fb, rb2, rw, rfl, HOK.out, hO2.at (set_other (drewN_at hr.obj _) n6 _ _) (off2 n1 n2), hO2.at (set_other (drewN_at hr.crs _) n21 _ _) (off2 n10.symm n14.symm), hO2.at (by rw [HCA.out]; exact nat_set (drewN_at hr.fas _) _) (off2 n11.symm n15.symm), hR2, by rw [q1, hr.bq], q2, by rw [q3]; exact hr.bn, ((hr.words.drewN _).only (S := [fb]) ((Only.refl _ _).setCell (by simp) _) (off1 n18) (off1 n20)).only hO2 (off2 n8.symm n12.symm) (off2 n9.symm n13.symm), hr.wq, hr.wl, hr.wn, hr.nd⟩, (((Only.refl _ _).drewN _).setCell (by simp) _).trans (hO2.mono (by simp))⟩
  · have e1 : s.taken k = (s, 1) := by unfold LS.taken; rw [if_neg e]
    rw [e1]
    rw [Bool.eq_false_iff.2 e] at HI
    have HH := Lib.hid hh
    have HI2 := Lib.hid HI
    clear e e1 hr hok2 HP HI hh hlt
    go_enter Try.func32, Try.ntmps32
    go_wp2_with (first | (go_at_call 59; ((with_reducible refine (HI2.out _ HH.out).mono ?_); rintro e w' ⟨rfl, k, rfl⟩)))
    go_ret
    exact ⟨rfl, HH.out.drewN _, (Only.refl _ _).drewN _⟩
theorem free_ok {α : Type} {s : RS α} {v : α} {l : List α} (h : s.ld = none) (hq : s.q = v :: l) : s.peekE = 0 ∧ s.free.q = l ∧ s.free.ld = none ∧ s.free.n = s.n := by
  unfold RS.peekE RS.free
  rw [if_neg (by rw [hq]; simp), if_neg (by rw [hq]; simp)]
  exact ⟨rfl, by show s.q.tail = l; rw [hq]; rfl, h, rfl⟩
theorem free_none {α : Type} {s : RS α} (hq : s.q = []) : s.peekE = 8 ∧ s.free = s := by
  unfold RS.peekE RS.free
  rw [if_pos (by rw [hq]; rfl), if_pos (by rw [hq]; rfl)]
  exact ⟨rfl, rfl⟩
set_option maxRecDepth 100000 in
set_option maxHeartbeats 1000000 in
theorem link_credit (w : World) (b : Nat) (B : List Nat) (s : LS) (h : LinkAt w b B s) :
    Calls Try.prog 33 #[.pointer (some ⟨b, 0, none⟩)] w fun e w' => e = .returned (.int .i64 s.credit.2) ∧ LinkAt w' b B s.credit.1 ∧ Only B w w' := by
  have hok2 := h.ok.credit
  obtain ⟨bb, bg, wb, wg, cb, fb, rb, rw, rfl, hr⟩ := h
  obtain ⟨c0, c1, c2, c3⟩ := hr.cells
  have HP := fun w h => ring_pop w bb bg rb h
  have hN := nodup7 hr.nd
  cases hbk : s.bk with
  | nil =>
    have e1 : s.credit = (s, 8) := by unfold LS.credit; rw [hbk]
    obtain ⟨p1, p2⟩ := free_none (hr.bq.trans hbk)
    rw [p1, p2, hr.bq, hbk] at HP
    rw [e1]
    have HP2 := Lib.hid HP
    have HR := Lib.hid hr
    have HN := Lib.hid hN
    clear e1 p1 p2 HP hr hbk hok2 hN
    go_enter Try.func33, Try.ntmps33
    go_wp2_with (first
      | (go_at_call 66; ((with_reducible refine (HP2.out _ ?_).mono ?_); exact HR.out.back; rintro e w2 ⟨rfl, hR2, hO2⟩)))
    go_ret
    have hr := HR.out
    obtain ⟨n1, n2, n3, n4, n5, n6, n7, n8, n9, n10, n11, n12, n13, n14, n15, n16, n17, n18, n19, n20, n21⟩ := HN.out
    exact ⟨rfl, ⟨bb, bg, wb, wg, cb, fb, rb, rw, rfl, hr.ok, hO2.at hr.obj (off2 n1 n2), hO2.at hr.crs (off2 n10.symm n14.symm), hO2.at hr.fas (off2 n11.symm n15.symm), hR2, hr.bq, hr.bl, hr.bn, hr.words.only hO2 (off2 n8.symm n12.symm) (off2 n9.symm n13.symm), hr.wq, hr.wl, hr.wn, hr.nd⟩, hO2.mono (by simp)⟩
  | cons k l =>
    have hk := hr.ok.bin k (by rw [hbk]; exact List.mem_cons_self ..)
    obtain ⟨i, rfl⟩ := Int.eq_ofNat_of_zero_le hk.1
    have hi : i < s.lanes := by omega
    have hcl := hr.ok.crl
    have hc := nat_cell (i := i) hr.crs (by omega)
    have hfr := frozen_at hr.crs i
    have hl2 : (i : Int) < s.lanes := by omega
    have hsum := hr.ok.sum i hi
    have hd64 := hr.ok.d64
    obtain ⟨y, hyd⟩ : ∃ y, y = s.cr.getD i 0 := ⟨_, rfl⟩
    have e1 : s.credit = (({ s with bk := l, cr := s.cr.set i (y + 1) } : LS), (0 : Int)) := by unfold LS.credit; rw [hbk, hyd]; rfl
    rw [← hyd] at hc hsum
    obtain ⟨p1, p2, p3, p4⟩ := free_ok hr.bl (hr.bq.trans hbk)
    rw [p1, hr.bq, hbk] at HP
    generalize rb.free = rb2 at *
    rw [e1] at hok2 ⊢
    have hy2 : (y : Int) ≤ 64 := by omega
    have hcast : (y : Int) + 1 = ((y + 1 : Nat) : Int) := by omega
    have nbc : b ∉ [bb, bg] := off2 hN.1 hN.2.1
    have ncc : cb ∉ [bb, bg] := off2 hN.2.2.2.2.2.2.2.2.2.1.symm hN.2.2.2.2.2.2.2.2.2.2.2.2.2.1.symm
    have HP2 := Lib.hid HP
    have HR := Lib.hid hr
    have HN := Lib.hid hN
    have HOK := Lib.hid hok2
    have HCA := Lib.hid hcast
    have HQ := Lib.hid (And.intro p2 (And.intro p3 p4))
    clear e1 p1 p2 p3 p4 HP hr hbk hok2 hN hk hi hcl hsum hyd hcast
    go_enter Try.func33, Try.ntmps33
    go_wp2_with (first
      | (go_at_call 66; ((with_reducible refine (HP2.out _ ?_).mono ?_); exact HR.out.back; rintro e w2 ⟨rfl, hR2, hO2⟩; have d2 := only_cell hO2 nbc c2; have dc := only_cell hO2 ncc hc; have df := frozen_at (hO2.at HR.out.crs ncc) i)))
    go_ret
    have hr := HR.out
    obtain ⟨n1, n2, n3, n4, n5, n6, n7, n8, n9, n10, n11, n12, n13, n14, n15, n16, n17, n18, n19, n20, n21⟩ := HN.out
    obtain ⟨q1, q2, q3⟩ := HQ.out
    have hT1 : Only [cb] w2 (w2.setCell ⟨cb, i, none⟩ (.int .i64 ((y : Int) + 1))) := (Only.refl _ _).setCell (by simp) _
    exact ⟨rfl, ⟨bb, bg, wb, wg, cb, fb, rb2, rw, rfl, HOK.out, hT1.at (hO2.at hr.obj nbc) (off1 n5), by rw [HCA.out]; exact nat_set (hO2.at hr.crs ncc) _, hT1.at (hO2.at hr.fas (off2 n11.symm n15.symm)) (off1 n21.symm), hR2.only hT1 (off1 n10) (off1 n14), q1, q2, by rw [q3]; exact hr.bn, (hr.words.only hO2 (off2 n8.symm n12.symm) (off2 n9.symm n13.symm)).only hT1 (off1 n17) (off1 n19), hr.wq, hr.wl, hr.wn, hr.nd⟩, (hO2.mono (by simp)).trans (hT1.mono (by simp))⟩
end Go.Proofs.Ytmehfflomgldeab
