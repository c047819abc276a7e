/- A lane's Find, by a port that is told. -/
import Derived.Test.YtpklblaenfhncaaLaneA
import Derived.StillTailTactics
namespace Go.Proofs.Ytpklblaenfhncaa
set_option linter.unusedVariables false
set_option linter.unusedSimpArgs false
open Go.RowKit BM
theorem by_calls (port : Int) (w : World) : Calls Try.prog 13 #[.int .i64 port] w fun e w' => ∃ pb, e = .returned (.func (.func 43) #[] #[.pointer (some ⟨pb, 0, none⟩)]) ∧ w'.heap[pb]? = some (.cells #[.int .i64 port] 3 (0, 0)) ∧ w.heap.size ≤ pb ∧ Below w.heap.size w w' := by
  go_enter Try.func13, Try.ntmps13
  go_wp2
  go_ret
  exact ⟨_, rfl, alloc_new _, Nat.le_refl _, (Below.refl _ _).alloc (Nat.le_refl _) _⟩
theorem by1_calls (port : Int) (pb : Nat) (f : Fl) (w : World) (h : w.heap[pb]? = some (.cells #[.int .i64 port] 3 (0, 0))) :
    Calls Try.prog 43 #[f.val, .pointer (some ⟨pb, 0, none⟩)] w fun e w' => e = .returned (.int .i64 port) ∧ Below w.heap.size w w' := by
  have hlt := block_lt h
  have c0 := cell_at h 0
  have c1 := fun o => cell_at (alloc_old h o) 0
  clear h
  obtain ⟨kind, src, dst, seq, len, more, cast, data⟩ := f
  go_enter Try.func43, Try.ntmps43
  go_wp2
  go_ret
  exact ⟨rfl, by repeat' (first | (with_reducible exact Below.refl _ _) | (with_reducible refine Below.drew ?_) | (with_reducible refine below_drewN' ?_ _) | (with_reducible refine Below.alloc ?_ ?_ _) | (with_reducible exact Nat.le_refl _))⟩
theorem stored13 {w : World} {b : Nat} {T : TypeId} {c0 c1 c2 c3 c4 u1 u2 u3 : Value} (h : w.heap[b]? = some (.cells #[c0, c1, c2, c3, c4] T (0, 0))) :
    (((w.setCell ⟨b, 1, none⟩ u1).setCell ⟨b, 2, none⟩ u2).setCell ⟨b, 3, none⟩ u3).heap[b]? = some (.cells #[c0, u1, u2, u3, c4] T (0, 0)) := by
  rw [set_at (set_at (set_at h _ _) _ _) _ _]; rfl
/-- The lane's struct is turned, no more. -/
theorem LaneRaw.turn {w w' : World} {b bb bg : Nat} {s s2 : LN} {rs : RS Int} (h : LaneRaw w b bb bg s rs) (hok : s2.Ok) (hn : s2.n = s.n) (hq : s2.q = s.q) (ho : Only [b] w w')
    (hobj : w'.heap[b]? = some (.cells #[.pointer (some ⟨bb, 0, none⟩), .int .i64 s2.ph, .int .i64 s2.pt, .int .i64 s2.ln, .bool s2.cp] 88 (0, 0))) : LaneRaw w' b bb bg s2 rs :=
  ⟨hok, hobj, h.ring.only ho (off1 h.n1.symm) (off1 h.n2.symm), by rw [hq]; exact h.rq, h.rl, by rw [hn]; exact h.rn, h.n1, h.n2⟩
set_option maxRecDepth 100000 in
set_option maxHeartbeats 2000000 in
theorem lane_find (w : World) (b : Nat) (B : List Nat) (s : LN) (node port : Int) (fv : Value) (h : LaneAt w b B s)
    (hf : (readF (s.q.headD 0)).1.dst ≠ node → ∃ pb, fv = .func (.func 43) #[] #[.pointer (some ⟨pb, 0, none⟩)] ∧ w.heap[pb]? = some (.cells #[.int .i64 port] 3 (0, 0))) :
    Calls Try.prog 12 #[.pointer (some ⟨b, 0, none⟩), .int .i64 node, fv] w fun e w' => e = .returned (.bool (s.find node port).2) ∧ LaneAt w' b B (s.find node port).1 ∧ Only B w w' := by
  have hh := h
  have hok2 := h.ok.find node port
  have hP := fun w' (hw : LaneAt w' b B s) => lane_peek w' b B s hw
  have hR := fun w' => flit_read (s.q.headD 0) h.ok.head w'
  unfold LN.find at hok2 ⊢
  obtain ⟨bb, bg, rs, rfl, hr⟩ := h
  obtain ⟨c0, c1, c2, c3, c4⟩ := hr.cells
  have hbl := block_lt hr.obj
  by_cases hq : s.q.length = 0
  · rw [if_pos hq] at hok2 ⊢
    rw [show s.peekE = 8 by unfold LN.peekE; rw [if_pos hq]] at hP
    have HH := Lib.hid hh
    have HP := Lib.hid hP
    clear hP hh hR hr hok2
    go_enter Try.func12, Try.ntmps12
    go_wp2_with (first | ((go_at_call 26; ((with_reducible refine (HP.out _ (by first | exact HH.out | exact HH.out.drewN _)).mono ?_); rintro e w' ⟨rfl, k, rfl⟩))))
    go_ret
    exact ⟨rfl, by first | exact HH.out | exact HH.out.drewN _, by first | exact Only.refl _ _ | exact (Only.refl _ _).drewN _⟩
  rw [if_neg hq] at hok2 ⊢
  rw [show s.peekE = 0 by unfold LN.peekE; rw [if_neg hq]] at hP
  by_cases hph : s.ph ≠ 0
  · rw [if_pos hph] at hok2 ⊢
    have hpb2 : (s.ph != 0) = true := bne_iff_ne.2 hph
    have HH := Lib.hid hh
    have HP := Lib.hid hP
    clear hP hh hR hr hok2 hph
    go_enter Try.func12, Try.ntmps12
    go_wp2_with (first | ((go_at_call 26; ((with_reducible refine (HP.out _ (by first | exact HH.out | exact HH.out.drewN _)).mono ?_); rintro e w' ⟨rfl, k, rfl⟩))))
    go_ret
    exact ⟨rfl, by first | exact HH.out | exact HH.out.drewN _, by first | exact Only.refl _ _ | exact (Only.refl _ _).drewN _⟩
  rw [if_neg hph] at hok2 ⊢
  have hph0 : s.ph = 0 := by omega
  have hpb2 : (s.ph != 0) = false := by rw [hph0]; rfl
  have hst := LN.findF_same s (readF (s.q.headD 0)) node port
  generalize readF (s.q.headD 0) = r at *
  obtain ⟨f, e⟩ := r
  generalize s.q.headD 0 = x at *
  obtain ⟨kind, src, dst, seq, len, more, cast, data⟩ := f
  have hBY := fun pb w' hw => by1_calls port pb ⟨kind, src, dst, seq, len, more, cast, data⟩ w' hw
  dsimp only [Fl.val] at hR hBY hf
  have HRW := Lib.hid hr
  have HH := Lib.hid hh
  have HP := Lib.hid hP
  have HR := Lib.hid hR
  have HBY := Lib.hid hBY
  have HF := Lib.hid hf
  have hok3 := hok2
  clear hP hh hR hr hBY hf hok2 hst
  by_cases he : e ≠ 0
  · have e1 : LN.findF s (⟨kind, src, dst, seq, len, more, cast, data⟩, e) node port = (s, false) := if_pos he
    rw [e1]
    have heb : (e != 0) = true := bne_iff_ne.2 he
    clear he e1 hok3
    go_enter Try.func12, Try.ntmps12
    go_wp2_with (first | ((go_at_call 26; ((with_reducible refine (HP.out _ (by first | exact HH.out | exact HH.out.drewN _)).mono ?_); rintro e w' ⟨rfl, k, rfl⟩))) | (go_at_call 42; ((with_reducible refine (HR.out _).mono ?_); rintro e w1 ⟨rfl, hb1⟩; have hB1 : Below w.heap.size w w1 := Below.trans (by first | exact Below.refl _ _ | exact below_drewN' (Below.refl _ _) _) hb1; have ho1 := Below.at hB1 HRW.out.obj hbl; have fb := fun j => cell_at ho1 j; have ub := fun j => frozen_at ho1 j; have hl1 := block_lt ho1; have HO1 := Lib.hid ho1; have HB1 := Lib.hid hB1; clear hb1 hB1 ho1)))
    go_ret
    exact ⟨rfl, by repeat' (first | (with_reducible exact HH.out.below HB2.out) | (with_reducible exact HH.out.below HB1.out) | (with_reducible refine LaneAt.alloc ?_ _) | (with_reducible refine LaneAt.drewN ?_ _)), by repeat' (first | (with_reducible exact Only.ofBelow HB2.out _) | (with_reducible exact Only.ofBelow HB1.out _) | (with_reducible refine Only.alloc ?_ _) | (with_reducible refine Only.drewN ?_ _) | (with_reducible refine Only.setCell ?_ ?_ _) | (simp; done))⟩
  obtain rfl : e = 0 := by omega
  by_cases hk : kind ≠ 1
  · have e1 : LN.findF s (⟨kind, src, dst, seq, len, more, cast, data⟩, 0) node port = (s, false) := by unfold LN.findF; rw [if_neg (show ¬ ((0 : Int) ≠ 0) from fun h => h rfl), if_pos hk]
    rw [e1]
    have heb : (kind != 1) = true := bne_iff_ne.2 hk
    clear he hk e1 hok3
    go_enter Try.func12, Try.ntmps12
    go_wp2_with (first | ((go_at_call 26; ((with_reducible refine (HP.out _ (by first | exact HH.out | exact HH.out.drewN _)).mono ?_); rintro e w' ⟨rfl, k, rfl⟩))) | (go_at_call 42; ((with_reducible refine (HR.out _).mono ?_); rintro e w1 ⟨rfl, hb1⟩; have hB1 : Below w.heap.size w w1 := Below.trans (by first | exact Below.refl _ _ | exact below_drewN' (Below.refl _ _) _) hb1; have ho1 := Below.at hB1 HRW.out.obj hbl; have fb := fun j => cell_at ho1 j; have ub := fun j => frozen_at ho1 j; have hl1 := block_lt ho1; have HO1 := Lib.hid ho1; have HB1 := Lib.hid hB1; clear hb1 hB1 ho1)))
    go_ret
    exact ⟨rfl, by repeat' (first | (with_reducible exact HH.out.below HB2.out) | (with_reducible exact HH.out.below HB1.out) | (with_reducible refine LaneAt.alloc ?_ _) | (with_reducible refine LaneAt.drewN ?_ _)), by repeat' (first | (with_reducible exact Only.ofBelow HB2.out _) | (with_reducible exact Only.ofBelow HB1.out _) | (with_reducible refine Only.alloc ?_ _) | (with_reducible refine Only.drewN ?_ _) | (with_reducible refine Only.setCell ?_ ?_ _) | (simp; done))⟩
  obtain rfl : kind = 1 := by omega
  by_cases hd : dst = node
  · have e1 : LN.findF s (⟨1, src, dst, seq, len, more, cast, data⟩, 0) node port = ({ s with ph := 2, pt := 0, ln := 0 }, true) := by unfold LN.findF; rw [if_neg (show ¬ ((0 : Int) ≠ 0) from fun h => h rfl), if_neg (show ¬ ((1 : Int) ≠ 1) from fun h => h rfl), if_pos hd]
    rw [e1] at hok3 ⊢
    have HOK := Lib.hid hok3
    have heb : (dst == node) = true := beq_iff_eq.2 hd
    clear he hk hd e1 hok3
    go_enter Try.func12, Try.ntmps12
    go_wp2_with (first | ((go_at_call 26; ((with_reducible refine (HP.out _ (by first | exact HH.out | exact HH.out.drewN _)).mono ?_); rintro e w' ⟨rfl, k, rfl⟩))) | (go_at_call 42; ((with_reducible refine (HR.out _).mono ?_); rintro e w1 ⟨rfl, hb1⟩; have hB1 : Below w.heap.size w w1 := Below.trans (by first | exact Below.refl _ _ | exact below_drewN' (Below.refl _ _) _) hb1; have ho1 := Below.at hB1 HRW.out.obj hbl; have fb := fun j => cell_at ho1 j; have ub := fun j => frozen_at ho1 j; have hl1 := block_lt ho1; have HO1 := Lib.hid ho1; have HB1 := Lib.hid hB1; clear hb1 hB1 ho1)))
    go_ret
    refine ⟨rfl, ⟨bb, bg, rs, rfl, HRW.out.turn HOK.out rfl rfl ?_ (by repeat' (first | (with_reducible exact HO2.out) | (with_reducible exact HO1.out) | (with_reducible apply stored13) | (with_reducible refine alloc_old ?_ _) | (with_reducible refine drewN_at ?_ _)))⟩, ?_⟩
    · repeat' (first | (with_reducible exact Only.ofBelow HB2.out _) | (with_reducible exact Only.ofBelow HB1.out _) | (with_reducible refine Only.alloc ?_ _) | (with_reducible refine Only.drewN ?_ _) | (with_reducible refine Only.setCell ?_ ?_ _) | (simp; done))
    · repeat' (first | (with_reducible exact Only.ofBelow HB2.out _) | (with_reducible exact Only.ofBelow HB1.out _) | (with_reducible refine Only.alloc ?_ _) | (with_reducible refine Only.drewN ?_ _) | (with_reducible refine Only.setCell ?_ ?_ _) | (simp; done))
  have hdb : (dst == node) = false := beq_eq_false_iff_ne.2 hd
  obtain ⟨pb, rfl, hpb⟩ := HF.out hd
  have HPB := Lib.hid hpb
  clear hpb HF
  by_cases hp1 : port ≤ 0
  · have e1 : LN.findF s (⟨1, src, dst, seq, len, more, cast, data⟩, 0) node port = (s, false) := by unfold LN.findF; rw [if_neg (show ¬ ((0 : Int) ≠ 0) from fun h => h rfl), if_neg (show ¬ ((1 : Int) ≠ 1) from fun h => h rfl), if_neg hd, if_pos hp1]
    rw [e1]
    clear he hk hd e1 hok3
    go_enter Try.func12, Try.ntmps12
    go_wp2_with (first | ((go_at_call 26; ((with_reducible refine (HP.out _ (by first | exact HH.out | exact HH.out.drewN _)).mono ?_); rintro e w' ⟨rfl, k, rfl⟩))) | (go_at_call 42; ((with_reducible refine (HR.out _).mono ?_); rintro e w1 ⟨rfl, hb1⟩; have hB1 : Below w.heap.size w w1 := Below.trans (by first | exact Below.refl _ _ | exact below_drewN' (Below.refl _ _) _) hb1; have ho1 := Below.at hB1 HRW.out.obj hbl; have fb := fun j => cell_at ho1 j; have ub := fun j => frozen_at ho1 j; have hl1 := block_lt ho1; have HO1 := Lib.hid ho1; have HB1 := Lib.hid hB1; clear hb1 hB1 ho1)) | (go_at_call 43; ((with_reducible refine (HBY.out _ _ ?_).mono ?_); exact alloc_old (Below.at HB1.out HPB.out (block_lt HPB.out)) _; rintro e w2 ⟨rfl, hb2⟩; have hB2 : Below w.heap.size w w2 := Below.trans (HB1.out.alloc HB1.out.size _) (hb2.mono (by have := HB1.out.size; simp; omega)); clear fb ub hl1; have ho2 := Below.at hB2 HRW.out.obj hbl; have fb := fun j => cell_at ho2 j; have ub := fun j => frozen_at ho2 j; have hl2 := block_lt ho2; have HO2 := Lib.hid ho2; have HB2 := Lib.hid hB2; clear hb2 hB2 ho2)))
    go_ret
    exact ⟨rfl, by repeat' (first | (with_reducible exact HH.out.below HB2.out) | (with_reducible exact HH.out.below HB1.out) | (with_reducible refine LaneAt.alloc ?_ _) | (with_reducible refine LaneAt.drewN ?_ _)), by repeat' (first | (with_reducible exact Only.ofBelow HB2.out _) | (with_reducible exact Only.ofBelow HB1.out _) | (with_reducible refine Only.alloc ?_ _) | (with_reducible refine Only.drewN ?_ _) | (with_reducible refine Only.setCell ?_ ?_ _) | (simp; done))⟩
  by_cases hp5 : 5 ≤ port
  · have e1 : LN.findF s (⟨1, src, dst, seq, len, more, cast, data⟩, 0) node port = (s, false) := by unfold LN.findF; rw [if_neg (show ¬ ((0 : Int) ≠ 0) from fun h => h rfl), if_neg (show ¬ ((1 : Int) ≠ 1) from fun h => h rfl), if_neg hd, if_neg hp1, if_pos hp5]
    rw [e1]
    clear he hk hd e1 hok3
    go_enter Try.func12, Try.ntmps12
    go_wp2_with (first | ((go_at_call 26; ((with_reducible refine (HP.out _ (by first | exact HH.out | exact HH.out.drewN _)).mono ?_); rintro e w' ⟨rfl, k, rfl⟩))) | (go_at_call 42; ((with_reducible refine (HR.out _).mono ?_); rintro e w1 ⟨rfl, hb1⟩; have hB1 : Below w.heap.size w w1 := Below.trans (by first | exact Below.refl _ _ | exact below_drewN' (Below.refl _ _) _) hb1; have ho1 := Below.at hB1 HRW.out.obj hbl; have fb := fun j => cell_at ho1 j; have ub := fun j => frozen_at ho1 j; have hl1 := block_lt ho1; have HO1 := Lib.hid ho1; have HB1 := Lib.hid hB1; clear hb1 hB1 ho1)) | (go_at_call 43; ((with_reducible refine (HBY.out _ _ ?_).mono ?_); exact alloc_old (Below.at HB1.out HPB.out (block_lt HPB.out)) _; rintro e w2 ⟨rfl, hb2⟩; have hB2 : Below w.heap.size w w2 := Below.trans (HB1.out.alloc HB1.out.size _) (hb2.mono (by have := HB1.out.size; simp; omega)); clear fb ub hl1; have ho2 := Below.at hB2 HRW.out.obj hbl; have fb := fun j => cell_at ho2 j; have ub := fun j => frozen_at ho2 j; have hl2 := block_lt ho2; have HO2 := Lib.hid ho2; have HB2 := Lib.hid hB2; clear hb2 hB2 ho2)))
    go_ret
    exact ⟨rfl, by repeat' (first | (with_reducible exact HH.out.below HB2.out) | (with_reducible exact HH.out.below HB1.out) | (with_reducible refine LaneAt.alloc ?_ _) | (with_reducible refine LaneAt.drewN ?_ _)), by repeat' (first | (with_reducible exact Only.ofBelow HB2.out _) | (with_reducible exact Only.ofBelow HB1.out _) | (with_reducible refine Only.alloc ?_ _) | (with_reducible refine Only.drewN ?_ _) | (with_reducible refine Only.setCell ?_ ?_ _) | (simp; done))⟩
  have e1 : LN.findF s (⟨1, src, dst, seq, len, more, cast, data⟩, 0) node port = ({ s with ph := 1, pt := port, ln := 0 }, true) := by unfold LN.findF; rw [if_neg (show ¬ ((0 : Int) ≠ 0) from fun h => h rfl), if_neg (show ¬ ((1 : Int) ≠ 1) from fun h => h rfl), if_neg hd, if_neg hp1, if_neg hp5]
  rw [e1] at hok3 ⊢
  have HOK := Lib.hid hok3
  clear he hk hd e1 hok3
  go_enter Try.func12, Try.ntmps12
  go_wp2_with (first | ((go_at_call 26; ((with_reducible refine (HP.out _ (by first | exact HH.out | exact HH.out.drewN _)).mono ?_); rintro e w' ⟨rfl, k, rfl⟩))) | (go_at_call 42; ((with_reducible refine (HR.out _).mono ?_); rintro e w1 ⟨rfl, hb1⟩; have hB1 : Below w.heap.size w w1 := Below.trans (by first | exact Below.refl _ _ | exact below_drewN' (Below.refl _ _) _) hb1; have ho1 := Below.at hB1 HRW.out.obj hbl; have fb := fun j => cell_at ho1 j; have ub := fun j => frozen_at ho1 j; have hl1 := block_lt ho1; have HO1 := Lib.hid ho1; have HB1 := Lib.hid hB1; clear hb1 hB1 ho1)) | (go_at_call 43; ((with_reducible refine (HBY.out _ _ ?_).mono ?_); exact alloc_old (Below.at HB1.out HPB.out (block_lt HPB.out)) _; rintro e w2 ⟨rfl, hb2⟩; have hB2 : Below w.heap.size w w2 := Below.trans (HB1.out.alloc HB1.out.size _) (hb2.mono (by have := HB1.out.size; simp; omega)); clear fb ub hl1; have ho2 := Below.at hB2 HRW.out.obj hbl; have fb := fun j => cell_at ho2 j; have ub := fun j => frozen_at ho2 j; have hl2 := block_lt ho2; have HO2 := Lib.hid ho2; have HB2 := Lib.hid hB2; clear hb2 hB2 ho2)))
  go_ret
  refine ⟨rfl, ⟨bb, bg, rs, rfl, HRW.out.turn HOK.out rfl rfl ?_ (by repeat' (first | (with_reducible exact HO2.out) | (with_reducible exact HO1.out) | (with_reducible apply stored13) | (with_reducible refine alloc_old ?_ _) | (with_reducible refine drewN_at ?_ _)))⟩, ?_⟩
  · repeat' (first | (with_reducible exact Only.ofBelow HB2.out _) | (with_reducible exact Only.ofBelow HB1.out _) | (with_reducible refine Only.alloc ?_ _) | (with_reducible refine Only.drewN ?_ _) | (with_reducible refine Only.setCell ?_ ?_ _) | (simp; done))
  · repeat' (first | (with_reducible exact Only.ofBelow HB2.out _) | (with_reducible exact Only.ofBelow HB1.out _) | (with_reducible refine Only.alloc ?_ _) | (with_reducible refine Only.drewN ?_ _) | (with_reducible refine Only.setCell ?_ ?_ _) | (simp; done))
end Go.Proofs.Ytpklblaenfhncaa
