/- A lane's Take. -/
import Derived.Test.YtpklblaenfhncaaLaneB
namespace Go.Proofs.Ytpklblaenfhncaa
set_option linter.unusedVariables false
set_option linter.unusedSimpArgs false
open Go.RowKit BM
theorem stored5 {w : World} {b : Nat} {T : TypeId} {c0 c1 c2 c3 c4 u0 u1 u2 u3 u4 : Value} (h : w.heap[b]? = some (.cells #[c0, c1, c2, c3, c4] T (0, 0))) :
    (((((w.setCell ⟨b, 0, none⟩ u0).setCell ⟨b, 1, none⟩ u1).setCell ⟨b, 2, none⟩ u2).setCell ⟨b, 3, none⟩ u3).setCell ⟨b, 4, none⟩ u4).heap[b]? = some (.cells #[u0, u1, u2, u3, u4] T (0, 0)) := by
  rw [set_at (set_at (set_at (set_at (set_at h _ _) _ _) _ _) _ _) _ _]; rfl
theorem stored14 {w : World} {b : Nat} {T : TypeId} {c0 c1 c2 c3 c4 u1 u2 u3 u4 : Value} (h : w.heap[b]? = some (.cells #[c0, c1, c2, c3, c4] T (0, 0))) :
    ((((w.setCell ⟨b, 1, none⟩ u1).setCell ⟨b, 2, none⟩ u2).setCell ⟨b, 3, none⟩ u3).setCell ⟨b, 4, none⟩ u4).heap[b]? = some (.cells #[c0, u1, u2, u3, u4] T (0, 0)) := by
  rw [set_at (set_at (set_at (set_at h _ _) _ _) _ _) _ _]; rfl
theorem only_cellX {S : List Nat} {a w : World} (h : Only S a w) {p : Addr} (hp : p.block ∈ S ∨ a.heap.size ≤ p.block) (u : Value) : Only S a (w.setCell p u) := by
  rcases hp with hp | hp
  · exact h.setCell hp u
  · exact h.setCell' hp u
theorem drew_at {w : World} {b : Nat} {o : Obj} (hb : w.heap[b]? = some o) : w.drew.heap[b]? = some o := hb
theorem lo_zero : LO.zero.val = .agg #[.int .i64 0, .int .i64 0, .int .u64 0, .bool false, .bool false] := rfl
set_option maxRecDepth 100000 in
set_option maxHeartbeats 1000000 in
theorem more_calls (x : Nat) (hx : x < 2 ^ 64) (w : World) : Calls Try.prog 51 #[.int .u64 (x : Int)] w fun e w' => e = .returned (.bool (LN.moreF x)) ∧ Below w.heap.size w w' := by
  have hR := fun w' => flit_read x hx w'
  unfold LN.moreF
  generalize readF x = r at *
  obtain ⟨⟨kind, src, dst, seq, len, more, cast, data⟩, e⟩ := r
  dsimp only [Fl.val] at *
  have HR := Lib.hid hR
  clear hR
  by_cases hk : kind = 1
  · subst hk
    rw [decide_eq_true rfl, Bool.true_and]
    go_enter Try.func51, Try.ntmps51
    go_wp2_with (go_at_call 42; ((with_reducible refine (HR.out _).mono ?_); rintro e w1 ⟨rfl, hb1⟩))
    go_ret
    exact ⟨rfl, hb1.alloc hb1.size _⟩
  · have hb : (kind == 1) = false := beq_eq_false_iff_ne.2 hk
    rw [decide_eq_false hk, Bool.false_and]
    go_enter Try.func51, Try.ntmps51
    go_wp2_with (go_at_call 42; ((with_reducible refine (HR.out _).mono ?_); rintro e w1 ⟨rfl, hb1⟩))
    go_ret
    exact ⟨rfl, hb1.alloc hb1.size _⟩
set_option maxRecDepth 100000 in
set_option maxHeartbeats 2000000 in
theorem lane_take (w : World) (b : Nat) (B : List Nat) (s : LN) (h : LaneAt w b B s) :
    Calls Try.prog 16 #[.pointer (some ⟨b, 0, none⟩)] w fun e w' => e = .returned (.tuple #[s.take.2.1.val, .int .i64 s.take.2.2]) ∧ LaneAt w' b B s.take.1 ∧ Only B w w' := by
  have hh := h
  have hok2 := h.ok.take
  have hx := h.ok.head
  have hlts := h.lt
  unfold LN.take at hok2 ⊢
  obtain ⟨bb, bg, rs, rfl, hr⟩ := h
  obtain ⟨c0, c1, c2, c3, c4⟩ := hr.cells
  have hbl := block_lt hr.obj
  have HH := Lib.hid hh
  by_cases hph : s.ph ≠ 2
  · rw [if_pos hph, lo_zero]
    have hpb : (s.ph != 2) = true := bne_iff_ne.2 hph
    clear hr hok2 hx hlts hph hh
    go_enter Try.func16, Try.ntmps16
    go_wp2
    refine bodyPost_ret (res_row_tmp rfl _ _ w.heap.size 36 _ (0, 0) _ rfl (by repeat' (first | (with_reducible exact HO4.out) | (with_reducible exact HZ4.out) | (with_reducible exact HO2.out) | (with_reducible exact HZ2.out) | (with_reducible exact HO1.out) | (with_reducible exact HZ1.out) | (with_reducible exact alloc_new _) | (with_reducible apply stored5) | (with_reducible apply stored14) | (with_reducible refine set_other ?_ ?_ _ _) | (with_reducible refine drewN_at ?_ _) | (with_reducible refine alloc_old ?_ _) | (simp; done) | omega)) Try.underlying36 rfl (by kernel_rfl)) rfl ⟨rfl, HH.out.only (S := [w.heap.size]) (by repeat' (first | (with_reducible exact HS1.out.mono (by simp)) | (with_reducible exact HS4.out) | (with_reducible exact HS2.out.mono (by simp)) | (with_reducible exact HB24.out) | (with_reducible exact Only.refl _ _) | (with_reducible refine Only.alloc ?_ _) | (with_reducible refine Only.drewN ?_ _) | (with_reducible refine Only.drew ?_) | (with_reducible refine only_cellX ?_ ?_ _) | (simp; done) | (simp; omega) | omega)) (fun k hk => off1 (Nat.ne_of_lt (HH.out.lt k hk))), by repeat' (first | (with_reducible exact HS1.out.mono (by simp)) | (with_reducible exact HS4.out) | (with_reducible exact HS2.out.mono (by simp)) | (with_reducible exact HB24.out) | (with_reducible exact Only.refl _ _) | (with_reducible refine Only.alloc ?_ _) | (with_reducible refine Only.drewN ?_ _) | (with_reducible refine Only.drew ?_) | (with_reducible refine only_cellX ?_ ?_ _) | (simp; done) | (simp; omega) | omega)⟩
  rw [if_neg hph] at hok2 ⊢
  have hph2 : s.ph = 2 := by omega
  have hpb : (s.ph != 2) = false := by rw [hph2]; rfl
  have hoff1 : b ∉ [bb, bg] := off2 hr.n1 hr.n2
  have hoff2 : w.heap.size ∉ [bb, bg] := off2 (Nat.ne_of_gt (hlts _ (by simp))) (Nat.ne_of_gt (hlts _ (by simp)))
  have hP := fun w' hw => ring_pop w' bb bg rs hw
  rw [hr.head.1, hr.head.2.2] at hP
  have hn1 : b ≠ w.heap.size := by omega
  have hn2 : w.heap.size ≠ b := by omega
  by_cases hq : s.q.length = 0
  · rw [if_pos hq, lo_zero]
    rw [show s.peekE = 8 by unfold LN.peekE; rw [if_pos hq], show rs.free = rs by unfold RS.free; rw [if_pos (by rw [hr.head.2.1]; exact hq)]] at hP
    have HP := Lib.hid hP
    have HR := Lib.hid hr
    clear hP hr hok2 hx hlts hph hph2 hh
    go_enter Try.func16, Try.ntmps16
    go_wp2_with (first | (go_at_call 49; ((with_reducible refine (HP.out _ ?_).mono ?_); exact HR.out.ring.only (S := []) ((Only.refl _ _).alloc _) (by simp) (by simp); rintro e w1 ⟨rfl, hR1, hO1⟩; have ho1 := hO1.at (alloc_old HR.out.obj _) hoff1; have hz1 := hO1.at (alloc_new _) hoff2; have fb := fun j => cell_at ho1 j; have fz := fun j => cell_at hz1 j; have ub := fun j => frozen_at ho1 j; have uz := fun j => frozen_at hz1 j; have HO1 := Lib.hid ho1; have HZ1 := Lib.hid hz1; have HR1 := Lib.hid hR1; have HS1 := Lib.hid (((Only.refl [bb, bg] w).alloc _).trans hO1); have hs1 := hO1.size; clear ho1 hz1 hR1 hO1)))
    refine bodyPost_ret (res_row_tmp rfl _ _ w.heap.size 36 _ (0, 0) _ rfl (by repeat' (first | (with_reducible exact HO4.out) | (with_reducible exact HZ4.out) | (with_reducible exact HO2.out) | (with_reducible exact HZ2.out) | (with_reducible exact HO1.out) | (with_reducible exact HZ1.out) | (with_reducible exact alloc_new _) | (with_reducible apply stored5) | (with_reducible apply stored14) | (with_reducible refine set_other ?_ ?_ _ _) | (with_reducible refine drewN_at ?_ _) | (with_reducible refine alloc_old ?_ _) | (simp; done) | omega)) Try.underlying36 rfl (by kernel_rfl)) rfl ⟨rfl, ⟨bb, bg, rs, rfl, ⟨HR.out.ok, by repeat' (first | (with_reducible exact HO4.out) | (with_reducible exact HZ4.out) | (with_reducible exact HO2.out) | (with_reducible exact HZ2.out) | (with_reducible exact HO1.out) | (with_reducible exact HZ1.out) | (with_reducible exact alloc_new _) | (with_reducible apply stored5) | (with_reducible apply stored14) | (with_reducible refine set_other ?_ ?_ _ _) | (with_reducible refine drewN_at ?_ _) | (with_reducible refine alloc_old ?_ _) | (simp; done) | omega), HR1.out.only (S := [w.heap.size]) (by repeat' (first | (with_reducible exact HS1.out.mono (by simp)) | (with_reducible exact HS4.out) | (with_reducible exact HS2.out.mono (by simp)) | (with_reducible exact HB24.out) | (with_reducible exact Only.refl _ _) | (with_reducible refine Only.alloc ?_ _) | (with_reducible refine Only.drewN ?_ _) | (with_reducible refine Only.drew ?_) | (with_reducible refine only_cellX ?_ ?_ _) | (simp; done) | (simp; omega) | omega)) (off1 ?_) (off1 ?_), HR.out.rq, HR.out.rl, HR.out.rn, HR.out.n1, HR.out.n2⟩⟩, by repeat' (first | (with_reducible exact HS1.out.mono (by simp)) | (with_reducible exact HS4.out) | (with_reducible exact HS2.out.mono (by simp)) | (with_reducible exact HB24.out) | (with_reducible exact Only.refl _ _) | (with_reducible refine Only.alloc ?_ _) | (with_reducible refine Only.drewN ?_ _) | (with_reducible refine Only.drew ?_) | (with_reducible refine only_cellX ?_ ?_ _) | (simp; done) | (simp; omega) | omega)⟩
    all_goals (have := HR.out.ring.lt; omega)
  rw [if_neg hq] at hok2 ⊢
  rw [show s.peekE = 0 by unfold LN.peekE; rw [if_neg hq]] at hP
  have hfq : rs.free.q = s.q.tail.map (fun x : Nat => (x : Int)) ∧ rs.free.ld = none ∧ rs.free.n = s.n := by
    unfold RS.free; rw [if_neg (by rw [hr.head.2.1]; exact hq)]
    exact ⟨by rw [hr.rq]; simp, hr.rl, hr.rn⟩
  generalize rs.free = rs2 at *
  have hK := fun w' => flit_kind (s.q.headD 0) hx w'
  have hM := fun w' => more_calls (s.q.headD 0) hx w'
  obtain ⟨n, q, ph, pt, ln, cp⟩ := s
  dsimp only at *
  have hts := LN.takeF_same ⟨n, q, ph, pt, ln, cp⟩ (q.headD 0)
  have htf : LN.takeF ⟨n, q, ph, pt, ln, cp⟩ (q.headD 0) = if getN (q.headD 0) 0 2 = 3 then ⟨n, q.tail, 0, 0, 0, false⟩ else if pt = 0 ∧ LN.moreF (q.headD 0) = true then ⟨n, q.tail, 0, 0, 0, true⟩ else ⟨n, q.tail, ph, pt, ln, cp⟩ := rfl
  have hof : LN.outF ⟨n, q, ph, pt, ln, cp⟩ (q.headD 0) = ⟨pt, ln, q.headD 0, decide (pt ≠ 0) && (cp && decide (getN (q.headD 0) 0 2 ≠ 1)), decide (getN (q.headD 0) 0 2 = 3)⟩ := rfl
  rw [hof]
  rw [htf] at hok2 ⊢
  clear hof htf hts
  generalize LN.moreF (q.headD 0) = mo at *
  generalize getN (q.headD 0) 0 2 = k at *
  generalize q.headD 0 = x at *
  have HP := Lib.hid hP
  have HR := Lib.hid hr
  have HK := Lib.hid hK
  have HM := Lib.hid hM
  have HFQ := Lib.hid hfq
  have HLT := Lib.hid hlts
  obtain ⟨en, hen⟩ : ∃ en : Bool, en = ((k : Int) == 3) := ⟨_, rfl⟩
  have HEN := Lib.hid hen
  have hen2 : decide (k = 3) = en := by rw [hen, Bool.eq_iff_iff, decide_eq_true_eq, beq_iff_eq]; omega
  rw [hen2]
  have hk3e : (k = 3) = (en = true) := by rw [← hen2, decide_eq_true_eq]
  simp only [hk3e] at hok2 ⊢
  obtain ⟨s3, hs3⟩ : ∃ s3 : LN, s3 = (if en = true then ⟨n, q.tail, 0, 0, 0, false⟩ else if pt = 0 ∧ mo = true then ⟨n, q.tail, 0, 0, 0, true⟩ else ⟨n, q.tail, ph, pt, ln, cp⟩) := ⟨_, rfl⟩
  rw [← hs3] at hok2 ⊢
  have HS3 := Lib.hid hs3
  have HOK := Lib.hid hok2
  clear hs3
  clear hP hr hK hM hfq hlts hh hx hph hen2 hk3e hok2 hen
  by_cases hpt : pt = 0
  · have hptn : (pt != 0) = false := by rw [hpt]; rfl
    have hpte : (pt == 0) = true := by rw [hpt]; rfl
    have HPT := Lib.hid hpt
    clear hpt
    obtain ⟨fl, hfl⟩ : ∃ fl : Bool, fl = false := ⟨_, rfl⟩
    have hfl2 : (decide (pt ≠ 0) && (cp && decide (k ≠ 1))) = fl := by rw [hfl]; rw [decide_eq_false (by rw [HPT.out]; simp), Bool.false_and]
    rw [hfl2]
    have HFL := Lib.hid hfl
    clear hfl2 hfl
    go_enter Try.func16, Try.ntmps16
    go_upto_region 9 with (first | (go_at_call 49; ((with_reducible refine (HP.out _ ?_).mono ?_); exact HR.out.ring.only (S := []) ((Only.refl _ _).alloc _) (by simp) (by simp); rintro e w1 ⟨rfl, hR1, hO1⟩; have ho1 := hO1.at (alloc_old HR.out.obj _) hoff1; have hz1 := hO1.at (alloc_new _) hoff2; have fb := fun j => cell_at ho1 j; have fz := fun j => cell_at hz1 j; have ub := fun j => frozen_at ho1 j; have uz := fun j => frozen_at hz1 j; have HO1 := Lib.hid ho1; have HZ1 := Lib.hid hz1; have HR1 := Lib.hid hR1; have HS1 := Lib.hid (((Only.refl [bb, bg] w).alloc _).trans hO1); have hs1 := hO1.size; clear ho1 hz1 hR1 hO1)) | (go_at_call 50; ((with_reducible refine (HK.out _).mono ?_); rintro e w' ⟨rfl, k, rfl⟩)))
    have hlb := block_lt HO1.out
    have hlz := block_lt HZ1.out
    go_cut [7] (fun v7 wx => v7 = .pointer (some ⟨w1.heap.size, 0, none⟩) ∧ wx.heap[b]? = some (.cells (#[.pointer (some ⟨bb, 0, none⟩), .int .i64 ph, .int .i64 pt, .int .i64 ln, .bool cp] : Array Value) 88 (0, 0)) ∧ wx.heap[w.heap.size]? = some (.cells #[.int .i64 0, .int .i64 0, .int .u64 0, .bool false, .bool false] 36 (0, 0)) ∧ wx.heap[w1.heap.size]? = some (.cells #[.int .i64 pt, .int .i64 ln, .int .u64 (x : Int), .bool fl, .bool en] 36 (0, 0)) ∧ Only [] w1 wx)
    case first =>
      have hfl := HFL.out
      have hen := HEN.out
      clear HFL HEN
      subst hfl hen
      refine wp_region_held_drew (S := (fun w' => (∀ j, w'.cell? ⟨b, j, none⟩ = (#[.pointer (some ⟨bb, 0, none⟩), .int .i64 ph, .int .i64 pt, .int .i64 ln, .bool cp] : Array Value)[j]?))) (by kernel_rfl) ?_ (fun hHeld0 => ?_)
      · (try dsimp only); (first | exact fb | exact fun j => (World.cell?_alloc_lt _ _ _ hlb).trans (fb j) | exact fun j => cell_at (by with_reducible repeat' (first | exact HO1.out | refine setRow_off ?_ ?_ _ | refine alloc_old ?_ _ | refine drew_at ?_ | refine drewN_at ?_ _ | exact Nat.ne_of_lt hlb)) j)
      refine wpAnyH_take (i := 0) (v := ?_) rfl (by kernel_rfl) (by kernel_rfl) (by kernel_rfl) (fun _ _ _ h => h) (Or.inl ⟨by rfl, ?_⟩) (by assumption) ?_
      rotate_left
      · (intro w hSw; (try dsimp only at hSw); go_simp; try with_reducible rfl)
      (try simp only [Act.put, List.setIfInBounds_toArray, List.set_cons_zero, List.set_cons_succ, List.getElem_toArray, List.getElem_cons_zero, List.getElem_cons_succ])
      refine wpAnyH_take (i := 1) (v := ?_) rfl (by kernel_rfl) (by kernel_rfl) (by kernel_rfl) (fun _ _ _ h => h) (Or.inl ⟨by rfl, ?_⟩) (by assumption) ?_
      rotate_left
      · (intro w hSw; (try dsimp only at hSw); go_simp; try with_reducible rfl)
      (try simp only [Act.put, List.setIfInBounds_toArray, List.set_cons_zero, List.set_cons_succ, List.getElem_toArray, List.getElem_cons_zero, List.getElem_cons_succ])
      refine wpAnyH_take (i := 2) (v := ?_) rfl (by kernel_rfl) (by kernel_rfl) (by kernel_rfl) (fun _ _ _ h => h) (Or.inl ⟨by rfl, ?_⟩) (by assumption) ?_
      rotate_left
      · (intro w hSw; (try dsimp only at hSw); go_simp; try with_reducible rfl)
      (try simp only [Act.put, List.setIfInBounds_toArray, List.set_cons_zero, List.set_cons_succ, List.getElem_toArray, List.getElem_cons_zero, List.getElem_cons_succ])
      refine wpAnyH_take (i := 3) (v := ?_) rfl (by kernel_rfl) (by kernel_rfl) (by kernel_rfl) (fun _ _ _ h => h) (Or.inl ⟨by rfl, ?_⟩) (by assumption) ?_
      rotate_left
      · (intro w hSw; (try dsimp only at hSw); go_simp; try with_reducible rfl)
      (try simp only [Act.put, List.setIfInBounds_toArray, List.set_cons_zero, List.set_cons_succ, List.getElem_toArray, List.getElem_cons_zero, List.getElem_cons_succ])
      refine wpAnyH_take (i := 4) (v := ?_) rfl (by kernel_rfl) (by kernel_rfl) (by kernel_rfl) (fun _ _ _ h => h) (Or.inl ⟨by rfl, ?_⟩) (by assumption) ?_
      rotate_left
      · (intro w hSw; (try dsimp only at hSw); go_simp; try with_reducible rfl)
      (try simp only [Act.put, List.setIfInBounds_toArray, List.set_cons_zero, List.set_cons_succ, List.getElem_toArray, List.getElem_cons_zero, List.getElem_cons_succ])
      refine wpAnyH_take (i := 5) (v := ?_) rfl (by kernel_rfl) (by kernel_rfl) (by kernel_rfl) (fun _ _ _ h => h) (Or.inl ⟨by rfl, ?_⟩) (by assumption) ?_
      rotate_left
      · (intro w hSw; (try dsimp only at hSw); go_simp; try with_reducible rfl)
      (try simp only [Act.put, List.setIfInBounds_toArray, List.set_cons_zero, List.set_cons_succ, List.getElem_toArray, List.getElem_cons_zero, List.getElem_cons_succ])
      refine wpAnyH_take (i := 6) (v := ?_) rfl (by kernel_rfl) (by kernel_rfl) (by kernel_rfl) (fun _ _ _ h => h) (Or.inl ⟨by rfl, ?_⟩) (by assumption) ?_
      rotate_left
      · (intro w hSw; (try dsimp only at hSw); go_simp; try with_reducible rfl)
      (try simp only [Act.put, List.setIfInBounds_toArray, List.set_cons_zero, List.set_cons_succ, List.getElem_toArray, List.getElem_cons_zero, List.getElem_cons_succ])
      refine wpAnyH_take (i := 7) (v := ?_) rfl (by kernel_rfl) (by kernel_rfl) (by kernel_rfl) (fun _ _ _ h => h) (Or.inl ⟨by rfl, ?_⟩) (by assumption) ?_
      rotate_left
      · (intro w hSw; (try dsimp only at hSw); go_simp; try with_reducible rfl)
      (try simp only [Act.put, List.setIfInBounds_toArray, List.set_cons_zero, List.set_cons_succ, List.getElem_toArray, List.getElem_cons_zero, List.getElem_cons_succ])
      refine wpAnyH_take (i := 8) (v := ?_) rfl (by kernel_rfl) (by kernel_rfl) (by kernel_rfl) (fun _ _ _ h => h) (Or.inl ⟨by rfl, ?_⟩) (by assumption) ?_
      rotate_left
      · (intro w hSw; (try dsimp only at hSw); go_simp; try with_reducible rfl)
      (try simp only [Act.put, List.setIfInBounds_toArray, List.set_cons_zero, List.set_cons_succ, List.getElem_toArray, List.getElem_cons_zero, List.getElem_cons_succ])
      refine wpAnyH_take (i := 9) (v := ?_) rfl (by kernel_rfl) (by kernel_rfl) (by kernel_rfl) (fun _ _ _ h => h) (Or.inl ⟨by rfl, ?_⟩) (by assumption) ?_
      rotate_left
      · (intro w hSw; (try dsimp only at hSw); go_simp; try with_reducible rfl)
      (try simp only [Act.put, List.setIfInBounds_toArray, List.set_cons_zero, List.set_cons_succ, List.getElem_toArray, List.getElem_cons_zero, List.getElem_cons_succ])
      refine wpAnyH_take (i := 10) (v := ?_) rfl (by kernel_rfl) (by kernel_rfl) (by kernel_rfl) (fun _ _ _ h => h) (Or.inl ⟨by rfl, ?_⟩) (by assumption) ?_
      rotate_left
      · (intro w hSw; (try dsimp only at hSw); go_simp; try with_reducible rfl)
      (try simp only [Act.put, List.setIfInBounds_toArray, List.set_cons_zero, List.set_cons_succ, List.getElem_toArray, List.getElem_cons_zero, List.getElem_cons_succ])
      refine wpAnyH_take (i := 11) (v := ?_) rfl (by kernel_rfl) (by kernel_rfl) (by kernel_rfl) (fun _ _ _ h => h) (Or.inl ⟨by rfl, ?_⟩) (by assumption) ?_
      rotate_left
      · (intro w hSw; (try dsimp only at hSw); go_simp; try with_reducible rfl)
      (try simp only [Act.put, List.setIfInBounds_toArray, List.set_cons_zero, List.set_cons_succ, List.getElem_toArray, List.getElem_cons_zero, List.getElem_cons_succ])
      refine wpAnyH_take (i := 12) (v := ?_) rfl (by kernel_rfl) (by kernel_rfl) (by kernel_rfl) (fun _ _ _ h => h) (Or.inl ⟨by rfl, ?_⟩) (by assumption) ?_
      rotate_left
      · (intro w hSw; (try dsimp only at hSw); go_simp; try with_reducible rfl)
      (try simp only [Act.put, List.setIfInBounds_toArray, List.set_cons_zero, List.set_cons_succ, List.getElem_toArray, List.getElem_cons_zero, List.getElem_cons_succ])
      refine wpAnyH_take (i := 13) (v := ?_) rfl (by kernel_rfl) (by kernel_rfl) (by kernel_rfl) (fun _ _ _ h => h) (Or.inl ⟨by rfl, ?_⟩) (by assumption) ?_
      rotate_left
      · (intro w hSw; (try dsimp only at hSw); go_simp; try with_reducible rfl)
      (try simp only [Act.put, List.setIfInBounds_toArray, List.set_cons_zero, List.set_cons_succ, List.getElem_toArray, List.getElem_cons_zero, List.getElem_cons_succ])
      refine wpAnyH_take (i := 14) (v := ?_) rfl (by kernel_rfl) (by kernel_rfl) (by kernel_rfl) (fun _ _ _ h => h) (Or.inl ⟨by rfl, ?_⟩) (by assumption) ?_
      rotate_left
      · (intro w hSw; (try dsimp only at hSw); go_simp; try with_reducible rfl)
      (try simp only [Act.put, List.setIfInBounds_toArray, List.set_cons_zero, List.set_cons_succ, List.getElem_toArray, List.getElem_cons_zero, List.getElem_cons_succ])
      refine wpAnyH_take (i := 15) (v := ?_) rfl (by kernel_rfl) (by kernel_rfl) (by kernel_rfl) (fun _ _ _ h => h) (Or.inl ⟨by rfl, ?_⟩) (by assumption) ?_
      rotate_left
      · (intro w hSw; (try dsimp only at hSw); go_simp; try with_reducible rfl)
      (try simp only [Act.put, List.setIfInBounds_toArray, List.set_cons_zero, List.set_cons_succ, List.getElem_toArray, List.getElem_cons_zero, List.getElem_cons_succ])
      refine wpAnyH_take (i := 16) (v := ?_) rfl (by kernel_rfl) (by kernel_rfl) (by kernel_rfl) (fun _ _ _ h => h) (Or.inl ⟨by rfl, ?_⟩) (by assumption) ?_
      rotate_left
      · (intro w hSw; (try dsimp only at hSw); go_simp; try with_reducible rfl)
      (try simp only [Act.put, List.setIfInBounds_toArray, List.set_cons_zero, List.set_cons_succ, List.getElem_toArray, List.getElem_cons_zero, List.getElem_cons_succ])
      refine wpAnyH_take (i := 17) (v := ?_) rfl (by kernel_rfl) (by kernel_rfl) (by kernel_rfl) (fun _ _ _ h => h) (Or.inl ⟨by rfl, ?_⟩) (by assumption) ?_
      rotate_left
      · (intro w hSw; (try dsimp only at hSw); go_simp; try with_reducible rfl)
      (try simp only [Act.put, List.setIfInBounds_toArray, List.set_cons_zero, List.set_cons_succ, List.getElem_toArray, List.getElem_cons_zero, List.getElem_cons_succ])
      refine wpAnyH_take (i := 18) (v := undef) rfl (by kernel_rfl) (by kernel_rfl) (by kernel_rfl) (fun _ _ _ h => h) (Or.inr ⟨by rfl, rfl⟩) (by assumption) ?_
      (try simp only [Act.put, List.setIfInBounds_toArray, List.set_cons_zero, List.set_cons_succ, List.getElem_toArray, List.getElem_cons_zero, List.getElem_cons_succ])
      refine wpAnyH_take (i := 19) (v := undef) rfl (by kernel_rfl) (by kernel_rfl) (by kernel_rfl) (fun _ _ _ h => h) (Or.inr ⟨by rfl, rfl⟩) (by assumption) ?_
      (try simp only [Act.put, List.setIfInBounds_toArray, List.set_cons_zero, List.set_cons_succ, List.getElem_toArray, List.getElem_cons_zero, List.getElem_cons_succ])
      refine wpAnyH_take (i := 20) (v := undef) rfl (by kernel_rfl) (by kernel_rfl) (by kernel_rfl) (fun _ _ _ h => h) (Or.inr ⟨by rfl, rfl⟩) (by assumption) ?_
      (try simp only [Act.put, List.setIfInBounds_toArray, List.set_cons_zero, List.set_cons_succ, List.getElem_toArray, List.getElem_cons_zero, List.getElem_cons_succ])
      refine wpAnyH_take (i := 21) (v := undef) rfl (by kernel_rfl) (by kernel_rfl) (by kernel_rfl) (fun _ _ _ h => h) (Or.inr ⟨by rfl, rfl⟩) (by assumption) ?_
      (try simp only [Act.put, List.setIfInBounds_toArray, List.set_cons_zero, List.set_cons_succ, List.getElem_toArray, List.getElem_cons_zero, List.getElem_cons_succ])
      refine wpAnyH_take (i := 22) (v := ?_) rfl (by kernel_rfl) (by kernel_rfl) (by kernel_rfl) (fun _ _ _ h => h) (Or.inl ⟨by rfl, ?_⟩) (by assumption) ?_
      rotate_left
      · (intro w hSw; (try dsimp only at hSw); go_simp; try with_reducible rfl)
      (try simp only [Act.put, List.setIfInBounds_toArray, List.set_cons_zero, List.set_cons_succ, List.getElem_toArray, List.getElem_cons_zero, List.getElem_cons_succ])
      refine wpAnyH_take (i := 23) (v := ?_) rfl (by kernel_rfl) (by kernel_rfl) (by kernel_rfl) (fun _ _ _ h => h) (Or.inl ⟨by rfl, ?_⟩) (by assumption) ?_
      rotate_left
      · (intro w hSw; (try dsimp only at hSw); go_simp; try with_reducible rfl)
      (try simp only [Act.put, List.setIfInBounds_toArray, List.set_cons_zero, List.set_cons_succ, List.getElem_toArray, List.getElem_cons_zero, List.getElem_cons_succ])
      refine wpAnyH_take (i := 24) (v := undef) rfl (by kernel_rfl) (by kernel_rfl) (by kernel_rfl) (fun _ _ _ h => h) (Or.inr ⟨by rfl, rfl⟩) (by assumption) ?_
      (try simp only [Act.put, List.setIfInBounds_toArray, List.set_cons_zero, List.set_cons_succ, List.getElem_toArray, List.getElem_cons_zero, List.getElem_cons_succ])
      refine wpAnyH_take (i := 25) (v := undef) rfl (by kernel_rfl) (by kernel_rfl) (by kernel_rfl) (fun _ _ _ h => h) (Or.inr ⟨by rfl, rfl⟩) (by assumption) ?_
      (try simp only [Act.put, List.setIfInBounds_toArray, List.set_cons_zero, List.set_cons_succ, List.getElem_toArray, List.getElem_cons_zero, List.getElem_cons_succ])
      refine wpAnyH_take (i := 26) (v := ?_) rfl (by kernel_rfl) (by kernel_rfl) (by kernel_rfl) (fun _ _ _ h => h) (Or.inl ⟨by rfl, ?_⟩) (by assumption) ?_
      rotate_left
      · (intro w hSw; (try dsimp only at hSw); go_simp; try with_reducible rfl)
      (try simp only [Act.put, List.setIfInBounds_toArray, List.set_cons_zero, List.set_cons_succ, List.getElem_toArray, List.getElem_cons_zero, List.getElem_cons_succ])
      refine wpAnyH_take (i := 27) (v := ?_) rfl (by kernel_rfl) (by kernel_rfl) (by kernel_rfl) (fun _ _ _ h => h) (Or.inl ⟨by rfl, ?_⟩) (by assumption) ?_
      rotate_left
      · (intro w hSw; (try dsimp only at hSw); go_simp; try with_reducible rfl)
      (try simp only [Act.put, List.setIfInBounds_toArray, List.set_cons_zero, List.set_cons_succ, List.getElem_toArray, List.getElem_cons_zero, List.getElem_cons_succ])
      refine wpAnyH_take (i := 28) (v := ?_) rfl (by kernel_rfl) (by kernel_rfl) (by kernel_rfl) (fun _ _ _ h => h) (Or.inl ⟨by rfl, ?_⟩) (by assumption) ?_
      rotate_left
      · (intro w hSw; (try dsimp only at hSw); go_simp; try with_reducible rfl)
      (try simp only [Act.put, List.setIfInBounds_toArray, List.set_cons_zero, List.set_cons_succ, List.getElem_toArray, List.getElem_cons_zero, List.getElem_cons_succ])
      refine wpAnyH_take (i := 29) (v := ?_) rfl (by kernel_rfl) (by kernel_rfl) (by kernel_rfl) (fun _ _ _ h => h) (Or.inl ⟨by rfl, ?_⟩) (by assumption) ?_
      rotate_left
      · (intro w hSw; (try dsimp only at hSw); go_simp; try with_reducible rfl)
      (try simp only [Act.put, List.setIfInBounds_toArray, List.set_cons_zero, List.set_cons_succ, List.getElem_toArray, List.getElem_cons_zero, List.getElem_cons_succ])
      refine wpAnyH_ready (rs := [30]) (by kernel_rfl) (by simp) ?_
      refine AllReadyH.cons rfl (fun K hK => ?_) ?_
      · go_simp
        refine hK.out _ _ ?_ (fun hHeld1 => ?_)
        · (try dsimp only); (first | exact fb | exact fun j => (World.cell?_alloc_lt _ _ _ hlb).trans (fb j) | exact fun j => cell_at (by with_reducible repeat' (first | exact HO1.out | refine setRow_off ?_ ?_ _ | refine alloc_old ?_ _ | refine drew_at ?_ | refine drewN_at ?_ _ | exact Nat.ne_of_lt hlb)) j)
        clear hK K hHeld0
        (try simp only [Act.put, List.setIfInBounds_toArray, List.set_cons_zero, List.set_cons_succ, List.getElem_toArray, List.getElem_cons_zero, List.getElem_cons_succ])
        refine wpAnyH_ready (rs := [31]) (by kernel_rfl) (by simp) ?_
        refine AllReadyH.cons rfl (fun K hK => ?_) ?_
        · (rw [if_pos (by rfl)]; refine wp_store_row 36 _ _ (by rfl) _ _ (by rfl) (by rfl) 36 #[.int .i64 0, .int .i64 0, .int .u64 0, .bool false, .bool false] (by exact alloc_new _) (by kernel_rfl) (by rfl) (by first | (simp; done) | simp [Value.oneCell']) ?_)
          refine hK.out _ _ ?_ (fun hHeld2 => ?_)
          · (try dsimp only); (first | exact fb | exact fun j => (World.cell?_alloc_lt _ _ _ hlb).trans (fb j) | exact fun j => cell_at (by with_reducible repeat' (first | exact HO1.out | refine setRow_off ?_ ?_ _ | refine alloc_old ?_ _ | refine drew_at ?_ | refine drewN_at ?_ _ | exact Nat.ne_of_lt hlb)) j)
          clear hK K hHeld1
          (try simp only [Act.put, List.setIfInBounds_toArray, List.set_cons_zero, List.set_cons_succ, List.getElem_toArray, List.getElem_cons_zero, List.getElem_cons_succ])
          refine wpAnyH_done (by kernel_rfl) ?_ _
          go_wp2
          go_meet
          refine ⟨rfl, by with_reducible repeat' (first | exact HO1.out | refine setRow_off ?_ ?_ _ | refine alloc_old ?_ _ | refine drew_at ?_ | refine drewN_at ?_ _ | exact Nat.ne_of_lt hlb), by with_reducible repeat' (first | exact HZ1.out | refine setRow_off ?_ ?_ _ | refine alloc_old ?_ _ | refine drew_at ?_ | refine drewN_at ?_ _ | exact Nat.ne_of_lt hlz), setRow_at (alloc_new _) _, only_setRowN (((Only.refl _ _).drewN _).alloc _) (.inr (Nat.le_refl _)) _⟩
        exact AllReadyH.nil
      exact AllReadyH.nil
    case rest =>
    obtain ⟨rfl, ho2, hz2, hv2, hO2⟩ := hcut
    obtain ⟨w2, rfl⟩ : ∃ x : World, x = wc := ⟨_, rfl⟩
    have HO2 := Lib.hid ho2
    have HZ2 := Lib.hid hz2
    have HV2 := Lib.hid hv2
    have HRG := Lib.hid (HR1.out.only hO2 (by simp) (by simp))
    have HS2 := Lib.hid (HS1.out.trans (hO2.mono (by simp)))
    have hm1 : b ≠ w1.heap.size := Nat.ne_of_lt hlb
    have hm2 : w1.heap.size ≠ b := Nat.ne_of_gt hlb
    have hm3 : w.heap.size ≠ w1.heap.size := Nat.ne_of_lt hlz
    have hm4 : w1.heap.size ≠ w.heap.size := Nat.ne_of_gt hlz
    have hr1 : bb ∉ [b, w.heap.size] := off2 HR.out.n1.symm (Nat.ne_of_lt HR.out.ring.lt.1)
    have hr2 : bg ∉ [b, w.heap.size] := off2 HR.out.n2.symm (Nat.ne_of_lt HR.out.ring.lt.2)
    clear fb fz ub uz hO2 hs1 HO1 HZ1 HR1 HS1 hlb hlz hoff1 hoff2 hbl c0 c1 c2 c3 c4 HFL HEN
    have fb := fun j => cell_at ho2 j
    have fz := fun j => cell_at hz2 j
    have fv := fun j => cell_at hv2 j
    have ub := fun j => frozen_at ho2 j
    have uz := fun j => frozen_at hz2 j
    clear ho2 hz2 hv2
    cases en with
    | true =>
      have e3 := HS3.out
      rw [if_pos rfl] at e3
      clear HS3
      subst e3
      go_wp2
      refine bodyPost_ret (res_row_tmp rfl _ _ w.heap.size 36 _ (0, 0) _ rfl (by repeat' (first | (with_reducible exact HO4.out) | (with_reducible exact HZ4.out) | (with_reducible exact HO2.out) | (with_reducible exact HZ2.out) | (with_reducible exact HO1.out) | (with_reducible exact HZ1.out) | (with_reducible exact alloc_new _) | (with_reducible apply stored5) | (with_reducible apply stored14) | (with_reducible refine set_other ?_ ?_ _ _) | (with_reducible refine drewN_at ?_ _) | (with_reducible refine alloc_old ?_ _) | (simp; done) | omega)) Try.underlying36 rfl (by kernel_rfl)) rfl ⟨rfl, ⟨bb, bg, rs2, rfl, ⟨HOK.out, by repeat' (first | (with_reducible exact HO4.out) | (with_reducible exact HZ4.out) | (with_reducible exact HO2.out) | (with_reducible exact HZ2.out) | (with_reducible exact HO1.out) | (with_reducible exact HZ1.out) | (with_reducible exact alloc_new _) | (with_reducible apply stored5) | (with_reducible apply stored14) | (with_reducible refine set_other ?_ ?_ _ _) | (with_reducible refine drewN_at ?_ _) | (with_reducible refine alloc_old ?_ _) | (simp; done) | omega), HRG.out.only (S := [b, w.heap.size]) (by repeat' (first | (with_reducible exact HS1.out.mono (by simp)) | (with_reducible exact HS4.out) | (with_reducible exact HS2.out.mono (by simp)) | (with_reducible exact HB24.out) | (with_reducible exact Only.refl _ _) | (with_reducible refine Only.alloc ?_ _) | (with_reducible refine Only.drewN ?_ _) | (with_reducible refine Only.drew ?_) | (with_reducible refine only_cellX ?_ ?_ _) | (simp; done) | (simp; omega) | omega)) hr1 hr2, HFQ.out.1, HFQ.out.2.1, HFQ.out.2.2, HR.out.n1, HR.out.n2⟩⟩, by repeat' (first | (with_reducible exact HS1.out.mono (by simp)) | (with_reducible exact HS4.out) | (with_reducible exact HS2.out.mono (by simp)) | (with_reducible exact HB24.out) | (with_reducible exact Only.refl _ _) | (with_reducible refine Only.alloc ?_ _) | (with_reducible refine Only.drewN ?_ _) | (with_reducible refine Only.drew ?_) | (with_reducible refine only_cellX ?_ ?_ _) | (simp; done) | (simp; omega) | omega)⟩
    | false =>
      cases mo with
      | true =>
        have e3 := HS3.out
        rw [if_neg (by simp), if_pos ⟨HPT.out, rfl⟩] at e3
        clear HS3
        subst e3
        go_wp2_with ((go_at_call 51; ((with_reducible refine (HM.out _).mono ?_); rintro e w4 ⟨rfl, hb4⟩; have hB4 : Below w2.heap.size w2 w4 := Below.trans (by first | exact Below.refl _ _ | exact below_drewN' (Below.refl _ _) _) hb4; have ho4 := Below.at hB4 HO2.out (block_lt HO2.out); have hz4 := Below.at hB4 HZ2.out (block_lt HZ2.out); have hv4 := Below.at hB4 HV2.out (block_lt HV2.out); clear fb fz fv ub uz; have fb := fun j => cell_at ho4 j; have fz := fun j => cell_at hz4 j; have fv := fun j => cell_at hv4 j; have ub := fun j => frozen_at ho4 j; have uz := fun j => frozen_at hz4 j; have HO4 := Lib.hid ho4; have HZ4 := Lib.hid hz4; have HB24 := Lib.hid (Only.ofBelow hB4 [b, w.heap.size]); have HS4 := Lib.hid ((HS2.out.mono (T := [b, bb, bg]) (by simp)).trans (Only.ofBelow hB4 _)); clear ho4 hz4 hv4 hb4 hB4)))
        refine bodyPost_ret (res_row_tmp rfl _ _ w.heap.size 36 _ (0, 0) _ rfl (by repeat' (first | (with_reducible exact HO4.out) | (with_reducible exact HZ4.out) | (with_reducible exact HO2.out) | (with_reducible exact HZ2.out) | (with_reducible exact HO1.out) | (with_reducible exact HZ1.out) | (with_reducible exact alloc_new _) | (with_reducible apply stored5) | (with_reducible apply stored14) | (with_reducible refine set_other ?_ ?_ _ _) | (with_reducible refine drewN_at ?_ _) | (with_reducible refine alloc_old ?_ _) | (simp; done) | omega)) Try.underlying36 rfl (by kernel_rfl)) rfl ⟨rfl, ⟨bb, bg, rs2, rfl, ⟨HOK.out, by repeat' (first | (with_reducible exact HO4.out) | (with_reducible exact HZ4.out) | (with_reducible exact HO2.out) | (with_reducible exact HZ2.out) | (with_reducible exact HO1.out) | (with_reducible exact HZ1.out) | (with_reducible exact alloc_new _) | (with_reducible apply stored5) | (with_reducible apply stored14) | (with_reducible refine set_other ?_ ?_ _ _) | (with_reducible refine drewN_at ?_ _) | (with_reducible refine alloc_old ?_ _) | (simp; done) | omega), HRG.out.only (S := [b, w.heap.size]) (by repeat' (first | (with_reducible exact HS1.out.mono (by simp)) | (with_reducible exact HS4.out) | (with_reducible exact HS2.out.mono (by simp)) | (with_reducible exact HB24.out) | (with_reducible exact Only.refl _ _) | (with_reducible refine Only.alloc ?_ _) | (with_reducible refine Only.drewN ?_ _) | (with_reducible refine Only.drew ?_) | (with_reducible refine only_cellX ?_ ?_ _) | (simp; done) | (simp; omega) | omega)) hr1 hr2, HFQ.out.1, HFQ.out.2.1, HFQ.out.2.2, HR.out.n1, HR.out.n2⟩⟩, by repeat' (first | (with_reducible exact HS1.out.mono (by simp)) | (with_reducible exact HS4.out) | (with_reducible exact HS2.out.mono (by simp)) | (with_reducible exact HB24.out) | (with_reducible exact Only.refl _ _) | (with_reducible refine Only.alloc ?_ _) | (with_reducible refine Only.drewN ?_ _) | (with_reducible refine Only.drew ?_) | (with_reducible refine only_cellX ?_ ?_ _) | (simp; done) | (simp; omega) | omega)⟩
      | false =>
        have e3 := HS3.out
        rw [if_neg (by simp), if_neg (by simp)] at e3
        clear HS3
        subst e3
        go_wp2_with ((go_at_call 51; ((with_reducible refine (HM.out _).mono ?_); rintro e w4 ⟨rfl, hb4⟩; have hB4 : Below w2.heap.size w2 w4 := Below.trans (by first | exact Below.refl _ _ | exact below_drewN' (Below.refl _ _) _) hb4; have ho4 := Below.at hB4 HO2.out (block_lt HO2.out); have hz4 := Below.at hB4 HZ2.out (block_lt HZ2.out); have hv4 := Below.at hB4 HV2.out (block_lt HV2.out); clear fb fz fv ub uz; have fb := fun j => cell_at ho4 j; have fz := fun j => cell_at hz4 j; have fv := fun j => cell_at hv4 j; have ub := fun j => frozen_at ho4 j; have uz := fun j => frozen_at hz4 j; have HO4 := Lib.hid ho4; have HZ4 := Lib.hid hz4; have HB24 := Lib.hid (Only.ofBelow hB4 [b, w.heap.size]); have HS4 := Lib.hid ((HS2.out.mono (T := [b, bb, bg]) (by simp)).trans (Only.ofBelow hB4 _)); clear ho4 hz4 hv4 hb4 hB4)))
        refine bodyPost_ret (res_row_tmp rfl _ _ w.heap.size 36 _ (0, 0) _ rfl (by repeat' (first | (with_reducible exact HO4.out) | (with_reducible exact HZ4.out) | (with_reducible exact HO2.out) | (with_reducible exact HZ2.out) | (with_reducible exact HO1.out) | (with_reducible exact HZ1.out) | (with_reducible exact alloc_new _) | (with_reducible apply stored5) | (with_reducible apply stored14) | (with_reducible refine set_other ?_ ?_ _ _) | (with_reducible refine drewN_at ?_ _) | (with_reducible refine alloc_old ?_ _) | (simp; done) | omega)) Try.underlying36 rfl (by kernel_rfl)) rfl ⟨rfl, ⟨bb, bg, rs2, rfl, ⟨HOK.out, by repeat' (first | (with_reducible exact HO4.out) | (with_reducible exact HZ4.out) | (with_reducible exact HO2.out) | (with_reducible exact HZ2.out) | (with_reducible exact HO1.out) | (with_reducible exact HZ1.out) | (with_reducible exact alloc_new _) | (with_reducible apply stored5) | (with_reducible apply stored14) | (with_reducible refine set_other ?_ ?_ _ _) | (with_reducible refine drewN_at ?_ _) | (with_reducible refine alloc_old ?_ _) | (simp; done) | omega), HRG.out.only (S := [b, w.heap.size]) (by repeat' (first | (with_reducible exact HS1.out.mono (by simp)) | (with_reducible exact HS4.out) | (with_reducible exact HS2.out.mono (by simp)) | (with_reducible exact HB24.out) | (with_reducible exact Only.refl _ _) | (with_reducible refine Only.alloc ?_ _) | (with_reducible refine Only.drewN ?_ _) | (with_reducible refine Only.drew ?_) | (with_reducible refine only_cellX ?_ ?_ _) | (simp; done) | (simp; omega) | omega)) hr1 hr2, HFQ.out.1, HFQ.out.2.1, HFQ.out.2.2, HR.out.n1, HR.out.n2⟩⟩, by repeat' (first | (with_reducible exact HS1.out.mono (by simp)) | (with_reducible exact HS4.out) | (with_reducible exact HS2.out.mono (by simp)) | (with_reducible exact HB24.out) | (with_reducible exact Only.refl _ _) | (with_reducible refine Only.alloc ?_ _) | (with_reducible refine Only.drewN ?_ _) | (with_reducible refine Only.drew ?_) | (with_reducible refine only_cellX ?_ ?_ _) | (simp; done) | (simp; omega) | omega)⟩
  · have hptn : (pt != 0) = true := bne_iff_ne.2 hpt
    have hpte : (pt == 0) = false := beq_eq_false_iff_ne.2 hpt
    have HPT := Lib.hid hpt
    clear hpt
    cases cp with
    | false =>
      obtain ⟨fl, hfl⟩ : ∃ fl : Bool, fl = false := ⟨_, rfl⟩
      have hfl2 : (decide (pt ≠ 0) && (false && decide (k ≠ 1))) = fl := by rw [hfl]; rw [Bool.false_and, Bool.and_false]
      rw [hfl2]
      have HFL := Lib.hid hfl
      clear hfl2 hfl
      go_enter Try.func16, Try.ntmps16
      go_upto_region 9 with (first | (go_at_call 49; ((with_reducible refine (HP.out _ ?_).mono ?_); exact HR.out.ring.only (S := []) ((Only.refl _ _).alloc _) (by simp) (by simp); rintro e w1 ⟨rfl, hR1, hO1⟩; have ho1 := hO1.at (alloc_old HR.out.obj _) hoff1; have hz1 := hO1.at (alloc_new _) hoff2; have fb := fun j => cell_at ho1 j; have fz := fun j => cell_at hz1 j; have ub := fun j => frozen_at ho1 j; have uz := fun j => frozen_at hz1 j; have HO1 := Lib.hid ho1; have HZ1 := Lib.hid hz1; have HR1 := Lib.hid hR1; have HS1 := Lib.hid (((Only.refl [bb, bg] w).alloc _).trans hO1); have hs1 := hO1.size; clear ho1 hz1 hR1 hO1)) | (go_at_call 50; ((with_reducible refine (HK.out _).mono ?_); rintro e w' ⟨rfl, k, rfl⟩)))
      have hlb := block_lt HO1.out
      have hlz := block_lt HZ1.out
      go_cut [7] (fun v7 wx => v7 = .pointer (some ⟨w1.heap.size, 0, none⟩) ∧ wx.heap[b]? = some (.cells (#[.pointer (some ⟨bb, 0, none⟩), .int .i64 ph, .int .i64 pt, .int .i64 ln, .bool false] : Array Value) 88 (0, 0)) ∧ wx.heap[w.heap.size]? = some (.cells #[.int .i64 0, .int .i64 0, .int .u64 0, .bool false, .bool false] 36 (0, 0)) ∧ wx.heap[w1.heap.size]? = some (.cells #[.int .i64 pt, .int .i64 ln, .int .u64 (x : Int), .bool fl, .bool en] 36 (0, 0)) ∧ Only [] w1 wx)
      case first =>
        have hfl := HFL.out
        have hen := HEN.out
        clear HFL HEN
        subst hfl hen
        refine wp_region_held_drew (S := (fun w' => (∀ j, w'.cell? ⟨b, j, none⟩ = (#[.pointer (some ⟨bb, 0, none⟩), .int .i64 ph, .int .i64 pt, .int .i64 ln, .bool false] : Array Value)[j]?))) (by kernel_rfl) ?_ (fun hHeld0 => ?_)
        · (try dsimp only); (first | exact fb | exact fun j => (World.cell?_alloc_lt _ _ _ hlb).trans (fb j) | exact fun j => cell_at (by with_reducible repeat' (first | exact HO1.out | refine setRow_off ?_ ?_ _ | refine alloc_old ?_ _ | refine drew_at ?_ | refine drewN_at ?_ _ | exact Nat.ne_of_lt hlb)) j)
        refine wpAnyH_take (i := 0) (v := ?_) rfl (by kernel_rfl) (by kernel_rfl) (by kernel_rfl) (fun _ _ _ h => h) (Or.inl ⟨by rfl, ?_⟩) (by assumption) ?_
        rotate_left
        · (intro w hSw; (try dsimp only at hSw); go_simp; try with_reducible rfl)
        (try simp only [Act.put, List.setIfInBounds_toArray, List.set_cons_zero, List.set_cons_succ, List.getElem_toArray, List.getElem_cons_zero, List.getElem_cons_succ])
        refine wpAnyH_take (i := 1) (v := ?_) rfl (by kernel_rfl) (by kernel_rfl) (by kernel_rfl) (fun _ _ _ h => h) (Or.inl ⟨by rfl, ?_⟩) (by assumption) ?_
        rotate_left
        · (intro w hSw; (try dsimp only at hSw); go_simp; try with_reducible rfl)
        (try simp only [Act.put, List.setIfInBounds_toArray, List.set_cons_zero, List.set_cons_succ, List.getElem_toArray, List.getElem_cons_zero, List.getElem_cons_succ])
        refine wpAnyH_take (i := 2) (v := ?_) rfl (by kernel_rfl) (by kernel_rfl) (by kernel_rfl) (fun _ _ _ h => h) (Or.inl ⟨by rfl, ?_⟩) (by assumption) ?_
        rotate_left
        · (intro w hSw; (try dsimp only at hSw); go_simp; try with_reducible rfl)
        (try simp only [Act.put, List.setIfInBounds_toArray, List.set_cons_zero, List.set_cons_succ, List.getElem_toArray, List.getElem_cons_zero, List.getElem_cons_succ])
        refine wpAnyH_take (i := 3) (v := ?_) rfl (by kernel_rfl) (by kernel_rfl) (by kernel_rfl) (fun _ _ _ h => h) (Or.inl ⟨by rfl, ?_⟩) (by assumption) ?_
        rotate_left
        · (intro w hSw; (try dsimp only at hSw); go_simp; try with_reducible rfl)
        (try simp only [Act.put, List.setIfInBounds_toArray, List.set_cons_zero, List.set_cons_succ, List.getElem_toArray, List.getElem_cons_zero, List.getElem_cons_succ])
        refine wpAnyH_take (i := 4) (v := ?_) rfl (by kernel_rfl) (by kernel_rfl) (by kernel_rfl) (fun _ _ _ h => h) (Or.inl ⟨by rfl, ?_⟩) (by assumption) ?_
        rotate_left
        · (intro w hSw; (try dsimp only at hSw); go_simp; try with_reducible rfl)
        (try simp only [Act.put, List.setIfInBounds_toArray, List.set_cons_zero, List.set_cons_succ, List.getElem_toArray, List.getElem_cons_zero, List.getElem_cons_succ])
        refine wpAnyH_take (i := 5) (v := ?_) rfl (by kernel_rfl) (by kernel_rfl) (by kernel_rfl) (fun _ _ _ h => h) (Or.inl ⟨by rfl, ?_⟩) (by assumption) ?_
        rotate_left
        · (intro w hSw; (try dsimp only at hSw); go_simp; try with_reducible rfl)
        (try simp only [Act.put, List.setIfInBounds_toArray, List.set_cons_zero, List.set_cons_succ, List.getElem_toArray, List.getElem_cons_zero, List.getElem_cons_succ])
        refine wpAnyH_take (i := 6) (v := ?_) rfl (by kernel_rfl) (by kernel_rfl) (by kernel_rfl) (fun _ _ _ h => h) (Or.inl ⟨by rfl, ?_⟩) (by assumption) ?_
        rotate_left
        · (intro w hSw; (try dsimp only at hSw); go_simp; try with_reducible rfl)
        (try simp only [Act.put, List.setIfInBounds_toArray, List.set_cons_zero, List.set_cons_succ, List.getElem_toArray, List.getElem_cons_zero, List.getElem_cons_succ])
        refine wpAnyH_take (i := 7) (v := ?_) rfl (by kernel_rfl) (by kernel_rfl) (by kernel_rfl) (fun _ _ _ h => h) (Or.inl ⟨by rfl, ?_⟩) (by assumption) ?_
        rotate_left
        · (intro w hSw; (try dsimp only at hSw); go_simp; try with_reducible rfl)
        (try simp only [Act.put, List.setIfInBounds_toArray, List.set_cons_zero, List.set_cons_succ, List.getElem_toArray, List.getElem_cons_zero, List.getElem_cons_succ])
        refine wpAnyH_take (i := 8) (v := ?_) rfl (by kernel_rfl) (by kernel_rfl) (by kernel_rfl) (fun _ _ _ h => h) (Or.inl ⟨by rfl, ?_⟩) (by assumption) ?_
        rotate_left
        · (intro w hSw; (try dsimp only at hSw); go_simp; try with_reducible rfl)
        (try simp only [Act.put, List.setIfInBounds_toArray, List.set_cons_zero, List.set_cons_succ, List.getElem_toArray, List.getElem_cons_zero, List.getElem_cons_succ])
        refine wpAnyH_take (i := 9) (v := ?_) rfl (by kernel_rfl) (by kernel_rfl) (by kernel_rfl) (fun _ _ _ h => h) (Or.inl ⟨by rfl, ?_⟩) (by assumption) ?_
        rotate_left
        · (intro w hSw; (try dsimp only at hSw); go_simp; try with_reducible rfl)
        (try simp only [Act.put, List.setIfInBounds_toArray, List.set_cons_zero, List.set_cons_succ, List.getElem_toArray, List.getElem_cons_zero, List.getElem_cons_succ])
        refine wpAnyH_take (i := 10) (v := ?_) rfl (by kernel_rfl) (by kernel_rfl) (by kernel_rfl) (fun _ _ _ h => h) (Or.inl ⟨by rfl, ?_⟩) (by assumption) ?_
        rotate_left
        · (intro w hSw; (try dsimp only at hSw); go_simp; try with_reducible rfl)
        (try simp only [Act.put, List.setIfInBounds_toArray, List.set_cons_zero, List.set_cons_succ, List.getElem_toArray, List.getElem_cons_zero, List.getElem_cons_succ])
        refine wpAnyH_take (i := 11) (v := ?_) rfl (by kernel_rfl) (by kernel_rfl) (by kernel_rfl) (fun _ _ _ h => h) (Or.inl ⟨by rfl, ?_⟩) (by assumption) ?_
        rotate_left
        · (intro w hSw; (try dsimp only at hSw); go_simp; try with_reducible rfl)
        (try simp only [Act.put, List.setIfInBounds_toArray, List.set_cons_zero, List.set_cons_succ, List.getElem_toArray, List.getElem_cons_zero, List.getElem_cons_succ])
        refine wpAnyH_take (i := 12) (v := ?_) rfl (by kernel_rfl) (by kernel_rfl) (by kernel_rfl) (fun _ _ _ h => h) (Or.inl ⟨by rfl, ?_⟩) (by assumption) ?_
        rotate_left
        · (intro w hSw; (try dsimp only at hSw); go_simp; try with_reducible rfl)
        (try simp only [Act.put, List.setIfInBounds_toArray, List.set_cons_zero, List.set_cons_succ, List.getElem_toArray, List.getElem_cons_zero, List.getElem_cons_succ])
        refine wpAnyH_take (i := 13) (v := ?_) rfl (by kernel_rfl) (by kernel_rfl) (by kernel_rfl) (fun _ _ _ h => h) (Or.inl ⟨by rfl, ?_⟩) (by assumption) ?_
        rotate_left
        · (intro w hSw; (try dsimp only at hSw); go_simp; try with_reducible rfl)
        (try simp only [Act.put, List.setIfInBounds_toArray, List.set_cons_zero, List.set_cons_succ, List.getElem_toArray, List.getElem_cons_zero, List.getElem_cons_succ])
        refine wpAnyH_take (i := 14) (v := ?_) rfl (by kernel_rfl) (by kernel_rfl) (by kernel_rfl) (fun _ _ _ h => h) (Or.inl ⟨by rfl, ?_⟩) (by assumption) ?_
        rotate_left
        · (intro w hSw; (try dsimp only at hSw); go_simp; try with_reducible rfl)
        (try simp only [Act.put, List.setIfInBounds_toArray, List.set_cons_zero, List.set_cons_succ, List.getElem_toArray, List.getElem_cons_zero, List.getElem_cons_succ])
        refine wpAnyH_take (i := 15) (v := ?_) rfl (by kernel_rfl) (by kernel_rfl) (by kernel_rfl) (fun _ _ _ h => h) (Or.inl ⟨by rfl, ?_⟩) (by assumption) ?_
        rotate_left
        · (intro w hSw; (try dsimp only at hSw); go_simp; try with_reducible rfl)
        (try simp only [Act.put, List.setIfInBounds_toArray, List.set_cons_zero, List.set_cons_succ, List.getElem_toArray, List.getElem_cons_zero, List.getElem_cons_succ])
        refine wpAnyH_take (i := 16) (v := ?_) rfl (by kernel_rfl) (by kernel_rfl) (by kernel_rfl) (fun _ _ _ h => h) (Or.inl ⟨by rfl, ?_⟩) (by assumption) ?_
        rotate_left
        · (intro w hSw; (try dsimp only at hSw); go_simp; try with_reducible rfl)
        (try simp only [Act.put, List.setIfInBounds_toArray, List.set_cons_zero, List.set_cons_succ, List.getElem_toArray, List.getElem_cons_zero, List.getElem_cons_succ])
        refine wpAnyH_take (i := 17) (v := ?_) rfl (by kernel_rfl) (by kernel_rfl) (by kernel_rfl) (fun _ _ _ h => h) (Or.inl ⟨by rfl, ?_⟩) (by assumption) ?_
        rotate_left
        · (intro w hSw; (try dsimp only at hSw); go_simp; try with_reducible rfl)
        (try simp only [Act.put, List.setIfInBounds_toArray, List.set_cons_zero, List.set_cons_succ, List.getElem_toArray, List.getElem_cons_zero, List.getElem_cons_succ])
        refine wpAnyH_take (i := 18) (v := ?_) rfl (by kernel_rfl) (by kernel_rfl) (by kernel_rfl) (fun _ _ _ h => h) (Or.inl ⟨by rfl, ?_⟩) (by assumption) ?_
        rotate_left
        · (intro w hSw; (try dsimp only at hSw); go_simp; try with_reducible rfl)
        (try simp only [Act.put, List.setIfInBounds_toArray, List.set_cons_zero, List.set_cons_succ, List.getElem_toArray, List.getElem_cons_zero, List.getElem_cons_succ])
        refine wpAnyH_take (i := 19) (v := ?_) rfl (by kernel_rfl) (by kernel_rfl) (by kernel_rfl) (fun _ _ _ h => h) (Or.inl ⟨by rfl, ?_⟩) (by assumption) ?_
        rotate_left
        · (intro w hSw; (try dsimp only at hSw); go_simp; try with_reducible rfl)
        (try simp only [Act.put, List.setIfInBounds_toArray, List.set_cons_zero, List.set_cons_succ, List.getElem_toArray, List.getElem_cons_zero, List.getElem_cons_succ])
        refine wpAnyH_take (i := 20) (v := ?_) rfl (by kernel_rfl) (by kernel_rfl) (by kernel_rfl) (fun _ _ _ h => h) (Or.inl ⟨by rfl, ?_⟩) (by assumption) ?_
        rotate_left
        · (intro w hSw; (try dsimp only at hSw); go_simp; try with_reducible rfl)
        (try simp only [Act.put, List.setIfInBounds_toArray, List.set_cons_zero, List.set_cons_succ, List.getElem_toArray, List.getElem_cons_zero, List.getElem_cons_succ])
        refine wpAnyH_take (i := 21) (v := ?_) rfl (by kernel_rfl) (by kernel_rfl) (by kernel_rfl) (fun _ _ _ h => h) (Or.inl ⟨by rfl, ?_⟩) (by assumption) ?_
        rotate_left
        · (intro w hSw; (try dsimp only at hSw); go_simp; try with_reducible rfl)
        (try simp only [Act.put, List.setIfInBounds_toArray, List.set_cons_zero, List.set_cons_succ, List.getElem_toArray, List.getElem_cons_zero, List.getElem_cons_succ])
        refine wpAnyH_take (i := 22) (v := ?_) rfl (by kernel_rfl) (by kernel_rfl) (by kernel_rfl) (fun _ _ _ h => h) (Or.inl ⟨by rfl, ?_⟩) (by assumption) ?_
        rotate_left
        · (intro w hSw; (try dsimp only at hSw); go_simp; try with_reducible rfl)
        (try simp only [Act.put, List.setIfInBounds_toArray, List.set_cons_zero, List.set_cons_succ, List.getElem_toArray, List.getElem_cons_zero, List.getElem_cons_succ])
        refine wpAnyH_take (i := 23) (v := ?_) rfl (by kernel_rfl) (by kernel_rfl) (by kernel_rfl) (fun _ _ _ h => h) (Or.inl ⟨by rfl, ?_⟩) (by assumption) ?_
        rotate_left
        · (intro w hSw; (try dsimp only at hSw); go_simp; try with_reducible rfl)
        (try simp only [Act.put, List.setIfInBounds_toArray, List.set_cons_zero, List.set_cons_succ, List.getElem_toArray, List.getElem_cons_zero, List.getElem_cons_succ])
        refine wpAnyH_take (i := 24) (v := undef) rfl (by kernel_rfl) (by kernel_rfl) (by kernel_rfl) (fun _ _ _ h => h) (Or.inr ⟨by rfl, rfl⟩) (by assumption) ?_
        (try simp only [Act.put, List.setIfInBounds_toArray, List.set_cons_zero, List.set_cons_succ, List.getElem_toArray, List.getElem_cons_zero, List.getElem_cons_succ])
        refine wpAnyH_take (i := 25) (v := undef) rfl (by kernel_rfl) (by kernel_rfl) (by kernel_rfl) (fun _ _ _ h => h) (Or.inr ⟨by rfl, rfl⟩) (by assumption) ?_
        (try simp only [Act.put, List.setIfInBounds_toArray, List.set_cons_zero, List.set_cons_succ, List.getElem_toArray, List.getElem_cons_zero, List.getElem_cons_succ])
        refine wpAnyH_take (i := 26) (v := ?_) rfl (by kernel_rfl) (by kernel_rfl) (by kernel_rfl) (fun _ _ _ h => h) (Or.inl ⟨by rfl, ?_⟩) (by assumption) ?_
        rotate_left
        · (intro w hSw; (try dsimp only at hSw); go_simp; try with_reducible rfl)
        (try simp only [Act.put, List.setIfInBounds_toArray, List.set_cons_zero, List.set_cons_succ, List.getElem_toArray, List.getElem_cons_zero, List.getElem_cons_succ])
        refine wpAnyH_take (i := 27) (v := ?_) rfl (by kernel_rfl) (by kernel_rfl) (by kernel_rfl) (fun _ _ _ h => h) (Or.inl ⟨by rfl, ?_⟩) (by assumption) ?_
        rotate_left
        · (intro w hSw; (try dsimp only at hSw); go_simp; try with_reducible rfl)
        (try simp only [Act.put, List.setIfInBounds_toArray, List.set_cons_zero, List.set_cons_succ, List.getElem_toArray, List.getElem_cons_zero, List.getElem_cons_succ])
        refine wpAnyH_take (i := 28) (v := ?_) rfl (by kernel_rfl) (by kernel_rfl) (by kernel_rfl) (fun _ _ _ h => h) (Or.inl ⟨by rfl, ?_⟩) (by assumption) ?_
        rotate_left
        · (intro w hSw; (try dsimp only at hSw); go_simp; try with_reducible rfl)
        (try simp only [Act.put, List.setIfInBounds_toArray, List.set_cons_zero, List.set_cons_succ, List.getElem_toArray, List.getElem_cons_zero, List.getElem_cons_succ])
        refine wpAnyH_take (i := 29) (v := ?_) rfl (by kernel_rfl) (by kernel_rfl) (by kernel_rfl) (fun _ _ _ h => h) (Or.inl ⟨by rfl, ?_⟩) (by assumption) ?_
        rotate_left
        · (intro w hSw; (try dsimp only at hSw); go_simp; try with_reducible rfl)
        (try simp only [Act.put, List.setIfInBounds_toArray, List.set_cons_zero, List.set_cons_succ, List.getElem_toArray, List.getElem_cons_zero, List.getElem_cons_succ])
        refine wpAnyH_ready (rs := [30]) (by kernel_rfl) (by simp) ?_
        refine AllReadyH.cons rfl (fun K hK => ?_) ?_
        · go_simp
          refine hK.out _ _ ?_ (fun hHeld1 => ?_)
          · (try dsimp only); (first | exact fb | exact fun j => (World.cell?_alloc_lt _ _ _ hlb).trans (fb j) | exact fun j => cell_at (by with_reducible repeat' (first | exact HO1.out | refine setRow_off ?_ ?_ _ | refine alloc_old ?_ _ | refine drew_at ?_ | refine drewN_at ?_ _ | exact Nat.ne_of_lt hlb)) j)
          clear hK K hHeld0
          (try simp only [Act.put, List.setIfInBounds_toArray, List.set_cons_zero, List.set_cons_succ, List.getElem_toArray, List.getElem_cons_zero, List.getElem_cons_succ])
          refine wpAnyH_ready (rs := [31]) (by kernel_rfl) (by simp) ?_
          refine AllReadyH.cons rfl (fun K hK => ?_) ?_
          · (rw [if_pos (by rfl)]; refine wp_store_row 36 _ _ (by rfl) _ _ (by rfl) (by rfl) 36 #[.int .i64 0, .int .i64 0, .int .u64 0, .bool false, .bool false] (by exact alloc_new _) (by kernel_rfl) (by rfl) (by first | (simp; done) | simp [Value.oneCell']) ?_)
            refine hK.out _ _ ?_ (fun hHeld2 => ?_)
            · (try dsimp only); (first | exact fb | exact fun j => (World.cell?_alloc_lt _ _ _ hlb).trans (fb j) | exact fun j => cell_at (by with_reducible repeat' (first | exact HO1.out | refine setRow_off ?_ ?_ _ | refine alloc_old ?_ _ | refine drew_at ?_ | refine drewN_at ?_ _ | exact Nat.ne_of_lt hlb)) j)
            clear hK K hHeld1
            (try simp only [Act.put, List.setIfInBounds_toArray, List.set_cons_zero, List.set_cons_succ, List.getElem_toArray, List.getElem_cons_zero, List.getElem_cons_succ])
            refine wpAnyH_done (by kernel_rfl) ?_ _
            go_wp2
            go_meet
            refine ⟨rfl, by with_reducible repeat' (first | exact HO1.out | refine setRow_off ?_ ?_ _ | refine alloc_old ?_ _ | refine drew_at ?_ | refine drewN_at ?_ _ | exact Nat.ne_of_lt hlb), by with_reducible repeat' (first | exact HZ1.out | refine setRow_off ?_ ?_ _ | refine alloc_old ?_ _ | refine drew_at ?_ | refine drewN_at ?_ _ | exact Nat.ne_of_lt hlz), setRow_at (alloc_new _) _, only_setRowN (((Only.refl _ _).drewN _).alloc _) (.inr (Nat.le_refl _)) _⟩
          exact AllReadyH.nil
        exact AllReadyH.nil
      case rest =>
      obtain ⟨rfl, ho2, hz2, hv2, hO2⟩ := hcut
      obtain ⟨w2, rfl⟩ : ∃ x : World, x = wc := ⟨_, rfl⟩
      have HO2 := Lib.hid ho2
      have HZ2 := Lib.hid hz2
      have HV2 := Lib.hid hv2
      have HRG := Lib.hid (HR1.out.only hO2 (by simp) (by simp))
      have HS2 := Lib.hid (HS1.out.trans (hO2.mono (by simp)))
      have hm1 : b ≠ w1.heap.size := Nat.ne_of_lt hlb
      have hm2 : w1.heap.size ≠ b := Nat.ne_of_gt hlb
      have hm3 : w.heap.size ≠ w1.heap.size := Nat.ne_of_lt hlz
      have hm4 : w1.heap.size ≠ w.heap.size := Nat.ne_of_gt hlz
      have hr1 : bb ∉ [b, w.heap.size] := off2 HR.out.n1.symm (Nat.ne_of_lt HR.out.ring.lt.1)
      have hr2 : bg ∉ [b, w.heap.size] := off2 HR.out.n2.symm (Nat.ne_of_lt HR.out.ring.lt.2)
      clear fb fz ub uz hO2 hs1 HO1 HZ1 HR1 HS1 hlb hlz hoff1 hoff2 hbl c0 c1 c2 c3 c4 HFL HEN
      have fb := fun j => cell_at ho2 j
      have fz := fun j => cell_at hz2 j
      have fv := fun j => cell_at hv2 j
      have ub := fun j => frozen_at ho2 j
      have uz := fun j => frozen_at hz2 j
      clear ho2 hz2 hv2
      cases en with
      | true =>
        have e3 := HS3.out
        rw [if_pos rfl] at e3
        clear HS3
        subst e3
        go_wp2
        refine bodyPost_ret (res_row_tmp rfl _ _ w.heap.size 36 _ (0, 0) _ rfl (by repeat' (first | (with_reducible exact HO4.out) | (with_reducible exact HZ4.out) | (with_reducible exact HO2.out) | (with_reducible exact HZ2.out) | (with_reducible exact HO1.out) | (with_reducible exact HZ1.out) | (with_reducible exact alloc_new _) | (with_reducible apply stored5) | (with_reducible apply stored14) | (with_reducible refine set_other ?_ ?_ _ _) | (with_reducible refine drewN_at ?_ _) | (with_reducible refine alloc_old ?_ _) | (simp; done) | omega)) Try.underlying36 rfl (by kernel_rfl)) rfl ⟨rfl, ⟨bb, bg, rs2, rfl, ⟨HOK.out, by repeat' (first | (with_reducible exact HO4.out) | (with_reducible exact HZ4.out) | (with_reducible exact HO2.out) | (with_reducible exact HZ2.out) | (with_reducible exact HO1.out) | (with_reducible exact HZ1.out) | (with_reducible exact alloc_new _) | (with_reducible apply stored5) | (with_reducible apply stored14) | (with_reducible refine set_other ?_ ?_ _ _) | (with_reducible refine drewN_at ?_ _) | (with_reducible refine alloc_old ?_ _) | (simp; done) | omega), HRG.out.only (S := [b, w.heap.size]) (by repeat' (first | (with_reducible exact HS1.out.mono (by simp)) | (with_reducible exact HS4.out) | (with_reducible exact HS2.out.mono (by simp)) | (with_reducible exact HB24.out) | (with_reducible exact Only.refl _ _) | (with_reducible refine Only.alloc ?_ _) | (with_reducible refine Only.drewN ?_ _) | (with_reducible refine Only.drew ?_) | (with_reducible refine only_cellX ?_ ?_ _) | (simp; done) | (simp; omega) | omega)) hr1 hr2, HFQ.out.1, HFQ.out.2.1, HFQ.out.2.2, HR.out.n1, HR.out.n2⟩⟩, by repeat' (first | (with_reducible exact HS1.out.mono (by simp)) | (with_reducible exact HS4.out) | (with_reducible exact HS2.out.mono (by simp)) | (with_reducible exact HB24.out) | (with_reducible exact Only.refl _ _) | (with_reducible refine Only.alloc ?_ _) | (with_reducible refine Only.drewN ?_ _) | (with_reducible refine Only.drew ?_) | (with_reducible refine only_cellX ?_ ?_ _) | (simp; done) | (simp; omega) | omega)⟩
      | false =>
        have e3 := HS3.out
        rw [if_neg (by simp), if_neg (fun h => HPT.out h.1)] at e3
        clear HS3
        subst e3
        go_wp2
        refine bodyPost_ret (res_row_tmp rfl _ _ w.heap.size 36 _ (0, 0) _ rfl (by repeat' (first | (with_reducible exact HO4.out) | (with_reducible exact HZ4.out) | (with_reducible exact HO2.out) | (with_reducible exact HZ2.out) | (with_reducible exact HO1.out) | (with_reducible exact HZ1.out) | (with_reducible exact alloc_new _) | (with_reducible apply stored5) | (with_reducible apply stored14) | (with_reducible refine set_other ?_ ?_ _ _) | (with_reducible refine drewN_at ?_ _) | (with_reducible refine alloc_old ?_ _) | (simp; done) | omega)) Try.underlying36 rfl (by kernel_rfl)) rfl ⟨rfl, ⟨bb, bg, rs2, rfl, ⟨HOK.out, by repeat' (first | (with_reducible exact HO4.out) | (with_reducible exact HZ4.out) | (with_reducible exact HO2.out) | (with_reducible exact HZ2.out) | (with_reducible exact HO1.out) | (with_reducible exact HZ1.out) | (with_reducible exact alloc_new _) | (with_reducible apply stored5) | (with_reducible apply stored14) | (with_reducible refine set_other ?_ ?_ _ _) | (with_reducible refine drewN_at ?_ _) | (with_reducible refine alloc_old ?_ _) | (simp; done) | omega), HRG.out.only (S := [b, w.heap.size]) (by repeat' (first | (with_reducible exact HS1.out.mono (by simp)) | (with_reducible exact HS4.out) | (with_reducible exact HS2.out.mono (by simp)) | (with_reducible exact HB24.out) | (with_reducible exact Only.refl _ _) | (with_reducible refine Only.alloc ?_ _) | (with_reducible refine Only.drewN ?_ _) | (with_reducible refine Only.drew ?_) | (with_reducible refine only_cellX ?_ ?_ _) | (simp; done) | (simp; omega) | omega)) hr1 hr2, HFQ.out.1, HFQ.out.2.1, HFQ.out.2.2, HR.out.n1, HR.out.n2⟩⟩, by repeat' (first | (with_reducible exact HS1.out.mono (by simp)) | (with_reducible exact HS4.out) | (with_reducible exact HS2.out.mono (by simp)) | (with_reducible exact HB24.out) | (with_reducible exact Only.refl _ _) | (with_reducible refine Only.alloc ?_ _) | (with_reducible refine Only.drewN ?_ _) | (with_reducible refine Only.drew ?_) | (with_reducible refine only_cellX ?_ ?_ _) | (simp; done) | (simp; omega) | omega)⟩
    | true =>
      obtain ⟨fl, hfl⟩ : ∃ fl : Bool, fl = ((k : Int) != 1) := ⟨_, rfl⟩
      have hfl2 : (decide (pt ≠ 0) && (true && decide (k ≠ 1))) = fl := by rw [hfl]; (rw [decide_eq_true HPT.out, Bool.true_and, Bool.true_and, Bool.eq_iff_iff, decide_eq_true_eq, bne_iff_ne]; omega)
      rw [hfl2]
      have HFL := Lib.hid hfl
      clear hfl2 hfl
      go_enter Try.func16, Try.ntmps16
      go_upto_region 9 with (first | (go_at_call 49; ((with_reducible refine (HP.out _ ?_).mono ?_); exact HR.out.ring.only (S := []) ((Only.refl _ _).alloc _) (by simp) (by simp); rintro e w1 ⟨rfl, hR1, hO1⟩; have ho1 := hO1.at (alloc_old HR.out.obj _) hoff1; have hz1 := hO1.at (alloc_new _) hoff2; have fb := fun j => cell_at ho1 j; have fz := fun j => cell_at hz1 j; have ub := fun j => frozen_at ho1 j; have uz := fun j => frozen_at hz1 j; have HO1 := Lib.hid ho1; have HZ1 := Lib.hid hz1; have HR1 := Lib.hid hR1; have HS1 := Lib.hid (((Only.refl [bb, bg] w).alloc _).trans hO1); have hs1 := hO1.size; clear ho1 hz1 hR1 hO1)) | (go_at_call 50; ((with_reducible refine (HK.out _).mono ?_); rintro e w' ⟨rfl, k, rfl⟩)))
      have hlb := block_lt HO1.out
      have hlz := block_lt HZ1.out
      go_cut [7] (fun v7 wx => v7 = .pointer (some ⟨w1.heap.size, 0, none⟩) ∧ wx.heap[b]? = some (.cells (#[.pointer (some ⟨bb, 0, none⟩), .int .i64 ph, .int .i64 pt, .int .i64 ln, .bool true] : Array Value) 88 (0, 0)) ∧ wx.heap[w.heap.size]? = some (.cells #[.int .i64 0, .int .i64 0, .int .u64 0, .bool false, .bool false] 36 (0, 0)) ∧ wx.heap[w1.heap.size]? = some (.cells #[.int .i64 pt, .int .i64 ln, .int .u64 (x : Int), .bool fl, .bool en] 36 (0, 0)) ∧ Only [] w1 wx)
      case first =>
        have hfl := HFL.out
        have hen := HEN.out
        clear HFL HEN
        subst hfl hen
        refine wp_region_held_drew (S := (fun w' => (∀ j, w'.cell? ⟨b, j, none⟩ = (#[.pointer (some ⟨bb, 0, none⟩), .int .i64 ph, .int .i64 pt, .int .i64 ln, .bool true] : Array Value)[j]?))) (by kernel_rfl) ?_ (fun hHeld0 => ?_)
        · (try dsimp only); (first | exact fb | exact fun j => (World.cell?_alloc_lt _ _ _ hlb).trans (fb j) | exact fun j => cell_at (by with_reducible repeat' (first | exact HO1.out | refine setRow_off ?_ ?_ _ | refine alloc_old ?_ _ | refine drew_at ?_ | refine drewN_at ?_ _ | exact Nat.ne_of_lt hlb)) j)
        refine wpAnyH_take (i := 0) (v := ?_) rfl (by kernel_rfl) (by kernel_rfl) (by kernel_rfl) (fun _ _ _ h => h) (Or.inl ⟨by rfl, ?_⟩) (by assumption) ?_
        rotate_left
        · (intro w hSw; (try dsimp only at hSw); go_simp; try with_reducible rfl)
        (try simp only [Act.put, List.setIfInBounds_toArray, List.set_cons_zero, List.set_cons_succ, List.getElem_toArray, List.getElem_cons_zero, List.getElem_cons_succ])
        refine wpAnyH_take (i := 1) (v := ?_) rfl (by kernel_rfl) (by kernel_rfl) (by kernel_rfl) (fun _ _ _ h => h) (Or.inl ⟨by rfl, ?_⟩) (by assumption) ?_
        rotate_left
        · (intro w hSw; (try dsimp only at hSw); go_simp; try with_reducible rfl)
        (try simp only [Act.put, List.setIfInBounds_toArray, List.set_cons_zero, List.set_cons_succ, List.getElem_toArray, List.getElem_cons_zero, List.getElem_cons_succ])
        refine wpAnyH_take (i := 2) (v := ?_) rfl (by kernel_rfl) (by kernel_rfl) (by kernel_rfl) (fun _ _ _ h => h) (Or.inl ⟨by rfl, ?_⟩) (by assumption) ?_
        rotate_left
        · (intro w hSw; (try dsimp only at hSw); go_simp; try with_reducible rfl)
        (try simp only [Act.put, List.setIfInBounds_toArray, List.set_cons_zero, List.set_cons_succ, List.getElem_toArray, List.getElem_cons_zero, List.getElem_cons_succ])
        refine wpAnyH_take (i := 3) (v := ?_) rfl (by kernel_rfl) (by kernel_rfl) (by kernel_rfl) (fun _ _ _ h => h) (Or.inl ⟨by rfl, ?_⟩) (by assumption) ?_
        rotate_left
        · (intro w hSw; (try dsimp only at hSw); go_simp; try with_reducible rfl)
        (try simp only [Act.put, List.setIfInBounds_toArray, List.set_cons_zero, List.set_cons_succ, List.getElem_toArray, List.getElem_cons_zero, List.getElem_cons_succ])
        refine wpAnyH_take (i := 4) (v := ?_) rfl (by kernel_rfl) (by kernel_rfl) (by kernel_rfl) (fun _ _ _ h => h) (Or.inl ⟨by rfl, ?_⟩) (by assumption) ?_
        rotate_left
        · (intro w hSw; (try dsimp only at hSw); go_simp; try with_reducible rfl)
        (try simp only [Act.put, List.setIfInBounds_toArray, List.set_cons_zero, List.set_cons_succ, List.getElem_toArray, List.getElem_cons_zero, List.getElem_cons_succ])
        refine wpAnyH_take (i := 5) (v := ?_) rfl (by kernel_rfl) (by kernel_rfl) (by kernel_rfl) (fun _ _ _ h => h) (Or.inl ⟨by rfl, ?_⟩) (by assumption) ?_
        rotate_left
        · (intro w hSw; (try dsimp only at hSw); go_simp; try with_reducible rfl)
        (try simp only [Act.put, List.setIfInBounds_toArray, List.set_cons_zero, List.set_cons_succ, List.getElem_toArray, List.getElem_cons_zero, List.getElem_cons_succ])
        refine wpAnyH_take (i := 6) (v := ?_) rfl (by kernel_rfl) (by kernel_rfl) (by kernel_rfl) (fun _ _ _ h => h) (Or.inl ⟨by rfl, ?_⟩) (by assumption) ?_
        rotate_left
        · (intro w hSw; (try dsimp only at hSw); go_simp; try with_reducible rfl)
        (try simp only [Act.put, List.setIfInBounds_toArray, List.set_cons_zero, List.set_cons_succ, List.getElem_toArray, List.getElem_cons_zero, List.getElem_cons_succ])
        refine wpAnyH_take (i := 7) (v := ?_) rfl (by kernel_rfl) (by kernel_rfl) (by kernel_rfl) (fun _ _ _ h => h) (Or.inl ⟨by rfl, ?_⟩) (by assumption) ?_
        rotate_left
        · (intro w hSw; (try dsimp only at hSw); go_simp; try with_reducible rfl)
        (try simp only [Act.put, List.setIfInBounds_toArray, List.set_cons_zero, List.set_cons_succ, List.getElem_toArray, List.getElem_cons_zero, List.getElem_cons_succ])
        refine wpAnyH_take (i := 8) (v := ?_) rfl (by kernel_rfl) (by kernel_rfl) (by kernel_rfl) (fun _ _ _ h => h) (Or.inl ⟨by rfl, ?_⟩) (by assumption) ?_
        rotate_left
        · (intro w hSw; (try dsimp only at hSw); go_simp; try with_reducible rfl)
        (try simp only [Act.put, List.setIfInBounds_toArray, List.set_cons_zero, List.set_cons_succ, List.getElem_toArray, List.getElem_cons_zero, List.getElem_cons_succ])
        refine wpAnyH_take (i := 9) (v := ?_) rfl (by kernel_rfl) (by kernel_rfl) (by kernel_rfl) (fun _ _ _ h => h) (Or.inl ⟨by rfl, ?_⟩) (by assumption) ?_
        rotate_left
        · (intro w hSw; (try dsimp only at hSw); go_simp; try with_reducible rfl)
        (try simp only [Act.put, List.setIfInBounds_toArray, List.set_cons_zero, List.set_cons_succ, List.getElem_toArray, List.getElem_cons_zero, List.getElem_cons_succ])
        refine wpAnyH_take (i := 10) (v := ?_) rfl (by kernel_rfl) (by kernel_rfl) (by kernel_rfl) (fun _ _ _ h => h) (Or.inl ⟨by rfl, ?_⟩) (by assumption) ?_
        rotate_left
        · (intro w hSw; (try dsimp only at hSw); go_simp; try with_reducible rfl)
        (try simp only [Act.put, List.setIfInBounds_toArray, List.set_cons_zero, List.set_cons_succ, List.getElem_toArray, List.getElem_cons_zero, List.getElem_cons_succ])
        refine wpAnyH_take (i := 11) (v := ?_) rfl (by kernel_rfl) (by kernel_rfl) (by kernel_rfl) (fun _ _ _ h => h) (Or.inl ⟨by rfl, ?_⟩) (by assumption) ?_
        rotate_left
        · (intro w hSw; (try dsimp only at hSw); go_simp; try with_reducible rfl)
        (try simp only [Act.put, List.setIfInBounds_toArray, List.set_cons_zero, List.set_cons_succ, List.getElem_toArray, List.getElem_cons_zero, List.getElem_cons_succ])
        refine wpAnyH_take (i := 12) (v := ?_) rfl (by kernel_rfl) (by kernel_rfl) (by kernel_rfl) (fun _ _ _ h => h) (Or.inl ⟨by rfl, ?_⟩) (by assumption) ?_
        rotate_left
        · (intro w hSw; (try dsimp only at hSw); go_simp; try with_reducible rfl)
        (try simp only [Act.put, List.setIfInBounds_toArray, List.set_cons_zero, List.set_cons_succ, List.getElem_toArray, List.getElem_cons_zero, List.getElem_cons_succ])
        refine wpAnyH_take (i := 13) (v := ?_) rfl (by kernel_rfl) (by kernel_rfl) (by kernel_rfl) (fun _ _ _ h => h) (Or.inl ⟨by rfl, ?_⟩) (by assumption) ?_
        rotate_left
        · (intro w hSw; (try dsimp only at hSw); go_simp; try with_reducible rfl)
        (try simp only [Act.put, List.setIfInBounds_toArray, List.set_cons_zero, List.set_cons_succ, List.getElem_toArray, List.getElem_cons_zero, List.getElem_cons_succ])
        refine wpAnyH_take (i := 14) (v := ?_) rfl (by kernel_rfl) (by kernel_rfl) (by kernel_rfl) (fun _ _ _ h => h) (Or.inl ⟨by rfl, ?_⟩) (by assumption) ?_
        rotate_left
        · (intro w hSw; (try dsimp only at hSw); go_simp; try with_reducible rfl)
        (try simp only [Act.put, List.setIfInBounds_toArray, List.set_cons_zero, List.set_cons_succ, List.getElem_toArray, List.getElem_cons_zero, List.getElem_cons_succ])
        refine wpAnyH_take (i := 15) (v := ?_) rfl (by kernel_rfl) (by kernel_rfl) (by kernel_rfl) (fun _ _ _ h => h) (Or.inl ⟨by rfl, ?_⟩) (by assumption) ?_
        rotate_left
        · (intro w hSw; (try dsimp only at hSw); go_simp; try with_reducible rfl)
        (try simp only [Act.put, List.setIfInBounds_toArray, List.set_cons_zero, List.set_cons_succ, List.getElem_toArray, List.getElem_cons_zero, List.getElem_cons_succ])
        refine wpAnyH_take (i := 16) (v := ?_) rfl (by kernel_rfl) (by kernel_rfl) (by kernel_rfl) (fun _ _ _ h => h) (Or.inl ⟨by rfl, ?_⟩) (by assumption) ?_
        rotate_left
        · (intro w hSw; (try dsimp only at hSw); go_simp; try with_reducible rfl)
        (try simp only [Act.put, List.setIfInBounds_toArray, List.set_cons_zero, List.set_cons_succ, List.getElem_toArray, List.getElem_cons_zero, List.getElem_cons_succ])
        refine wpAnyH_take (i := 17) (v := ?_) rfl (by kernel_rfl) (by kernel_rfl) (by kernel_rfl) (fun _ _ _ h => h) (Or.inl ⟨by rfl, ?_⟩) (by assumption) ?_
        rotate_left
        · (intro w hSw; (try dsimp only at hSw); go_simp; try with_reducible rfl)
        (try simp only [Act.put, List.setIfInBounds_toArray, List.set_cons_zero, List.set_cons_succ, List.getElem_toArray, List.getElem_cons_zero, List.getElem_cons_succ])
        refine wpAnyH_take (i := 18) (v := ?_) rfl (by kernel_rfl) (by kernel_rfl) (by kernel_rfl) (fun _ _ _ h => h) (Or.inl ⟨by rfl, ?_⟩) (by assumption) ?_
        rotate_left
        · (intro w hSw; (try dsimp only at hSw); go_simp; try with_reducible rfl)
        (try simp only [Act.put, List.setIfInBounds_toArray, List.set_cons_zero, List.set_cons_succ, List.getElem_toArray, List.getElem_cons_zero, List.getElem_cons_succ])
        refine wpAnyH_take (i := 19) (v := ?_) rfl (by kernel_rfl) (by kernel_rfl) (by kernel_rfl) (fun _ _ _ h => h) (Or.inl ⟨by rfl, ?_⟩) (by assumption) ?_
        rotate_left
        · (intro w hSw; (try dsimp only at hSw); go_simp; try with_reducible rfl)
        (try simp only [Act.put, List.setIfInBounds_toArray, List.set_cons_zero, List.set_cons_succ, List.getElem_toArray, List.getElem_cons_zero, List.getElem_cons_succ])
        refine wpAnyH_take (i := 20) (v := ?_) rfl (by kernel_rfl) (by kernel_rfl) (by kernel_rfl) (fun _ _ _ h => h) (Or.inl ⟨by rfl, ?_⟩) (by assumption) ?_
        rotate_left
        · (intro w hSw; (try dsimp only at hSw); go_simp; try with_reducible rfl)
        (try simp only [Act.put, List.setIfInBounds_toArray, List.set_cons_zero, List.set_cons_succ, List.getElem_toArray, List.getElem_cons_zero, List.getElem_cons_succ])
        refine wpAnyH_take (i := 21) (v := ?_) rfl (by kernel_rfl) (by kernel_rfl) (by kernel_rfl) (fun _ _ _ h => h) (Or.inl ⟨by rfl, ?_⟩) (by assumption) ?_
        rotate_left
        · (intro w hSw; (try dsimp only at hSw); go_simp; try with_reducible rfl)
        (try simp only [Act.put, List.setIfInBounds_toArray, List.set_cons_zero, List.set_cons_succ, List.getElem_toArray, List.getElem_cons_zero, List.getElem_cons_succ])
        refine wpAnyH_take (i := 22) (v := ?_) rfl (by kernel_rfl) (by kernel_rfl) (by kernel_rfl) (fun _ _ _ h => h) (Or.inl ⟨by rfl, ?_⟩) (by assumption) ?_
        rotate_left
        · (intro w hSw; (try dsimp only at hSw); go_simp; try with_reducible rfl)
        (try simp only [Act.put, List.setIfInBounds_toArray, List.set_cons_zero, List.set_cons_succ, List.getElem_toArray, List.getElem_cons_zero, List.getElem_cons_succ])
        refine wpAnyH_take (i := 23) (v := ?_) rfl (by kernel_rfl) (by kernel_rfl) (by kernel_rfl) (fun _ _ _ h => h) (Or.inl ⟨by rfl, ?_⟩) (by assumption) ?_
        rotate_left
        · (intro w hSw; (try dsimp only at hSw); go_simp; try with_reducible rfl)
        (try simp only [Act.put, List.setIfInBounds_toArray, List.set_cons_zero, List.set_cons_succ, List.getElem_toArray, List.getElem_cons_zero, List.getElem_cons_succ])
        refine wpAnyH_take (i := 24) (v := ?_) rfl (by kernel_rfl) (by kernel_rfl) (by kernel_rfl) (fun _ _ _ h => h) (Or.inl ⟨by rfl, ?_⟩) (by assumption) ?_
        rotate_left
        · (intro w hSw; (try dsimp only at hSw); go_simp; try with_reducible rfl)
        (try simp only [Act.put, List.setIfInBounds_toArray, List.set_cons_zero, List.set_cons_succ, List.getElem_toArray, List.getElem_cons_zero, List.getElem_cons_succ])
        refine wpAnyH_take (i := 25) (v := ?_) rfl (by kernel_rfl) (by kernel_rfl) (by kernel_rfl) (fun _ _ _ h => h) (Or.inl ⟨by rfl, ?_⟩) (by assumption) ?_
        rotate_left
        · (intro w hSw; (try dsimp only at hSw); go_simp; try with_reducible rfl)
        (try simp only [Act.put, List.setIfInBounds_toArray, List.set_cons_zero, List.set_cons_succ, List.getElem_toArray, List.getElem_cons_zero, List.getElem_cons_succ])
        refine wpAnyH_take (i := 26) (v := ?_) rfl (by kernel_rfl) (by kernel_rfl) (by kernel_rfl) (fun _ _ _ h => h) (Or.inl ⟨by rfl, ?_⟩) (by assumption) ?_
        rotate_left
        · (intro w hSw; (try dsimp only at hSw); go_simp; try with_reducible rfl)
        (try simp only [Act.put, List.setIfInBounds_toArray, List.set_cons_zero, List.set_cons_succ, List.getElem_toArray, List.getElem_cons_zero, List.getElem_cons_succ])
        refine wpAnyH_take (i := 27) (v := ?_) rfl (by kernel_rfl) (by kernel_rfl) (by kernel_rfl) (fun _ _ _ h => h) (Or.inl ⟨by rfl, ?_⟩) (by assumption) ?_
        rotate_left
        · (intro w hSw; (try dsimp only at hSw); go_simp; try with_reducible rfl)
        (try simp only [Act.put, List.setIfInBounds_toArray, List.set_cons_zero, List.set_cons_succ, List.getElem_toArray, List.getElem_cons_zero, List.getElem_cons_succ])
        refine wpAnyH_take (i := 28) (v := ?_) rfl (by kernel_rfl) (by kernel_rfl) (by kernel_rfl) (fun _ _ _ h => h) (Or.inl ⟨by rfl, ?_⟩) (by assumption) ?_
        rotate_left
        · (intro w hSw; (try dsimp only at hSw); go_simp; try with_reducible rfl)
        (try simp only [Act.put, List.setIfInBounds_toArray, List.set_cons_zero, List.set_cons_succ, List.getElem_toArray, List.getElem_cons_zero, List.getElem_cons_succ])
        refine wpAnyH_take (i := 29) (v := ?_) rfl (by kernel_rfl) (by kernel_rfl) (by kernel_rfl) (fun _ _ _ h => h) (Or.inl ⟨by rfl, ?_⟩) (by assumption) ?_
        rotate_left
        · (intro w hSw; (try dsimp only at hSw); go_simp; try with_reducible rfl)
        (try simp only [Act.put, List.setIfInBounds_toArray, List.set_cons_zero, List.set_cons_succ, List.getElem_toArray, List.getElem_cons_zero, List.getElem_cons_succ])
        refine wpAnyH_ready (rs := [30]) (by kernel_rfl) (by simp) ?_
        refine AllReadyH.cons rfl (fun K hK => ?_) ?_
        · go_simp
          refine hK.out _ _ ?_ (fun hHeld1 => ?_)
          · (try dsimp only); (first | exact fb | exact fun j => (World.cell?_alloc_lt _ _ _ hlb).trans (fb j) | exact fun j => cell_at (by with_reducible repeat' (first | exact HO1.out | refine setRow_off ?_ ?_ _ | refine alloc_old ?_ _ | refine drew_at ?_ | refine drewN_at ?_ _ | exact Nat.ne_of_lt hlb)) j)
          clear hK K hHeld0
          (try simp only [Act.put, List.setIfInBounds_toArray, List.set_cons_zero, List.set_cons_succ, List.getElem_toArray, List.getElem_cons_zero, List.getElem_cons_succ])
          refine wpAnyH_ready (rs := [31]) (by kernel_rfl) (by simp) ?_
          refine AllReadyH.cons rfl (fun K hK => ?_) ?_
          · (rw [if_pos (by rfl)]; refine wp_store_row 36 _ _ (by rfl) _ _ (by rfl) (by rfl) 36 #[.int .i64 0, .int .i64 0, .int .u64 0, .bool false, .bool false] (by exact alloc_new _) (by kernel_rfl) (by rfl) (by first | (simp; done) | simp [Value.oneCell']) ?_)
            refine hK.out _ _ ?_ (fun hHeld2 => ?_)
            · (try dsimp only); (first | exact fb | exact fun j => (World.cell?_alloc_lt _ _ _ hlb).trans (fb j) | exact fun j => cell_at (by with_reducible repeat' (first | exact HO1.out | refine setRow_off ?_ ?_ _ | refine alloc_old ?_ _ | refine drew_at ?_ | refine drewN_at ?_ _ | exact Nat.ne_of_lt hlb)) j)
            clear hK K hHeld1
            (try simp only [Act.put, List.setIfInBounds_toArray, List.set_cons_zero, List.set_cons_succ, List.getElem_toArray, List.getElem_cons_zero, List.getElem_cons_succ])
            refine wpAnyH_done (by kernel_rfl) ?_ _
            go_wp2
            go_meet
            refine ⟨rfl, by with_reducible repeat' (first | exact HO1.out | refine setRow_off ?_ ?_ _ | refine alloc_old ?_ _ | refine drew_at ?_ | refine drewN_at ?_ _ | exact Nat.ne_of_lt hlb), by with_reducible repeat' (first | exact HZ1.out | refine setRow_off ?_ ?_ _ | refine alloc_old ?_ _ | refine drew_at ?_ | refine drewN_at ?_ _ | exact Nat.ne_of_lt hlz), setRow_at (alloc_new _) _, only_setRowN (((Only.refl _ _).drewN _).alloc _) (.inr (Nat.le_refl _)) _⟩
          exact AllReadyH.nil
        exact AllReadyH.nil
      case rest =>
      obtain ⟨rfl, ho2, hz2, hv2, hO2⟩ := hcut
      obtain ⟨w2, rfl⟩ : ∃ x : World, x = wc := ⟨_, rfl⟩
      have HO2 := Lib.hid ho2
      have HZ2 := Lib.hid hz2
      have HV2 := Lib.hid hv2
      have HRG := Lib.hid (HR1.out.only hO2 (by simp) (by simp))
      have HS2 := Lib.hid (HS1.out.trans (hO2.mono (by simp)))
      have hm1 : b ≠ w1.heap.size := Nat.ne_of_lt hlb
      have hm2 : w1.heap.size ≠ b := Nat.ne_of_gt hlb
      have hm3 : w.heap.size ≠ w1.heap.size := Nat.ne_of_lt hlz
      have hm4 : w1.heap.size ≠ w.heap.size := Nat.ne_of_gt hlz
      have hr1 : bb ∉ [b, w.heap.size] := off2 HR.out.n1.symm (Nat.ne_of_lt HR.out.ring.lt.1)
      have hr2 : bg ∉ [b, w.heap.size] := off2 HR.out.n2.symm (Nat.ne_of_lt HR.out.ring.lt.2)
      clear fb fz ub uz hO2 hs1 HO1 HZ1 HR1 HS1 hlb hlz hoff1 hoff2 hbl c0 c1 c2 c3 c4 HFL HEN
      have fb := fun j => cell_at ho2 j
      have fz := fun j => cell_at hz2 j
      have fv := fun j => cell_at hv2 j
      have ub := fun j => frozen_at ho2 j
      have uz := fun j => frozen_at hz2 j
      clear ho2 hz2 hv2
      cases en with
      | true =>
        have e3 := HS3.out
        rw [if_pos rfl] at e3
        clear HS3
        subst e3
        go_wp2
        refine bodyPost_ret (res_row_tmp rfl _ _ w.heap.size 36 _ (0, 0) _ rfl (by repeat' (first | (with_reducible exact HO4.out) | (with_reducible exact HZ4.out) | (with_reducible exact HO2.out) | (with_reducible exact HZ2.out) | (with_reducible exact HO1.out) | (with_reducible exact HZ1.out) | (with_reducible exact alloc_new _) | (with_reducible apply stored5) | (with_reducible apply stored14) | (with_reducible refine set_other ?_ ?_ _ _) | (with_reducible refine drewN_at ?_ _) | (with_reducible refine alloc_old ?_ _) | (simp; done) | omega)) Try.underlying36 rfl (by kernel_rfl)) rfl ⟨rfl, ⟨bb, bg, rs2, rfl, ⟨HOK.out, by repeat' (first | (with_reducible exact HO4.out) | (with_reducible exact HZ4.out) | (with_reducible exact HO2.out) | (with_reducible exact HZ2.out) | (with_reducible exact HO1.out) | (with_reducible exact HZ1.out) | (with_reducible exact alloc_new _) | (with_reducible apply stored5) | (with_reducible apply stored14) | (with_reducible refine set_other ?_ ?_ _ _) | (with_reducible refine drewN_at ?_ _) | (with_reducible refine alloc_old ?_ _) | (simp; done) | omega), HRG.out.only (S := [b, w.heap.size]) (by repeat' (first | (with_reducible exact HS1.out.mono (by simp)) | (with_reducible exact HS4.out) | (with_reducible exact HS2.out.mono (by simp)) | (with_reducible exact HB24.out) | (with_reducible exact Only.refl _ _) | (with_reducible refine Only.alloc ?_ _) | (with_reducible refine Only.drewN ?_ _) | (with_reducible refine Only.drew ?_) | (with_reducible refine only_cellX ?_ ?_ _) | (simp; done) | (simp; omega) | omega)) hr1 hr2, HFQ.out.1, HFQ.out.2.1, HFQ.out.2.2, HR.out.n1, HR.out.n2⟩⟩, by repeat' (first | (with_reducible exact HS1.out.mono (by simp)) | (with_reducible exact HS4.out) | (with_reducible exact HS2.out.mono (by simp)) | (with_reducible exact HB24.out) | (with_reducible exact Only.refl _ _) | (with_reducible refine Only.alloc ?_ _) | (with_reducible refine Only.drewN ?_ _) | (with_reducible refine Only.drew ?_) | (with_reducible refine only_cellX ?_ ?_ _) | (simp; done) | (simp; omega) | omega)⟩
      | false =>
        have e3 := HS3.out
        rw [if_neg (by simp), if_neg (fun h => HPT.out h.1)] at e3
        clear HS3
        subst e3
        go_wp2
        refine bodyPost_ret (res_row_tmp rfl _ _ w.heap.size 36 _ (0, 0) _ rfl (by repeat' (first | (with_reducible exact HO4.out) | (with_reducible exact HZ4.out) | (with_reducible exact HO2.out) | (with_reducible exact HZ2.out) | (with_reducible exact HO1.out) | (with_reducible exact HZ1.out) | (with_reducible exact alloc_new _) | (with_reducible apply stored5) | (with_reducible apply stored14) | (with_reducible refine set_other ?_ ?_ _ _) | (with_reducible refine drewN_at ?_ _) | (with_reducible refine alloc_old ?_ _) | (simp; done) | omega)) Try.underlying36 rfl (by kernel_rfl)) rfl ⟨rfl, ⟨bb, bg, rs2, rfl, ⟨HOK.out, by repeat' (first | (with_reducible exact HO4.out) | (with_reducible exact HZ4.out) | (with_reducible exact HO2.out) | (with_reducible exact HZ2.out) | (with_reducible exact HO1.out) | (with_reducible exact HZ1.out) | (with_reducible exact alloc_new _) | (with_reducible apply stored5) | (with_reducible apply stored14) | (with_reducible refine set_other ?_ ?_ _ _) | (with_reducible refine drewN_at ?_ _) | (with_reducible refine alloc_old ?_ _) | (simp; done) | omega), HRG.out.only (S := [b, w.heap.size]) (by repeat' (first | (with_reducible exact HS1.out.mono (by simp)) | (with_reducible exact HS4.out) | (with_reducible exact HS2.out.mono (by simp)) | (with_reducible exact HB24.out) | (with_reducible exact Only.refl _ _) | (with_reducible refine Only.alloc ?_ _) | (with_reducible refine Only.drewN ?_ _) | (with_reducible refine Only.drew ?_) | (with_reducible refine only_cellX ?_ ?_ _) | (simp; done) | (simp; omega) | omega)) hr1 hr2, HFQ.out.1, HFQ.out.2.1, HFQ.out.2.2, HR.out.n1, HR.out.n2⟩⟩, by repeat' (first | (with_reducible exact HS1.out.mono (by simp)) | (with_reducible exact HS4.out) | (with_reducible exact HS2.out.mono (by simp)) | (with_reducible exact HB24.out) | (with_reducible exact Only.refl _ _) | (with_reducible refine Only.alloc ?_ _) | (with_reducible refine Only.drewN ?_ _) | (with_reducible refine Only.drew ?_) | (with_reducible refine only_cellX ?_ ?_ _) | (simp; done) | (simp; omega) | omega)⟩
end Go.Proofs.Ytpklblaenfhncaa
