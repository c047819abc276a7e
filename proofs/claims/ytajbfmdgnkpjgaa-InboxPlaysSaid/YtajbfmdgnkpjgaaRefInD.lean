/- The reference's inbox: Tell. -/
import Derived.Test.YtajbfmdgnkpjgaaRefInC
namespace Go.Proofs.Ytajbfmdgnkpjgaa
set_option linter.unusedVariables false
set_option linter.unusedSimpArgs false
open Go.RowKit
theorem infoNx : (Try.prog.info? 107).map (fun i => (i.zero, i.size, i.bytes)) = some (some (.agg #[.int .i64 0, .int .i64 0]), 2, 16) := by kernel_rfl
namespace IS
/-- What a telling of the place j does to the reference's lists. -/
def tellJ (s : IS) (p : Pk) (j : Nat) : IS := ⟨s.n, s.q ++ [p], s.ws.take j ++ s.ws.drop (j + 1), s.nx.filter (fun q => decide (q.1 ≠ p.src)) ++ [(p.src, (p.seq + 1) % 65536)]⟩
theorem look_filter (l : List (Int × Int)) (x v y : Int) : lookI (l.filter (fun q => decide (q.1 ≠ x)) ++ [(x, v)]) y = if y = x then v else lookI l y := by
  unfold lookI
  rw [List.find?_append]
  by_cases hy : y = x
  · subst hy
    have : (l.filter (fun q => decide (q.1 ≠ y))).find? (fun q => decide (q.1 = y)) = none := by
      rw [List.find?_eq_none]
      intro q hq e
      have := (List.mem_filter.1 hq).2
      simp at this e
      exact this e
    rw [this]; simp
  · rw [if_neg hy]
    have e : (l.filter (fun q => decide (q.1 ≠ x))).find? (fun q => decide (q.1 = y)) = l.find? (fun q => decide (q.1 = y)) := by
      induction l with
      | nil => rfl
      | cons q l ih =>
        by_cases h1 : q.1 = x
        · rw [List.filter_cons_of_neg (by simpa using h1), ih, List.find?_cons, decide_eq_false (fun e => hy (e.symm.trans h1))]
        · rw [List.filter_cons_of_pos (by simpa using h1), List.find?_cons, List.find?_cons, ih]
    rw [e]
    have e1 : List.find? (fun q : Int × Int => decide (q.1 = y)) [(x, v)] = none := by
      rw [List.find?_cons, decide_eq_false (show ¬ (x, v).1 = y from fun e => hy e.symm)]; rfl
    rw [e1]
    cases l.find? (fun q => decide (q.1 = y)) <;> rfl
theorem erase_at {l : List Pk} (h : (l.map (fun p => (p.src, p.seq))).Nodup) {j : Nat} (hj : j < l.length) : l.eraseP (keyEq l[j]) = l.take j ++ l.drop (j + 1) := by
  have hsplit : l = l.take j ++ l[j] :: l.drop (j + 1) := by rw [List.getElem_cons_drop, List.take_append_drop]
  have hn : ∀ x ∈ l.take j, ¬ keyEq l[j] x = true := fun x hx hk => by
    unfold keyEq at hk
    rw [decide_eq_true_eq] at hk
    have hxl := List.mem_of_mem_take hx
    have e := key_inj h hxl (List.getElem_mem hj) hk.1 hk.2
    have hnd := kd_nodup h
    rw [hsplit, List.nodup_append] at hnd
    exact hnd.2.2 _ hx _ (List.mem_cons_self ..) e
  have key : ∀ (p : Pk) (a b : List Pk), l = a ++ p :: b → (∀ x ∈ a, ¬ keyEq p x = true) → l.eraseP (keyEq p) = a ++ b := fun p a b hs hn => by
    rw [hs, List.eraseP_append_right _ hn, List.eraseP_cons_of_pos (keyEq_self _)]
  exact key _ _ _ hsplit hn
/-- A telling, as the reference's lists have it. -/
theorem tell_at {s : IS} (h : s.Ok) {j : Nat} (hb : BestAt s s.ws.length (some j)) (hq : ¬ s.q.length = s.n) : s.tell.2 = true ∧ s.tell.1.n = s.n ∧ s.tell.1.q = s.q ++ [s.ws.getD j Pk.zero] ∧ s.tell.1.ws = s.ws.take j ++ s.ws.drop (j + 1) ∧ ∀ x, lookI s.tell.1.nx x = lookI (s.tellJ (s.ws.getD j Pk.zero) j).nx x := by
  have hj : j < s.ws.length := hb.1
  have hr := hb.ready h.kd
  rw [tell_some hr hq]
  refine ⟨rfl, rfl, rfl, ?_, fun x => ?_⟩
  · show s.ws.eraseP (keyEq (s.ws.getD j Pk.zero)) = _
    rw [List.getD_eq_getElem?_getD, List.getElem?_eq_getElem hj]
    exact erase_at h.kd hj
  · show lookI (putI s.nx _ _) x = lookI (_ ++ [_]) x
    rw [lookI_put, look_filter]
end IS
theorem ref16_tell_none (w : World) (s : IS) (r : RX) (S : List Nat) (h : RI w s r S) (hS : ∀ x ∈ S, x < w.heap.size) (hok : s.Ok) (hno : ∀ b, BestAt s s.ws.length b → b = none ∨ s.q.length = s.n) :
    Calls Try.prog 25 #[.agg (r.vals s)] w fun e w' => e = .returned (.tuple #[.agg (r.vals s), .bool false]) ∧ Below w.heap.size w w' := by
  have hRd := fun w' h => ref16_ready w' s r S h
  have hle := hok.le
  have hn2 := hok.n2
  obtain ⟨n, q, ws, nx⟩ := s
  obtain ⟨a1, c1, a2, c2, a3, c3⟩ := r
  have HH := Lib.hid h
  have HNO := Lib.hid hno
  have HRd := Lib.hid hRd
  dsimp only [RX.vals] at *
  clear h hno hRd hok
  go_enter Try.func25, Try.ntmps25
  go_upto_region 2 with (go_at_call 29; ((with_reducible refine (HRd.out _ (HH.out.below (by repeat' (first | (with_reducible assumption) | (with_reducible refine below_setRowN ?_ ?_ _) | (with_reducible refine Below.setCell ?_ ?_ _) | (with_reducible refine below_drewN' ?_ _) | (with_reducible refine Below.drew ?_) | (with_reducible refine Below.alloc ?_ ?_ _) | (with_reducible exact Below.refl _ _) | (with_reducible exact Nat.le_refl _) | (simp; done) | omega | (simp; omega))))).mono ?_); rintro e w3 ⟨b, rfl, hB, hb3⟩; have X0 := Lib.hid (Below.at hb3 (alloc_old (alloc_new _) _) (by simp <;> omega)); have X1 := Lib.hid (Below.at hb3 (alloc_atK _ (w.heap.size + 1) (by simp)) (by simp)); have hw3 : Below w.heap.size w w3 := Below.trans (by repeat' (first | (with_reducible assumption) | (with_reducible refine below_setRowN ?_ ?_ _) | (with_reducible refine Below.setCell ?_ ?_ _) | (with_reducible refine below_drewN' ?_ _) | (with_reducible refine Below.drew ?_) | (with_reducible refine Below.alloc ?_ ?_ _) | (with_reducible exact Below.refl _ _) | (with_reducible exact Nat.le_refl _) | (simp; done) | omega | (simp; omega))) (hb3.mono (by simp; omega)); have HW := Lib.hid hw3; have HBA := Lib.hid hB; clear hb3 hw3 hB))
  have f0 := fun j => cell_at X0.out j
  have f1 := fun j => cell_at X1.out j
  have g1 := fun j => frozen_at X1.out j
  cases b with
  | none =>
    dsimp only [atV]
    go_wp2
    refine bodyPost_ret (res_row_tmp rfl _ _ (w.heap.size + 1) 44 _ (0, 0) _ rfl (stored4 X1.out) Try.underlying44 rfl (by kernel_rfl)) rfl ⟨rfl, ?_⟩
    have hw := HW.out
    repeat' (first | (with_reducible assumption) | (with_reducible refine below_setRowN ?_ ?_ _) | (with_reducible refine Below.setCell ?_ ?_ _) | (with_reducible refine below_drewN' ?_ _) | (with_reducible refine Below.drew ?_) | (with_reducible refine Below.alloc ?_ ?_ _) | (with_reducible exact Below.refl _ _) | (with_reducible exact Nat.le_refl _) | (simp; done) | omega | (simp; omega))
  | some j =>
    have hqn : q.length = n := by
      rcases HNO.out _ HBA.out with h | h
      · simp at h
      · exact h
    have hj : j < ws.length := HBA.out.1
    have hl2 := HH.out.l2
    dsimp only at hl2
    dsimp only [atV]
    have hj0 : ¬ ((j : Int) < 0) := by omega
    have hqI : (n : Int) ≤ (q.length : Int) := by omega
    go_wp2
    refine bodyPost_ret (res_row_tmp rfl _ _ (w.heap.size + 1) 44 _ (0, 0) _ rfl (stored4 X1.out) Try.underlying44 rfl (by kernel_rfl)) rfl ⟨rfl, ?_⟩
    have hw := HW.out
    repeat' (first | (with_reducible assumption) | (with_reducible refine below_setRowN ?_ ?_ _) | (with_reducible refine Below.setCell ?_ ?_ _) | (with_reducible refine below_drewN' ?_ _) | (with_reducible refine Below.drew ?_) | (with_reducible refine Below.alloc ?_ ?_ _) | (with_reducible exact Below.refl _ _) | (with_reducible exact Nat.le_refl _) | (simp; done) | omega | (simp; omega))
set_option maxRecDepth 100000 in
set_option maxHeartbeats 2000000 in
theorem ref16_tell_some (w : World) (s : IS) (r : RX) (S : List Nat) (h : RI w s r S) (hS : ∀ x ∈ S, x < w.heap.size) (hok : s.Ok) (hsome : s.ready.isSome = true) (hqn : ¬ s.q.length = s.n) (hnx : s.nx.length < 1000) :
    Calls Try.prog 25 #[.agg (r.vals s)] w fun e w' => ∃ (r' : RX) (j : Nat), BestAt s s.ws.length (some j) ∧ e = .returned (.tuple #[.agg (r'.vals (s.tellJ (s.ws.getD j Pk.zero) j)), .bool true]) ∧ RI w' (s.tellJ (s.ws.getD j Pk.zero) j) r' S ∧ Below w.heap.size w w' := by
  have hRd := fun w' h => ref16_ready w' s r S h
  have hle := hok.le
  have hn2 := hok.n2
  have hbs : ∀ b, BestAt s s.ws.length b → ∃ j, b = some j := fun b hb => by
    have := hb.ready hok.kd
    cases b with
    | none => rw [this] at hsome; simp at hsome
    | some j => exact ⟨j, rfl⟩
  have hwr := hok.wr
  have hk2 := h.k2
  have hl2 := h.l2
  obtain ⟨n, q, ws, nx⟩ := s
  obtain ⟨a1, c1, a2, c2, a3, c3⟩ := r
  have HH := Lib.hid h
  have HBS := Lib.hid hbs
  have HRd := Lib.hid hRd
  have HWR := Lib.hid hwr
  have HSS := Lib.hid hS
  dsimp only [RX.vals] at *
  clear h hbs hRd hok hsome hwr hS
  go_enter Try.func25, Try.ntmps25
  go_upto_region 2 with (go_at_call 29; ((with_reducible refine (HRd.out _ (HH.out.below (by repeat' (first | (with_reducible assumption) | (with_reducible refine below_setRowN ?_ ?_ _) | (with_reducible refine Below.setCell ?_ ?_ _) | (with_reducible refine below_drewN' ?_ _) | (with_reducible refine Below.drew ?_) | (with_reducible refine Below.alloc ?_ ?_ _) | (with_reducible exact Below.refl _ _) | (with_reducible exact Nat.le_refl _) | (simp; done) | omega | (simp; omega))))).mono ?_); rintro e w3 ⟨b, rfl, hB, hb3⟩; have X0 := Lib.hid (Below.at hb3 (alloc_old (alloc_new _) _) (by simp <;> omega)); have X1 := Lib.hid (Below.at hb3 (alloc_atK _ (w.heap.size + 1) (by simp)) (by simp)); have hw3 : Below w.heap.size w w3 := Below.trans (by repeat' (first | (with_reducible assumption) | (with_reducible refine below_setRowN ?_ ?_ _) | (with_reducible refine Below.setCell ?_ ?_ _) | (with_reducible refine below_drewN' ?_ _) | (with_reducible refine Below.drew ?_) | (with_reducible refine Below.alloc ?_ ?_ _) | (with_reducible exact Below.refl _ _) | (with_reducible exact Nat.le_refl _) | (simp; done) | omega | (simp; omega))) (hb3.mono (by simp; omega)); have HW := Lib.hid hw3; have HBA := Lib.hid hB; clear hb3 hw3 hB))
  obtain ⟨j, rfl⟩ := HBS.out _ HBA.out
  dsimp only [atV]
  have hj : j < ws.length := HBA.out.1
  have hj0 : ¬ ((j : Int) < 0) := by omega
  have hjI : (j : Int) < (ws.length : Int) := by omega
  have hqI : ¬ ((n : Int) ≤ (q.length : Int)) := by omega
  obtain ⟨blk, off, ha2, _, hblt, hcell⟩ := CellsOff.elem Pk.clen Pk.zero HH.out.r2 (by omega) hj
  dsimp only at ha2
  subst ha2
  have hin := HWR.out (ws.getD j Pk.zero) (by rw [List.getD_eq_getElem?_getD, List.getElem?_eq_getElem hj]; exact List.getElem_mem hj)
  obtain ⟨pp, hpp⟩ : ∃ x : Pk, x = ws.getD j Pk.zero := ⟨_, rfl⟩
  have q0 := hcell 0 (by omega)
  have q1 := hcell 1 (by omega)
  have q2 := hcell 2 (by omega)
  have q3 := hcell 3 (by omega)
  rw [← hpp] at q0 q1 q2 q3 hin
  have HPP := Lib.hid hpp
  obtain ⟨p0, p1, p2, p3⟩ := pp
  unfold inR at hin
  rw [decide_eq_true_eq] at hin
  dsimp only at hin
  have y0 : w3.cell? ⟨blk, off + j * 4, none⟩ = some (.int .i64 p0) := (HW.out.cell (p := ⟨blk, _, none⟩) hblt).trans q0
  have y1 : w3.cell? ⟨blk, off + j * 4 + 1, none⟩ = some (.int .i64 p1) := (HW.out.cell (p := ⟨blk, _, none⟩) hblt).trans q1
  have y2 : w3.cell? ⟨blk, off + j * 4 + 2, none⟩ = some (.int .i64 p2) := (HW.out.cell (p := ⟨blk, _, none⟩) hblt).trans q2
  have y3 : w3.cell? ⟨blk, off + j * 4 + 3, none⟩ = some (.string p3) := (HW.out.cell (p := ⟨blk, _, none⟩) hblt).trans q3
  have f0 := fun j => cell_at X0.out j
  have f1 := fun j => cell_at X1.out j
  clear hcell q0 q1 q2 q3 hpp HRd HBS HWR
  have HP3 : Hid (w.heap.size + 1 < w3.heap.size) := Lib.hid (block_lt X1.out)
  have hx1l := block_lt X1.out
  go_upto_region 6 with (fail)
  have X0' := Lib.hid (alloc_old X0.out (.cells #[.int .i64 p0, .int .i64 p1, .int .i64 p2, .string p3] 30))
  have X1' := Lib.hid (alloc_old X1.out (.cells #[.int .i64 p0, .int .i64 p1, .int .i64 p2, .string p3] 30))
  have X2 : Hid ((w3.alloc (.cells #[.int .i64 p0, .int .i64 p1, .int .i64 p2, .string p3] 30)).heap[w3.heap.size]? = some (.cells #[.int .i64 p0, .int .i64 p1, .int .i64 p2, .string p3] 30 (0, 0))) := Lib.hid (alloc_new _)
  have HW4 := Lib.hid (HW.out.alloc HW.out.size (.cells #[.int .i64 p0, .int .i64 p1, .int .i64 p2, .string p3] 30))
  clear y0 y1 y2 y3 f0 f1 X0 X1 HW
  generalize w3.alloc (.cells #[.int .i64 p0, .int .i64 p1, .int .i64 p2, .string p3] 30) = w4 at *
  have f0 := fun j => cell_at X0'.out j
  have HC4 := Lib.hid (HH.out.r2.below HW4.out)
  have hx0l := block_lt X0'.out
  have hx1l := block_lt X1'.out
  have hx2l := block_lt X2.out
  have hcj : ¬ (c2 = j) := by omega
  go_upto_region 7 with (at_builtin; refine append_rows (W0 := w4) (flatK (ws.take j)) j w4.heap.size 26 30 _ 4 40 infoPkB Try.underlying26 rfl (by decide) _ _ _ (World.ownsRow_nil _ _ _ _) (Below.refl _ _) (Nat.le_refl _) _ _ (by rw [flatK_len, List.length_take, Nat.min_eq_left (by omega)]; omega) (by rw [flatK_take]; exact (HC4.out.weak (by simp)).take (j * 4)) (oneCell_K _) (by omega) (by decide) rfl _ _ rfl rfl rfl ?_; intro v5 w5 hown5 hb5 hg5 hor5; rw [Nat.zero_add, List.nil_append] at hown5; obtain ⟨p5, q5, rfl, -, -, -⟩ := CellsOff.own hown5 [] (by simp); have HO5 := Lib.hid hown5; have HB5 := Lib.hid hb5; clear hown5 hb5 hg5 hor5)
  have hs5' : w4.heap.size ≤ w5.heap.size := HB5.out.size
  have HC5 := Lib.hid (HC4.out.below HB5.out)
  have g0 := fun j => cell_at (Below.at HB5.out X0'.out hx0l) j
  have Y0 := Lib.hid (Below.at HB5.out X0'.out hx0l)
  go_cut [] (fun wx => ∃ p6 q6, ws.length - 1 ≤ q6 ∧ wx.heap[w.heap.size]? = some (.cells #[.int .i64 (n : Int), .slice a1 q.length c1, .slice p6 (ws.length - 1) q6, .slice a3 nx.length c3] 44 (0, 0)) ∧ CellsOff wx p6 (flatK (ws.take j ++ ws.drop (j + 1))) (w.heap.size :: (w.heap.size + 1) :: S) ∧ Only [w.heap.size] w4 wx)
  case first =>
    by_cases hq1 : c2 = j + 1
    · subst hq1
      have HAK : Hid (ws.length = j + 1) := Lib.hid (by omega)
      go_wp2_with (at_builtin; refine append_rows (W0 := w5) [] 0 w4.heap.size 26 30 _ 4 40 infoPkB Try.underlying26 rfl (by decide) _ _ _ HO5.out (Below.refl _ _) hs5' _ _ rfl CellsOff.nil (by simp) (by omega) (by decide) rfl _ _ rfl rfl rfl ?_; intro v6 w6 hown6 hb6 hg6 hor6; rw [Nat.add_zero, List.append_nil] at hown6; obtain ⟨p6, q6, rfl, hq6, -, hc6⟩ := CellsOff.own hown6 (w.heap.size :: (w.heap.size + 1) :: S) (fun x hx => by have h5 := HSS.out x; simp only [List.mem_cons] at hx; rcases hx with rfl | rfl | hx <;> first | omega | (have := h5 hx; omega)); have Y6 := Lib.hid (Below.at hb6 Y0.out (by omega)); have g6 := fun j => cell_at Y6.out j; have l6 := fun j => frozen_at Y6.out j; have HC6 := Lib.hid hc6; have HB6 := Lib.hid hb6; clear hown6 hb6 hg6 hor6 hc6)
      go_meet
      have ho : Only [w.heap.size] w6 (w6.setCell ⟨w.heap.size, 2, none⟩ (.slice p6 j q6)) := Only.setCell (p := ⟨w.heap.size, 2, none⟩) (Only.refl _ _) (List.mem_singleton.2 rfl) _
      refine ⟨p6, q6, (by first | omega | (have := HAK.out; omega)), ?_, ?_, (Only.ofBelow (HB5.out.trans HB6.out) _).trans ho⟩
      · rw [HAK.out]; exact set_at Y6.out 2 _
      · rw [List.drop_eq_nil_of_le (by have := HAK.out; omega), List.append_nil]
        exact HC6.out.only ho (fun x hx => List.mem_singleton.1 hx ▸ List.mem_cons_self ..)
    · have hq2 : j + 1 < c2 := by omega
      have hq3 : ¬ (c2 - (j + 1) = 0) := by omega
      go_wp2_with (at_builtin; refine append_rows (W0 := w5) (flatK (ws.drop (j + 1))) (ws.length - (j + 1)) w4.heap.size 26 30 _ 4 40 infoPkB Try.underlying26 rfl (by decide) _ _ _ HO5.out (Below.refl _ _) hs5' _ _ (by rw [flatK_len, List.length_drop]; omega) (by rw [flatK_drop]; exact (HC5.out.weak (by simp)).dropAt ((j + 1) * 4)) (oneCell_K _) (by omega) (by decide) rfl _ _ rfl rfl rfl ?_; intro v6 w6 hown6 hb6 hg6 hor6; obtain ⟨p6, q6, rfl, hq6, -, hc6⟩ := CellsOff.own hown6 (w.heap.size :: (w.heap.size + 1) :: S) (fun x hx => by have h5 := HSS.out x; simp only [List.mem_cons] at hx; rcases hx with rfl | rfl | hx <;> first | omega | (have := h5 hx; omega)); have Y6 := Lib.hid (Below.at hb6 Y0.out (by omega)); have g6 := fun j => cell_at Y6.out j; have l6 := fun j => frozen_at Y6.out j; have HC6 := Lib.hid hc6; have HB6 := Lib.hid hb6; clear hown6 hb6 hg6 hor6 hc6)
      go_meet
      have ho : Only [w.heap.size] w6 (w6.setCell ⟨w.heap.size, 2, none⟩ (.slice p6 (j + (ws.length - (j + 1))) q6)) := Only.setCell (p := ⟨w.heap.size, 2, none⟩) (Only.refl _ _) (List.mem_singleton.2 rfl) _
      refine ⟨p6, q6, (by first | omega | (have := HAK.out; omega)), ?_, ?_, (Only.ofBelow (HB5.out.trans HB6.out) _).trans ho⟩
      · rw [show ws.length - 1 = j + (ws.length - (j + 1)) by omega]; exact set_at Y6.out 2 _
      · rw [flatK_append]
        exact HC6.out.only ho (fun x hx => List.mem_singleton.1 hx ▸ List.mem_cons_self ..)
  case rest =>
    obtain ⟨p6, q6, hq6, hX7, hC7, ho7⟩ := hcut
    obtain ⟨w7, rfl⟩ : ∃ x : World, x = wc := ⟨_, rfl⟩
    have X17 := Lib.hid (ho7.at X1'.out (by simp))
    have X27 := Lib.hid (ho7.at X2.out (by rw [List.mem_singleton]; have := HW4.out.size; omega))
    have hb7 : Below w.heap.size w w7 := HW4.out.trans (only_below ho7 (by simp) HW4.out.size)
    have HB7 := Lib.hid hb7
    have HC7 := Lib.hid hC7
    have X07 := Lib.hid hX7
    have HL7 := Lib.hid (HH.out.r1.below hb7)
    have hs7 := ho7.size
    have f7 := fun j => cell_at X07.out j
    have m7 := fun j => cell_at X27.out j
    clear ho7 hb7 hC7 hX7 X0' X1' X2 HW4 HC4 HC5 HO5 HB5 Y0 f0 g0
    go_upto_region 10 with (at_builtin; refine append_rows (W0 := w7) (flatK q) q.length w7.heap.size 26 30 _ 4 40 infoPkB Try.underlying26 rfl (by decide) _ _ _ (World.ownsRow_nil _ _ _ _) (Below.refl _ _) (Nat.le_refl _) _ _ (by rw [flatK_len]; omega) (HL7.out.weak (by simp)) (oneCell_K _) (by omega) (by decide) rfl _ _ rfl rfl rfl ?_; intro v8 w8 hown8 hb8 hg8 hor8; rw [Nat.zero_add, List.nil_append] at hown8; have g8 := fun j => cell_at (Below.at hb8 X27.out (by omega)) j; have HO8 := Lib.hid hown8; have HB8 := Lib.hid hb8; clear hown8 hb8 hg8 hor8)
    have hs8 : w7.heap.size ≤ w8.heap.size := HB8.out.size
    go_upto_region 11 with (at_builtin; refine append_own (W0 := w7) [.int .i64 p0, .int .i64 p1, .int .i64 p2, .string p3] w7.heap.size _ _ _ 4 40 infoPkB Try.underlying26 rfl (by decide) _ _ _ HO8.out HB8.out hs8 rfl (by simp [Value.oneCell']) (by omega) (by decide) rfl _ _ rfl rfl rfl ?_; intro v9 w9 hown9 hb9 hg9 hor9; obtain ⟨p9, q9, rfl, hq9, -, hc9⟩ := CellsOff.own hown9 (w.heap.size :: (w.heap.size + 1) :: S) (fun x hx => by have h5 := HSS.out x; simp only [List.mem_cons] at hx; rcases hx with rfl | rfl | hx <;> first | omega | (have := h5 hx; omega)); have Y9 := Lib.hid (Below.at hb9 X07.out (by omega)); have g9 := fun j => cell_at Y9.out j; have l9 := fun j => frozen_at Y9.out j; have HC9 := Lib.hid hc9; have HB9 := Lib.hid hb9; clear hown9 hb9 hg9 hor9 hc9)
    have ho : Only [w.heap.size] w9 (w9.setCell ⟨w.heap.size, 1, none⟩ (.slice p9 (q.length + 1) q9)) := Only.setCell (p := ⟨w.heap.size, 1, none⟩) (Only.refl _ _) (List.mem_singleton.2 rfl) _
    have z0 : (w9.setCell ⟨w.heap.size, 1, none⟩ (.slice p9 (q.length + 1) q9)).heap[w.heap.size]? = some (.cells #[.int .i64 (n : Int), .slice p9 (q.length + 1) q9, .slice p6 (ws.length - 1) q6, .slice a3 nx.length c3] 44 (0, 0)) := set_at Y9.out 1 _
    have z1 := ho.at (Below.at HB9.out X17.out (by omega)) (show w.heap.size + 1 ∉ [w.heap.size] by simp)
    have z2 := ho.at (Below.at HB9.out X27.out (by omega)) (show w3.heap.size ∉ [w.heap.size] by rw [List.mem_singleton]; have := block_lt X27.out; have := HP3.out; omega)
    have hb10 : Below w.heap.size w (w9.setCell ⟨w.heap.size, 1, none⟩ (.slice p9 (q.length + 1) q9)) := (HB7.out.trans (HB9.out.mono HB7.out.size)).trans (only_below ho (by simp) (HB7.out.trans (HB9.out.mono HB7.out.size)).size)
    have hc6 := (HC7.out.below HB9.out).only ho (fun x hx => List.mem_singleton.1 hx ▸ List.mem_cons_self ..)
    have hc9 := HC9.out.only ho (fun x hx => List.mem_singleton.1 hx ▸ List.mem_cons_self ..)
    have hs10 : w7.heap.size ≤ (w9.setCell ⟨w.heap.size, 1, none⟩ (.slice p9 (q.length + 1) q9)).heap.size := Nat.le_trans HB9.out.size ho.size
    clear ho Y9 g9 l9 HC9 HC7 X07 f7 m7 g8 HO8 HB8 HB9 HB7 X17 X27 HL7
    generalize (w9.setCell ⟨w.heap.size, 1, none⟩ (.slice p9 (q.length + 1) q9)) = w10 at *
    have Z0 := Lib.hid z0
    have Z1 := Lib.hid z1
    have Z2 := Lib.hid z2
    have HB10 := Lib.hid hb10
    have HC6 := Lib.hid hc6
    have HC9 := Lib.hid hc9
    have HN10 : Hid (∀ m, m < nx.length → ∃ blk off, a3 = some ⟨blk, off, none⟩ ∧ blk < w10.heap.size ∧ w10.cell? ⟨blk, off + m * 2, none⟩ = some (.int .i64 (nx.getD m (0, 0)).1) ∧ w10.cell? ⟨blk, off + m * 2 + 1, none⟩ = some (.int .i64 (nx.getD m (0, 0)).2)) := Lib.hid (fun m hm => by
      obtain ⟨blk, off, e, _, hb, hc⟩ := CellsOff.elem prI_len (0, 0) (HH.out.r3.below HB10.out) (by omega) hm
      exact ⟨blk, off, e, hb, hc 0 (by omega), hc 1 (by omega)⟩)
    have hz0l := block_lt z0
    have hz1l := block_lt z1
    have hz2l := block_lt z2
    clear z0 z1 z2 hb10 hc6 hc9
    go_wp2
    go_loopw [8, 9] (fun v i wr => ∃ (m : Nat) (l : List (Int × Int)), m ≤ nx.length ∧ i = .int .i64 (m : Int) ∧ Hid (l = (nx.take m).filter (fun q => decide (q.1 ≠ p0))) ∧ l.length ≤ m ∧ wr.ownsRow w10.heap.size 107 2 v l.length (flatI l) ∧ Below w10.heap.size w10 wr) (fun _ i _ => nx.length - (intOf i).toNat)
    case atStart => exact ⟨0, [], by omega, rfl, Lib.hid rfl, by simp, World.ownsRow_nil _ _ _ _, Below.refl _ _⟩
    case round =>
      obtain ⟨m, l, hm, rfl, HL, hlm, hO, hb⟩ := hrel
      obtain ⟨wo, rfl⟩ : ∃ x : World, x = wr := ⟨_, rfl⟩
      have HO := Lib.hid hO
      have HB := Lib.hid hb
      have f0 := fun j => cell_at (Below.at hb Z0.out hz0l) j
      have f2 := fun j => cell_at (Below.at hb Z2.out hz2l) j
      have hso := hb.size
      clear hO hb
      by_cases hml : m < nx.length
      · obtain ⟨blk3, off3, rfl, hblt3, q0, q1⟩ := HN10.out m hml
        have y0 := (HB.out.cell (p := ⟨blk3, off3 + m * 2, none⟩) hblt3).trans q0
        have y1 := (HB.out.cell (p := ⟨blk3, off3 + m * 2 + 1, none⟩) hblt3).trans q1
        have hmI : (m : Int) < (nx.length : Int) := by omega
        have HLS := Lib.hid (take_snocD hml (0, 0))
        obtain ⟨x, hx⟩ : ∃ x : Int × Int, x = nx.getD m (0, 0) := ⟨_, rfl⟩
        rw [← hx] at y0 y1 HLS
        obtain ⟨x0, x1⟩ := x
        dsimp only at y0 y1
        clear q0 q1 hx HN10
        by_cases he : x0 = p0
        · have hb1 : (x0 != p0) = false := by rw [he]; simp
          have HL2 : Hid (l = (nx.take (m + 1)).filter (fun q => decide (q.1 ≠ p0))) := Lib.hid (by rw [HLS.out, List.filter_append, ← HL.out, List.filter_cons_of_neg (by simpa using he)]; simp)
          clear he
          go_upto_region 15 with (fail)
          refine wp_region_held_drew (S := (fun w' => (∀ j, w'.cell? ⟨w.heap.size, j, none⟩ = (#[.int .i64 (n : Int), .slice p9 (q.length + 1) q9, .slice p6 (ws.length - 1) q6, .slice (some ⟨blk3, off3, none⟩) nx.length c3] : Array Value)[j]?) ∧ (∀ j, w'.cell? ⟨w3.heap.size, j, none⟩ = (#[.int .i64 p0, .int .i64 p1, .int .i64 p2, .string p3] : Array Value)[j]?) ∧ w'.cell? ⟨blk3, off3 + m * 2, none⟩ = some (.int .i64 x0))) (by kernel_rfl) ?_ (fun hHeld0 => ?_)
          · (try dsimp only); exact ⟨f0, f2, y0⟩
          refine wpAnyH_take (i := 0) (v := ?_) rfl (by kernel_rfl) (by kernel_rfl) (by kernel_rfl) (fun _ _ _ h => h) (Or.inl ⟨by rfl, ?_⟩) (by assumption) ?_
          rotate_left
          · (intro w hSw; (try dsimp only at hSw); go_simp; try with_reducible rfl)
          (try simp only [Act.put, List.setIfInBounds_toArray, List.set_cons_zero, List.set_cons_succ, List.getElem_toArray, List.getElem_cons_zero, List.getElem_cons_succ])
          refine wpAnyH_take (i := 1) (v := ?_) rfl (by kernel_rfl) (by kernel_rfl) (by kernel_rfl) (fun _ _ _ h => h) (Or.inl ⟨by rfl, ?_⟩) (by assumption) ?_
          rotate_left
          · (intro w hSw; (try dsimp only at hSw); go_simp; try with_reducible rfl)
          (try simp only [Act.put, List.setIfInBounds_toArray, List.set_cons_zero, List.set_cons_succ, List.getElem_toArray, List.getElem_cons_zero, List.getElem_cons_succ])
          refine wpAnyH_take (i := 2) (v := ?_) rfl (by kernel_rfl) (by kernel_rfl) (by kernel_rfl) (fun _ _ _ h => h) (Or.inl ⟨by rfl, ?_⟩) (by assumption) ?_
          rotate_left
          · (intro w hSw; (try dsimp only at hSw); go_simp; try with_reducible rfl)
          (try simp only [Act.put, List.setIfInBounds_toArray, List.set_cons_zero, List.set_cons_succ, List.getElem_toArray, List.getElem_cons_zero, List.getElem_cons_succ])
          refine wpAnyH_take (i := 3) (v := ?_) rfl (by kernel_rfl) (by kernel_rfl) (by kernel_rfl) (fun _ _ _ h => h) (Or.inl ⟨by rfl, ?_⟩) (by assumption) ?_
          rotate_left
          · (intro w hSw; (try dsimp only at hSw); go_simp; try with_reducible rfl)
          (try simp only [Act.put, List.setIfInBounds_toArray, List.set_cons_zero, List.set_cons_succ, List.getElem_toArray, List.getElem_cons_zero, List.getElem_cons_succ])
          refine wpAnyH_take (i := 4) (v := ?_) rfl (by kernel_rfl) (by kernel_rfl) (by kernel_rfl) (fun _ _ _ h => h) (Or.inl ⟨by rfl, ?_⟩) (by assumption) ?_
          rotate_left
          · (intro w hSw; (try dsimp only at hSw); go_simp; try with_reducible rfl)
          (try simp only [Act.put, List.setIfInBounds_toArray, List.set_cons_zero, List.set_cons_succ, List.getElem_toArray, List.getElem_cons_zero, List.getElem_cons_succ])
          refine wpAnyH_take (i := 5) (v := ?_) rfl (by kernel_rfl) (by kernel_rfl) (by kernel_rfl) (fun _ _ _ h => h) (Or.inl ⟨by rfl, ?_⟩) (by assumption) ?_
          rotate_left
          · (intro w hSw; (try dsimp only at hSw); go_simp; try with_reducible rfl)
          (try simp only [Act.put, List.setIfInBounds_toArray, List.set_cons_zero, List.set_cons_succ, List.getElem_toArray, List.getElem_cons_zero, List.getElem_cons_succ])
          refine wpAnyH_take (i := 6) (v := ?_) rfl (by kernel_rfl) (by kernel_rfl) (by kernel_rfl) (fun _ _ _ h => h) (Or.inl ⟨by rfl, ?_⟩) (by assumption) ?_
          rotate_left
          · (intro w hSw; (try dsimp only at hSw); go_simp; try with_reducible rfl)
          (try simp only [Act.put, List.setIfInBounds_toArray, List.set_cons_zero, List.set_cons_succ, List.getElem_toArray, List.getElem_cons_zero, List.getElem_cons_succ])
          refine wpAnyH_take (i := 7) (v := ?_) rfl (by kernel_rfl) (by kernel_rfl) (by kernel_rfl) (fun _ _ _ h => h) (Or.inl ⟨by rfl, ?_⟩) (by assumption) ?_
          rotate_left
          · (intro w hSw; (try dsimp only at hSw); go_simp; try with_reducible rfl)
          (try simp only [Act.put, List.setIfInBounds_toArray, List.set_cons_zero, List.set_cons_succ, List.getElem_toArray, List.getElem_cons_zero, List.getElem_cons_succ])
          refine wpAnyH_take (i := 8) (v := ?_) rfl (by kernel_rfl) (by kernel_rfl) (by kernel_rfl) (fun _ _ _ h => h) (Or.inl ⟨by rfl, ?_⟩) (by assumption) ?_
          rotate_left
          · (intro w hSw; (try dsimp only at hSw); go_simp; try with_reducible rfl)
          (try simp only [Act.put, List.setIfInBounds_toArray, List.set_cons_zero, List.set_cons_succ, List.getElem_toArray, List.getElem_cons_zero, List.getElem_cons_succ])
          refine wpAnyH_done (by kernel_rfl) ?_ _
          go_wp2
          go_roundw
          case rel => exact ⟨m + 1, l, by omega, by go_num, HL2, by omega, HO.out.drew, HB.out.drew⟩
          case measure => simp [intOf] <;> omega
        · have hb1 : (x0 != p0) = true := bne_iff_ne.2 he
          have HL2 : Hid (l ++ [(x0, x1)] = (nx.take (m + 1)).filter (fun q => decide (q.1 ≠ p0))) := Lib.hid (by rw [HLS.out, List.filter_append, ← HL.out, List.filter_cons_of_pos (by simpa using he)]; simp)
          clear he
          go_upto_region 15 with (fail)
          refine wp_region_held_drew (S := (fun w' => (∀ j, w'.cell? ⟨w.heap.size, j, none⟩ = (#[.int .i64 (n : Int), .slice p9 (q.length + 1) q9, .slice p6 (ws.length - 1) q6, .slice (some ⟨blk3, off3, none⟩) nx.length c3] : Array Value)[j]?) ∧ (∀ j, w'.cell? ⟨w3.heap.size, j, none⟩ = (#[.int .i64 p0, .int .i64 p1, .int .i64 p2, .string p3] : Array Value)[j]?) ∧ w'.cell? ⟨blk3, off3 + m * 2, none⟩ = some (.int .i64 x0))) (by kernel_rfl) ?_ (fun hHeld0 => ?_)
          · (try dsimp only); exact ⟨f0, f2, y0⟩
          refine wpAnyH_take (i := 0) (v := ?_) rfl (by kernel_rfl) (by kernel_rfl) (by kernel_rfl) (fun _ _ _ h => h) (Or.inl ⟨by rfl, ?_⟩) (by assumption) ?_
          rotate_left
          · (intro w hSw; (try dsimp only at hSw); go_simp; try with_reducible rfl)
          (try simp only [Act.put, List.setIfInBounds_toArray, List.set_cons_zero, List.set_cons_succ, List.getElem_toArray, List.getElem_cons_zero, List.getElem_cons_succ])
          refine wpAnyH_take (i := 1) (v := ?_) rfl (by kernel_rfl) (by kernel_rfl) (by kernel_rfl) (fun _ _ _ h => h) (Or.inl ⟨by rfl, ?_⟩) (by assumption) ?_
          rotate_left
          · (intro w hSw; (try dsimp only at hSw); go_simp; try with_reducible rfl)
          (try simp only [Act.put, List.setIfInBounds_toArray, List.set_cons_zero, List.set_cons_succ, List.getElem_toArray, List.getElem_cons_zero, List.getElem_cons_succ])
          refine wpAnyH_take (i := 2) (v := ?_) rfl (by kernel_rfl) (by kernel_rfl) (by kernel_rfl) (fun _ _ _ h => h) (Or.inl ⟨by rfl, ?_⟩) (by assumption) ?_
          rotate_left
          · (intro w hSw; (try dsimp only at hSw); go_simp; try with_reducible rfl)
          (try simp only [Act.put, List.setIfInBounds_toArray, List.set_cons_zero, List.set_cons_succ, List.getElem_toArray, List.getElem_cons_zero, List.getElem_cons_succ])
          refine wpAnyH_take (i := 3) (v := ?_) rfl (by kernel_rfl) (by kernel_rfl) (by kernel_rfl) (fun _ _ _ h => h) (Or.inl ⟨by rfl, ?_⟩) (by assumption) ?_
          rotate_left
          · (intro w hSw; (try dsimp only at hSw); go_simp; try with_reducible rfl)
          (try simp only [Act.put, List.setIfInBounds_toArray, List.set_cons_zero, List.set_cons_succ, List.getElem_toArray, List.getElem_cons_zero, List.getElem_cons_succ])
          refine wpAnyH_take (i := 4) (v := ?_) rfl (by kernel_rfl) (by kernel_rfl) (by kernel_rfl) (fun _ _ _ h => h) (Or.inl ⟨by rfl, ?_⟩) (by assumption) ?_
          rotate_left
          · (intro w hSw; (try dsimp only at hSw); go_simp; try with_reducible rfl)
          (try simp only [Act.put, List.setIfInBounds_toArray, List.set_cons_zero, List.set_cons_succ, List.getElem_toArray, List.getElem_cons_zero, List.getElem_cons_succ])
          refine wpAnyH_take (i := 5) (v := ?_) rfl (by kernel_rfl) (by kernel_rfl) (by kernel_rfl) (fun _ _ _ h => h) (Or.inl ⟨by rfl, ?_⟩) (by assumption) ?_
          rotate_left
          · (intro w hSw; (try dsimp only at hSw); go_simp; try with_reducible rfl)
          (try simp only [Act.put, List.setIfInBounds_toArray, List.set_cons_zero, List.set_cons_succ, List.getElem_toArray, List.getElem_cons_zero, List.getElem_cons_succ])
          refine wpAnyH_take (i := 6) (v := ?_) rfl (by kernel_rfl) (by kernel_rfl) (by kernel_rfl) (fun _ _ _ h => h) (Or.inl ⟨by rfl, ?_⟩) (by assumption) ?_
          rotate_left
          · (intro w hSw; (try dsimp only at hSw); go_simp; try with_reducible rfl)
          (try simp only [Act.put, List.setIfInBounds_toArray, List.set_cons_zero, List.set_cons_succ, List.getElem_toArray, List.getElem_cons_zero, List.getElem_cons_succ])
          refine wpAnyH_take (i := 7) (v := ?_) rfl (by kernel_rfl) (by kernel_rfl) (by kernel_rfl) (fun _ _ _ h => h) (Or.inl ⟨by rfl, ?_⟩) (by assumption) ?_
          rotate_left
          · (intro w hSw; (try dsimp only at hSw); go_simp; try with_reducible rfl)
          (try simp only [Act.put, List.setIfInBounds_toArray, List.set_cons_zero, List.set_cons_succ, List.getElem_toArray, List.getElem_cons_zero, List.getElem_cons_succ])
          refine wpAnyH_take (i := 8) (v := ?_) rfl (by kernel_rfl) (by kernel_rfl) (by kernel_rfl) (fun _ _ _ h => h) (Or.inl ⟨by rfl, ?_⟩) (by assumption) ?_
          rotate_left
          · (intro w hSw; (try dsimp only at hSw); go_simp; try with_reducible rfl)
          (try simp only [Act.put, List.setIfInBounds_toArray, List.set_cons_zero, List.set_cons_succ, List.getElem_toArray, List.getElem_cons_zero, List.getElem_cons_succ])
          refine wpAnyH_done (by kernel_rfl) ?_ _
          go_wp2_with (at_builtin; refine append_own (W0 := w10) [.int .i64 x0, .int .i64 x1] w10.heap.size _ _ _ 2 16 infoNx Try.underlying42 rfl (by decide) _ _ _ HO.out.drew HB.out.drew hso rfl (by simp [Value.oneCell']) (by omega) (by decide) rfl _ _ rfl rfl rfl ?_; intro v11 w11 hown11 hb11 hg11 hor11; have HO11 := Lib.hid hown11; have HB11 := Lib.hid hb11; clear hown11 hb11 hg11 hor11)
          go_roundw
          case rel => exact ⟨m + 1, l ++ [(x0, x1)], by omega, by go_num, HL2, by rw [List.length_append]; simp; omega, by rw [List.length_append]; unfold flatI at *; rw [flat_snoc]; exact HO11.out, HB11.out⟩
          case measure => simp [intOf] <;> omega
      · have hmI : ¬ (m : Int) < (nx.length : Int) := by omega
        have hL := HL.out
        rw [List.take_of_length_le (by omega)] at hL
        have HL2 := Lib.hid hL
        have hv1 : (IntKind.i64.wrap (p2 + 1)).tmod 65536 = (p2 + 1) % 65536 := by rw [IntWalk.i64_left, IntWalk.wrap64_in _ (by omega)]; exact Int.tmod_eq_emod_of_nonneg (by omega)
        clear hL HL HN10
        go_wp2_with (at_builtin; refine append_own (W0 := w10) [.int .i64 p0, .int .i64 ((p2 + 1) % 65536)] w10.heap.size _ _ _ 2 16 infoNx Try.underlying42 rfl (by decide) _ _ _ HO.out HB.out hso rfl (by simp [Value.oneCell']) (by omega) (by decide) rfl _ _ rfl rfl rfl ?_; intro v11 w11 hown11 hb11 hg11 hor11; obtain ⟨p11, q11, rfl, hq11, -, hc11⟩ := CellsOff.own hown11 (w.heap.size :: (w.heap.size + 1) :: S) (fun x hx => by have h5 := HSS.out x; simp only [List.mem_cons] at hx; rcases hx with rfl | rfl | hx <;> first | omega | (have := h5 hx; omega)); have Y0 := Lib.hid (Below.at hb11 Z0.out (by omega)); have Y1 := Lib.hid (Below.at hb11 Z1.out (by omega)); have k0 := fun j => cell_at Y0.out j; have l0 := fun j => frozen_at Y0.out j; have k1 := fun j => cell_at Y1.out j; have l1 := fun j => frozen_at Y1.out j; have HC11 := Lib.hid hc11; have HB11 := Lib.hid hb11; clear hown11 hb11 hg11 hor11 hc11)
        have hT : IS.tellJ ⟨n, q, ws, nx⟩ (ws[j]?.getD Pk.zero) j = ⟨n, q ++ [⟨p0, p1, p2, p3⟩], ws.take j ++ ws.drop (j + 1), l ++ [(p0, (p2 + 1) % 65536)]⟩ := by
          rw [← List.getD_eq_getElem?_getD, ← HPP.out]
          unfold IS.tellJ
          rw [HL2.out]
        have h11 : Below w.heap.size w w11 := HB10.out.trans (HB11.out.mono HB10.out.size)
        have ho : Only [w.heap.size, w.heap.size + 1] w11 (((((w11.setCell ⟨w.heap.size, 3, none⟩ (.slice p11 (l.length + 1) q11)).setCell ⟨w.heap.size + 1, 0, none⟩ (.int .i64 (n : Int))).setCell ⟨w.heap.size + 1, 1, none⟩ (.slice p9 (q.length + 1) q9)).setCell ⟨w.heap.size + 1, 2, none⟩ (.slice p6 (ws.length - 1) q6)).setCell ⟨w.heap.size + 1, 3, none⟩ (.slice p11 (l.length + 1) q11)) := by repeat' (first | (with_reducible assumption) | (with_reducible refine only_setRowN ?_ ?_ _) | (with_reducible exact Only.refl _ _) | (with_reducible refine Only.setCell ?_ ?_ _) | (with_reducible refine Only.drewN ?_ _) | (with_reducible refine Only.drew ?_) | (with_reducible refine Only.alloc ?_ _) | (simp; done) | (simp; omega))
        have hfin : Below w.heap.size w (((((w11.setCell ⟨w.heap.size, 3, none⟩ (.slice p11 (l.length + 1) q11)).setCell ⟨w.heap.size + 1, 0, none⟩ (.int .i64 (n : Int))).setCell ⟨w.heap.size + 1, 1, none⟩ (.slice p9 (q.length + 1) q9)).setCell ⟨w.heap.size + 1, 2, none⟩ (.slice p6 (ws.length - 1) q6)).setCell ⟨w.heap.size + 1, 3, none⟩ (.slice p11 (l.length + 1) q11)) := h11.trans (only_below ho (fun k hk => by simp at hk; omega) h11.size)
        have hT3 : ∀ x ∈ [w.heap.size, w.heap.size + 1], x ∈ (w.heap.size :: (w.heap.size + 1) :: S) := fun x hx => by simp at hx ⊢; omega
        have hW3 : ∀ x ∈ S, x ∈ (w.heap.size :: (w.heap.size + 1) :: S) := fun x hx => List.mem_cons_of_mem _ (List.mem_cons_of_mem _ hx)
        have hwl : (ws.take j ++ ws.drop (j + 1)).length = ws.length - 1 := by rw [List.length_append, List.length_take, List.length_drop]; omega
        refine bodyPost_ret (res_row_tmp rfl _ _ (w.heap.size + 1) 44 _ (0, 0) _ rfl (stored4 (set_other Y1.out (by omega) _ _)) Try.underlying44 rfl (by kernel_rfl)) rfl ⟨⟨p9, q9, p6, q6, p11, q11⟩, j, HBA.out, ?_, ?_, hfin⟩
        · rw [hT]
          dsimp only
          rw [List.length_append, hwl, List.length_append]; rfl
        · rw [hT]
          refine ⟨?_, ((HC6.out.below HB11.out).only ho hT3).weak hW3, ?_, ?_, ?_, ?_, ?_, ?_, ?_⟩
          · show CellsOff _ p9 (flatK (q ++ [⟨p0, p1, p2, p3⟩])) S
            rw [flatK_append]
            exact ((HC9.out.below HB11.out).only ho hT3).weak hW3
          · show CellsOff _ p11 (flatI (l ++ [(p0, (p2 + 1) % 65536)])) S
            unfold flatI at *
            rw [flat_snoc]
            exact (HC11.out.only ho hT3).weak hW3
          · show (q ++ [_]).length ≤ q9
            rw [List.length_append]; exact hq9
          · show (ws.take j ++ ws.drop (j + 1)).length ≤ q6
            rw [hwl]; exact hq6
          · show (l ++ [_]).length ≤ q11
            rw [List.length_append]; exact hq11
          · show (q ++ [_]).length ≤ 64
            rw [List.length_append]; simp; omega
          · show (ws.take j ++ ws.drop (j + 1)).length ≤ 1000
            rw [hwl]; omega
          · show (l ++ [_]).length ≤ 1000
            rw [List.length_append]; simp; omega
end Go.Proofs.Ytajbfmdgnkpjgaa
