/- An inbox: New, Peek, Recv, Come. -/
import Derived.Test.YtajbfmdgnkpjgaaInboxB
import Derived.StillTailTactics
import Derived.Carry
namespace Go.Proofs.Ytajbfmdgnkpjgaa
set_option linter.unusedVariables false
set_option linter.unusedSimpArgs false
open Go.RowKit Go.ChangeMaps Go.WideShapes Go.WideMaps
theorem put_wp {P : Program} {w : World} {ops : Array Oper} {rest : List Oper} {o : Oper} {a : Act} {Q : Exit → Act → World → Prop}
    (hg : o.guard = none) (m x v : Operand) (t : TypeId) (hop : o.op = Op.mapUpdate t m x v) (b : Nat) (hm : a.eval m = .map (some b)) (key val : Value) (hx : a.eval x = key) (hv : a.eval v = val) (w' : World)
    (hrun : (Instr.mapUpdate t (.map (some b)) key val).run P w = .ok () w') (hK : wpList P ops Q rest (a.put o.dst undef) w') : wpList P ops Q (o :: rest) a w := by
  refine wpList_plain hg fun K' hK' => ?_
  unfold Oper.wp
  simp [execOp, hop, hm, hx, hv, hrun, Result.andThen]
  exact hK' _ _ hK
theorem alloc_atK {w : World} (o : Obj) (b : Nat) (hb : b = w.heap.size) : (w.alloc o).heap[b]? = some o := by rw [hb]; exact alloc_new o
theorem recv_eq (s : IS) : s.recv = ({ s with q := s.q.tail }, s.q.headD Pk.zero, s.peekE) := by
  unfold IS.recv IS.peekE
  cases hq : s.q with
  | nil => obtain ⟨n, q, ws, nx⟩ := s; dsimp only at hq; subst hq; rfl
  | cons p l => rfl
theorem free_q {s : RS Pk} (h : s.ld = none) : s.free.q = s.q.tail ∧ s.free.ld = none ∧ s.free.n = s.n := by
  unfold RS.free; split
  · rename_i h0; exact ⟨by rw [List.eq_nil_of_length_eq_zero h0]; rfl, h, rfl⟩
  · exact ⟨rfl, h, rfl⟩
theorem newK (room : Int) (w : World) : Calls Try.prog 55 #[.int .i64 (min (max room 1) 64), .int .u32 0] w fun e w' => ∃ qb qg rs, e = .returned (.pointer (some ⟨qb, 0, none⟩)) ∧ RingK w' qb qg rs ∧ rs.q = [] ∧ rs.ld = none ∧ rs.n = (min (max room 1) 64).toNat ∧ w.heap.size ≤ qb ∧ w.heap.size ≤ qg ∧ qb ≠ qg ∧ Below w.heap.size w w' := by
  obtain ⟨n, hn⟩ := Int.eq_ofNat_of_zero_le (show 0 ≤ min (max room 1) 64 by omega)
  rw [hn, Int.toNat_natCast]
  refine (ringK_new n (by omega) (by omega) w).mono ?_
  rintro e w' ⟨rfl, hr, _, hb⟩
  exact ⟨_, _, _, rfl, hr, rfl, rfl, by show (min (max (n : Int) 1) 4096).toNat = n; omega, by omega, Nat.le_refl _, by omega, hb⟩
set_option maxRecDepth 100000 in
theorem box_new (room : Int) (w : World) :
    Calls Try.prog 12 #[.int .i64 room] w fun e w' => ∃ b B, e = .returned (.pointer (some ⟨b, 0, none⟩)) ∧ BoxAt w' b B (IS.new room) ∧ (∀ k ∈ B, w.heap.size ≤ k) ∧ Below w.heap.size w w' := by
  have HN := Lib.hid (fun w => newK room w)
  have hmm := @run_makeMap Try.prog
  go_enter Try.func12, Try.ntmps12
  go_wp2_with (first | (go_at_call 55; ((with_reducible refine (HN.out _).mono ?_); rintro e w1 ⟨qb, qg, rs, rfl, hR, hq, hld, hn, h1, h2, hne, hb1⟩)))
  go_ret
  have hlt := hR.lt
  have hs := hb1.size
  refine ⟨_, [w1.heap.size + 1 + 1, qb, qg, w1.heap.size, w1.heap.size + 1], rfl, ⟨qb, qg, _, _, rs, rfl, IS.new_ok room, alloc_atK _ _ (by simp), hR.only (S := []) ((((Only.refl _ _).alloc _).alloc _).alloc _) (by simp) (by simp), hq, hld, hn, ⟨#[], 0, ⟨alloc_old (alloc_old (alloc_new _) _) _, MapKept.stamped_empty 0, by simp⟩, rfl⟩, ⟨#[], 0, ⟨alloc_old (alloc_atK _ _ (by simp)) _, MapKept.stamped_empty 0, by simp⟩, rfl⟩, ?_⟩, ?_, ?_⟩
  · simp only [List.nodup_cons, List.mem_cons, List.not_mem_nil, or_false, not_or, List.nodup_nil, and_true, not_false_eq_true]
    omega
  · intro k hk
    simp only [List.mem_cons, List.not_mem_nil, or_false] at hk
    rcases hk with rfl | rfl | rfl | rfl | rfl <;> omega
  · repeat' (first | (with_reducible assumption) | (with_reducible refine below_setRowN ?_ ?_ _) | (with_reducible refine Below.setCell ?_ ?_ _) | (with_reducible refine below_drewN' ?_ _) | (with_reducible refine Below.drew ?_) | (with_reducible refine Below.alloc ?_ ?_ _) | (with_reducible exact Below.refl _ _) | (with_reducible exact Nat.le_refl _) | (simp; done) | omega | (simp; omega))
set_option maxRecDepth 100000 in
set_option maxHeartbeats 1000000 in
theorem box_recv (w : World) (b : Nat) (B : List Nat) (s : IS) (h : BoxAt w b B s) :
    Calls Try.prog 15 #[.pointer (some ⟨b, 0, none⟩)] w fun e w' => e = .returned (.tuple #[s.recv.2.1.val, .int .i64 s.recv.2.2]) ∧ BoxAt w' b B s.recv.1 ∧ Only B w w' := by
  have hok2 := h.ok.recv
  have hlts := h.lt
  rw [recv_eq] at hok2 ⊢
  dsimp only at hok2 ⊢
  obtain ⟨qb, qg, wb, nb, rs, rfl, hr⟩ := h
  obtain ⟨c0, c1, c2⟩ := hr.cells
  have hbl := block_lt hr.obj
  have HP := fun w' (hw : RingK w' qb qg rs) => ringK_pop w' qb qg rs hw
  rw [hr.rq, hr.head.1] at HP
  have hfq := free_q hr.rl
  rw [hr.rq, hr.rn] at hfq
  generalize rs.free = rs2 at *
  generalize s.q.headD Pk.zero = y at *
  generalize s.peekE = pe at *
  obtain ⟨y0, y1, y2, y3⟩ := y
  have hz : w.heap.size ∉ [qb, qg] := off2 (Nat.ne_of_gt (hlts _ (by simp))) (Nat.ne_of_gt (hlts _ (by simp)))
  have HP2 := Lib.hid HP
  have HR := Lib.hid hr
  have HOK := Lib.hid hok2
  have HFQ := Lib.hid hfq
  clear HP hr hok2 hfq hlts
  go_enter Try.func15, Try.ntmps15
  go_wp2_with (first | (go_at_call 58; ((with_reducible refine (HP2.out _ (HR.out.ring.only (S := []) ((Only.refl _ _).alloc _) (by simp) (by simp))).mono ?_); rintro e w1 ⟨rfl, hR1, hO1⟩; have hz1 := hO1.at (alloc_new _) hz; have fz := fun j => cell_at hz1 j; have uz := fun j => frozen_at hz1 j; have HZ1 := Lib.hid hz1; have HR1 := Lib.hid hR1; have HO1 := Lib.hid hO1; clear hz1 hR1 hO1)))
  have hr := HR.out
  have hT : Only [qb, qg] w w1 := ((Only.refl _ _).alloc _).trans HO1.out
  obtain ⟨n1, n2, n3, n4, n5, n6, n7, n8, n9, n10⟩ := nodup5 hr.nd
  have hB1 : BoxRaw w1 b qb qg wb nb { s with q := s.q.tail } rs2 := ⟨HOK.out, hT.at hr.obj (off2 n1 n2), HR1.out, HFQ.out.1, HFQ.out.2.1, HFQ.out.2.2, hr.wa.only hT (off2 n6.symm n8.symm), hr.na.only hT (off2 n7.symm n9.symm), hr.nd⟩
  refine bodyPost_ret (res_row_tmp rfl _ _ w.heap.size 30 _ (0, 0) _ rfl (stored4 HZ1.out) Try.underlying30 rfl (by kernel_rfl)) rfl ⟨rfl, ⟨qb, qg, wb, nb, rs2, rfl, hB1.only (S := [w.heap.size]) (((((Only.refl _ _).setCell (by simp) _).setCell (by simp) _).setCell (by simp) _).setCell (by simp) _) (fun k hk => off1 (Nat.ne_of_lt (hr.lt k hk)))⟩, ?_⟩
  exact ((((hT.mono (by simp)).setCell' (Nat.le_refl _) _).setCell' (Nat.le_refl _) _).setCell' (Nat.le_refl _) _).setCell' (Nat.le_refl _) _
set_option maxRecDepth 100000 in
set_option maxHeartbeats 1000000 in
theorem box_peek (w : World) (b : Nat) (B : List Nat) (s : IS) (h : BoxAt w b B s) :
    Calls Try.prog 27 #[.pointer (some ⟨b, 0, none⟩)] w fun e w' => e = .returned (.tuple #[(s.q.headD Pk.zero).val, .int .i64 s.peekE]) ∧ Below w.heap.size w w' := by
  obtain ⟨qb, qg, wb, nb, rs, rfl, hr⟩ := h
  obtain ⟨c0, c1, c2⟩ := hr.cells
  have hbl := block_lt hr.obj
  have HP := fun w' (hw : RingK w' qb qg rs) => ringK_peek w' qb qg rs hw
  rw [hr.rq, hr.head.1] at HP
  generalize s.q.headD Pk.zero = y at *
  generalize s.peekE = pe at *
  obtain ⟨y0, y1, y2, y3⟩ := y
  have HP2 := Lib.hid HP
  have HR := Lib.hid hr
  clear HP hr
  go_enter Try.func27, Try.ntmps27
  go_wp2_with (first | (go_at_call 60; ((with_reducible refine (HP2.out _ (HR.out.ring.only (S := []) ((Only.refl _ _).alloc _) (by simp) (by simp))).mono ?_); rintro e w1 ⟨rfl, hb1⟩; have hz1 := Below.at hb1 (alloc_new _) (by simp); have fz := fun j => cell_at hz1 j; have uz := fun j => frozen_at hz1 j; have HZ1 := Lib.hid hz1; have hB1 : Below w.heap.size w w1 := Below.trans ((Below.refl _ _).alloc (Nat.le_refl _) _) (hb1.mono (by simp)); have HB1 := Lib.hid hB1; clear hz1 hb1 hB1)))
  refine bodyPost_ret (res_row_tmp rfl _ _ w.heap.size 30 _ (0, 0) _ rfl (stored4 HZ1.out) Try.underlying30 rfl (by kernel_rfl)) rfl ⟨rfl, ?_⟩
  have hB := HB1.out
  repeat' (first | (with_reducible assumption) | (with_reducible refine below_setRowN ?_ ?_ _) | (with_reducible refine Below.setCell ?_ ?_ _) | (with_reducible refine below_drewN' ?_ _) | (with_reducible refine Below.drew ?_) | (with_reducible refine Below.alloc ?_ ?_ _) | (with_reducible exact Below.refl _ _) | (with_reducible exact Nat.le_refl _) | (simp; done) | omega | (simp; omega))
end Go.Proofs.Ytajbfmdgnkpjgaa
