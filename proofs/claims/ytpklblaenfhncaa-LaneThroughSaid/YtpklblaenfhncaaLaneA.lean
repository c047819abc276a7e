/- A lane in memory; New, Put, Peek, Give, and what those of its methods answer that only look. -/
import Derived.Test.YtpklblaenfhncaaLaneMath
import Derived.Test.YtpklblaenfhncaaPaMem
namespace Go.Proofs.Ytpklblaenfhncaa
set_option linter.unusedVariables false
set_option linter.unusedSimpArgs false
open Go.RowKit
/-- A lane in memory, by its blocks. -/
structure LaneRaw (w : World) (b bb bg : Nat) (s : LN) (rs : RS Int) : Prop where
  ok : s.Ok
  obj : w.heap[b]? = some (.cells #[.pointer (some ⟨bb, 0, none⟩), .int .i64 s.ph, .int .i64 s.pt, .int .i64 s.ln, .bool s.cp] 88 (0, 0))
  ring : RingAt w bb bg rs
  rq : rs.q = s.q.map (fun x : Nat => (x : Int))
  rl : rs.ld = none
  rn : rs.n = s.n
  n1 : b ≠ bb
  n2 : b ≠ bg
def LaneAt (w : World) (b : Nat) (B : List Nat) (s : LN) : Prop := ∃ bb bg rs, B = [b, bb, bg] ∧ LaneRaw w b bb bg s rs
theorem LaneRaw.only {w w' : World} {b bb bg : Nat} {s : LN} {rs : RS Int} {S : List Nat} (h : LaneRaw w b bb bg s rs) (ho : Only S w w') (hS : ∀ k ∈ [b, bb, bg], k ∉ S) : LaneRaw w' b bb bg s rs :=
  ⟨h.ok, ho.at h.obj (hS _ (by simp)), h.ring.only ho (hS _ (by simp)) (hS _ (by simp)), h.rq, h.rl, h.rn, h.n1, h.n2⟩
theorem LaneAt.ok {w : World} {b : Nat} {B : List Nat} {s : LN} (h : LaneAt w b B s) : s.Ok := by obtain ⟨_, _, _, _, h⟩ := h; exact h.ok
theorem LaneAt.lt {w : World} {b : Nat} {B : List Nat} {s : LN} (h : LaneAt w b B s) : ∀ k ∈ B, k < w.heap.size := by
  obtain ⟨bb, bg, rs, rfl, h⟩ := h
  intro k hk
  simp only [List.mem_cons, List.not_mem_nil, or_false] at hk
  rcases hk with rfl | rfl | rfl
  · exact block_lt h.obj
  · exact h.ring.lt.1
  · exact h.ring.lt.2
theorem LaneAt.mem {w : World} {b : Nat} {B : List Nat} {s : LN} (h : LaneAt w b B s) : b ∈ B := by obtain ⟨_, _, _, rfl, h⟩ := h; simp
theorem LaneAt.only {w w' : World} {b : Nat} {B S : List Nat} {s : LN} (h : LaneAt w b B s) (ho : Only S w w') (hS : ∀ k ∈ B, k ∉ S) : LaneAt w' b B s := by
  obtain ⟨bb, bg, rs, rfl, h⟩ := h
  exact ⟨bb, bg, rs, rfl, h.only ho hS⟩
theorem LaneAt.below {w w' : World} {b : Nat} {B : List Nat} {s : LN} (h : LaneAt w b B s) (hb : Below w.heap.size w w') : LaneAt w' b B s :=
  h.only (S := []) (Only.ofBelow hb _) (fun k _ => by simp)
theorem LaneAt.drewN {w : World} {b : Nat} {B : List Nat} {s : LN} (h : LaneAt w b B s) (n : Nat) : LaneAt (w.drewN n) b B s := h.only (S := []) ((Only.refl _ _).drewN n) (fun k _ => by simp)
theorem LaneAt.drew {w : World} {b : Nat} {B : List Nat} {s : LN} (h : LaneAt w b B s) : LaneAt w.drew b B s := h.only (S := []) ((Only.refl _ _).drew) (fun k _ => by simp)
theorem LaneAt.alloc {w : World} {b : Nat} {B : List Nat} {s : LN} (h : LaneAt w b B s) (o : Obj) : LaneAt (w.alloc o) b B s := h.only (S := []) ((Only.refl _ _).alloc o) (fun k _ => by simp)
theorem LaneRaw.cells {w : World} {b bb bg : Nat} {s : LN} {rs : RS Int} (h : LaneRaw w b bb bg s rs) :
    w.cell? ⟨b, 0, none⟩ = some (.pointer (some ⟨bb, 0, none⟩)) ∧ w.cell? ⟨b, 1, none⟩ = some (.int .i64 s.ph) ∧ w.cell? ⟨b, 2, none⟩ = some (.int .i64 s.pt) ∧ w.cell? ⟨b, 3, none⟩ = some (.int .i64 s.ln) ∧ w.cell? ⟨b, 4, none⟩ = some (.bool s.cp) :=
  ⟨cell_at h.obj 0, cell_at h.obj 1, cell_at h.obj 2, cell_at h.obj 3, cell_at h.obj 4⟩
theorem head_map (l : List Nat) : (l.map (fun x : Nat => (x : Int))).headD 0 = ((l.headD 0 : Nat) : Int) := by cases l <;> rfl
theorem LaneRaw.head {w : World} {b bb bg : Nat} {s : LN} {rs : RS Int} (h : LaneRaw w b bb bg s rs) : rs.q.headD 0 = ((s.q.headD 0 : Nat) : Int) ∧ rs.q.length = s.q.length ∧ rs.peekE = s.peekE := by
  have hl : rs.q.length = s.q.length := by rw [h.rq, List.length_map]
  exact ⟨by rw [h.rq, head_map], hl, by unfold RS.peekE LN.peekE; rw [hl]⟩
theorem push_ok {α : Type} {s : RS α} (v : α) (h : s.ld = none) (hn : s.q.length ≠ s.n) : (s.push v).2 = 0 ∧ (s.push v).1.q = s.q ++ [v] ∧ (s.push v).1.ld = none ∧ (s.push v).1.n = s.n := by
  unfold RS.push
  rw [if_neg (by rw [h]; simp), if_neg hn]
  exact ⟨rfl, rfl, h, rfl⟩
theorem push_full {α : Type} {s : RS α} (v : α) (h : s.ld = none) (hn : s.q.length = s.n) : s.push v = (s, 7) := by
  unfold RS.push
  rw [if_neg (by rw [h]; simp), if_pos hn]
theorem off2 {k x y : Nat} (h1 : k ≠ x) (h2 : k ≠ y) : k ∉ [x, y] := by simp [h1, h2]
theorem off1 {k x : Nat} (h : k ≠ x) : k ∉ [x] := by simp [h]
theorem lane_new (room : Int) (w : World) :
    Calls Try.prog 11 #[.int .i64 room] w fun e w' => ∃ b B, e = .returned (.pointer (some ⟨b, 0, none⟩)) ∧ LaneAt w' b B (LN.new room) ∧ (∀ k ∈ B, w.heap.size ≤ k) ∧ Below w.heap.size w w' := by
  have HN := Lib.hid (fun w => ring_new (min (max room 1) 64) 0 w (by decide) (by decide))
  go_enter Try.func11, Try.ntmps11
  go_wp2_with (first | (go_at_call 41; ((with_reducible refine (HN.out _).mono ?_); rintro e w1 ⟨bb, bg, rfl, hR, h1, h2, hb1⟩)))
  go_ret
  have hlt := hR.lt
  refine ⟨_, [w1.heap.size, bb, bg], rfl, ⟨bb, bg, _, rfl, LN.new_ok room, alloc_new _, hR.only (S := []) ((Only.refl _ _).alloc _) (by simp) (by simp), rfl, rfl, ?_, by omega, by omega⟩, ?_, hb1.alloc hb1.size _⟩
  · show (min (max (min (max room 1) 64) 1) 4096).toNat = (min (max room 1) 64).toNat
    omega
  · intro k hk
    have := hb1.size
    simp only [List.mem_cons, List.not_mem_nil, or_false] at hk
    rcases hk with rfl | rfl | rfl <;> omega
theorem put_same (s : LN) (x : Nat) : (s.put x).1.n = s.n ∧ (s.put x).1.ph = s.ph ∧ (s.put x).1.pt = s.pt ∧ (s.put x).1.ln = s.ln ∧ (s.put x).1.cp = s.cp := by unfold LN.put; split <;> exact ⟨rfl, rfl, rfl, rfl, rfl⟩
theorem lane_put (x : Nat) (hx : x < 2 ^ 64) (w : World) (b : Nat) (B : List Nat) (s : LN) (h : LaneAt w b B s) :
    Calls Try.prog 14 #[.pointer (some ⟨b, 0, none⟩), .int .u64 (x : Int)] w fun e w' => e = .returned (.int .i64 (s.put x).2) ∧ LaneAt w' b B (s.put x).1 ∧ Only B w w' := by
  have hok2 := h.ok.put hx
  obtain ⟨bb, bg, rs, rfl, hr⟩ := h
  obtain ⟨c0, c1, c2, c3, c4⟩ := hr.cells
  have hst : (rs.push (x : Int)).2 = (s.put x).2 ∧ (rs.push (x : Int)).1.q = (s.put x).1.q.map (fun x : Nat => (x : Int)) ∧ (rs.push (x : Int)).1.ld = none ∧ (rs.push (x : Int)).1.n = (s.put x).1.n := by
    by_cases hf : s.q.length = s.n
    · rw [push_full _ hr.rl (by rw [hr.rn, hr.head.2.1]; exact hf)]
      unfold LN.put; rw [if_pos hf]
      exact ⟨rfl, hr.rq, hr.rl, hr.rn⟩
    · have h1 := push_ok (s := rs) (x : Int) hr.rl (by rw [hr.rn, hr.head.2.1]; exact hf)
      unfold LN.put; rw [if_neg hf]
      exact ⟨h1.1, by rw [h1.2.1, hr.rq]; simp, h1.2.2.1, by rw [h1.2.2.2]; exact hr.rn⟩
  have hps := put_same s x
  have HP := fun w' (hw : RingAt w' bb bg rs) => ring_push w' bb bg rs (x : Int) hw
  rw [hst.1] at HP
  generalize (s.put x).2 = r2 at *
  generalize (s.put x).1 = s2 at *
  generalize (rs.push (x : Int)).1 = rs2 at *
  have HP2 := Lib.hid HP
  have HR := Lib.hid hr
  have HOK := Lib.hid hok2
  have HST := Lib.hid hst
  have HPS := Lib.hid hps
  clear HP hr hok2 hst hps
  go_enter Try.func14, Try.ntmps14
  go_wp2_with (first | (go_at_call 44; ((with_reducible refine (HP2.out _ ?_).mono ?_); (first | exact HR.out.ring | exact HR.out.ring.drewN _); rintro e w1 ⟨rfl, hR1, hO1⟩)))
  go_ret
  have hr := HR.out
  have hp := HPS.out
  have hO2 : Only [bb, bg] w w1 := Only.trans (by first | exact Only.refl _ _ | exact (Only.refl _ _).drewN _) hO1
  refine ⟨rfl, ⟨bb, bg, rs2, rfl, HOK.out, ?_, hR1, HST.out.2.1, HST.out.2.2.1, HST.out.2.2.2, hr.n1, hr.n2⟩, hO2.mono (by simp)⟩
  rw [hp.2.1, hp.2.2.1, hp.2.2.2.1, hp.2.2.2.2]
  exact hO2.at hr.obj (off2 hr.n1 hr.n2)
theorem lane_peek (w : World) (b : Nat) (B : List Nat) (s : LN) (h : LaneAt w b B s) :
    Calls Try.prog 26 #[.pointer (some ⟨b, 0, none⟩)] w fun e w' => e = .returned (.tuple #[.int .u64 ((s.q.headD 0 : Nat) : Int), .int .i64 s.peekE]) ∧ ∃ k, w' = w.drewN k := by
  obtain ⟨bb, bg, rs, rfl, hr⟩ := h
  obtain ⟨c0, c1, c2, c3, c4⟩ := hr.cells
  have HP := fun w' (hw : RingAt w' bb bg rs) => ring_peek w' bb bg rs hw
  rw [hr.head.1, hr.head.2.2] at HP
  generalize s.peekE = e1 at *
  generalize s.q.headD 0 = x at *
  have HP2 := Lib.hid HP
  have HR := Lib.hid hr.ring
  clear HP hr
  go_enter Try.func26, Try.ntmps26
  go_wp2_with (first | (go_at_call 53; ((with_reducible refine (HP2.out _ (by first | exact HR.out | exact HR.out.drewN _)).mono ?_); rintro e w' ⟨rfl, k, rfl⟩)))
  go_ret2
  exact ⟨rfl, by first | exact ⟨0, rfl⟩ | exact drew_close1 | exact drew_close0⟩
theorem lane_len (w : World) (b : Nat) (B : List Nat) (s : LN) (h : LaneAt w b B s) :
    Calls Try.prog 18 #[.pointer (some ⟨b, 0, none⟩)] w fun e w' => e = .returned (.int .i64 (s.q.length : Int)) ∧ ∃ k, w' = w.drewN k := by
  obtain ⟨bb, bg, rs, rfl, hr⟩ := h
  obtain ⟨c0, c1, c2, c3, c4⟩ := hr.cells
  have HP := fun w' (hw : RingAt w' bb bg rs) => ring_len w' bb bg rs hw
  rw [hr.head.2.1] at HP
  generalize s.q.length = x at *
  have HP2 := Lib.hid HP
  have HR := Lib.hid hr.ring
  clear HP hr
  go_enter Try.func18, Try.ntmps18
  go_wp2_with (first | (go_at_call 52; ((with_reducible refine (HP2.out _ (by first | exact HR.out | exact HR.out.drewN _)).mono ?_); rintro e w' ⟨rfl, k, rfl⟩)))
  go_ret
  exact ⟨rfl, by first | exact ⟨0, rfl⟩ | exact drew_close1 | exact drew_close0⟩
theorem lane_room (w : World) (b : Nat) (B : List Nat) (s : LN) (h : LaneAt w b B s) :
    Calls Try.prog 27 #[.pointer (some ⟨b, 0, none⟩)] w fun e w' => e = .returned (.int .i64 ((s.n : Int) - (s.q.length : Int))) ∧ ∃ k, w' = w.drewN k := by
  obtain ⟨bb, bg, rs, rfl, hr⟩ := h
  obtain ⟨c0, c1, c2, c3, c4⟩ := hr.cells
  have HP := fun w' (hw : RingAt w' bb bg rs) => ring_room w' bb bg rs hw
  have hro : rs.room = (s.n : Int) - (s.q.length : Int) := by unfold RS.room; rw [hr.rl, hr.rn, hr.head.2.1]; simp
  rw [hro] at HP
  generalize (s.n : Int) - (s.q.length : Int) = x at *
  have HP2 := Lib.hid HP
  have HR := Lib.hid hr.ring
  clear HP hr hro
  go_enter Try.func27, Try.ntmps27
  go_wp2_with (first | (go_at_call 54; ((with_reducible refine (HP2.out _ (by first | exact HR.out | exact HR.out.drewN _)).mono ?_); rintro e w' ⟨rfl, k, rfl⟩)))
  go_ret
  exact ⟨rfl, by first | exact ⟨0, rfl⟩ | exact drew_close1 | exact drew_close0⟩
theorem lane_phase (w : World) (b : Nat) (B : List Nat) (s : LN) (h : LaneAt w b B s) :
    Calls Try.prog 17 #[.pointer (some ⟨b, 0, none⟩)] w fun e w' => e = .returned (.int .i64 s.ph) ∧ ∃ k, w' = w.drewN k := by
  obtain ⟨bb, bg, rs, rfl, hr⟩ := h
  obtain ⟨c0, c1, c2, c3, c4⟩ := hr.cells
  clear hr
  go_enter Try.func17, Try.ntmps17
  go_wp2
  go_ret
  exact ⟨rfl, by first | exact ⟨0, rfl⟩ | exact drew_close1 | exact drew_close0⟩
theorem lane_port (w : World) (b : Nat) (B : List Nat) (s : LN) (h : LaneAt w b B s) :
    Calls Try.prog 22 #[.pointer (some ⟨b, 0, none⟩)] w fun e w' => e = .returned (.int .i64 s.pt) ∧ ∃ k, w' = w.drewN k := by
  obtain ⟨bb, bg, rs, rfl, hr⟩ := h
  obtain ⟨c0, c1, c2, c3, c4⟩ := hr.cells
  clear hr
  go_enter Try.func22, Try.ntmps22
  go_wp2
  go_ret
  exact ⟨rfl, by first | exact ⟨0, rfl⟩ | exact drew_close1 | exact drew_close0⟩
theorem lane_given (w : World) (b : Nat) (B : List Nat) (s : LN) (h : LaneAt w b B s) :
    Calls Try.prog 25 #[.pointer (some ⟨b, 0, none⟩)] w fun e w' => e = .returned (.int .i64 s.ln) ∧ ∃ k, w' = w.drewN k := by
  obtain ⟨bb, bg, rs, rfl, hr⟩ := h
  obtain ⟨c0, c1, c2, c3, c4⟩ := hr.cells
  clear hr
  go_enter Try.func25, Try.ntmps25
  go_wp2
  go_ret
  exact ⟨rfl, by first | exact ⟨0, rfl⟩ | exact drew_close1 | exact drew_close0⟩
theorem lane_copies (w : World) (b : Nat) (B : List Nat) (s : LN) (h : LaneAt w b B s) :
    Calls Try.prog 23 #[.pointer (some ⟨b, 0, none⟩)] w fun e w' => e = .returned (.bool s.cp) ∧ ∃ k, w' = w.drewN k := by
  obtain ⟨bb, bg, rs, rfl, hr⟩ := h
  obtain ⟨c0, c1, c2, c3, c4⟩ := hr.cells
  clear hr
  go_enter Try.func23, Try.ntmps23
  go_wp2
  go_ret
  exact ⟨rfl, by first | exact ⟨0, rfl⟩ | exact drew_close1 | exact drew_close0⟩
theorem lane_give (w : World) (b : Nat) (B : List Nat) (s : LN) (l : Int) (h : LaneAt w b B s) :
    Calls Try.prog 20 #[.pointer (some ⟨b, 0, none⟩), .int .i64 l] w fun e w' => e = .returned (.bool (s.give l).2) ∧ LaneAt w' b B (s.give l).1 ∧ Only B w w' := by
  have hok2 := h.ok.give l
  have hh := h
  obtain ⟨bb, bg, rs, rfl, hr⟩ := h
  obtain ⟨c0, c1, c2, c3, c4⟩ := hr.cells
  by_cases hp : s.ph = 1
  · have e1 : s.give l = ({ s with ph := 2, ln := l }, true) := by unfold LN.give; rw [if_neg (by omega)]
    rw [e1] at hok2 ⊢
    have f1 := frozen_at hr.obj 1
    have f3 := frozen_at hr.obj 3
    have hpb : (s.ph != 1) = false := by rw [hp]; rfl
    have HR := Lib.hid hr
    have HOK := Lib.hid hok2
    clear hr hh hok2 e1
    go_enter Try.func20, Try.ntmps20
    go_wp2
    go_ret
    have hr := HR.out
    have hO : Only [b] w ((w.setCell ⟨b, 1, none⟩ (.int .i64 2)).setCell ⟨b, 3, none⟩ (.int .i64 l)) := ((Only.refl _ _).setCell (by simp) _).setCell (by simp) _
    refine ⟨rfl, ⟨bb, bg, rs, rfl, HOK.out, ?_, hr.ring.only hO (off1 hr.n1.symm) (off1 hr.n2.symm), hr.rq, hr.rl, hr.rn, hr.n1, hr.n2⟩, hO.mono (by simp)⟩
    rw [set_at (set_at hr.obj _ _) _ _]; rfl
  · have e1 : s.give l = (s, false) := by unfold LN.give; rw [if_pos hp]
    rw [e1]
    have hpb : (s.ph != 1) = true := bne_iff_ne.2 hp
    clear hr hok2 e1
    have HH := Lib.hid hh
    clear hh
    go_enter Try.func20, Try.ntmps20
    go_wp2
    go_ret
    exact ⟨rfl, by first | exact HH.out | exact HH.out.drewN _, by first | exact Only.refl _ _ | exact (Only.refl _ _).drewN _⟩
end Go.Proofs.Ytpklblaenfhncaa
