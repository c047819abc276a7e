/- An inbox: New, Len, Room, Waits, Next, Peek, Recv. -/
import Derived.Test.YtajbfmdgnkpjgaaInboxA
namespace Go.Proofs.Ytajbfmdgnkpjgaa
set_option linter.unusedVariables false
set_option linter.unusedSimpArgs false
open Go.RowKit Go.ChangeMaps Go.WideShapes Go.WideMaps
theorem off1 {k x : Nat} (h : k ≠ x) : k ∉ [x] := by simp [h]
theorem off2 {k x y : Nat} (h1 : k ≠ x) (h2 : k ≠ y) : k ∉ [x, y] := by simp [h1, h2]
theorem BoxRaw.head {w : World} {b qb qg wb nb : Nat} {s : IS} {rs : RS Pk} (h : BoxRaw w b qb qg wb nb s rs) : rs.peekE = s.peekE ∧ rs.room = (s.n : Int) - (s.q.length : Int) := by
  refine ⟨by unfold RS.peekE IS.peekE; rw [h.rq], ?_⟩
  unfold RS.room; rw [h.rl, h.rn, h.rq]; simp
theorem box_len (w : World) (b : Nat) (B : List Nat) (s : IS) (h : BoxAt w b B s) :
    Calls Try.prog 17 #[.pointer (some ⟨b, 0, none⟩)] w fun e w' => e = .returned (.int .i64 (s.q.length : Int)) ∧ ∃ k, w' = w.drewN k := by
  obtain ⟨qb, qg, wb, nb, rs, rfl, hr⟩ := h
  obtain ⟨c0, c1, c2⟩ := hr.cells
  have HP := fun w' (hw : RingK w' qb qg rs) => ringK_len w' qb qg rs hw
  rw [hr.rq] at HP
  generalize s.q.length = x at *
  have HP2 := Lib.hid HP
  have HR := Lib.hid hr.ring
  clear HP hr
  go_enter Try.func17, Try.ntmps17
  go_wp2_with (first | (go_at_call 59; ((with_reducible refine (HP2.out _ (by first | exact HR.out | exact HR.out.drewN _)).mono ?_); rintro e w' ⟨rfl, k, rfl⟩)))
  go_ret
  exact ⟨rfl, by first | exact ⟨0, rfl⟩ | exact drew_close1 | exact drew_close0⟩
theorem box_room (w : World) (b : Nat) (B : List Nat) (s : IS) (h : BoxAt w b B s) :
    Calls Try.prog 28 #[.pointer (some ⟨b, 0, none⟩)] w fun e w' => e = .returned (.int .i64 ((s.n : Int) - (s.q.length : Int))) ∧ ∃ k, w' = w.drewN k := by
  obtain ⟨qb, qg, wb, nb, rs, rfl, hr⟩ := h
  obtain ⟨c0, c1, c2⟩ := hr.cells
  have HP := fun w' (hw : RingK w' qb qg rs) => ringK_room w' qb qg rs hw
  rw [hr.head.2] at HP
  generalize (s.n : Int) - (s.q.length : Int) = x at *
  have HP2 := Lib.hid HP
  have HR := Lib.hid hr.ring
  clear HP hr
  go_enter Try.func28, Try.ntmps28
  go_wp2_with (first | (go_at_call 61; ((with_reducible refine (HP2.out _ (by first | exact HR.out | exact HR.out.drewN _)).mono ?_); rintro e w' ⟨rfl, k, rfl⟩)))
  go_ret
  exact ⟨rfl, by first | exact ⟨0, rfl⟩ | exact drew_close1 | exact drew_close0⟩
theorem box_waits (w : World) (b : Nat) (B : List Nat) (s : IS) (h : BoxAt w b B s) :
    Calls Try.prog 16 #[.pointer (some ⟨b, 0, none⟩)] w fun e w' => e = .returned (.int .i64 (s.ws.length : Int)) ∧ ∃ k, w' = w.drewN k := by
  obtain ⟨qb, qg, wb, nb, rs, rfl, hr⟩ := h
  obtain ⟨c0, c1, c2⟩ := hr.cells
  obtain ⟨es, c, h1, h2⟩ := hr.wa
  have hl := fun ty => len_raw (w := w) ty Try.underlying103 h1 h2
  generalize s.ws.length = x at *
  clear hr h1 h2
  go_enter Try.func16, Try.ntmps16
  go_wp2
  go_ret
  exact ⟨rfl, by first | exact ⟨0, rfl⟩ | exact drew_close1 | exact drew_close0⟩
theorem box_next (w : World) (b : Nat) (B : List Nat) (s : IS) (x : Int) (hx : (Lit.int .i64 x).wf = true) (h : BoxAt w b B s) :
    Calls Try.prog 19 #[.pointer (some ⟨b, 0, none⟩), .int .i64 x] w fun e w' => e = .returned (.int .i64 (s.next x)) ∧ ∃ k, w' = w.drewN k := by
  obtain ⟨qb, qg, wb, nb, rs, rfl, hr⟩ := h
  obtain ⟨c0, c1, c2⟩ := hr.cells
  have hl := hr.na.look x hx
  unfold IS.next
  generalize lookI s.nx x = y at *
  clear hr
  go_enter Try.func19, Try.ntmps19
  go_wp2
  go_ret
  exact ⟨rfl, by first | exact ⟨0, rfl⟩ | exact drew_close1 | exact drew_close0⟩
theorem pk_self (a b c : Int) (d : ByteArray) (w : World) : Sem.run Try.prog (binOp BinOp.eql 30 (.agg #[.int .i64 a, .int .i64 b, .int .i64 c, .string d]) (.agg #[.int .i64 a, .int .i64 b, .int .i64 c, .string d])) w = .ok (.bool true) w := by go_simp
end Go.Proofs.Ytajbfmdgnkpjgaa
