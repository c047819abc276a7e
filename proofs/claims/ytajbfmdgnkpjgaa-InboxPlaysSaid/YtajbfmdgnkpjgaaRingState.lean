/- A ring as a list: its room, what it has, what is laid, its counts; and what each call does to it. -/
import Derived.RowKit
namespace Go.Proofs.Ytajbfmdgnkpjgaa
set_option linter.unusedVariables false

structure RS (α : Type) where
  n : Nat
  q : List α
  ld : Option α
  inn : Nat
  out : Nat
namespace RS
variable {α : Type}
/-- ErrState 13, ErrFull 7, ErrEmpty 8. -/
def lay (s : RS α) (v : α) : RS α × Int := if s.ld.isSome = true then (s, 13) else if s.q.length = s.n then (s, 7) else ({ s with ld := some v }, 0)
def publish (s : RS α) : RS α × Int := match s.ld with | none => (s, 13) | some v => ({ s with q := s.q ++ [v], ld := none, inn := (s.inn + 1) % 4294967296 }, 0)
def push (s : RS α) (v : α) : RS α × Int := if s.ld.isSome = true then (s, 13) else if s.q.length = s.n then (s, 7) else ({ s with q := s.q ++ [v], inn := (s.inn + 1) % 4294967296 }, 0)
def peekE (s : RS α) : Int := if s.q.length = 0 then 8 else 0
def free (s : RS α) : RS α := if s.q.length = 0 then s else { s with q := s.q.tail, out := (s.out + 1) % 4294967296 }
def room (s : RS α) : Int := (s.n : Int) - (s.q.length : Int) - (if s.ld.isSome = true then 1 else 0)
def pushAll (s : RS α) : List α → RS α × Nat
  | [] => (s, 0)
  | v :: l => if (s.push v).2 = 0 then ((pushAll (s.push v).1 l).1, (pushAll (s.push v).1 l).2 + 1) else (s, 0)
def popN (s : RS α) : Nat → RS α
  | 0 => s
  | k + 1 => popN s.free k
/-- What is always so. -/
structure Ok (s : RS α) : Prop where
  n1 : 1 ≤ s.n
  n2 : s.n ≤ 4096
  le : s.q.length ≤ s.n
  li : s.inn < 4294967296
  lo : s.out < 4294967296
  cnt : (s.inn + 4294967296 - s.out) % 4294967296 = s.q.length
  laid : s.ld.isSome = true → s.q.length < s.n
theorem Ok.lay {s : RS α} (h : s.Ok) (v : α) : (s.lay v).1.Ok := by
  have h3 := h.le
  unfold RS.lay; split
  · exact h
  · split
    · exact h
    · rename_i h1 h2
      exact ⟨h.n1, h.n2, h.le, h.li, h.lo, h.cnt, fun _ => by show s.q.length < s.n; omega⟩
theorem Ok.publish {s : RS α} (h : s.Ok) : s.publish.1.Ok := by
  unfold RS.publish; split
  · exact h
  · rename_i v e
    have h1 := h.laid (by rw [e]; rfl)
    have h2 := h.cnt; have h3 := h.li; have h4 := h.lo; have h5 := h.n2
    refine ⟨h.n1, h.n2, ?_, Nat.mod_lt _ (by decide), h.lo, ?_, fun e => by simp at e⟩
    · show (s.q ++ [v]).length ≤ s.n; rw [List.length_append]; simp; omega
    · show ((s.inn + 1) % 4294967296 + 4294967296 - s.out) % 4294967296 = (s.q ++ [v]).length
      rw [List.length_append]; simp only [List.length_cons, List.length_nil]; omega
theorem push_eq (s : RS α) (v : α) : s.push v = if (s.lay v).2 = 0 then (s.lay v).1.publish else s.lay v := by
  unfold push lay; split
  · rfl
  · split
    · rfl
    · rename_i h1 h2
      have hn : s.ld = none := by cases e : s.ld with | none => rfl | some x => rw [e] at h1; simp at h1
      simp [publish, hn]
theorem Ok.push {s : RS α} (h : s.Ok) (v : α) : (s.push v).1.Ok := by
  rw [push_eq]; split
  · exact (h.lay v).publish
  · exact h.lay v
theorem Ok.free {s : RS α} (h : s.Ok) : s.free.Ok := by
  have h2 := h.cnt; have h3 := h.li; have h4 := h.lo; have h5 := h.n2; have h6 := h.le
  unfold RS.free; split
  · exact h
  · refine ⟨h.n1, h.n2, ?_, h.li, Nat.mod_lt _ (by decide), ?_, fun e => ?_⟩
    · show s.q.tail.length ≤ s.n; rw [List.length_tail]; omega
    · show (s.inn + 4294967296 - (s.out + 1) % 4294967296) % 4294967296 = s.q.tail.length
      rw [List.length_tail]; omega
    · show s.q.tail.length < s.n
      rw [List.length_tail]; have := h.laid e; omega
theorem Ok.popN {s : RS α} (h : s.Ok) (k : Nat) : (s.popN k).Ok := by
  induction k generalizing s with
  | zero => exact h
  | succ k ih => exact ih h.free
theorem Ok.pushAll {s : RS α} (h : s.Ok) (l : List α) : (s.pushAll l).1.Ok := by
  induction l generalizing s with
  | nil => exact h
  | cons v l ih => unfold RS.pushAll; split; exact ih (h.push v); exact h
theorem push_n (s : RS α) (v : α) : (s.push v).1.n = s.n := by unfold push; split; rfl; split <;> rfl
theorem free_n (s : RS α) : s.free.n = s.n := by unfold free; split <;> rfl
/-- A new one. -/
def new (room : Int) (begin' : Nat) : RS α := { n := (min (max room 1) 4096).toNat, q := [], ld := none, inn := begin', out := begin' }
theorem new_ok (room : Int) (b : Nat) (hb : b < 4294967296) : (new room b : RS α).Ok :=
  ⟨by show 1 ≤ (min (max room 1) 4096).toNat; omega, by show (min (max room 1) 4096).toNat ≤ 4096; omega, Nat.zero_le _, hb, hb, by show (b + 4294967296 - b) % 4294967296 = 0; omega, fun e => by simp [new] at e⟩
end RS
end Go.Proofs.Ytajbfmdgnkpjgaa
