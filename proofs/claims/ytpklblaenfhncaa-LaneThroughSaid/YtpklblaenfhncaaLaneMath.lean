/- A lane as a list: its room, its words, how far its way is known; what each call does to it. -/
import Derived.Test.YtpklblaenfhncaaRefPaD
import Derived.Test.YtpklblaenfhncaaRingV
namespace Go.Proofs.Ytpklblaenfhncaa
set_option linter.unusedVariables false
open BM
structure LN where
  n : Nat
  q : List Nat
  ph : Int
  pt : Int
  ln : Int
  cp : Bool
structure LO where
  pt : Int
  ln : Int
  x : Nat
  cp : Bool
  ends : Bool
abbrev LO.val (o : LO) : Value := .agg #[.int .i64 o.pt, .int .i64 o.ln, .int .u64 (o.x : Int), .bool o.cp, .bool o.ends]
def LO.zero : LO := ⟨0, 0, 0, false, false⟩
namespace LN
def new (room : Int) : LN := ⟨(min (max room 1) 64).toNat, [], 0, 0, 0, false⟩
structure Ok (s : LN) : Prop where
  n1 : 1 ≤ s.n
  n2 : s.n ≤ 64
  le : s.q.length ≤ s.n
  lt : ∀ x ∈ s.q, x < 2 ^ 64
def put (s : LN) (x : Nat) : LN × Int := if s.q.length = s.n then (s, 7) else ({ s with q := s.q ++ [x] }, 0)
def peekE (s : LN) : Int := if s.q.length = 0 then 8 else 0
def moreF (x : Nat) : Bool := decide ((readF x).1.kind = 1) && (readF x).1.more
/-- The way of a Head; where it leads: by a port that is told. -/
def findF (s : LN) (r : Fl × Int) (node port : Int) : LN × Bool :=
  if r.2 ≠ 0 then (s, false) else if r.1.kind ≠ 1 then (s, false)
  else if r.1.dst = node then ({ s with ph := 2, pt := 0, ln := 0 }, true)
  else if port ≤ 0 then (s, false) else if 5 ≤ port then (s, false)
  else ({ s with ph := 1, pt := port, ln := 0 }, true)
def find (s : LN) (node port : Int) : LN × Bool :=
  if s.q.length = 0 then (s, false) else if s.ph ≠ 0 then (s, false) else findF s (readF (s.q.headD 0)) node port
def give (s : LN) (l : Int) : LN × Bool := if s.ph ≠ 1 then (s, false) else ({ s with ph := 2, ln := l }, true)
def outF (s : LN) (x : Nat) : LO := ⟨s.pt, s.ln, x, decide (s.pt ≠ 0) && (s.cp && decide (getN x 0 2 ≠ 1)), decide (getN x 0 2 = 3)⟩
def takeF (s : LN) (x : Nat) : LN :=
  if getN x 0 2 = 3 then { s with q := s.q.tail, ph := 0, pt := 0, ln := 0, cp := false }
  else if s.pt = 0 ∧ moreF x = true then { s with q := s.q.tail, ph := 0, pt := 0, ln := 0, cp := true }
  else { s with q := s.q.tail }
def take (s : LN) : LN × LO × Int :=
  if s.ph ≠ 2 then (s, LO.zero, 13) else if s.q.length = 0 then (s, LO.zero, 8)
  else (s.takeF (s.q.headD 0), s.outF (s.q.headD 0), 0)
theorem new_ok (room : Int) : (new room).Ok := ⟨by show 1 ≤ (min (max room 1) 64).toNat; omega, by show (min (max room 1) 64).toNat ≤ 64; omega, by show 0 ≤ _; omega, by intro x hx; simp [new] at hx⟩
theorem Ok.put {s : LN} (h : s.Ok) {x : Nat} (hx : x < 2 ^ 64) : (s.put x).1.Ok := by
  unfold LN.put; split
  · exact h
  · rename_i hn
    have := h.le
    refine ⟨h.n1, h.n2, ?_, ?_⟩
    · show (s.q ++ [x]).length ≤ s.n
      rw [List.length_append]; simp; omega
    · intro y hy
      have hy' : y ∈ s.q ++ [x] := hy
      rcases List.mem_append.1 hy' with h1 | h1
      · exact h.lt y h1
      · rw [List.mem_singleton.1 h1]; exact hx
theorem ok_same {s t : LN} (h : s.Ok) (hn : t.n = s.n) (hq : t.q = s.q) : t.Ok := ⟨hn ▸ h.n1, hn ▸ h.n2, by rw [hn, hq]; exact h.le, by rw [hq]; exact h.lt⟩
theorem ok_tail {s t : LN} (h : s.Ok) (hn : t.n = s.n) (hq : t.q = s.q.tail) : t.Ok := ⟨hn ▸ h.n1, hn ▸ h.n2, by rw [hn, hq, List.length_tail]; have := h.le; omega, by rw [hq]; intro x hx; exact h.lt x (List.mem_of_mem_tail hx)⟩
theorem findF_same (s : LN) (r : Fl × Int) (node port : Int) : (s.findF r node port).1.n = s.n ∧ (s.findF r node port).1.q = s.q ∧ (s.findF r node port).1.cp = s.cp := by
  unfold findF; repeat' split
  all_goals exact ⟨rfl, rfl, rfl⟩
theorem find_same (s : LN) (node port : Int) : (s.find node port).1.n = s.n ∧ (s.find node port).1.q = s.q ∧ (s.find node port).1.cp = s.cp := by
  unfold find; split
  · exact ⟨rfl, rfl, rfl⟩
  · split
    · exact ⟨rfl, rfl, rfl⟩
    · exact findF_same ..
theorem Ok.find {s : LN} (h : s.Ok) (node port : Int) : (s.find node port).1.Ok := ok_same h (find_same s node port).1 (find_same s node port).2.1
theorem Ok.give {s : LN} (h : s.Ok) (l : Int) : (s.give l).1.Ok := by unfold LN.give; split; exact h; exact ok_same h rfl rfl
theorem takeF_same (s : LN) (x : Nat) : (s.takeF x).n = s.n ∧ (s.takeF x).q = s.q.tail := by
  unfold takeF; repeat' split
  all_goals exact ⟨rfl, rfl⟩
theorem Ok.take {s : LN} (h : s.Ok) : s.take.1.Ok := by
  unfold LN.take; split
  · exact h
  · split
    · exact h
    · exact ok_tail h (takeF_same ..).1 (takeF_same ..).2
theorem Ok.head {s : LN} (h : s.Ok) : s.q.headD 0 < 2 ^ 64 := by
  cases hq : s.q with
  | nil => show 0 < 2 ^ 64; decide
  | cons x l => exact h.lt x (by rw [hq]; simp)
end LN
end Go.Proofs.Ytpklblaenfhncaa
