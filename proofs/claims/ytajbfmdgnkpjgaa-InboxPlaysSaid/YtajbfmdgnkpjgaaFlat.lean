/- Rows of structs of several cells, laid flat. -/
import Derived.Test.YtajbfmdgnkpjgaaRdr
namespace Go.Proofs.Ytajbfmdgnkpjgaa
set_option linter.unusedVariables false
open Go.RowKit
theorem flat_len {α : Type} {f : α → List Value} {k : Nat} (hf : ∀ x, (f x).length = k) : ∀ l : List α, (l.flatMap f).length = l.length * k
  | [] => by simp
  | x :: l => by rw [List.flatMap_cons, List.length_append, flat_len hf l, hf, List.length_cons, Nat.succ_mul]; omega
theorem flat_get {α : Type} {f : α → List Value} {k : Nat} (hf : ∀ x, (f x).length = k) (d : α) : ∀ (l : List α) (i j : Nat), i < l.length → j < k → (l.flatMap f)[i * k + j]? = (f (l.getD i d))[j]?
  | [], i, j, h, _ => by simp at h
  | x :: l, 0, j, h, hj => by
    rw [List.flatMap_cons, List.getElem?_append_left (by rw [hf]; omega)]
    simp
  | x :: l, i + 1, j, h, hj => by
    have := flat_get hf d l i j (by simpa using h) hj
    rw [List.flatMap_cons, List.getElem?_append_right (by rw [hf, Nat.succ_mul]; omega), hf, show (i + 1) * k + j - k = i * k + j from by rw [Nat.succ_mul]; omega, this]
    simp
theorem CellsOff.elem {α : Type} {f : α → List Value} {k : Nat} (hf : ∀ x, (f x).length = k) (d : α) {w : World} {a : Option Addr} {l : List α} {S : List Nat} (h : CellsOff w a (l.flatMap f) S) (hk : 0 < k) {i : Nat} (hi : i < l.length) :
    ∃ blk off, a = some ⟨blk, off, none⟩ ∧ blk ∉ S ∧ blk < w.heap.size ∧ ∀ j, j < k → w.cell? ⟨blk, off + i * k + j, none⟩ = (f (l.getD i d))[j]? := by
  have key : ∀ j, j < k → ∃ u, (l.flatMap f)[i * k + j]? = some u ∧ (f (l.getD i d))[j]? = some u := fun j hj => by
    have e := flat_get hf d l i j hi hj
    have : j < (f (l.getD i d)).length := by rw [hf]; exact hj
    exact ⟨_, e.trans (List.getElem?_eq_getElem this), List.getElem?_eq_getElem this⟩
  obtain ⟨u0, e0, _⟩ := key 0 hk
  obtain ⟨blk, off, rfl, hn, hc⟩ := h _ _ e0
  refine ⟨blk, off, rfl, hn, World.block_lt_of_cell? w _ hc, fun j hj => ?_⟩
  obtain ⟨u, e1, e2⟩ := key j hj
  rw [e2, Nat.add_assoc]
  exact h.cell _ _ e1
theorem flat_take {α : Type} {f : α → List Value} {k : Nat} (hf : ∀ x, (f x).length = k) (l : List α) (n : Nat) : (l.take n).flatMap f = (l.flatMap f).take (n * k) := by
  induction l generalizing n with
  | nil => simp
  | cons x l ih =>
    cases n with
    | zero => simp
    | succ n => rw [List.take_succ_cons, List.flatMap_cons, List.flatMap_cons, ih, List.take_append, hf, show (n + 1) * k - k = n * k from by rw [Nat.succ_mul]; omega, List.take_of_length_le (show (f x).length ≤ (n + 1) * k by rw [hf, Nat.succ_mul]; omega)]
theorem flat_snoc {α : Type} (f : α → List Value) (l : List α) (x : α) : (l ++ [x]).flatMap f = l.flatMap f ++ f x := by rw [List.flatMap_append, List.flatMap_singleton]
theorem take_snocD {α : Type} {l : List α} {m : Nat} (h : m < l.length) (d : α) : l.take (m + 1) = l.take m ++ [l.getD m d] := by
  rw [List.take_succ_eq_append_getElem h, List.getD_eq_getElem?_getD, List.getElem?_eq_getElem h]; rfl
theorem owns_aft {w w' : World} {base : Nat} {e : TypeId} {size : Nat} {v : Value} {n : Nat} {xs : List Value} (h : w.ownsRow base e size v n xs) (hb : Below w.heap.size w w') : w'.ownsRow base e size v n xs :=
  ownsRow_only h (Only.ofBelow hb []) (fun k hk => by simp at hk)
theorem owns_base {w : World} {base b2 : Nat} {e : TypeId} {size : Nat} {v : Value} {n : Nat} {xs : List Value} (h : w.ownsRow base e size v n xs) (hb : b2 ≤ base) : w.ownsRow b2 e size v n xs := by
  obtain ⟨h1, h2⟩ := h
  refine ⟨h1, ?_⟩
  rcases h2 with h2 | ⟨g, cap, cur, hv, hg, r⟩
  · exact .inl h2
  · exact .inr ⟨g, cap, cur, hv, Nat.le_trans hb hg, r⟩
/-- A row that was just written out, of elements of several cells. -/
theorem owns_lit {w : World} {base b : Nat} {e : TypeId} (size : Nat) (xs : List Value) {n : Nat} (hb : base ≤ b) (h : w.heap[b]? = some (.cells xs.toArray e (0, 0))) (hl : xs.length = n * size) (hn : n ≤ maxLen) : w.ownsRow base e size (.slice (some ⟨b, 0, none⟩) n n) n xs :=
  ⟨by omega, .inr ⟨b, n, xs.toArray, rfl, hb, h, Nat.le_refl _, hn, by simp [hl], by simp [← hl]⟩⟩
end Go.Proofs.Ytajbfmdgnkpjgaa
