/- The reference's Read of any word; '!=' of flits; what the flit laws share. -/
import Derived.Test.YtpklblaenfhncaaRefFlitF
namespace Go.Proofs.Ytpklblaenfhncaa
set_option linter.unusedVariables false
open Go.RowKit BM
theorem rflit_read (x : Nat) (hx : x < 2 ^ 64) (w : World) :
    Calls Try.prog 15 #[.int .u64 (x : Int)] w fun e w' => e = .returned (.tuple #[(readF x).1.val, .int .i64 (readF x).2]) ∧ Below w.heap.size w w' := by
  by_cases h : rightB x = true
  · by_cases hk : getN x 0 2 = 1
    · exact rread_head x hx w h hk
    · exact rread_data x hx w h hk
  · have h' := Bool.eq_false_iff.2 h
    rw [readF_sum h']
    exact rread_sum x hx w h'
theorem fl_neq (k s d q l : Int) (m c : Bool) (b : ByteArray) (k' s' d' q' l' : Int) (m' c' : Bool) (b' : ByteArray) (w : World) :
    Sem.run Try.prog (binOp BinOp.neq 32 (.agg #[.int .i64 k, .int .i64 s, .int .i64 d, .int .i64 q, .int .i64 l, .bool m, .bool c, .string b]) (.agg #[.int .i64 k', .int .i64 s', .int .i64 d', .int .i64 q', .int .i64 l', .bool m', .bool c', .string b'])) w = .ok (.bool (!flEq ⟨k, s, d, q, l, m, c, b⟩ ⟨k', s', d', q', l', m', c', b'⟩)) w := by
  unfold flEq
  by_cases h1 : k = k'
  rotate_left; · go_simp
  subst h1
  by_cases h2 : s = s'
  rotate_left; · go_simp
  subst h2
  by_cases h3 : d = d'
  rotate_left; · go_simp
  subst h3
  by_cases h4 : q = q'
  rotate_left; · go_simp
  subst h4
  by_cases h5 : l = l'
  rotate_left; · go_simp
  subst h5
  by_cases h6 : m = m'
  rotate_left; · go_simp
  subst h6
  by_cases h7 : c = c'
  rotate_left; · go_simp
  subst h7
  by_cases h8 : b = b'
  · subst h8
    go_simp
  · have : b.toList ≠ b'.toList := fun e => h8 (by rw [ByteArray.toList_eq, ByteArray.toList_eq] at e; cases b; cases b'; congr; exact Array.ext' e)
    go_simp
attribute [go_sem ↓] fl_neq
theorem flEq_self (f : Fl) : flEq f f = true := flEq_iff.2 rfl
theorem look_kind (x : Nat) : (lookF x).kind = (getN x 0 2 : Nat) := by
  unfold lookF; split
  · rename_i h; show (1 : Int) = _; omega
  · rfl
theorem word_kind {f : Fl} (h : rightF f = true) : ((getN (wordF f) 0 2 : Nat) : Int) = f.kind := by
  rw [← look_kind, look_write h]
def flAb : Fl := ⟨3, 0, 0, 0, 0, false, false, ⟨#[97, 98]⟩⟩
theorem flAb_right : rightF flAb = true := by decide
theorem writeF_right {f : Fl} (h : rightF f = true) : writeF f = ((wordF f : Int), 0) := by unfold writeF; rw [if_pos h]
end Go.Proofs.Ytpklblaenfhncaa
