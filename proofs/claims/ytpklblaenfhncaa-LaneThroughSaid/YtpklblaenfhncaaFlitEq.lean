/- Two flits, side by side: how '==' runs. -/
import Derived.Test.YtpklblaenfhncaaFlitMath
import Derived.Test.YtpklblaenfhncaaKit2
namespace Go.Proofs.Ytpklblaenfhncaa
set_option linter.unusedVariables false
open Go.RowKit BM
abbrev Fl.val (f : Fl) : Value := .agg #[.int .i64 f.kind, .int .i64 f.src, .int .i64 f.dst, .int .i64 f.seq, .int .i64 f.len, .bool f.more, .bool f.cast, .string f.data]
def flEq (f g : Fl) : Bool := decide (f.kind = g.kind) && (decide (f.src = g.src) && (decide (f.dst = g.dst) && (decide (f.seq = g.seq) && (decide (f.len = g.len) && (decide (f.more = g.more) && (decide (f.cast = g.cast) && decide (f.data = g.data)))))))
theorem flEq_iff {f g : Fl} : flEq f g = true ↔ f = g := by
  unfold flEq
  simp only [Bool.and_eq_true, decide_eq_true_eq]
  constructor
  · rintro ⟨h1, h2, h3, h4, h5, h6, h7, h8⟩; exact Fl.ext' h1 h2 h3 h4 h5 h6 h7 h8
  · rintro rfl; simp
theorem fl_eql (k s d q l : Int) (m c : Bool) (b : ByteArray) (k' s' d' q' l' : Int) (m' c' : Bool) (b' : ByteArray) (w : World) :
    Sem.run Try.prog (binOp BinOp.eql 32 (.agg #[.int .i64 k, .int .i64 s, .int .i64 d, .int .i64 q, .int .i64 l, .bool m, .bool c, .string b]) (.agg #[.int .i64 k', .int .i64 s', .int .i64 d', .int .i64 q', .int .i64 l', .bool m', .bool c', .string b']) ) w = .ok (.bool (flEq ⟨k, s, d, q, l, m, c, b⟩ ⟨k', s', d', q', l', m', c', b'⟩)) w := by
  unfold flEq
  by_cases h1 : k = k'
  rotate_left; · go_simp
  subst h1
  by_cases h2 : s = s'
  rotate_left; · go_simp
  subst h2
  by_cases h3 : d = d'
  rotate_left; · go_simp
  subst h3
  by_cases h4 : q = q'
  rotate_left; · go_simp
  subst h4
  by_cases h5 : l = l'
  rotate_left; · go_simp
  subst h5
  by_cases h6 : m = m'
  rotate_left; · go_simp
  subst h6
  by_cases h7 : c = c'
  rotate_left; · go_simp
  subst h7
  by_cases h8 : b = b'
  · subst h8
    go_simp
  · have : b.toList ≠ b'.toList := fun e => h8 (by rw [ByteArray.toList_eq, ByteArray.toList_eq] at e; cases b; cases b'; congr; exact Array.ext' e)
    go_simp
attribute [go_sem ↓] fl_eql
end Go.Proofs.Ytpklblaenfhncaa
