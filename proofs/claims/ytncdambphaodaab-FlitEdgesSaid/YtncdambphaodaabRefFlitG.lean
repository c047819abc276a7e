/- The reference's Read of any word; '!=' of flits; what the flit laws share. -/
import Derived.Test.YtncdambphaodaabRefFlitF
namespace Go.Proofs.Ytncdambphaodaab
set_option linter.unusedVariables false
open Go.RowKit BM
theorem rflit_read (x : Nat) (hx : x < 2 ^ 64) (w : World) :
    Calls Try.prog 21 #[.int .u64 (x : Int)] w fun e w' => e = .returned (.tuple #[(readF x).1.val, .int .i64 (readF x).2]) ∧ Below w.heap.size w w' := by
  by_cases h : rightB x = true
  · by_cases hk : getN x 0 2 = 1
    · exact rread_head x hx w h hk
    · exact rread_data x hx w h hk
  · have h' := Bool.eq_false_iff.2 h
    rw [readF_sum h']
    exact rread_sum x hx w h'
theorem fl_neq (k s d q l : Int) (m c : Bool) (b : ByteArray) (k' s' d' q' l' : Int) (m' c' : Bool) (b' : ByteArray) (w : World) :
    Sem.run Try.prog (binOp BinOp.neq 44 (.agg #[.int .i64 k, .int .i64 s, .int .i64 d, .int .i64 q, .int .i64 l, .bool m, .bool c, .string b]) (.agg #[.int .i64 k', .int .i64 s', .int .i64 d', .int .i64 q', .int .i64 l', .bool m', .bool c', .string b'])) w = .ok (.bool (!flEq ⟨k, s, d, q, l, m, c, b⟩ ⟨k', s', d', q', l', m', c', b'⟩)) w := by
  unfold flEq
  by_cases h1 : k = k'
  rotate_left; · go_simp
  subst h1
  by_cases h2 : s = s'
  rotate_left; · go_simp
  subst h2
  by_cases h3 : d = d'
  rotate_left; · go_simp
  subst h3
  by_cases h4 : q = q'
  rotate_left; · go_simp
  subst h4
  by_cases h5 : l = l'
  rotate_left; · go_simp
  subst h5
  by_cases h6 : m = m'
  rotate_left; · go_simp
  subst h6
  by_cases h7 : c = c'
  rotate_left; · go_simp
  subst h7
  by_cases h8 : b = b'
  · subst h8
    go_simp
  · have : b.toList ≠ b'.toList := fun e => h8 (by rw [ByteArray.toList_eq, ByteArray.toList_eq] at e; cases b; cases b'; congr; exact Array.ext' e)
    go_simp
attribute [go_sem ↓] fl_neq
theorem flEq_self (f : Fl) : flEq f f = true := flEq_iff.2 rfl
theorem look_kind (x : Nat) : (lookF x).kind = (getN x 0 2 : Nat) := by
  unfold lookF; split
  · rename_i h; show (1 : Int) = _; omega
  · rfl
theorem word_kind {f : Fl} (h : rightF f = true) : ((getN (wordF f) 0 2 : Nat) : Int) = f.kind := by
  rw [← look_kind, look_write h]
def flAb : Fl := ⟨3, 0, 0, 0, 0, false, false, ⟨#[97, 98]⟩⟩
theorem flAb_right : rightF flAb = true := by decide
theorem writeF_right {f : Fl} (h : rightF f = true) : writeF f = ((wordF f : Int), 0) := by unfold writeF; rw [if_pos h]
theorem lives03_calls (w : World) : Calls Try.prog 18 #[] w fun e w' => e = .returned (.bool true) ∧ Below w.heap.size w w' := by
  have hk := word_kind flAb_right
  have HW : ∀ w, Calls Try.prog 24 #[.agg #[.int .i64 3, .int .i64 0, .int .i64 0, .int .i64 0, .int .i64 0, .bool false, .bool false, .string ⟨#[97, 98]⟩]] w fun e w' => e = .returned (.tuple #[.int .u64 (wordF flAb : Nat), .int .i64 0]) ∧ Below w.heap.size w w' := fun w => by
    have := flit_write flAb w
    rw [writeF_right flAb_right] at this
    exact this
  have hR : ∀ w, Calls Try.prog 20 #[.int .u64 (wordF flAb : Nat)] w fun e w' => e = .returned (.tuple #[.agg #[.int .i64 3, .int .i64 0, .int .i64 0, .int .i64 0, .int .i64 0, .bool false, .bool false, .string ⟨#[97, 98]⟩], .int .i64 0]) ∧ Below w.heap.size w w' := fun w => by
    have := flit_read (wordF flAb) (wordF_lt flAb) w
    rw [read_write flAb_right] at this
    exact this
  have hB := fun w => right_calls (wordF flAb : Int) w (by omega) (by have := wordF_lt flAb; omega)
  have hK := fun w => flit_kind (wordF flAb) (wordF_lt flAb) w
  rw [Int.toNat_natCast, right_word] at hB
  rw [hk, show flAb.kind = 3 from rfl] at hK
  generalize wordF flAb = x at *
  have HW2 := Lib.hid HW
  have HR2 := Lib.hid hR
  have HB2 := Lib.hid hB
  have HK2 := Lib.hid hK
  clear HW hR hB hK hk
  go_enter Try.func18, Try.ntmps18
  go_wp2_with (first
    | (go_at_call 24; ((with_reducible refine (HW2.out _).mono ?_); rintro e w1 ⟨rfl, hb1⟩))
    | (go_at_call 20; ((with_reducible refine (HR2.out _).mono ?_); rintro e w2 ⟨rfl, hb2⟩))
    | (go_at_call 22; ((with_reducible refine (HK2.out _).mono ?_); rintro e w' ⟨rfl, k, rfl⟩))
    | (go_at_call 37; ((with_reducible refine (HB2.out _).mono ?_); rintro e w' ⟨rfl, k, rfl⟩)))
  go_ret
  have hbb := hb1.trans (hb2.mono hb1.size)
  refine ⟨rfl, ?_⟩
  have := hbb.size
  repeat' (first | (with_reducible exact Below.refl _ _) | (with_reducible assumption) | (with_reducible refine below_drewN' ?_ _) | (with_reducible refine Below.drew ?_) | (with_reducible refine Below.alloc ?_ ?_ _) | (with_reducible exact Nat.le_refl _) | omega | (simp; done) | (simp; omega))
end Go.Proofs.Ytncdambphaodaab
