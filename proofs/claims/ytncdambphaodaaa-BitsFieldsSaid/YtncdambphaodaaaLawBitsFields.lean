/- The walk of BitsFields. -/
import Derived.Test.YtncdambphaodaaaBitsLives
import Derived.Test.YtncdambphaodaaaRefBitsA
namespace Go.Proofs.Ytncdambphaodaaa
set_option linter.unusedVariables false
open Go.RowKit BM

theorem bitsFields_walk (x a n v : Int) (w : World) (hx0 : 0 ≤ x) (hx1 : x < 18446744073709551616) (hv0 : 0 ≤ v) (hv1 : v < 4294967296) :
    Calls Try.prog 7 #[.int .u64 x, .agg #[.int .i64 a, .int .i64 n], .int .u32 v] w fun e w' => e = .returned (.bool true) ∧ Below w.heap.size w w' := by
  have C1 := Lib.hid (fun w => get_calls x a n w hx0 hx1)
  have C2 := Lib.hid (fun w => rget_calls x a n w hx0 hx1)
  have C3 := Lib.hid (fun w => put_calls x a n v w hx0 hx1 hv0 hv1)
  have C4 := Lib.hid (fun w => rput_calls x a n v w hx0 hx1 hv0 hv1)
  generalize getR x.toNat a n = g at *
  generalize putR x.toNat a n v.toNat = p at *
  obtain ⟨g1, g2⟩ := g
  obtain ⟨p1, p2⟩ := p
  dsimp only at C1 C2 C3 C4
  go_enter Try.func7, Try.ntmps7
  go_wp2_with (first
    | (go_at_call 15; refine (lives02_calls _).mono ?_; rintro e w1 ⟨rfl, hb⟩; have h0 := laid_cell hb (by simp) 0; have h1 := laid_cell hb (by simp) 1; have HB := Lib.hid hb; clear hb; simp at h0 h1)
    | (go_at_call 28; refine (C1.out _).mono ?_; rintro e w' ⟨rfl, k, rfl⟩)
    | (go_at_call 29; refine (C2.out _).mono ?_; rintro e w' ⟨rfl, k, rfl⟩)
    | (go_at_call 27; refine (C3.out _).mono ?_; rintro e w' ⟨rfl, k, rfl⟩)
    | (go_at_call 30; refine (C4.out _).mono ?_; rintro e w' ⟨rfl, k, rfl⟩))
  go_ret
  refine ⟨rfl, below_drewN' ?_ _⟩
  refine Below.trans ?_ (HB.out.mono ?_)
  · repeat' (first | (with_reducible exact Below.refl _ _) | (with_reducible assumption) | (with_reducible refine below_drewN' ?_ _) | (with_reducible refine Below.drew ?_) | (with_reducible refine Below.alloc ?_ ?_ _) | (with_reducible exact Nat.le_refl _) | (simp; done) | (simp; omega))
  · simp
end Go.Proofs.Ytncdambphaodaaa
