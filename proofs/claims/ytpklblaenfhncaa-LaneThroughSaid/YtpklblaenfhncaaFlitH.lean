/- flit.Read, Same and Kind of anything. -/
import Derived.Test.YtpklblaenfhncaaFlitG
namespace Go.Proofs.Ytpklblaenfhncaa
set_option linter.unusedVariables false
open Go.RowKit BM
theorem flit_read (x : Nat) (hx : x < 2 ^ 64) (w : World) :
    Calls Try.prog 42 #[.int .u64 (x : Int)] w fun e w' => e = .returned (.tuple #[(readF x).1.val, .int .i64 (readF x).2]) ∧ Below w.heap.size w w' := by
  by_cases h : rightB x = true
  · by_cases hk : getN x 0 2 = 1
    · exact read_head x hx w h hk
    · exact read_data x hx w h hk
  · have h' := Bool.eq_false_iff.2 h
    rw [readF_sum h']
    exact read_sum x hx w h'
theorem flit_kind (x : Nat) (hx : x < 2 ^ 64) (w : World) :
    Calls Try.prog 50 #[.int .u64 (x : Int)] w fun e w' => e = .returned (.int .i64 (getN x 0 2 : Nat)) ∧ ∃ k, w' = w.drewN k := by
  have e1 : Go.bits .and .u64 (x : Int) 3 = ((getN x 0 2 : Nat) : Int) := by
    have := bits_and_nat x 3 hx (by decide)
    rw [show ((3 : Nat) : Int) = 3 from rfl] at this
    rw [this]
    have h2 := Nat.and_two_pow_sub_one_eq_mod x 2
    unfold getN
    congr 1
    simpa using h2
  have hlt := getN_lt x 0 2
  generalize getN x 0 2 = k at *
  go_enter Try.func50, Try.ntmps50
  go_wp2
  go_ret
  exact ⟨ret_int (by first | rfl | exact e1), by first | exact ⟨0, rfl⟩ | exact drew_close1⟩
end Go.Proofs.Ytpklblaenfhncaa
