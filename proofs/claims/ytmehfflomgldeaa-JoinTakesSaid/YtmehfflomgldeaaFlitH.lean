/- flit.Read, Same and Kind of anything. -/
import Derived.Test.YtmehfflomgldeaaFlitG
namespace Go.Proofs.Ytmehfflomgldeaa
set_option linter.unusedVariables false
open Go.RowKit BM
theorem flit_read (x : Nat) (hx : x < 2 ^ 64) (w : World) :
    Calls Try.prog 54 #[.int .u64 (x : Int)] w fun e w' => e = .returned (.tuple #[(readF x).1.val, .int .i64 (readF x).2]) ∧ Below w.heap.size w w' := by
  by_cases h : rightB x = true
  · by_cases hk : getN x 0 2 = 1
    · exact read_head x hx w h hk
    · exact read_data x hx w h hk
  · have h' := Bool.eq_false_iff.2 h
    rw [readF_sum h']
    exact read_sum x hx w h'
end Go.Proofs.Ytmehfflomgldeaa
