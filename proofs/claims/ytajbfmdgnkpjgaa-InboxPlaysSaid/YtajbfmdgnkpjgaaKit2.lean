/- The builtins min and max of whole numbers, as numbers: no way is parted by them. -/
import Derived.Test.YtajbfmdgnkpjgaaKit
namespace Go.Proofs.Ytajbfmdgnkpjgaa
open Go.RowKit
theorem imin_eq (a b : Int) : (if b < a then b else a) = min a b := by rw [Int.min_def]; split <;> split <;> omega
theorem imax_eq (a b : Int) : (if a < b then b else a) = max a b := by rw [Int.max_def]; split <;> split <;> omega
theorem min_ints (ats : Array TypeId) (ty : TypeId) (k l : IntKind) (a b : Int) : Builtin.min_ ats ty #[.int k a, .int l b] = pure (.int k (min a b)) := by
  rw [← imin_eq]; rfl
theorem max_ints (ats : Array TypeId) (ty : TypeId) (k l : IntKind) (a b : Int) : Builtin.max_ ats ty #[.int k a, .int l b] = pure (.int k (max a b)) := by
  have e : (if a < b then b else a) = max a b := imax_eq a b
  rw [← e]; rfl
theorem min_ints4 (ats : Array TypeId) (ty : TypeId) (k l m n : IntKind) (a b c d : Int) : Builtin.min_ ats ty #[.int k a, .int l b, .int m c, .int n d] = pure (.int k (min (min (min a b) c) d)) := by
  rw [← imin_eq a b, ← imin_eq _ c, ← imin_eq _ d]; rfl
attribute [go_sem ↓] min_ints max_ints min_ints4
end Go.Proofs.Ytajbfmdgnkpjgaa
