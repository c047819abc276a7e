/- Counts that go round. -/
import Derived.Test.YtajbfmdgnkpjgaaOnly
namespace Go.Proofs.Ytajbfmdgnkpjgaa
open Go.RowKit
/-- How many things there are, round. -/
def cnt (inn out : Nat) : Nat := (inn + 4294967296 - out) % 4294967296
theorem cnt_int {inn out : Nat} (hi : inn < 4294967296) (ho : out < 4294967296) : ((inn : Int) - (out : Int)) % 4294967296 = ((cnt inn out : Nat) : Int) := by unfold cnt; omega
theorem cnt_lt (inn out : Nat) : cnt inn out < 4294967296 := Nat.mod_lt _ (by decide)

theorem mod_apart {a i j n : Nat} (hij : i < j) (hj : j < n) : (a + i) % n ≠ (a + j) % n := by
  intro e
  have h1 := Nat.div_add_mod (a + i) n
  have h2 := Nat.div_add_mod (a + j) n
  have h3 : (a + j) / n = (a + i) / n ∨ (a + j) / n ≥ (a + i) / n + 1 := by
    have : (a + i) / n ≤ (a + j) / n := Nat.div_le_div_right (by omega)
    omega
  rcases h3 with h3 | h3
  · rw [h3] at h2; omega
  · have : n * ((a + i) / n + 1) ≤ n * ((a + j) / n) := Nat.mul_le_mul_left n h3
    rw [Nat.mul_add, Nat.mul_one] at this
    omega
end Go.Proofs.Ytajbfmdgnkpjgaa
