/- The walk of BitsChecks. -/
import Derived.Test.YtncdambphaodaaaBitsLives
import Derived.Test.YtncdambphaodaaaRefBitsB
namespace Go.Proofs.Ytncdambphaodaaa
set_option linter.unusedVariables false
open Go.RowKit BM

theorem bitsChecks_walk (x : Int) (w : World) (hx0 : 0 ≤ x) (hx1 : x < 18446744073709551616) :
    Calls Try.prog 4 #[.int .u64 x] w fun e w' => e = .returned (.bool true) ∧ Below w.heap.size w w' := by
  have hs := sealN_lt x.toNat
  have hs2 : ((sealN x.toNat : Nat) : Int) < 18446744073709551616 := by omega
  have hs1 : (0 : Int) ≤ ((sealN x.toNat : Nat) : Int) := Int.natCast_nonneg _
  have C1 := Lib.hid (fun w => seal_calls x w hx0 hx1)
  have C2 := Lib.hid (fun w => check_calls x w hx0 hx1)
  have C3 := Lib.hid (fun w => rcheck_calls x w hx0 hx1)
  have C4 := Lib.hid (fun w => rseal_calls x w hx0 hx1)
  have C5 := Lib.hid (fun w => right_calls x w hx0 hx1)
  have C6 := Lib.hid (fun w => rright_calls x w hx0 hx1)
  have D1 := fun w => seal_calls ((sealN x.toNat : Nat) : Int) w hs1 hs2
  have D2 := fun w => check_calls ((sealN x.toNat : Nat) : Int) w hs1 hs2
  have D3 := fun w => right_calls ((sealN x.toNat : Nat) : Int) w hs1 hs2
  rw [Int.toNat_natCast, seal_seal] at D1
  rw [Int.toNat_natCast, check_seal] at D2
  rw [Int.toNat_natCast, rightB_seal] at D3
  have E1 := Lib.hid D1
  have E2 := Lib.hid D2
  have E3 := Lib.hid D3
  clear hs D1 D2 D3
  generalize ((sealN x.toNat : Nat) : Int) = s at *
  generalize ((check x.toNat : Nat) : Int) = c at *
  generalize rightB x.toNat = r at *
  go_enter Try.func4, Try.ntmps4
  go_wp2_with (first
    | (go_at_call 15; refine (lives02_calls _).mono ?_; rintro e w1 ⟨rfl, hb⟩; have HB := Lib.hid hb; clear hb)
    | (go_at_call_of 21 (Value.int .u64 s); refine (E1.out _).mono ?_; rintro e w' ⟨rfl, k, rfl⟩)
    | (go_at_call_of 22 (Value.int .u64 s); refine (E2.out _).mono ?_; rintro e w' ⟨rfl, k, rfl⟩)
    | (go_at_call_of 25 (Value.int .u64 s); refine (E3.out _).mono ?_; rintro e w' ⟨rfl, k, rfl⟩)
    | (go_at_call 21; refine (C1.out _).mono ?_; rintro e w' ⟨rfl, k, rfl⟩)
    | (go_at_call 22; refine (C2.out _).mono ?_; rintro e w' ⟨rfl, k, rfl⟩)
    | (go_at_call 23; refine (C3.out _).mono ?_; rintro e w' ⟨rfl, k, rfl⟩)
    | (go_at_call 24; refine (C4.out _).mono ?_; rintro e w' ⟨rfl, k, rfl⟩)
    | (go_at_call 25; refine (C5.out _).mono ?_; rintro e w' ⟨rfl, k, rfl⟩)
    | (go_at_call 26; refine (C6.out _).mono ?_; rintro e w' ⟨rfl, k, rfl⟩))
  go_ret
  exact ⟨rfl, below_drewN' HB.out _⟩
end Go.Proofs.Ytncdambphaodaaa
