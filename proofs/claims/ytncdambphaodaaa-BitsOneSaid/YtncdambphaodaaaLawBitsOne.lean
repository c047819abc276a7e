/- The walk of BitsOne. -/
import Derived.Test.YtncdambphaodaaaBitsLives
namespace Go.Proofs.Ytncdambphaodaaa
set_option linter.unusedVariables false
open Go.RowKit BM

theorem mod8 (x : Int) : ∃ k : Int, wrap64 ((IntKind.u64.wrap x).tmod 8) = k ∧ 0 ≤ k ∧ k ≤ 7 := by
  refine ⟨_, rfl, ?_⟩
  have h0 : 0 ≤ IntKind.u64.wrap x := by rw [wrap_u64]; omega
  rw [Int.tmod_eq_emod_of_nonneg h0]
  unfold wrap64
  omega
theorem xor_int {s y k : Nat} (hs : s < 18446744073709551616) (hy : y < 256) (hk : k ≤ 7) :
    Go.bits .xor .u64 (s : Int) (IntKind.u64.wrap ((y : Int) * 2 ^ (8 * k))) = ((s ^^^ y * 2 ^ (8 * k) : Nat) : Int) := by
  have hl : y * 2 ^ (8 * k) < 2 ^ 64 := shifted_lt (n := 8) hy (by omega)
  have e : (y : Int) * 2 ^ (8 * k) = ((y * 2 ^ (8 * k) : Nat) : Int) := by simp
  rw [e, wrap_u64_nat, Nat.mod_eq_of_lt (by omega), bits_xor_nat _ _ (by omega) hl]
theorem bitsOne_walk (x at' y : Int) (w : World) (hx0 : 0 ≤ x) (hx1 : x < 18446744073709551616) (hy0 : 0 ≤ y) (hy1 : y < 256) :
    Calls Try.prog 5 #[.int .u64 x, .int .i64 at', .int .u8 y] w fun e w' => e = .returned (.bool true) ∧ Below w.heap.size w w' := by
  obtain ⟨k, hk, hk0, hk1⟩ := mod8 at'
  obtain ⟨k, rfl⟩ := Int.eq_ofNat_of_zero_le hk0
  obtain ⟨y, rfl⟩ := Int.eq_ofNat_of_zero_le hy0
  have hs := sealN_lt x.toNat
  have hs2 : ((sealN x.toNat : Nat) : Int) < 18446744073709551616 := by omega
  have hs1 : (0 : Int) ≤ ((sealN x.toNat : Nat) : Int) := Int.natCast_nonneg _
  have HC := Lib.hid (fun w => seal_calls x w hx0 hx1)
  have HX := Lib.hid (xor_int (s := sealN x.toNat) (y := y) (k := k) (by omega) (by omega) (by omega))
  have HT := Lib.hid (one_told (w := x.toNat) (y := y) (k := k) (by omega) (by omega))
  have hy2 : y * 2 ^ (8 * k) < 2 ^ 64 := shifted_lt (n := 8) (by omega) (by omega)
  have hx := Nat.xor_lt_two_pow hs hy2
  have HR := Lib.hid (fun w => right_calls ((sealN x.toNat ^^^ y * 2 ^ (8 * k) : Nat) : Int) w (Int.natCast_nonneg _) (by omega))
  clear hs hx hy2
  have HB0 : Hid (rightB (((sealN x.toNat ^^^ y * 2 ^ (8 * k) : Nat) : Int)).toNat = ((y : Int) == 0)) := by
    unfold Hid rightB
    rw [Int.toNat_natCast, Bool.eq_iff_iff, beq_iff_eq, beq_iff_eq, HT.out]; omega
  generalize ((sealN x.toNat : Nat) : Int) = s at HC HX hs1 hs2
  generalize ((sealN x.toNat ^^^ y * 2 ^ (8 * k) : Nat) : Int) = t at HX HR HB0
  go_enter Try.func5, Try.ntmps5
  go_wp2_with (first
    | (go_at_call 15; refine (lives02_calls _).mono ?_; rintro e w1 ⟨rfl, hb⟩; have HB := Lib.hid hb; clear hb)
    | (go_at_call 21; refine (HC.out _).mono ?_; rintro e w' ⟨rfl, k, rfl⟩)
    | (go_at_call 25; rw [HX.out]; refine (HR.out _).mono ?_; rintro e w' ⟨rfl, k, rfl⟩; rw [HB0.out]))
  go_ret
  exact ⟨ret_bool (by simp), below_drewN' HB.out _⟩
end Go.Proofs.Ytncdambphaodaaa
