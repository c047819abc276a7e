/- The walk of FlitReads. -/
import Derived.Test.YtncdambphaodaabRefFlitG
namespace Go.Proofs.Ytncdambphaodaab
set_option linter.unusedVariables false
open Go.RowKit BM
set_option maxRecDepth 100000 in
set_option maxHeartbeats 1000000 in
theorem flitReads_walk (x : Int) (w : World) (hx0 : 0 ≤ x) (hx1 : x < 18446744073709551616) :
    Calls Try.prog 4 #[.int .u64 x] w fun e w' => e = .returned (.bool true) ∧ Below w.heap.size w w' := by
  obtain ⟨x, rfl⟩ := Int.eq_ofNat_of_zero_le hx0
  have hx : x < 2 ^ 64 := by omega
  have HS := fun w => seal_calls (x : Int) w hx0 hx1
  rw [Int.toNat_natCast] at HS
  have HS2 := Lib.hid HS
  clear HS hx0 hx1
  go_enter Try.func4, Try.ntmps4
  go_wp2_with (first
    | (go_at_call 18; ((with_reducible refine (lives03_calls _).mono ?_); rintro e w1 ⟨rfl, hb1⟩))
    | (go_at_call 19; ((with_reducible refine (HS2.out _).mono ?_); rintro e w' ⟨rfl, k, rfl⟩)))
  have hsl := sealN_lt x
  generalize sealN x = sx at *
  have HB1 := Lib.hid hb1
  clear hb1 HS2
  go_loopw [4] (fun i wr => ∃ m : Nat, m ≤ 2 ∧ i = .int .i64 (m : Int) ∧ wr.cell? ⟨w1.heap.size, 0, none⟩ = some (.int .u64 (x : Int)) ∧ wr.cell? ⟨w1.heap.size, 1, none⟩ = some (.int .u64 (sx : Int)) ∧ Below w.heap.size w wr) (fun i _ => 2 - (intOf i).toNat)
  case atStart => exact ⟨0, by omega, rfl, (cell_at (alloc_at _ _ rfl) 0).trans rfl, (cell_at (alloc_at _ _ rfl) 1).trans rfl, by have := HB1.out; have := HB1.out.size; repeat' (first | (with_reducible exact Below.refl _ _) | (with_reducible assumption) | (with_reducible refine below_drewN' ?_ _) | (with_reducible refine Below.drew ?_) | (with_reducible refine Below.alloc ?_ ?_ _) | (with_reducible exact Nat.le_refl _) | omega | (simp; done) | (simp; omega))⟩
  case round =>
    obtain ⟨m, hm, rfl, hc0, hc1, hB⟩ := hrel
    by_cases hlm : m < 2
    · obtain ⟨y, hy, hcy⟩ : ∃ y : Nat, y < 2 ^ 64 ∧ wr.cell? ⟨w1.heap.size, m, none⟩ = some (.int .u64 (y : Int)) := by
        have : m = 0 ∨ m = 1 := by omega
        rcases this with rfl | rfl
        · exact ⟨x, hx, hc0⟩
        · exact ⟨sx, hsl, hc1⟩
      have hlt := World.block_lt_of_cell? wr _ hcy
      have hlt1 : w1.heap.size < wr.heap.size := hlt
      have HCW : Hid (∀ w', Below wr.heap.size wr w' → w'.cell? ⟨w1.heap.size, m, none⟩ = some (.int .u64 (y : Int))) := fun w' hb => (hb.cell hlt).trans hcy
      have HCC : Hid (∀ w', Below wr.heap.size wr w' → w'.cell? ⟨w1.heap.size, 0, none⟩ = some (.int .u64 (x : Int)) ∧ w'.cell? ⟨w1.heap.size, 1, none⟩ = some (.int .u64 (sx : Int))) := fun w' hb => ⟨(hb.cell (World.block_lt_of_cell? wr _ hc0)).trans hc0, (hb.cell (World.block_lt_of_cell? wr _ hc1)).trans hc1⟩
      have hmI : (m : Int) < 2 := by omega
      have HR := fun w => flit_read y hy w
      have HRR := fun w => rflit_read y hy w
      have HK := fun w => flit_kind y hy w
      have hmod := mod4_get y
      generalize getN y 0 2 = kd at *
      generalize readF y = rf at *
      obtain ⟨⟨k, s, d, q, l, mo, ca, da⟩, re⟩ := rf
      dsimp only at HR HRR
      have hself : flEq ⟨k, s, d, q, l, mo, ca, da⟩ ⟨k, s, d, q, l, mo, ca, da⟩ = true := flEq_self _
      have HR2 := Lib.hid HR
      have HRR2 := Lib.hid HRR
      have HK2 := Lib.hid HK
      have HB := Lib.hid hB
      have HM := Lib.hid hm
      clear HR HRR HK hB hc0 hc1 hlt hm
      go_wp2_with (first
        | (go_at_call 20; ((with_reducible refine (HR2.out _).mono ?_); rintro e w3 ⟨rfl, hb3⟩; have hcy3 := HCW.out _ hb3; have hz13 : w1.heap.size < w3.heap.size := (by have := hb3.size; omega); clear hcy))
        | (go_at_call 21; ((with_reducible refine (HRR2.out _).mono ?_); rintro e w4 ⟨rfl, hb4⟩; have hF4 := Below.at hb4 (alloc_new _) (by simp); have hz4 : w3.heap.size < w4.heap.size := (by have := hb4.size; simp at this; omega); have hz3 := hb3.size; have hb34 : Below wr.heap.size wr w4 := (hb3.alloc (by omega) _).trans (hb4.mono (by simp; omega)); have hcy4 := HCW.out _ hb34; have hz5 : w1.heap.size < w4.heap.size := (by omega); have f0 := cell_at hF4 0; have f1 := cell_at hF4 1; have f2 := cell_at hF4 2; have f3 := cell_at hF4 3; have f4 := cell_at hF4 4; have f5 := cell_at hF4 5; have f6 := cell_at hF4 6; have f7 := cell_at hF4 7; clear hF4 hcy3)))
      have HB34 := Lib.hid hb34
      clear hb3 hb4 hb34 HCW
      go_quiet (first
        | (go_at_call 22; refine (HK2.out _).mono ?_; rintro e w1 ⟨rfl, k, rfl⟩; exact ⟨rfl, by first | exact drew_close2 | exact drew_close0 | exact drew_close⟩))
      go_wp2
      go_roundw
      case rel =>
        have h1 := HB34.out
        have h2 := HB.out
        have h3 := h1.size
        have h4 := h2.size
        have h5 := HCC.out _ (show Below wr.heap.size wr (w4.alloc (.cells #[.int .i64 k, .int .i64 s, .int .i64 d, .int .i64 q, .int .i64 l, .bool mo, .bool ca, .string da] 44)) from by repeat' (first | (with_reducible exact Below.refl _ _) | (with_reducible assumption) | (with_reducible refine below_drewN' ?_ _) | (with_reducible refine Below.drew ?_) | (with_reducible refine Below.alloc ?_ ?_ _) | (with_reducible exact Nat.le_refl _) | omega | (simp; done) | (simp; omega)))
        exact ⟨m + 1, by omega, by go_num, h5.1, h5.2, by have h6 := h2.trans (h1.mono h4); repeat' (first | (with_reducible exact Below.refl _ _) | (with_reducible assumption) | (with_reducible refine below_drewN' ?_ _) | (with_reducible refine Below.drew ?_) | (with_reducible refine Below.alloc ?_ ?_ _) | (with_reducible exact Nat.le_refl _) | omega | (simp; done) | (simp; omega))⟩
      case measure => simp [intOf] <;> omega
    · obtain rfl : m = 2 := by omega
      go_wp2
      go_ret
      exact ⟨rfl, hB⟩
end Go.Proofs.Ytncdambphaodaab
