/- What the reference's Unpack answers. -/
import Derived.Test.YtpklblaenfhncaaRefBitsC
namespace Go.Proofs.Ytpklblaenfhncaa
set_option linter.unusedVariables false
open Go.RowKit BM

set_option maxRecDepth 100000 in
theorem runpack_calls (x : Int) (a : Option Addr) (c : Nat) (l : List Int) (w : World) (hx0 : 0 ≤ x) (hx1 : x < 18446744073709551616) (hl : l.length * 8 ≤ 140737488351232) (hr : IntsAt .i64 w a l) :
    Calls Try.prog 46 #[.int .u64 x, .slice a l.length c] w fun e w' => ∃ v, e = .returned (.tuple #[v, .int .i64 (unpackR x.toNat l).2]) ∧ w'.ownsRow w.heap.size 82 1 v (unpackR x.toNat l).1.length ((unpackR x.toNat l).1.map (Value.int .u32)) ∧ Below w.heap.size w w' := by
  have HX := Lib.hid (And.intro hx0 hx1)
  clear hx0 hx1
  go_enter Try.func46, Try.ntmps46
  go_wp2
  go_loopw [6, 7, 8] (fun v t i wr => ∃ (m : Nat) (tt : Int) (ys : List Int), m ≤ l.length ∧ t = .int .i64 tt ∧ 0 ≤ tt ∧ tt ≤ 64 ∧ i = .int .i64 (m : Int) ∧ Hid (fitsFrom tt (l.drop m) = fitsI l) ∧ Hid (ys ++ unpackFrom x.toNat tt (l.drop m) = unpackFrom x.toNat 0 l) ∧ Hid (ys.length = m) ∧ wr.ownsRow w.heap.size 82 1 v m (ys.map (Value.int .u32)) ∧ Below w.heap.size w wr) (fun _ _ i _ => l.length - (intOf i).toNat)
  case atStart => exact ⟨0, 0, [], by omega, rfl, by omega, by omega, rfl, rfl, rfl, rfl, World.ownsRow_nil _ _ _ _, Below.refl _ _⟩
  case round =>
    obtain ⟨m, tt, ys, hm, rfl, ht0, ht1, rfl, HF, HQ, HY, hown, hb⟩ := hrel
    by_cases h : m < l.length
    · obtain ⟨b, off, rfl, hcw⟩ := hr m h
      have HD := Lib.hid (drop_cons h 0)
      generalize l.getD m 0 = n at hcw HD
      have hblt := World.block_lt_of_cell? w _ hcw
      have HCW := Lib.hid hcw
      have hcell : wr.cell? ⟨b, off + m, none⟩ = some (.int .i64 n) := (hb.cell (p := ⟨b, off + m, none⟩) hblt).trans hcw
      clear hcw
      by_cases hf : fieldI tt n = true
      · have HFn : Hid (fitsFrom (tt + n) (l.drop (m + 1)) = fitsI l) := by unfold Hid; rw [← HF.out, HD.out, fitsFrom, hf]; rfl
        have HQ2 : Hid (ys ++ ((getN x.toNat tt.toNat n.toNat : Nat) : Int) :: unpackFrom x.toNat (tt + n) (l.drop (m + 1)) = unpackFrom x.toNat 0 l) := by have := HQ.out; rw [HD.out, unpackFrom] at this; exact this
        have HC := fun w => rget_calls x tt n w HX.out.1 HX.out.2
        rw [getR_in hf] at HC
        have HC2 := Lib.hid HC
        clear HC HQ HD HF
        simp only [fieldI, decide_eq_true_eq] at hf
        obtain ⟨h1, h2, h3, h4⟩ := hf
        generalize ((getN x.toNat tt.toNat n.toNat : Nat) : Int) = y at HC2 HQ2
        go_wp2_with (first | (go_at_call 47; ((with_reducible refine (HC2.out _).mono ?_); rintro e w' ⟨rfl, k, rfl⟩)) | (at_builtin; refine append_own [.int .u32 y] _ _ _ _ 1 4 infoU32 Try.underlying90 rfl (by decide) _ _ _ (ownsRow_drewN hown _) (below_drewN' hb _) hb.size rfl (by simp [Value.oneCell']) (by omega) (by decide) rfl _ _ rfl rfl rfl ?_; intro v1 w1 hown1 hb1 hg1 hor1; clear hg1 hor1 hown hb; have hcell1 : w1.cell? ⟨b, off + m, none⟩ = some (.int .i64 n) := (hb1.cell (p := ⟨b, off + m, none⟩) hblt).trans HCW.out; clear hcell))
        go_roundw
        case rel => exact ⟨m + 1, tt + n, ys ++ [y], by omega, by go_num, by omega, by omega, by go_num, HFn, by unfold Hid; rw [List.append_assoc]; exact HQ2.out, by unfold Hid; rw [List.length_append, HY.out]; rfl, by rw [List.map_append]; exact hown1, hb1⟩
        case measure => simp [intOf] <;> omega
      · have HP : Hid (unpackR x.toNat l = ([], 1)) := by unfold Hid unpackR; rw [if_neg (fun h => by rw [← HF.out, HD.out, fitsFrom, Bool.eq_false_iff.2 hf] at h; cases h)]
        have HC := fun w => rget_calls x tt n w HX.out.1 HX.out.2
        rw [getR_out hf] at HC
        have HC2 := Lib.hid HC
        clear HC hf
        go_wp2_with (first | (go_at_call 47; ((with_reducible refine (HC2.out _).mono ?_); rintro e w' ⟨rfl, k, rfl⟩)))
        go_ret2
        rw [HP.out]
        exact ⟨_, rfl, World.ownsRow_nil _ _ _ _, below_drewN' hb _⟩
    · obtain rfl : m = l.length := by omega
      have hfit : fitsI l = true := by rw [← HF.out, List.drop_length]; rfl
      have HP : Hid (unpackR x.toNat l = (ys, 0)) := by
        have := HQ.out
        rw [List.drop_length, unpackFrom, List.append_nil] at this
        unfold Hid unpackR; rw [if_pos hfit, this]
      clear hfit HF HQ
      go_wp2
      go_ret2
      rw [HP.out]
      exact ⟨_, rfl, by rw [HY.out]; exact hown, hb⟩
end Go.Proofs.Ytpklblaenfhncaa
