/- What Unpack answers. -/
import Derived.Test.YtpklblaenfhncaaBitsD
namespace Go.Proofs.Ytpklblaenfhncaa
set_option linter.unusedVariables false
open Go.RowKit BM

theorem infoU32 : (Try.prog.info? 82).map (fun i => (i.zero, i.size, i.bytes)) = some (some (.int .u32 0), 1, 4) := by kernel_rfl
theorem unp_int {x : Nat} {tt n : Int} (hx : x < 2 ^ 64) (h3 : 0 ≤ tt) (h1 : 1 ≤ n) (h2 : n ≤ 32) (h4 : tt + n ≤ 64) :
    Go.bits .and .u64 (((x / 2 ^ tt.toNat : Nat) : Int)) ((2 ^ n.toNat - 1 : Nat) : Int) % 4294967296 = ((getN x tt.toNat n.toNat : Nat) : Int) := by
  have := get_int (x := (x : Int)) (a := tt) (n := n) (by omega) (by omega) h3 h1 h2 h4
  rw [Int.toNat_natCast] at this
  rw [← this]
  simp
theorem unpackFrom_length (x : Nat) : ∀ (l : List Int) (t : Int), (unpackFrom x t l).length = l.length
  | [], _ => rfl
  | n :: l, t => by simp only [unpackFrom, List.length_cons, unpackFrom_length x l]
theorem shr_int {x : Nat} {tt n : Int} (h3 : 0 ≤ tt) (h1 : 0 ≤ n) : (((x / 2 ^ tt.toNat : Nat) : Int)) / 2 ^ n.toNat = ((x / 2 ^ (tt + n).toNat : Nat) : Int) := by
  obtain ⟨a, rfl⟩ := Int.eq_ofNat_of_zero_le h3
  obtain ⟨n, rfl⟩ := Int.eq_ofNat_of_zero_le h1
  rw [show ((a : Int) + n).toNat = a + n from by omega, Int.toNat_natCast, Int.toNat_natCast, Nat.pow_add, ← Nat.div_div_eq_div_mul]
  simp
set_option maxRecDepth 100000 in
theorem unpack_calls (x : Int) (a : Option Addr) (c : Nat) (l : List Int) (w : World) (hx0 : 0 ≤ x) (hx1 : x < 18446744073709551616) (hl : l.length * 8 ≤ 140737488351232) (hr : IntsAt .i64 w a l) :
    Calls Try.prog 72 #[.int .u64 x, .slice a l.length c] w fun e w' => ∃ v, e = .returned (.tuple #[v, .int .i64 (unpackR x.toNat l).2]) ∧ w'.ownsRow w.heap.size 82 1 v (unpackR x.toNat l).1.length ((unpackR x.toNat l).1.map (Value.int .u32)) ∧ Below w.heap.size w w' := by
  have hlu : l.length ≤ maxLen := by unfold maxLen; omega
  obtain ⟨x, rfl⟩ := Int.eq_ofNat_of_zero_le hx0
  have hx : Hid (x < 2 ^ 64) := by unfold Hid; omega
  clear hx0 hx1
  rw [Int.toNat_natCast]
  obtain ⟨i0, hi, hz0, hz1, hz2⟩ := info_parts infoU32
  by_cases hfit : fitsI l = true
  · have HP : Hid (unpackR x l = (unpackFrom x 0 l, 0)) := by unfold Hid unpackR; rw [if_pos hfit]
    have HF := Lib.hid hfit
    clear hfit
    rw [HP.out]
    go_enter Try.func72, Try.ntmps72
    go_wp2_with (first | (go_at_call 93; refine (fits_calls _ _ _ _ hlu hr).mono ?_; rintro e w' ⟨rfl, k, rfl⟩; rw [HF.out]))
    go_loopw [6, 0, 14] (fun v xx i wr => ∃ (m : Nat) (tt : Int) (ys : List Int), m ≤ l.length ∧ xx = .int .u64 ((x / 2 ^ tt.toNat : Nat) : Int) ∧ 0 ≤ tt ∧ tt ≤ 64 ∧ i = .int .i64 (m : Int) ∧ Hid (fitsFrom tt (l.drop m) = true) ∧ Hid (ys ++ unpackFrom x tt (l.drop m) = unpackFrom x 0 l) ∧ Hid (ys.length = m) ∧ wr.ownsRow w.heap.size 82 1 v m (ys.map (Value.int .u32)) ∧ Below w.heap.size w wr) (fun _ _ i _ => l.length - (intOf i).toNat)
    case atStart => exact ⟨0, 0, [], by omega, by simp, by omega, by omega, rfl, HF, rfl, rfl, World.ownsRow_nil _ _ _ _, below_drewN' (Below.refl _ _) _⟩
    case round =>
      obtain ⟨m, tt, ys, hm, rfl, ht0, ht1, rfl, HF, HQ, HY, hown, hb⟩ := hrel
      by_cases h : m < l.length
      · obtain ⟨b, off, rfl, hcell⟩ := (hr.below hb) m h
        have HD := Lib.hid (drop_cons h 0)
        generalize l.getD m 0 = n at hcell HD
        have HF1 : fieldI tt n = true ∧ fitsFrom (tt + n) (l.drop (m + 1)) = true := by have := HF.out; rw [HD.out, fitsFrom, Bool.and_eq_true] at this; exact this
        obtain ⟨hf, hf2⟩ := HF1
        have HQ2 : Hid (ys ++ ((getN x tt.toNat n.toNat : Nat) : Int) :: unpackFrom x (tt + n) (l.drop (m + 1)) = unpackFrom x 0 l) := by have := HQ.out; rw [HD.out, unpackFrom] at this; exact this
        clear HQ HD
        simp only [fieldI, decide_eq_true_eq] at hf
        obtain ⟨h1, h2, h3, h4⟩ := hf
        have HFn := Lib.hid hf2
        clear hf2
        have HU := Lib.hid (unp_int hx.out h3 h1 h2 h4)
        have HS := Lib.hid (shr_int (x := x) h3 (by omega : 0 ≤ n))
        have hs1 : x / 2 ^ tt.toNat < 18446744073709551616 := Nat.lt_of_le_of_lt (Nat.div_le_self _ _) hx.out
        generalize x / 2 ^ tt.toNat = q at HU HS hs1 ⊢
        have hs0 : (0 : Int) ≤ (q : Int) := Int.natCast_nonneg _
        have hs2 : (q : Int) < 18446744073709551616 := by omega
        clear hs1
        go_wp2_with (first | (go_at_call 94; ((with_reducible refine (mask_calls _ _ (by omega) (by omega)).mono ?_); rintro e w' ⟨rfl, k, rfl⟩)) | (at_builtin; refine append_own [.int .u32 (Go.bits .and .u64 q ((2 ^ n.toNat - 1 : Nat) : Int) % 4294967296)] _ _ _ _ 1 4 infoU32 Try.underlying90 rfl (by decide) _ _ _ (ownsRow_drewN hown _) (below_drewN' hb _) hb.size rfl (by simp [Value.oneCell']) (by omega) (by decide) rfl _ _ rfl rfl rfl ?_; intro v1 w1 hown1 hb1 hg1 hor1; clear hg1 hor1 hown hb))
        go_roundw
        case rel => exact ⟨m + 1, tt + n, ys ++ [((getN x tt.toNat n.toNat : Nat) : Int)], by omega, by rw [HS.out], by omega, by omega, by go_num, HFn, by unfold Hid; rw [List.append_assoc]; exact HQ2.out, by unfold Hid; rw [List.length_append, HY.out]; rfl, by rw [HU.out] at hown1; rw [List.map_append]; exact hown1, hb1⟩
        case measure => simp [intOf] <;> omega
      · obtain rfl : m = l.length := by omega
        have HY2 : Hid (ys = unpackFrom x 0 l) := by have := HQ.out; rw [List.drop_length, unpackFrom, List.append_nil] at this; exact this
        go_wp2
        go_ret2
        exact ⟨_, rfl, by rw [unpackFrom_length, ← HY2.out]; exact hown, hb⟩
  · have HP : Hid (unpackR x l = ([], 1)) := by unfold Hid unpackR; rw [if_neg hfit]
    have HF := Lib.hid (Bool.eq_false_iff.2 hfit)
    clear hfit
    go_enter Try.func72, Try.ntmps72
    go_wp2_with (first | (go_at_call 93; refine (fits_calls _ _ _ _ hlu hr).mono ?_; rintro e w' ⟨rfl, k, rfl⟩; rw [HF.out]))
    go_ret2
    rw [HP.out]
    exact ⟨_, rfl, World.ownsRow_nil _ _ _ _, below_drewN' (Below.refl _ _) _⟩
end Go.Proofs.Ytpklblaenfhncaa
