/- What Pack and Unpack answer. -/
import Derived.Test.YtpklblaenfhncaaBitsC
import Derived.OwnWalk
namespace Go.Proofs.Ytpklblaenfhncaa
set_option linter.unusedVariables false
open Go.RowKit BM

theorem putR_cases (x : Nat) (t n : Int) (v : Nat) (hf : fieldI t n = true) (hx : x < 2 ^ 64) : ((putR x t n v).2 = 0 ∧ 0 ≤ (putR x t n v).1 ∧ (putR x t n v).1 < 18446744073709551616) ∨ ((putR x t n v).2 = 4 ∧ (putR x t n v).1 = 0) := by
  have hf' := hf
  simp only [fieldI, decide_eq_true_eq] at hf'
  obtain ⟨h1, h2, h3, h4⟩ := hf'
  by_cases hv : v < 2 ^ n.toNat
  · rw [putR_in hf hv]
    have := putN_lt (a := t.toNat) hx hv (by omega)
    refine .inl ⟨rfl, ?_, ?_⟩
    · show (0 : Int) ≤ ((putN x t.toNat n.toNat v : Nat) : Int)
      omega
    · show ((putN x t.toNat n.toNat v : Nat) : Int) < 18446744073709551616
      omega
  · rw [putR_size hf hv]
    exact .inr ⟨rfl, rfl⟩
theorem toNat_lt64 {p : Int} (h0 : 0 ≤ p) (h1 : p < 18446744073709551616) : p.toNat < 2 ^ 64 := by omega
theorem pack_calls (a : Option Addr) (c : Nat) (l : List Int) (a2 : Option Addr) (c2 : Nat) (vs : List Int) (w : World) (hl : l.length ≤ maxLen) (hr : IntsAt .i64 w a l) (hl2 : vs.length ≤ maxLen) (hr2 : IntsAt .u32 w a2 vs)
    (hv : ∀ v ∈ vs, 0 ≤ v ∧ v < 4294967296) :
    Calls Try.prog 97 #[.slice a l.length c, .slice a2 vs.length c2] w fun e w' => e = .returned (.tuple #[.int .u64 (packR l vs).1, .int .i64 (packR l vs).2]) ∧ ∃ k, w' = w.drewN k := by
  have hlu := hl
  have hlu2 := hl2
  unfold maxLen at hl hl2
  by_cases hlen : l.length = vs.length
  · have hb : (((l.length : Nat) : Int) != ((vs.length : Nat) : Int)) = false := by simp [hlen]
    have HL := Lib.hid hlen
    by_cases hfit : fitsI l = true
    · have HP : Hid (packR l vs = packFrom 0 0 l vs) := by unfold Hid packR; rw [if_pos ⟨HL.out, hfit⟩]
      have HF := Lib.hid hfit
      clear hfit hlen
      have hle : l.length ≤ vs.length := Nat.le_of_eq HL.out
      have hge : vs.length ≤ l.length := Nat.le_of_eq HL.out.symm
      go_enter Try.func97, Try.ntmps97
      go_wp2_with (first | (go_at_call 93; refine (fits_calls _ _ _ _ hlu hr).mono ?_; rintro e w' ⟨rfl, k, rfl⟩; rw [HF.out]))
      go_loopw [6, 7, 24] (fun x t i wr => ∃ (m : Nat) (tt p : Int) (kk : Nat), m ≤ l.length ∧ x = .int .u64 p ∧ 0 ≤ p ∧ p < 18446744073709551616 ∧ t = .int .i64 tt ∧ 0 ≤ tt ∧ tt ≤ 64 ∧ i = .int .i64 (m : Int) ∧ Hid (fitsFrom tt (l.drop m) = true) ∧ Hid (packFrom p.toNat tt (l.drop m) (vs.drop m) = packR l vs) ∧ wr = w.drewN kk) (fun _ _ i _ => l.length - (intOf i).toNat)
      case atStart => exact ⟨0, 0, 0, _, by omega, rfl, by omega, by omega, rfl, by omega, by omega, rfl, HF, HP.out.symm, rfl⟩
      case round =>
        obtain ⟨m, tt, p, kk, hm, rfl, hp0, hp1, rfl, ht0, ht1, rfl, HF, HQ, rfl⟩ := hrel
        by_cases h : m < l.length
        · have h' : m < vs.length := by omega
          obtain ⟨b, off, rfl, hcell⟩ := hr m h
          obtain ⟨b2, off2, rfl, hcell2⟩ := hr2 m h'
          have HD := Lib.hid (drop_cons h 0)
          have HD2 := Lib.hid (drop_cons h' 0)
          have hv2 := hv (vs.getD m 0) (by rw [List.getD_eq_getElem?_getD, List.getElem?_eq_getElem h']; exact List.getElem_mem h')
          generalize l.getD m 0 = n at hcell HD
          generalize vs.getD m 0 = v at hcell2 HD2 hv2
          obtain ⟨hv0, hv1⟩ := hv2
          have HF1 : fieldI tt n = true ∧ fitsFrom (tt + n) (l.drop (m + 1)) = true := by have := HF.out; rw [HD.out, fitsFrom, Bool.and_eq_true] at this; exact this
          obtain ⟨hf, hf2⟩ := HF1
          have HQ2 : Hid ((if (putR p.toNat tt n v.toNat).2 = 0 then packFrom (putR p.toNat tt n v.toNat).1.toNat (tt + n) (l.drop (m + 1)) (vs.drop (m + 1)) else (0, (putR p.toNat tt n v.toNat).2)) = packR l vs) := by have := HQ.out; rw [HD.out, HD2.out, packFrom] at this; exact this
          clear HQ HD HD2
          have hcs := putR_cases p.toNat tt n v.toNat hf (toNat_lt64 hp0 hp1)
          have HC := put_calls p tt n v
          have hf' := hf
          simp only [fieldI, decide_eq_true_eq] at hf'
          obtain ⟨h1, h2, h3, h4⟩ := hf'
          have HFn := Lib.hid hf2
          clear hf hf2 hv
          generalize putR p.toNat tt n v.toNat = r at HQ2 hcs HC
          obtain ⟨r1, r2⟩ := r
          rcases hcs with ⟨e2, hr0, hr1⟩ | ⟨e2, e1⟩
          · dsimp only at e2 hr0 hr1 HC HQ2
            subst e2
            have HQ3 : Hid (packFrom r1.toNat (tt + n) (l.drop (m + 1)) (vs.drop (m + 1)) = packR l vs) := HQ2
            clear HQ2
            have HC2 := Lib.hid HC
            clear HC
            go_wp2_with (first | (go_at_call 110; refine (HC2.out _ hp0 hp1 hv0 hv1).mono ?_; rintro e w' ⟨rfl, k, rfl⟩))
            go_quiet (fail)
            go_wp2
            go_roundw
            case rel => exact ⟨m + 1, tt + n, r1, _, by omega, rfl, hr0, hr1, by go_num, by omega, by omega, by go_num, HFn, HQ3, by first | rfl | exact World.drewN_drewN ..⟩
            case measure => simp [intOf] <;> omega
          · dsimp only at e2 e1 HC HQ2
            subst e2 e1
            have HC2 := Lib.hid HC
            clear HC
            have HQ3 : Hid ((0, 4) = packR l vs) := HQ2
            clear HQ2
            go_wp2_with (first | (go_at_call 110; refine (HC2.out _ hp0 hp1 hv0 hv1).mono ?_; rintro e w' ⟨rfl, k, rfl⟩))
            go_ret2
            exact ⟨by rw [← HQ3.out] <;> rfl, by first | exact drew_close0 | exact ⟨_, rfl⟩⟩
        · obtain rfl : m = l.length := by omega
          have hge2 : ¬ l.length < vs.length := by omega
          go_wp2
          go_ret2
          exact ⟨by rw [← HQ.out, List.drop_length]; exact ret_two (by simp only [packFrom]; omega) rfl, _, rfl⟩
    · have HP : Hid (packR l vs = (0, 1)) := by unfold Hid packR; rw [if_neg (fun h => hfit h.2)]
      have HF := Lib.hid (Bool.eq_false_iff.2 hfit)
      clear hfit hlen
      go_enter Try.func97, Try.ntmps97
      go_wp2_with (first | (go_at_call 93; refine (fits_calls _ _ _ _ hlu hr).mono ?_; rintro e w' ⟨rfl, k, rfl⟩; rw [HF.out]))
      go_ret2
      exact ⟨by rw [HP.out] <;> rfl, _, rfl⟩
  · have HP : Hid (packR l vs = (0, 1)) := by unfold Hid packR; rw [if_neg (fun h => hlen h.1)]
    have hb : (((l.length : Nat) : Int) != ((vs.length : Nat) : Int)) = true := by simp; omega
    go_enter Try.func97, Try.ntmps97
    go_wp2
    go_ret2
    exact ⟨by rw [HP.out] <;> rfl, 0, rfl⟩
end Go.Proofs.Ytpklblaenfhncaa
