/- What the reference's Pack, Unpack and Same answer. -/
import Derived.Test.YtpklblaenfhncaaRefBitsB
namespace Go.Proofs.Ytpklblaenfhncaa
set_option linter.unusedVariables false
open Go.RowKit BM

theorem rpack_calls (a : Option Addr) (c : Nat) (l : List Int) (a2 : Option Addr) (c2 : Nat) (vs : List Int) (w : World) (hl : l.length ≤ maxLen) (hr : IntsAt .i64 w a l) (hl2 : vs.length ≤ maxLen) (hr2 : IntsAt .u32 w a2 vs)
    (hv : ∀ v ∈ vs, 0 ≤ v ∧ v < 4294967296) :
    Calls Try.prog 82 #[.slice a l.length c, .slice a2 vs.length c2] w fun e w' => e = .returned (.tuple #[.int .u64 (packR l vs).1, .int .i64 (packR l vs).2]) ∧ ∃ k, w' = w.drewN k := by
  have hlu := hl
  have hlu2 := hl2
  unfold maxLen at hl hl2
  by_cases hlen : l.length = vs.length
  · have hb : (((l.length : Nat) : Int) != ((vs.length : Nat) : Int)) = false := by simp [hlen]
    have HL := Lib.hid hlen
    have hle : l.length ≤ vs.length := Nat.le_of_eq HL.out
    have hge : vs.length ≤ l.length := Nat.le_of_eq HL.out.symm
    clear hlen
    go_enter Try.func82, Try.ntmps82
    go_wp2
    go_loopw [6, 7] (fun t i wr => ∃ (m : Nat) (tt : Int) (kk : Nat), m ≤ l.length ∧ t = .int .i64 tt ∧ 0 ≤ tt ∧ tt ≤ 64 ∧ i = .int .i64 (m : Int) ∧ Hid (fitsFrom tt (l.drop m) = fitsI l) ∧ wr = w.drewN kk) (fun _ i _ => l.length - (intOf i).toNat)
    case atStart => exact ⟨0, 0, 0, by omega, rfl, by omega, by omega, rfl, rfl, rfl⟩
    case round =>
      obtain ⟨m, tt, kk, hm, rfl, ht0, ht1, rfl, HF, rfl⟩ := hrel
      by_cases h : m < l.length
      · obtain ⟨b, off, rfl, hcell⟩ := hr m h
        have HD := Lib.hid (drop_cons h 0)
        generalize l.getD m 0 = n at hcell HD
        by_cases hf : fieldI tt n = true
        · have hf' := hf
          simp only [fieldI, decide_eq_true_eq] at hf'
          obtain ⟨h1, h2, h3, h4⟩ := hf'
          have HT := Lib.hid hf
          clear hf
          go_wp2_with (first | (go_at_call 78; refine (rfield_calls _ _ _).mono ?_; rintro e w' ⟨rfl, k, rfl⟩; rw [HT.out]))
          go_roundw
          case rel => exact ⟨m + 1, tt + n, _, by omega, by go_num, by omega, by omega, by go_num, by unfold Hid; rw [← HF.out, HD.out, fitsFrom, HT.out]; rfl, by first | rfl | exact World.drewN_drewN ..⟩
          case measure => simp [intOf] <;> omega
        · have HT := Lib.hid (Bool.eq_false_iff.2 hf)
          have HP : Hid (packR l vs = (0, 1)) := by unfold Hid packR; rw [if_neg (fun h => by have := h.2; rw [← HF.out, HD.out, fitsFrom, HT.out] at this; cases this)]
          clear hf
          go_wp2_with (first | (go_at_call 78; refine (rfield_calls _ _ _).mono ?_; rintro e w' ⟨rfl, k, rfl⟩; rw [HT.out]))
          go_ret2
          exact ⟨by rw [HP.out] <;> rfl, by first | exact drew_close0 | exact ⟨_, rfl⟩⟩
      · obtain rfl : m = l.length := by omega
        have hfit : fitsI l = true := by rw [← HF.out, List.drop_length]; rfl
        have HP : Hid (packR l vs = packFrom 0 0 l vs) := by unfold Hid packR; rw [if_pos ⟨HL.out, hfit⟩]
        have HF2 := Lib.hid hfit
        clear HF hfit
        go_wp2
        go_loopw [8, 6, 9] (fun x t i wr => ∃ (m : Nat) (tt p : Int) (kk : Nat), m ≤ l.length ∧ x = .int .u64 p ∧ 0 ≤ p ∧ p < 18446744073709551616 ∧ t = .int .i64 tt ∧ 0 ≤ tt ∧ tt ≤ 64 ∧ i = .int .i64 (m : Int) ∧ Hid (fitsFrom tt (l.drop m) = true) ∧ Hid (packFrom p.toNat tt (l.drop m) (vs.drop m) = packR l vs) ∧ wr = w.drewN kk) (fun _ _ i _ => l.length - (intOf i).toNat)
        case atStart => exact ⟨0, 0, 0, _, by omega, rfl, by omega, by omega, rfl, by omega, by omega, rfl, HF2, HP.out.symm, rfl⟩
        case round =>
          obtain ⟨m, tt, p, kk, hm, rfl, hp0, hp1, rfl, ht0, ht1, rfl, HF, HQ, rfl⟩ := hrel
          by_cases h : m < l.length
          · have h' : m < vs.length := by omega
            obtain ⟨b, off, rfl, hcell⟩ := hr m h
            obtain ⟨b2, off2, rfl, hcell2⟩ := hr2 m h'
            have HD := Lib.hid (drop_cons h 0)
            have HD2 := Lib.hid (drop_cons h' 0)
            have hv2 := hv (vs.getD m 0) (by rw [List.getD_eq_getElem?_getD, List.getElem?_eq_getElem h']; exact List.getElem_mem h')
            generalize l.getD m 0 = n at hcell HD
            generalize vs.getD m 0 = v at hcell2 HD2 hv2
            obtain ⟨hv0, hv1⟩ := hv2
            have HF1 : fieldI tt n = true ∧ fitsFrom (tt + n) (l.drop (m + 1)) = true := by have := HF.out; rw [HD.out, fitsFrom, Bool.and_eq_true] at this; exact this
            obtain ⟨hf, hf2⟩ := HF1
            have HQ2 : Hid ((if (putR p.toNat tt n v.toNat).2 = 0 then packFrom (putR p.toNat tt n v.toNat).1.toNat (tt + n) (l.drop (m + 1)) (vs.drop (m + 1)) else (0, (putR p.toNat tt n v.toNat).2)) = packR l vs) := by have := HQ.out; rw [HD.out, HD2.out, packFrom] at this; exact this
            clear HQ HD HD2
            have hcs := putR_cases p.toNat tt n v.toNat hf (toNat_lt64 hp0 hp1)
            have HC := rput_calls p tt n v
            have hf' := hf
            simp only [fieldI, decide_eq_true_eq] at hf'
            obtain ⟨h1, h2, h3, h4⟩ := hf'
            have HFn := Lib.hid hf2
            clear hf hf2 hv
            generalize putR p.toNat tt n v.toNat = r at HQ2 hcs HC
            obtain ⟨r1, r2⟩ := r
            have hc1 : (m : Int) < (l.length : Int) := by omega
            have hc2 : (m : Int) < (vs.length : Int) := by omega
            rcases hcs with ⟨e2, hr0, hr1⟩ | ⟨e2, e1⟩
            · dsimp only at e2 hr0 hr1 HC HQ2
              subst e2
              have HQ3 : Hid (packFrom r1.toNat (tt + n) (l.drop (m + 1)) (vs.drop (m + 1)) = packR l vs) := HQ2
              clear HQ2
              have HC2 := Lib.hid HC
              clear HC
              go_wp2
              go_quiet (first | (go_at_call 101; refine (HC2.out _ hp0 hp1 hv0 hv1).mono ?_; rintro e w1 ⟨rfl, k, rfl⟩; exact ⟨rfl, by first | exact drew_close2 | exact drew_close0 | exact drew_close⟩))
              go_wp2
              go_roundw
              case rel => exact ⟨m + 1, tt + n, r1, _, by omega, rfl, hr0, hr1, by go_num, by omega, by omega, by go_num, HFn, HQ3, by first | rfl | exact World.drewN_drewN ..⟩
              case measure => simp [intOf] <;> omega
            · dsimp only at e2 e1 HC HQ2
              subst e2 e1
              have HC2 := Lib.hid HC
              clear HC
              have HQ3 : Hid ((0, 4) = packR l vs) := HQ2
              clear HQ2
              go_wp2
              go_quiet (first | (go_at_call 101; refine (HC2.out _ hp0 hp1 hv0 hv1).mono ?_; rintro e w1 ⟨rfl, k, rfl⟩; exact ⟨rfl, by first | exact drew_close2 | exact drew_close0 | exact drew_close⟩))
              go_wp2
              go_ret2
              exact ⟨by rw [← HQ3.out] <;> rfl, by first | exact drew_close0 | exact ⟨_, rfl⟩⟩
          · obtain rfl : m = l.length := by omega
            have HQ3 : Hid ((p, 0) = packR l vs) := by have := HQ.out; rw [List.drop_length] at this; rw [Hid, ← this]; simp only [packFrom]; congr 1; omega
            clear HQ
            go_wp2
            go_ret2
            exact ⟨by rw [← HQ3.out] <;> rfl, by first | exact ⟨_, rfl⟩ | exact drew_close0⟩
  · have HP : Hid (packR l vs = (0, 1)) := by unfold Hid packR; rw [if_neg (fun h => hlen h.1)]
    have hb : (((l.length : Nat) : Int) != ((vs.length : Nat) : Int)) = true := by simp; omega
    go_enter Try.func82, Try.ntmps82
    go_wp2
    go_ret2
    exact ⟨by rw [HP.out] <;> rfl, 0, rfl⟩
end Go.Proofs.Ytpklblaenfhncaa
