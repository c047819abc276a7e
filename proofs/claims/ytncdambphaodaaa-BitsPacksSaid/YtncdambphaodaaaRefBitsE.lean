/- What the reference's Same answers: are two lists the same? -/
import Derived.Test.YtncdambphaodaaaRefBitsD
namespace Go.Proofs.Ytncdambphaodaaa
set_option linter.unusedVariables false
open Go.RowKit BM

theorem list_ext_getD {l m : List Int} (hl : l.length = m.length) (h : ∀ i, i < l.length → l.getD i 0 = m.getD i 0) : l = m := by
  apply List.ext_getElem hl
  intro i h1 h2
  have := h i h1
  rw [List.getD_eq_getElem?_getD, List.getD_eq_getElem?_getD, List.getElem?_eq_getElem h1, List.getElem?_eq_getElem h2] at this
  exact this
theorem same02_calls (a : Option Addr) (c : Nat) (l : List Int) (a2 : Option Addr) (c2 : Nat) (m : List Int) (w : World) (hl : l.length ≤ maxLen) (hl2 : m.length ≤ maxLen) (hr : IntsAt .u32 w a l) (hr2 : IntsAt .u32 w a2 m) :
    Calls Try.prog 20 #[.slice a l.length c, .slice a2 m.length c2] w fun e w' => e = .returned (.bool (decide (l = m))) ∧ ∃ k, w' = w.drewN k := by
  unfold maxLen at hl hl2
  by_cases hlen : l.length = m.length
  · have hb : (((l.length : Nat) : Int) != ((m.length : Nat) : Int)) = false := by simp [hlen]
    have HL := Lib.hid hlen
    have hle : l.length ≤ m.length := Nat.le_of_eq HL.out
    clear hlen
    go_enter Try.func20, Try.ntmps20
    go_wp2
    go_loopw [5] (fun i wr => ∃ (j kk : Nat), j ≤ l.length ∧ i = .int .i64 (j : Int) ∧ Hid (∀ t, t < j → l.getD t 0 = m.getD t 0) ∧ wr = w.drewN kk) (fun i _ => l.length - (intOf i).toNat)
    case atStart => exact ⟨0, 0, by omega, rfl, fun t ht => by omega, rfl⟩
    case round =>
      obtain ⟨j, kk, hj, rfl, HE, rfl⟩ := hrel
      by_cases h : j < l.length
      · have h' : j < m.length := by omega
        obtain ⟨b, off, rfl, hcell⟩ := hr j h
        obtain ⟨b2, off2, rfl, hcell2⟩ := hr2 j h'
        have hc1 : (j : Int) < (l.length : Int) := by omega
        have hc2 : (j : Int) < (m.length : Int) := by omega
        by_cases he : l.getD j 0 = m.getD j 0
        · have HEn : Hid (∀ t, t < j + 1 → l.getD t 0 = m.getD t 0) := fun t ht => by
            by_cases e : t = j
            · subst e; exact he
            · exact HE.out t (by omega)
          rw [← he] at hcell2
          generalize l.getD j 0 = y at hcell hcell2
          clear he
          go_wp2
          go_quiet (fail)
          go_wp2
          go_roundw
          case rel => exact ⟨j + 1, _, by omega, by go_num, HEn, by first | rfl | exact World.drewN_drewN ..⟩
          case measure => simp [intOf] <;> omega
        · have HN : Hid (decide (l = m) = false) := decide_eq_false (fun e => he (by rw [e]))
          have hne : (l.getD j 0 != m.getD j 0) = true := by rw [bne_iff_ne]; exact he
          generalize l.getD j 0 = y at hcell hne
          generalize m.getD j 0 = z at hcell2 hne
          clear he
          go_wp2
          go_quiet (fail)
          go_wp2
          go_ret
          exact ⟨ret_bool HN.out.symm, by first | exact drew_close0 | exact ⟨_, rfl⟩⟩
      · obtain rfl : j = l.length := by omega
        have HN : Hid (decide (l = m) = true) := decide_eq_true (list_ext_getD HL.out HE.out)
        clear HE
        go_wp2
        go_ret
        exact ⟨ret_bool HN.out.symm, by first | exact ⟨_, rfl⟩ | exact drew_close0⟩
  · have hb : (((l.length : Nat) : Int) != ((m.length : Nat) : Int)) = true := by simp; omega
    have HN : Hid (decide (l = m) = false) := decide_eq_false (fun e => hlen (by rw [e]))
    clear hlen
    go_enter Try.func20, Try.ntmps20
    go_wp2
    go_ret
    exact ⟨ret_bool HN.out.symm, 0, rfl⟩
end Go.Proofs.Ytncdambphaodaaa
