/- A ring that isn't there; the walk of RingNil. -/
import Derived.Test.YtncdambphaodaaaTwin01
namespace Go.Proofs.Ytncdambphaodaaa
set_option linter.unusedVariables false
open Go.RowKit

theorem BelowDrew {w w' : World} (h : Below w.heap.size w w') (n : Nat) : Below w.heap.size w (w'.drewN n) := below_drewN' h n
theorem nil_lay (w : World) (v : Int) : Calls Try.prog 41 #[.pointer none, .int .i64 v] w fun e w' => e = .returned (.int .i64 1) ∧ ∃ k, w' = w.drewN k := by
  go_enter Try.func41, Try.ntmps41
  go_wp2
  go_ret
  exact ⟨rfl, by first | exact ⟨0, rfl⟩ | exact drew_close1 | exact drew_close0⟩
theorem nil_publish (w : World) : Calls Try.prog 43 #[.pointer none] w fun e w' => e = .returned (.int .i64 1) ∧ ∃ k, w' = w.drewN k := by
  go_enter Try.func43, Try.ntmps43
  go_wp2
  go_ret
  exact ⟨rfl, by first | exact ⟨0, rfl⟩ | exact drew_close1 | exact drew_close0⟩
theorem nil_peek (w : World) : Calls Try.prog 39 #[.pointer none] w fun e w' => e = .returned (.tuple #[.int .i64 0, .int .i64 1]) ∧ ∃ k, w' = w.drewN k := by
  go_enter Try.func39, Try.ntmps39
  go_wp2
  go_ret2
  exact ⟨rfl, by first | exact ⟨0, rfl⟩ | exact drew_close1 | exact drew_close0⟩
theorem nil_len (w : World) : Calls Try.prog 37 #[.pointer none] w fun e w' => e = .returned (.int .i64 0) ∧ ∃ k, w' = w.drewN k := by
  go_enter Try.func37, Try.ntmps37
  go_wp2
  go_ret
  exact ⟨rfl, by first | exact ⟨0, rfl⟩ | exact drew_close1 | exact drew_close0⟩
theorem nil_room (w : World) : Calls Try.prog 38 #[.pointer none] w fun e w' => e = .returned (.int .i64 0) ∧ ∃ k, w' = w.drewN k := by
  go_enter Try.func38, Try.ntmps38
  go_wp2
  go_ret
  exact ⟨rfl, by first | exact ⟨0, rfl⟩ | exact drew_close1 | exact drew_close0⟩
theorem nil_counts (w : World) : Calls Try.prog 46 #[.pointer none] w fun e w' => e = .returned (.tuple #[.int .u32 0, .int .u32 0]) ∧ ∃ k, w' = w.drewN k := by
  go_enter Try.func46, Try.ntmps46
  go_wp2
  go_ret2
  exact ⟨rfl, by first | exact ⟨0, rfl⟩ | exact drew_close1 | exact drew_close0⟩
theorem nil_free (w : World) : Calls Try.prog 40 #[.pointer none] w fun e w' => e = .returned (.int .i64 1) ∧ ∃ k, w' = w.drewN k := by
  go_enter Try.func40, Try.ntmps40
  go_wp2_with (first | (go_at_call 39; refine (nil_peek _).mono ?_; rintro e w' ⟨rfl, k, rfl⟩))
  go_ret
  exact ⟨rfl, by first | exact ⟨0, rfl⟩ | exact drew_close1 | exact drew_close0⟩
theorem nil_pop (w : World) : Calls Try.prog 36 #[.pointer none] w fun e w' => e = .returned (.tuple #[.int .i64 0, .int .i64 1]) ∧ ∃ k, w' = w.drewN k := by
  go_enter Try.func36, Try.ntmps36
  go_wp2_with (first | (go_at_call 39; refine (nil_peek _).mono ?_; rintro e w' ⟨rfl, k, rfl⟩))
  go_ret2
  exact ⟨rfl, by first | exact ⟨0, rfl⟩ | exact drew_close1 | exact drew_close0⟩
theorem nil_push (w : World) (v : Int) : Calls Try.prog 35 #[.pointer none, .int .i64 v] w fun e w' => e = .returned (.int .i64 1) ∧ ∃ k, w' = w.drewN k := by
  go_enter Try.func35, Try.ntmps35
  go_wp2_with (first | (go_at_call 41; refine (nil_lay _ _).mono ?_; rintro e w' ⟨rfl, k, rfl⟩))
  go_ret
  exact ⟨rfl, by first | exact ⟨0, rfl⟩ | exact drew_close1 | exact drew_close0⟩
theorem nil_pushAll (w : World) (a : Option Addr) (c : Nat) (l : List Int) (hl : l.length ≤ maxLen) (hr : IntsAt .i64 w a l) :
    Calls Try.prog 50 #[.pointer none, .slice a l.length c] w fun e w' => e = .returned (.int .i64 0) ∧ ∃ k, w' = w.drewN k := by
  unfold maxLen at hl
  go_enter Try.func50, Try.ntmps50
  go_wp2
  go_loopw [9] (fun i wr => i = .int .i64 0 ∧ ∃ k, wr = w.drewN k) (fun i _ => l.length - (intOf i).toNat)
  case atStart => exact ⟨rfl, 0, rfl⟩
  case round =>
    obtain ⟨rfl, kk, rfl⟩ := hrel
    by_cases hlm : 0 < l.length
    · obtain ⟨blk, off, rfl, hcell⟩ := (hr.drewN kk) 0 hlm
      generalize l.getD 0 0 = v at hcell
      rw [Nat.add_zero] at hcell
      have hlm2 : (0 : Int) < (l.length : Int) := by omega
      go_wp2_with (first | (go_at_call 35; refine (nil_push _ _).mono ?_; rintro e w' ⟨rfl, k, rfl⟩))
      go_ret
      exact ⟨rfl, by first | exact drew_close0 | exact drew_close1 | exact ⟨_, rfl⟩⟩
    · have e : l = [] := List.eq_nil_of_length_eq_zero (by omega)
      subst e
      go_wp2
      go_ret
      exact ⟨rfl, _, rfl⟩
theorem nil_popSome (w : World) (most : Int) :
    Calls Try.prog 51 #[.pointer none, .int .i64 most] w fun e w' => e = .returned (.slice none 0 0) ∧ ∃ k, w' = w.drewN k := by
  by_cases c1 : most < 0
  · go_enter Try.func51, Try.ntmps51
    go_wp2_with (first | (go_at_call 37; refine (nil_len _).mono ?_; rintro e w' ⟨rfl, k, rfl⟩))
    go_loopw [5, 13] (fun v i wr => v = .slice none 0 0 ∧ i = .int .i64 0 ∧ ∃ k, wr = w.drewN k) (fun _ i _ => 0 - (intOf i).toNat)
    case atStart => exact ⟨rfl, rfl, _, rfl⟩
    case round =>
      obtain ⟨rfl, rfl, kk, rfl⟩ := hrel
      go_wp2
      go_ret
      exact ⟨rfl, _, rfl⟩
  · by_cases c2 : (0 : Int) < most
    · go_enter Try.func51, Try.ntmps51
      go_wp2_with (first | (go_at_call 37; refine (nil_len _).mono ?_; rintro e w' ⟨rfl, k, rfl⟩))
      go_loopw [5, 13] (fun v i wr => v = .slice none 0 0 ∧ i = .int .i64 0 ∧ ∃ k, wr = w.drewN k) (fun _ i _ => 0 - (intOf i).toNat)
      case atStart => exact ⟨rfl, rfl, _, rfl⟩
      case round =>
        obtain ⟨rfl, rfl, kk, rfl⟩ := hrel
        go_wp2
        go_ret
        exact ⟨rfl, _, rfl⟩
    · obtain rfl : most = 0 := by omega
      go_enter Try.func51, Try.ntmps51
      go_wp2_with (first | (go_at_call 37; refine (nil_len _).mono ?_; rintro e w' ⟨rfl, k, rfl⟩))
      go_loopw [5, 13] (fun v i wr => v = .slice none 0 0 ∧ i = .int .i64 0 ∧ ∃ k, wr = w.drewN k) (fun _ i _ => 0 - (intOf i).toNat)
      case atStart => exact ⟨rfl, rfl, _, rfl⟩
      case round =>
        obtain ⟨rfl, rfl, kk, rfl⟩ := hrel
        go_wp2
        go_ret
        exact ⟨rfl, _, rfl⟩
theorem nil_all (w : World) :
    Calls Try.prog 42 #[.pointer none] w fun e w' => e = .returned (.slice none 0 0) ∧ ∃ k, w' = w.drewN k := by
  go_enter Try.func42, Try.ntmps42
  go_wp2_with (first | (go_at_call 37; refine (nil_len _).mono ?_; rintro e w' ⟨rfl, k, rfl⟩))
  go_loopw [3, 7] (fun v i wr => v = .slice none 0 0 ∧ i = .int .i64 0 ∧ ∃ k, wr = w.drewN k) (fun _ i _ => 0 - (intOf i).toNat)
  case atStart => exact ⟨rfl, rfl, _, rfl⟩
  case round =>
    obtain ⟨rfl, rfl, kk, rfl⟩ := hrel
    go_wp2
    go_ret
    exact ⟨rfl, _, rfl⟩
def nilE (k : Int) : Int := if kindOf k ≤ 5 then 1 else 0
theorem nilStep_Push (w : World) (o : Op01) (hk : kindOf o.k = 0) :
    Calls Try.prog 45 #[.pointer none, .agg #[.int .i64 o.k, .int .i64 o.v, .slice o.la o.ll.length o.lc]] w fun e w' => e = .returned (.tuple #[.int .i64 0, .int .i64 1, .slice none 0 0]) ∧ Below w.heap.size w w' := by
  go_enter Try.func45, Try.ntmps45
  go_wp2_with (first | (go_at_call 34; refine (kind_is 0 _ _ _ _ hk).mono ?_; rintro e w3 ⟨rfl, hb3⟩; have hc1 := cell_late hb3 1 _ rfl; have hc2 := cell_late hb3 2 _ rfl; have hB3 := (Below.trans ((Below.refl _ _).alloc (Nat.le_refl _) _) (hb3.mono (by simp)))) | (go_at_call 35; refine (nil_push _ _).mono ?_; rintro e w' ⟨rfl, k, rfl⟩))
  go_ret3
  exact ⟨rfl, below_drewN' hB3 _⟩
theorem nilStep_Pop (w : World) (o : Op01) (hk : kindOf o.k = 1) :
    Calls Try.prog 45 #[.pointer none, .agg #[.int .i64 o.k, .int .i64 o.v, .slice o.la o.ll.length o.lc]] w fun e w' => e = .returned (.tuple #[.int .i64 0, .int .i64 1, .slice none 0 0]) ∧ Below w.heap.size w w' := by
  go_enter Try.func45, Try.ntmps45
  go_wp2_with (first | (go_at_call 34; refine (kind_is 1 _ _ _ _ hk).mono ?_; rintro e w3 ⟨rfl, hb3⟩; have hc1 := cell_late hb3 1 _ rfl; have hc2 := cell_late hb3 2 _ rfl; have hB3 := (Below.trans ((Below.refl _ _).alloc (Nat.le_refl _) _) (hb3.mono (by simp)))) | (go_at_call 36; refine (nil_pop _).mono ?_; rintro e w' ⟨rfl, k, rfl⟩))
  go_ret3
  exact ⟨rfl, below_drewN' hB3 _⟩
theorem nilStep_Lay (w : World) (o : Op01) (hk : kindOf o.k = 2) :
    Calls Try.prog 45 #[.pointer none, .agg #[.int .i64 o.k, .int .i64 o.v, .slice o.la o.ll.length o.lc]] w fun e w' => e = .returned (.tuple #[.int .i64 0, .int .i64 1, .slice none 0 0]) ∧ Below w.heap.size w w' := by
  go_enter Try.func45, Try.ntmps45
  go_wp2_with (first | (go_at_call 34; refine (kind_is 2 _ _ _ _ hk).mono ?_; rintro e w3 ⟨rfl, hb3⟩; have hc1 := cell_late hb3 1 _ rfl; have hc2 := cell_late hb3 2 _ rfl; have hB3 := (Below.trans ((Below.refl _ _).alloc (Nat.le_refl _) _) (hb3.mono (by simp)))) | (go_at_call 41; refine (nil_lay _ _).mono ?_; rintro e w' ⟨rfl, k, rfl⟩))
  go_ret3
  exact ⟨rfl, below_drewN' hB3 _⟩
theorem nilStep_Publish (w : World) (o : Op01) (hk : kindOf o.k = 3) :
    Calls Try.prog 45 #[.pointer none, .agg #[.int .i64 o.k, .int .i64 o.v, .slice o.la o.ll.length o.lc]] w fun e w' => e = .returned (.tuple #[.int .i64 0, .int .i64 1, .slice none 0 0]) ∧ Below w.heap.size w w' := by
  go_enter Try.func45, Try.ntmps45
  go_wp2_with (first | (go_at_call 34; refine (kind_is 3 _ _ _ _ hk).mono ?_; rintro e w3 ⟨rfl, hb3⟩; have hc1 := cell_late hb3 1 _ rfl; have hc2 := cell_late hb3 2 _ rfl; have hB3 := (Below.trans ((Below.refl _ _).alloc (Nat.le_refl _) _) (hb3.mono (by simp)))) | (go_at_call 43; refine (nil_publish _).mono ?_; rintro e w' ⟨rfl, k, rfl⟩))
  go_ret3
  exact ⟨rfl, below_drewN' hB3 _⟩
theorem nilStep_Free (w : World) (o : Op01) (hk : kindOf o.k = 4) :
    Calls Try.prog 45 #[.pointer none, .agg #[.int .i64 o.k, .int .i64 o.v, .slice o.la o.ll.length o.lc]] w fun e w' => e = .returned (.tuple #[.int .i64 0, .int .i64 1, .slice none 0 0]) ∧ Below w.heap.size w w' := by
  go_enter Try.func45, Try.ntmps45
  go_wp2_with (first | (go_at_call 34; refine (kind_is 4 _ _ _ _ hk).mono ?_; rintro e w3 ⟨rfl, hb3⟩; have hc1 := cell_late hb3 1 _ rfl; have hc2 := cell_late hb3 2 _ rfl; have hB3 := (Below.trans ((Below.refl _ _).alloc (Nat.le_refl _) _) (hb3.mono (by simp)))) | (go_at_call 40; refine (nil_free _).mono ?_; rintro e w' ⟨rfl, k, rfl⟩))
  go_ret3
  exact ⟨rfl, below_drewN' hB3 _⟩
theorem nilStep_Peek (w : World) (o : Op01) (hk : kindOf o.k = 5) :
    Calls Try.prog 45 #[.pointer none, .agg #[.int .i64 o.k, .int .i64 o.v, .slice o.la o.ll.length o.lc]] w fun e w' => e = .returned (.tuple #[.int .i64 0, .int .i64 1, .slice none 0 0]) ∧ Below w.heap.size w w' := by
  go_enter Try.func45, Try.ntmps45
  go_wp2_with (first | (go_at_call 34; refine (kind_is 5 _ _ _ _ hk).mono ?_; rintro e w3 ⟨rfl, hb3⟩; have hc1 := cell_late hb3 1 _ rfl; have hc2 := cell_late hb3 2 _ rfl; have hB3 := (Below.trans ((Below.refl _ _).alloc (Nat.le_refl _) _) (hb3.mono (by simp)))) | (go_at_call 39; refine (nil_peek _).mono ?_; rintro e w' ⟨rfl, k, rfl⟩))
  go_ret3
  exact ⟨rfl, below_drewN' hB3 _⟩
theorem nilStep_PushAll (w : World) (o : Op01) (hr : IntsAt .i64 w o.la o.ll) (hlc : o.ll.length ≤ o.lc) (hlm : o.lc ≤ maxLen) (hk : kindOf o.k = 6) :
    Calls Try.prog 45 #[.pointer none, .agg #[.int .i64 o.k, .int .i64 o.v, .slice o.la o.ll.length o.lc]] w fun e w' => e = .returned (.tuple #[.int .i64 0, .int .i64 0, .slice none 0 0]) ∧ Below w.heap.size w w' := by
  unfold maxLen at hlm
  by_cases c : 20 < o.ll.length
  · have e : (o.ll.take 20).length = 20 := by rw [List.length_take]; omega
    have c1 : (20 : Int) < ((o.ll.length : Nat) : Int) := by omega
    have c2 : 20 ≤ o.lc := by omega
    have hr2 : IntsAt .i64 w o.la (o.ll.take 20) := fun i hi => by
      rw [List.length_take] at hi
      obtain ⟨blk, off, e, hc⟩ := hr i (by omega)
      exact ⟨blk, off, e, by rw [List.getD_eq_getElem?_getD, List.getElem?_take, if_pos (by omega), ← List.getD_eq_getElem?_getD]; exact hc⟩
    have HP := Lib.hid (fun w hr => nil_pushAll w o.la o.lc (o.ll.take 20) (by rw [e]; decide) hr)
    rw [e] at HP
    go_enter Try.func45, Try.ntmps45
    go_wp2_with (first | (go_at_call 34; refine (kind_is 6 _ _ _ _ hk).mono ?_; rintro e w3 ⟨rfl, hb3⟩; have hc1 := cell_late hb3 1 _ rfl; have hc2 := cell_late hb3 2 _ rfl; have hB3 := (Below.trans ((Below.refl _ _).alloc (Nat.le_refl _) _) (hb3.mono (by simp)))) | (go_at_call 50; refine (HP.out _ (hr2.below hB3)).mono ?_; rintro e w' ⟨rfl, k, rfl⟩))
    go_ret3
    exact ⟨rfl, below_drewN' hB3 _⟩
  · have hr2 := hr
    have c1 : ¬ (20 : Int) < ((o.ll.length : Nat) : Int) := by omega
    have HP := Lib.hid (fun w hr => nil_pushAll w o.la o.lc o.ll (by unfold maxLen; omega) hr)
    go_enter Try.func45, Try.ntmps45
    go_wp2_with (first | (go_at_call 34; refine (kind_is 6 _ _ _ _ hk).mono ?_; rintro e w3 ⟨rfl, hb3⟩; have hc1 := cell_late hb3 1 _ rfl; have hc2 := cell_late hb3 2 _ rfl; have hB3 := (Below.trans ((Below.refl _ _).alloc (Nat.le_refl _) _) (hb3.mono (by simp)))) | (go_at_call 50; refine (HP.out _ (hr2.below hB3)).mono ?_; rintro e w' ⟨rfl, k, rfl⟩))
    go_ret3
    exact ⟨rfl, below_drewN' hB3 _⟩
theorem nilStep_PopSome (w : World) (o : Op01) (hk : kindOf o.k = 7) :
    Calls Try.prog 45 #[.pointer none, .agg #[.int .i64 o.k, .int .i64 o.v, .slice o.la o.ll.length o.lc]] w fun e w' => e = .returned (.tuple #[.int .i64 0, .int .i64 0, .slice none 0 0]) ∧ Below w.heap.size w w' := by
  go_enter Try.func45, Try.ntmps45
  go_wp2_with (first | (go_at_call 34; refine (kind_is 7 _ _ _ _ hk).mono ?_; rintro e w3 ⟨rfl, hb3⟩; have hc1 := cell_late hb3 1 _ rfl; have hc2 := cell_late hb3 2 _ rfl; have hB3 := (Below.trans ((Below.refl _ _).alloc (Nat.le_refl _) _) (hb3.mono (by simp)))) | (go_at_call 51; refine (nil_popSome _ _).mono ?_; rintro e w' ⟨rfl, k, rfl⟩))
  go_ret3
  exact ⟨rfl, below_drewN' hB3 _⟩
theorem nilStep_calls (w : World) (o : Op01) (hr : IntsAt .i64 w o.la o.ll) (hlc : o.ll.length ≤ o.lc) (hlm : o.lc ≤ maxLen) :
    Calls Try.prog 45 #[.pointer none, .agg #[.int .i64 o.k, .int .i64 o.v, .slice o.la o.ll.length o.lc]] w fun e w' => e = .returned (.tuple #[.int .i64 0, .int .i64 (nilE o.k), .slice none 0 0]) ∧ Below w.heap.size w w' := by
  obtain ⟨q0, q7⟩ := kindOf_range o.k
  have hc : kindOf o.k = 0 ∨ kindOf o.k = 1 ∨ kindOf o.k = 2 ∨ kindOf o.k = 3 ∨ kindOf o.k = 4 ∨ kindOf o.k = 5 ∨ kindOf o.k = 6 ∨ kindOf o.k = 7 := by omega
  unfold nilE
  rcases hc with hk | hk | hk | hk | hk | hk | hk | hk
  · rw [hk]; exact nilStep_Push w o hk
  · rw [hk]; exact nilStep_Pop w o hk
  · rw [hk]; exact nilStep_Lay w o hk
  · rw [hk]; exact nilStep_Publish w o hk
  · rw [hk]; exact nilStep_Free w o hk
  · rw [hk]; exact nilStep_Peek w o hk
  · rw [hk]; exact nilStep_PushAll w o hr hlc hlm hk
  · rw [hk]; exact nilStep_PopSome w o hk
end Go.Proofs.Ytncdambphaodaaa
