/- A ring's PushAll and PopSome. -/
import Derived.Test.YtncdambphaodaaaRingE
namespace Go.Proofs.Ytncdambphaodaaa
set_option linter.unusedVariables false
open Go.RowKit

theorem pushAll_cons {s : RS Int} {v : Int} {l : List Int} (h : (s.push v).2 = 0) : s.pushAll (v :: l) = (((s.push v).1.pushAll l).1, ((s.push v).1.pushAll l).2 + 1) := by
  show (if (s.push v).2 = 0 then _ else _) = _
  rw [if_pos h]
theorem pushAll_stop {s : RS Int} {v : Int} {l : List Int} (h : (s.push v).2 ≠ 0) : s.pushAll (v :: l) = (s, 0) := by
  show (if (s.push v).2 = 0 then _ else _) = _
  rw [if_neg h]
theorem ring_pushAll (w : World) (b g : Nat) (s : RS Int) (a : Option Addr) (c : Nat) (l : List Int) (h : RingAt w b g s) (hl : l.length ≤ maxLen) (hr : IntsOff .i64 w a l [b, g]) :
    Calls Try.prog 50 #[.pointer (some ⟨b, 0, none⟩), .slice a l.length c] w fun e w' => e = .returned (.int .i64 (((s.pushAll l).2 : Nat) : Int)) ∧ RingAt w' b g (s.pushAll l).1 ∧ Only [b, g] w w' := by
  unfold maxLen at hl
  go_enter Try.func50, Try.ntmps50
  go_wp2
  go_loopw [9] (fun i wr => ∃ (m : Nat) (t : RS Int), m ≤ l.length ∧ i = .int .i64 (m : Int) ∧ RingAt wr b g t ∧ Only [b, g] w wr ∧ Hid ((s.pushAll l).1 = (t.pushAll (l.drop m)).1 ∧ (s.pushAll l).2 = (t.pushAll (l.drop m)).2 + m)) (fun i _ => l.length - (intOf i).toNat)
  case atStart => exact ⟨0, s, by omega, rfl, h, Only.refl _ _, rfl, rfl⟩
  case round =>
    obtain ⟨m, t, hm, rfl, hR, hO, HQ⟩ := hrel
    by_cases hlm : m < l.length
    · obtain ⟨blk, off, rfl, _, hcell⟩ := (hr.only hO) m hlm
      have HD := Lib.hid (drop_cons hlm 0)
      generalize l.getD m 0 = v at hcell HD
      have HP := fun w h => ring_push w b g t v h
      by_cases e1 : (t.push v).2 = 0
      · have HQ2 : Hid ((s.pushAll l).1 = ((t.push v).1.pushAll (l.drop (m + 1))).1 ∧ (s.pushAll l).2 = ((t.push v).1.pushAll (l.drop (m + 1))).2 + (m + 1)) := by
          have := HQ.out
          rw [HD.out, pushAll_cons e1] at this
          exact ⟨this.1, by rw [this.2]; show _ + 1 + m = _; omega⟩
        rw [e1] at HP
        generalize (t.push v).1 = t2 at HP HQ2
        have HP2 := Lib.hid HP
        clear HP e1 HQ
        go_wp2_with (first | (go_at_call 35; refine (HP2.out _ hR).mono ?_; rintro e w2 ⟨rfl, hR2, hO2⟩))
        go_roundw
        case rel => exact ⟨m + 1, t2, by omega, by go_num, hR2, hO.trans hO2, HQ2⟩
        case measure => simp [intOf] <;> omega
      · have hne : ((t.push v).2 != 0) = true := by rw [bne_iff_ne]; exact e1
        have HQ2 : Hid ((s.pushAll l).1 = t ∧ (s.pushAll l).2 = m) := by
          have := HQ.out
          rw [HD.out, pushAll_stop e1] at this
          exact ⟨this.1, by rw [this.2]; show 0 + m = m; omega⟩
        have e2 : (t.push v).1 = t := by
          unfold RS.push at e1 ⊢
          by_cases c1 : t.ld.isSome = true
          · rw [if_pos c1]
          · by_cases c2 : t.q.length = t.n
            · rw [if_neg c1, if_pos c2]
            · rw [if_neg c1, if_neg c2] at e1; simp at e1
        rw [e2] at HP
        generalize (t.push v).2 = r2 at HP hne
        have HP2 := Lib.hid HP
        clear HP e1 e2 HQ
        go_wp2_with (first | (go_at_call 35; refine (HP2.out _ hR).mono ?_; rintro e w2 ⟨rfl, hR2, hO2⟩))
        go_ret
        exact ⟨ret_int (by rw [HQ2.out.2]), by rw [HQ2.out.1]; exact hR2, hO.trans hO2⟩
    · obtain rfl : m = l.length := by omega
      have HQ2 : Hid ((s.pushAll l).1 = t ∧ (s.pushAll l).2 = l.length) := by
        have := HQ.out
        rw [List.drop_length] at this
        exact ⟨this.1, by rw [this.2]; show 0 + l.length = l.length; omega⟩
      go_wp2
      go_ret
      exact ⟨ret_int (by rw [HQ2.out.2]), by rw [HQ2.out.1]; exact hR, hO⟩

/-- How many PopSome takes. -/
def someN (s : RS Int) (most : Int) : Nat := (min (max most 0) (s.q.length : Int)).toNat
theorem popN_succ (s : RS Int) (k : Nat) : s.popN (k + 1) = (s.popN k).free := by
  induction k generalizing s with
  | zero => rfl
  | succ k ih => show s.free.popN (k + 1) = _; rw [ih]; rfl
theorem popN_q (s : RS Int) (k : Nat) : (s.popN k).q = s.q.drop k := by
  induction k generalizing s with
  | zero => simp [RS.popN]
  | succ k ih =>
    show (s.free.popN k).q = _
    rw [ih]
    unfold RS.free
    split
    · rename_i h; rw [List.eq_nil_of_length_eq_zero h]; simp
    · show s.q.tail.drop k = _; rw [← List.drop_one, List.drop_drop, Nat.add_comm]
theorem head_drop (l : List Int) (k : Nat) : (l.drop k).headD 0 = l.getD k 0 := by
  rw [List.getD_eq_getElem?_getD, List.headD_eq_head?_getD, List.head?_drop]
theorem ring_popSome (w : World) (b g : Nat) (s : RS Int) (most : Int) (h : RingAt w b g s) :
    Calls Try.prog 51 #[.pointer (some ⟨b, 0, none⟩), .int .i64 most] w fun e w' => ∃ a c, e = .returned (.slice a (s.q.take (someN s most)).length c) ∧ IntsNew w.heap.size .i64 w' a (s.q.take (someN s most)) ∧ RingAt w' b g (s.popN (someN s most)) ∧ Only [b, g] w w' := by
  have hlt := h.lt
  have hle : s.q.length ≤ 4096 := Nat.le_trans h.1.le h.1.n2
  have hk : someN s most ≤ s.q.length := by unfold someN; omega
  have HL := Lib.hid (fun w h => ring_len w b g s h)
  have hS : ∀ k ∈ [b, g], k < w.heap.size := by simp; exact hlt
  have hlen : (s.q.take (someN s most)).length = someN s most := by rw [List.length_take]; omega
  by_cases c1 : most < 0
  · have e : someN s most = 0 := by unfold someN; omega
    rw [e] at hlen hk ⊢
    clear e
    have c2 : (0 : Int) ≤ ((s.q.length : Nat) : Int) := by omega
    go_enter Try.func51, Try.ntmps51
    go_wp2_with (first | (go_at_call 37; refine (HL.out _ h).mono ?_; rintro e w' ⟨rfl, k, rfl⟩))
    go_loopw [5, 13] (fun v i wr => ∃ m : Nat, m ≤ 0 ∧ i = .int .i64 (m : Int) ∧ RingAt wr b g (s.popN m) ∧ Only [b, g] w wr ∧ wr.ownsRow w.heap.size 3 1 v m ((s.q.take m).map (Value.int .i64))) (fun _ i _ => 0 - (intOf i).toNat)
    case atStart => exact ⟨0, by omega, rfl, h.drewN _, (Only.refl _ _).drewN _, World.ownsRow_nil _ _ _ _⟩
    case round =>
      obtain ⟨m, hm, rfl, hR, hO, hown⟩ := hrel
      by_cases hlm : m < 0
      · omega
      · obtain rfl : m = 0 := by omega
        have HL3 := Lib.hid hlen
        go_wp2
        go_ret
        obtain ⟨a, c, rfl, hi⟩ := IntsNew.own (l := s.q.take 0) (by rw [HL3.out]; exact hown)
        exact ⟨a, c, rfl, hi, hR, hO⟩
  · by_cases c2 : ((s.q.length : Nat) : Int) < most
    · have e : someN s most = s.q.length := by unfold someN; omega
      rw [e] at hlen hk ⊢
      clear e
      go_enter Try.func51, Try.ntmps51
      go_wp2_with (first | (go_at_call 37; refine (HL.out _ h).mono ?_; rintro e w' ⟨rfl, k, rfl⟩))
      go_loopw [5, 13] (fun v i wr => ∃ m : Nat, m ≤ s.q.length ∧ i = .int .i64 (m : Int) ∧ RingAt wr b g (s.popN m) ∧ Only [b, g] w wr ∧ wr.ownsRow w.heap.size 3 1 v m ((s.q.take m).map (Value.int .i64))) (fun _ i _ => s.q.length - (intOf i).toNat)
      case atStart => exact ⟨0, by omega, rfl, h.drewN _, (Only.refl _ _).drewN _, World.ownsRow_nil _ _ _ _⟩
      case round =>
        obtain ⟨m, hm, rfl, hR, hO, hown⟩ := hrel
        by_cases hlm : m < s.q.length
        · have HP := fun w h => ring_pop w b g (s.popN m) h
          have HT := Lib.hid (take_snoc (l := s.q) (m := m) (by omega))
          rw [popN_q, head_drop, ← popN_succ] at HP
          generalize s.q.getD m 0 = y at HP HT
          generalize (s.popN m).peekE = pe at HP
          have HP2 := Lib.hid HP
          clear HP
          go_wp2_with (first | (go_at_call 36; refine (HP2.out _ hR).mono ?_; rintro e w2 ⟨rfl, hR2, hO2⟩; have hown2 := ownsRow_only hown hO2 hS; clear hown) | (at_builtin; refine append_own (W0 := w2) [.int .i64 y] w.heap.size _ _ _ 1 8 infoInt Try.underlying22 rfl (by decide) _ _ _ hown2 (Below.refl _ _) (Nat.le_trans hO.size hO2.size) rfl (by simp [Value.oneCell']) (by omega) (by decide) rfl _ _ rfl rfl rfl ?_; intro v1 w1 hown1 hb1 hg1 hor1; clear hg1 hor1 hown2))
          go_roundw
          case rel => exact ⟨m + 1, by omega, by go_num, hR2.below hb1 hlt.1 hlt.2, (hO.trans hO2).late_below hb1, by rw [HT.out, List.map_append]; exact hown1⟩
          case measure => simp [intOf] <;> omega
        · obtain rfl : m = s.q.length := by omega
          have HL3 := Lib.hid hlen
          go_wp2
          go_ret
          obtain ⟨a, c, rfl, hi⟩ := IntsNew.own (l := s.q.take s.q.length) (by rw [HL3.out]; exact hown)
          exact ⟨a, c, rfl, hi, hR, hO⟩
    · obtain ⟨kk, rfl⟩ := Int.eq_ofNat_of_zero_le (by omega : 0 ≤ most)
      have e : someN s (kk : Int) = kk := by unfold someN; omega
      rw [e] at hlen hk ⊢
      clear e
      go_enter Try.func51, Try.ntmps51
      go_wp2_with (first | (go_at_call 37; refine (HL.out _ h).mono ?_; rintro e w' ⟨rfl, k, rfl⟩))
      go_loopw [5, 13] (fun v i wr => ∃ m : Nat, m ≤ kk ∧ i = .int .i64 (m : Int) ∧ RingAt wr b g (s.popN m) ∧ Only [b, g] w wr ∧ wr.ownsRow w.heap.size 3 1 v m ((s.q.take m).map (Value.int .i64))) (fun _ i _ => kk - (intOf i).toNat)
      case atStart => exact ⟨0, by omega, rfl, h.drewN _, (Only.refl _ _).drewN _, World.ownsRow_nil _ _ _ _⟩
      case round =>
        obtain ⟨m, hm, rfl, hR, hO, hown⟩ := hrel
        by_cases hlm : m < kk
        · have HP := fun w h => ring_pop w b g (s.popN m) h
          have HT := Lib.hid (take_snoc (l := s.q) (m := m) (by omega))
          rw [popN_q, head_drop, ← popN_succ] at HP
          generalize s.q.getD m 0 = y at HP HT
          generalize (s.popN m).peekE = pe at HP
          have HP2 := Lib.hid HP
          clear HP
          go_wp2_with (first | (go_at_call 36; refine (HP2.out _ hR).mono ?_; rintro e w2 ⟨rfl, hR2, hO2⟩; have hown2 := ownsRow_only hown hO2 hS; clear hown) | (at_builtin; refine append_own (W0 := w2) [.int .i64 y] w.heap.size _ _ _ 1 8 infoInt Try.underlying22 rfl (by decide) _ _ _ hown2 (Below.refl _ _) (Nat.le_trans hO.size hO2.size) rfl (by simp [Value.oneCell']) (by omega) (by decide) rfl _ _ rfl rfl rfl ?_; intro v1 w1 hown1 hb1 hg1 hor1; clear hg1 hor1 hown2))
          go_roundw
          case rel => exact ⟨m + 1, by omega, by go_num, hR2.below hb1 hlt.1 hlt.2, (hO.trans hO2).late_below hb1, by rw [HT.out, List.map_append]; exact hown1⟩
          case measure => simp [intOf] <;> omega
        · obtain rfl : m = kk := by omega
          have HL3 := Lib.hid hlen
          go_wp2
          go_ret
          obtain ⟨a, c, rfl, hi⟩ := IntsNew.own (l := s.q.take m) (by rw [HL3.out]; exact hown)
          exact ⟨a, c, rfl, hi, hR, hO⟩
end Go.Proofs.Ytncdambphaodaaa
