/- A ring law's step: what it answers, of a ring as a list. -/
import Derived.Test.YtncdambphaodaaaRingG
import Derived.Test.YtncdambphaodaaaScript01
namespace Go.Proofs.Ytncdambphaodaaa
set_option linter.unusedVariables false
open Go.RowKit

/-- The ring behind a step, and what the step answers. -/
def stepS (s : RS Int) (o : Op01) : RS Int :=
  if kindOf o.k = 0 then (s.push o.v).1 else if kindOf o.k = 1 then s.free else if kindOf o.k = 2 then (s.lay o.v).1 else if kindOf o.k = 3 then s.publish.1 else if kindOf o.k = 4 then s.free else if kindOf o.k = 5 then s else if kindOf o.k = 6 then (s.pushAll (o.ll.take 20)).1 else s.popN (someN s o.v)
def stepN (s : RS Int) (o : Op01) : Int := if kindOf o.k = 1 ∨ kindOf o.k = 5 then s.q.headD 0 else if kindOf o.k = 6 then ((s.pushAll (o.ll.take 20)).2 : Int) else 0
def stepE (s : RS Int) (o : Op01) : Int := if kindOf o.k = 0 then (s.push o.v).2 else if kindOf o.k = 2 then (s.lay o.v).2 else if kindOf o.k = 3 then s.publish.2 else if kindOf o.k = 1 ∨ kindOf o.k = 4 ∨ kindOf o.k = 5 then s.peekE else 0
def stepL (s : RS Int) (o : Op01) : List Int := if kindOf o.k = 7 then s.q.take (someN s o.v) else []
theorem IntsNew.mono {B C : Nat} {k : IntKind} {w : World} {a : Option Addr} {l : List Int} (h : IntsNew B k w a l) (hc : C ≤ B) : IntsNew C k w a l := fun i hi => by
  obtain ⟨blk, e, hB, hc'⟩ := h i hi
  exact ⟨blk, e, by omega, hc'⟩
theorem IntsOff.take {k : IntKind} {w : World} {a : Option Addr} {l : List Int} {S : List Nat} (h : IntsOff k w a l S) (n : Nat) : IntsOff k w a (l.take n) S := fun i hi => by
  rw [List.length_take] at hi
  obtain ⟨blk, off, e, hn, hc⟩ := h i (by omega)
  refine ⟨blk, off, e, hn, ?_⟩
  rw [List.getD_eq_getElem?_getD, List.getElem?_take, if_pos (by omega), ← List.getD_eq_getElem?_getD]
  exact hc
theorem cell_late {w w3 : World} {cs : Array Value} {T : TypeId} (hb : Below (w.alloc (.cells cs T)).heap.size (w.alloc (.cells cs T)) w3) (j : Nat) (v : Value) (h : cs[j]? = some v) : w3.cell? ⟨w.heap.size, j, none⟩ = some v := by
  rw [hb.cell (p := ⟨w.heap.size, j, none⟩) (by simp), World.cell?_alloc_new]
  exact h
def SayStep (b g : Nat) (w : World) (s : RS Int) (n e : Int) (l : List Int) (r : Ending) (w' : World) : Prop :=
  ∃ a c, r = .returned (.tuple #[.int .i64 n, .int .i64 e, .slice a l.length c]) ∧ IntsNew w.heap.size .i64 w' a l ∧ RingAt w' b g s ∧ Only [b, g] w w'
theorem kind_is (n k v : Int) (x : Value) (w : World) (h : kindOf k = n) : Calls Try.prog 34 #[.agg #[.int .i64 k, .int .i64 v, x]] w fun e w' => e = .returned (.int .i64 n) ∧ Below w.heap.size w w' := by
  rw [← h]; exact kind_calls k v x w
theorem IntsNew.none {B : Nat} {k : IntKind} {w : World} : IntsNew B k w none [] := fun i hi => by simp at hi
theorem Only.below_at {S : List Nat} {a b c : World} (h : Below a.heap.size a b) (k : Only S b c) : Only S a c := (Only.ofBelow h S).trans k
theorem step01_push (w : World) (b g : Nat) (s : RS Int) (o : Op01) (h : RingAt w b g s) (hk : kindOf o.k = 0) :
    Calls Try.prog 45 #[.pointer (some ⟨b, 0, none⟩), .agg #[.int .i64 o.k, .int .i64 o.v, .slice o.la o.ll.length o.lc]] w (SayStep b g w ((s.push o.v).1) (0) ((s.push o.v).2) ([])) := by
  have HP := fun w h => ring_push w b g s o.v h
  generalize (s.push o.v).2 = ee at HP ⊢
  have HP2 := Lib.hid HP
  clear HP
  go_enter Try.func45, Try.ntmps45
  go_wp2_with (first | (go_at_call 34; refine (kind_is 0 _ _ _ _ hk).mono ?_; rintro e w3 ⟨rfl, hb3⟩; have hc1 := cell_late hb3 1 _ rfl; have hc2 := cell_late hb3 2 _ rfl; have hR3 := h.below (Below.trans ((Below.refl _ _).alloc (Nat.le_refl _) _) (hb3.mono (by simp))) h.lt.1 h.lt.2; have hO3 := Only.ofBelow (Below.trans ((Below.refl _ _).alloc (Nat.le_refl _) _) (hb3.mono (by simp))) [b, g]) | (go_at_call 35; refine (HP2.out _ hR3).mono ?_; rintro e w4 ⟨rfl, hR4, hO4⟩))
  go_ret3
  exact ⟨none, 0, rfl, IntsNew.none, by first | exact hR4 | exact hR4.drewN _, by first | exact hO3.trans hO4 | exact (hO3.trans hO4).drewN _⟩
theorem step01_pop (w : World) (b g : Nat) (s : RS Int) (o : Op01) (h : RingAt w b g s) (hk : kindOf o.k = 1) :
    Calls Try.prog 45 #[.pointer (some ⟨b, 0, none⟩), .agg #[.int .i64 o.k, .int .i64 o.v, .slice o.la o.ll.length o.lc]] w (SayStep b g w (s.free) (s.q.headD 0) (s.peekE) ([])) := by
  have HP := fun w h => ring_pop w b g s h
  generalize s.q.headD 0 = yy at HP ⊢
  generalize s.peekE = ee at HP ⊢
  have HP2 := Lib.hid HP
  clear HP
  go_enter Try.func45, Try.ntmps45
  go_wp2_with (first | (go_at_call 34; refine (kind_is 1 _ _ _ _ hk).mono ?_; rintro e w3 ⟨rfl, hb3⟩; have hc1 := cell_late hb3 1 _ rfl; have hc2 := cell_late hb3 2 _ rfl; have hR3 := h.below (Below.trans ((Below.refl _ _).alloc (Nat.le_refl _) _) (hb3.mono (by simp))) h.lt.1 h.lt.2; have hO3 := Only.ofBelow (Below.trans ((Below.refl _ _).alloc (Nat.le_refl _) _) (hb3.mono (by simp))) [b, g]) | (go_at_call 36; refine (HP2.out _ hR3).mono ?_; rintro e w4 ⟨rfl, hR4, hO4⟩))
  go_ret3
  exact ⟨none, 0, rfl, IntsNew.none, by first | exact hR4 | exact hR4.drewN _, by first | exact hO3.trans hO4 | exact (hO3.trans hO4).drewN _⟩
theorem step01_lay (w : World) (b g : Nat) (s : RS Int) (o : Op01) (h : RingAt w b g s) (hk : kindOf o.k = 2) :
    Calls Try.prog 45 #[.pointer (some ⟨b, 0, none⟩), .agg #[.int .i64 o.k, .int .i64 o.v, .slice o.la o.ll.length o.lc]] w (SayStep b g w ((s.lay o.v).1) (0) ((s.lay o.v).2) ([])) := by
  have HP := fun w h => ring_lay w b g s o.v h
  generalize (s.lay o.v).2 = ee at HP ⊢
  have HP2 := Lib.hid HP
  clear HP
  go_enter Try.func45, Try.ntmps45
  go_wp2_with (first | (go_at_call 34; refine (kind_is 2 _ _ _ _ hk).mono ?_; rintro e w3 ⟨rfl, hb3⟩; have hc1 := cell_late hb3 1 _ rfl; have hc2 := cell_late hb3 2 _ rfl; have hR3 := h.below (Below.trans ((Below.refl _ _).alloc (Nat.le_refl _) _) (hb3.mono (by simp))) h.lt.1 h.lt.2; have hO3 := Only.ofBelow (Below.trans ((Below.refl _ _).alloc (Nat.le_refl _) _) (hb3.mono (by simp))) [b, g]) | (go_at_call 41; refine (HP2.out _ hR3).mono ?_; rintro e w4 ⟨rfl, hR4, hO4⟩))
  go_ret3
  exact ⟨none, 0, rfl, IntsNew.none, by first | exact hR4 | exact hR4.drewN _, by first | exact hO3.trans hO4 | exact (hO3.trans hO4).drewN _⟩
theorem step01_publish (w : World) (b g : Nat) (s : RS Int) (o : Op01) (h : RingAt w b g s) (hk : kindOf o.k = 3) :
    Calls Try.prog 45 #[.pointer (some ⟨b, 0, none⟩), .agg #[.int .i64 o.k, .int .i64 o.v, .slice o.la o.ll.length o.lc]] w (SayStep b g w (s.publish.1) (0) (s.publish.2) ([])) := by
  have HP := fun w h => ring_publish w b g s h
  generalize s.publish.2 = ee at HP ⊢
  have HP2 := Lib.hid HP
  clear HP
  go_enter Try.func45, Try.ntmps45
  go_wp2_with (first | (go_at_call 34; refine (kind_is 3 _ _ _ _ hk).mono ?_; rintro e w3 ⟨rfl, hb3⟩; have hc1 := cell_late hb3 1 _ rfl; have hc2 := cell_late hb3 2 _ rfl; have hR3 := h.below (Below.trans ((Below.refl _ _).alloc (Nat.le_refl _) _) (hb3.mono (by simp))) h.lt.1 h.lt.2; have hO3 := Only.ofBelow (Below.trans ((Below.refl _ _).alloc (Nat.le_refl _) _) (hb3.mono (by simp))) [b, g]) | (go_at_call 43; refine (HP2.out _ hR3).mono ?_; rintro e w4 ⟨rfl, hR4, hO4⟩))
  go_ret3
  exact ⟨none, 0, rfl, IntsNew.none, by first | exact hR4 | exact hR4.drewN _, by first | exact hO3.trans hO4 | exact (hO3.trans hO4).drewN _⟩
theorem step01_free (w : World) (b g : Nat) (s : RS Int) (o : Op01) (h : RingAt w b g s) (hk : kindOf o.k = 4) :
    Calls Try.prog 45 #[.pointer (some ⟨b, 0, none⟩), .agg #[.int .i64 o.k, .int .i64 o.v, .slice o.la o.ll.length o.lc]] w (SayStep b g w (s.free) (0) (s.peekE) ([])) := by
  have HP := fun w h => ring_free w b g s h
  generalize s.peekE = ee at HP ⊢
  have HP2 := Lib.hid HP
  clear HP
  go_enter Try.func45, Try.ntmps45
  go_wp2_with (first | (go_at_call 34; refine (kind_is 4 _ _ _ _ hk).mono ?_; rintro e w3 ⟨rfl, hb3⟩; have hc1 := cell_late hb3 1 _ rfl; have hc2 := cell_late hb3 2 _ rfl; have hR3 := h.below (Below.trans ((Below.refl _ _).alloc (Nat.le_refl _) _) (hb3.mono (by simp))) h.lt.1 h.lt.2; have hO3 := Only.ofBelow (Below.trans ((Below.refl _ _).alloc (Nat.le_refl _) _) (hb3.mono (by simp))) [b, g]) | (go_at_call 40; refine (HP2.out _ hR3).mono ?_; rintro e w4 ⟨rfl, hR4, hO4⟩))
  go_ret3
  exact ⟨none, 0, rfl, IntsNew.none, by first | exact hR4 | exact hR4.drewN _, by first | exact hO3.trans hO4 | exact (hO3.trans hO4).drewN _⟩
theorem step01_peek (w : World) (b g : Nat) (s : RS Int) (o : Op01) (h : RingAt w b g s) (hk : kindOf o.k = 5) :
    Calls Try.prog 45 #[.pointer (some ⟨b, 0, none⟩), .agg #[.int .i64 o.k, .int .i64 o.v, .slice o.la o.ll.length o.lc]] w (SayStep b g w (s) (s.q.headD 0) (s.peekE) ([])) := by
  have HP := fun w h => ring_peek w b g s h
  generalize s.q.headD 0 = yy at HP ⊢
  generalize s.peekE = ee at HP ⊢
  have HP2 := Lib.hid HP
  clear HP
  go_enter Try.func45, Try.ntmps45
  go_wp2_with (first | (go_at_call 34; refine (kind_is 5 _ _ _ _ hk).mono ?_; rintro e w3 ⟨rfl, hb3⟩; have hc1 := cell_late hb3 1 _ rfl; have hc2 := cell_late hb3 2 _ rfl; have hR3 := h.below (Below.trans ((Below.refl _ _).alloc (Nat.le_refl _) _) (hb3.mono (by simp))) h.lt.1 h.lt.2; have hO3 := Only.ofBelow (Below.trans ((Below.refl _ _).alloc (Nat.le_refl _) _) (hb3.mono (by simp))) [b, g]) | (go_at_call 39; refine (HP2.out _ hR3).mono ?_; rintro e w4 ⟨rfl, n4, rfl⟩; have hR4 := hR3.drewN n4; have hO4 := (Only.refl [b, g] w3).drewN n4))
  go_ret3
  exact ⟨none, 0, rfl, IntsNew.none, by first | exact hR4 | exact hR4.drewN _, by first | exact hO3.trans hO4 | exact (hO3.trans hO4).drewN _⟩
theorem step01_popSome (w : World) (b g : Nat) (s : RS Int) (o : Op01) (h : RingAt w b g s) (hk : kindOf o.k = 7) :
    Calls Try.prog 45 #[.pointer (some ⟨b, 0, none⟩), .agg #[.int .i64 o.k, .int .i64 o.v, .slice o.la o.ll.length o.lc]] w (SayStep b g w (s.popN (someN s o.v)) 0 0 (s.q.take (someN s o.v))) := by
  have HP := fun w h => ring_popSome w b g s o.v h
  generalize s.q.take (someN s o.v) = ll at HP ⊢
  have HP2 := Lib.hid HP
  clear HP
  go_enter Try.func45, Try.ntmps45
  go_wp2_with (first | (go_at_call 34; refine (kind_is 7 _ _ _ _ hk).mono ?_; rintro e w3 ⟨rfl, hb3⟩; have hc1 := cell_late hb3 1 _ rfl; have hc2 := cell_late hb3 2 _ rfl; have hR3 := h.below (Below.trans ((Below.refl _ _).alloc (Nat.le_refl _) _) (hb3.mono (by simp))) h.lt.1 h.lt.2; have hO3 := Only.ofBelow (Below.trans ((Below.refl _ _).alloc (Nat.le_refl _) _) (hb3.mono (by simp))) [b, g]; have hO3b := hO3) | (go_at_call 51; refine (HP2.out _ hR3).mono ?_; rintro e w4 ⟨a, c, rfl, hi4, hR4, hO4⟩))
  go_ret3
  exact ⟨a, c, rfl, hi4.mono hO3.size, hR4, hO3.trans hO4⟩
theorem step01_pushAll (w : World) (b g : Nat) (s : RS Int) (o : Op01) (h : RingAt w b g s) (hr : IntsOff .i64 w o.la o.ll [b, g]) (hlc : o.ll.length ≤ o.lc) (hlm : o.lc ≤ maxLen) (hk : kindOf o.k = 6) :
    Calls Try.prog 45 #[.pointer (some ⟨b, 0, none⟩), .agg #[.int .i64 o.k, .int .i64 o.v, .slice o.la o.ll.length o.lc]] w (SayStep b g w (s.pushAll (o.ll.take 20)).1 ((s.pushAll (o.ll.take 20)).2 : Int) 0 []) := by
  unfold maxLen at hlm
  have hr2 := hr.take 20
  by_cases c : 20 < o.ll.length
  · have e : (o.ll.take 20).length = 20 := by rw [List.length_take]; omega
    have c1 : (20 : Int) < ((o.ll.length : Nat) : Int) := by omega
    have c2 : 20 ≤ o.lc := by omega
    have HP := Lib.hid (fun w h hr => ring_pushAll w b g s o.la o.lc (o.ll.take 20) h (by rw [e]; decide) hr)
    rw [e] at HP
    go_enter Try.func45, Try.ntmps45
    go_wp2_with (first | (go_at_call 34; refine (kind_is 6 _ _ _ _ hk).mono ?_; rintro e w3 ⟨rfl, hb3⟩; have hc1 := cell_late hb3 1 _ rfl; have hc2 := cell_late hb3 2 _ rfl; have hR3 := h.below (Below.trans ((Below.refl _ _).alloc (Nat.le_refl _) _) (hb3.mono (by simp))) h.lt.1 h.lt.2; have hO3 := Only.ofBelow (Below.trans ((Below.refl _ _).alloc (Nat.le_refl _) _) (hb3.mono (by simp))) [b, g]; have hO3b := hO3) | (go_at_call 50; refine (HP.out _ hR3 (hr2.only hO3b)).mono ?_; rintro e w4 ⟨rfl, hR4, hO4⟩))
    go_ret3
    exact ⟨none, 0, rfl, IntsNew.none, by first | exact hR4 | exact hR4.drewN _, by first | exact hO3.trans hO4 | exact (hO3.trans hO4).drewN _⟩
  · have e : o.ll.take 20 = o.ll := List.take_of_length_le (by omega)
    rw [e] at hr2 ⊢
    have c1 : ¬ (20 : Int) < ((o.ll.length : Nat) : Int) := by omega
    have HP := Lib.hid (fun w h hr => ring_pushAll w b g s o.la o.lc o.ll h (by unfold maxLen; omega) hr)
    go_enter Try.func45, Try.ntmps45
    go_wp2_with (first | (go_at_call 34; refine (kind_is 6 _ _ _ _ hk).mono ?_; rintro e w3 ⟨rfl, hb3⟩; have hc1 := cell_late hb3 1 _ rfl; have hc2 := cell_late hb3 2 _ rfl; have hR3 := h.below (Below.trans ((Below.refl _ _).alloc (Nat.le_refl _) _) (hb3.mono (by simp))) h.lt.1 h.lt.2; have hO3 := Only.ofBelow (Below.trans ((Below.refl _ _).alloc (Nat.le_refl _) _) (hb3.mono (by simp))) [b, g]; have hO3b := hO3) | (go_at_call 50; refine (HP.out _ hR3 (hr2.only hO3b)).mono ?_; rintro e w4 ⟨rfl, hR4, hO4⟩))
    go_ret3
    exact ⟨none, 0, rfl, IntsNew.none, by first | exact hR4 | exact hR4.drewN _, by first | exact hO3.trans hO4 | exact (hO3.trans hO4).drewN _⟩
theorem step01_calls (w : World) (b g : Nat) (s : RS Int) (o : Op01) (h : RingAt w b g s) (hr : IntsOff .i64 w o.la o.ll [b, g]) (hlc : o.ll.length ≤ o.lc) (hlm : o.lc ≤ maxLen) :
    Calls Try.prog 45 #[.pointer (some ⟨b, 0, none⟩), .agg #[.int .i64 o.k, .int .i64 o.v, .slice o.la o.ll.length o.lc]] w (SayStep b g w (stepS s o) (stepN s o) (stepE s o) (stepL s o)) := by
  obtain ⟨q0, q7⟩ := kindOf_range o.k
  have hc : kindOf o.k = 0 ∨ kindOf o.k = 1 ∨ kindOf o.k = 2 ∨ kindOf o.k = 3 ∨ kindOf o.k = 4 ∨ kindOf o.k = 5 ∨ kindOf o.k = 6 ∨ kindOf o.k = 7 := by omega
  unfold stepS stepN stepE stepL
  rcases hc with hk | hk | hk | hk | hk | hk | hk | hk
  · rw [hk]; exact step01_push w b g s o h hk
  · rw [hk]; exact step01_pop w b g s o h hk
  · rw [hk]; exact step01_lay w b g s o h hk
  · rw [hk]; exact step01_publish w b g s o h hk
  · rw [hk]; exact step01_free w b g s o h hk
  · rw [hk]; exact step01_peek w b g s o h hk
  · rw [hk]; exact step01_pushAll w b g s o h hr hlc hlm hk
  · rw [hk]; exact step01_popSome w b g s o h hk
end Go.Proofs.Ytncdambphaodaaa
