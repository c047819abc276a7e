/- A ring law's step on the reference's ring. -/
import Derived.Test.YtncdambphaodaaaRefRingB
import Derived.Test.YtncdambphaodaaaTwin01
namespace Go.Proofs.Ytncdambphaodaaa
set_option linter.unusedVariables false
open Go.RowKit
def SayRef (b : Nat) (S : List Nat) (w : World) (s : RS Int) (n e : Int) (l : List Int) (r : Ending) (w' : World) : Prop :=
  ∃ a c, r = .returned (.tuple #[.int .i64 n, .int .i64 e, .slice a l.length c]) ∧ IntsNew w.heap.size .i64 w' a l ∧ RefAt w' b S s ∧ Only [b] w w' 
theorem stepRef01_push (w : World) (b : Nat) (S : List Nat) (s : RS Int) (o : Op01) (h : RefAt w b S s) (hS : ∀ x ∈ S, x < w.heap.size) (hk : kindOf o.k = 0) :
    Calls Try.prog 48 #[.pointer (some ⟨b, 0, none⟩), .agg #[.int .i64 o.k, .int .i64 o.v, .slice o.la o.ll.length o.lc]] w (SayRef b S w ((s.push o.v).1) (0) ((s.push o.v).2) ([])) := by
  have HP := fun w h hS => ref_push w b S s o.v h hS
  generalize (s.push o.v).2 = ee at HP ⊢
  have HP2 := Lib.hid HP
  clear HP
  go_enter Try.func48, Try.ntmps48
  go_wp2_with (first | (go_at_call 34; ((with_reducible refine (kind_is 0 _ _ _ _ hk).mono ?_); rintro e w3 ⟨rfl, hb3⟩; have hc1 := cell_late hb3 1 _ rfl; have hc2 := cell_late hb3 2 _ rfl; have hbb := Below.trans ((Below.refl _ _).alloc (Nat.le_refl _) _) (hb3.mono (by simp)); have hR3 := h.below hbb; have hO3 := Only.ofBelow hbb [b]; have HS3 : Hid (∀ x ∈ S, x < w3.heap.size) := (fun x hx => Nat.lt_of_lt_of_le (hS x hx) hO3.size))) | (go_at_call 59; ((with_reducible refine (HP2.out _ hR3 HS3.out).mono ?_); rintro e w4 ⟨rfl, hR4, hO4⟩)))
  go_ret3
  exact ⟨none, 0, rfl, IntsNew.none, by first | exact hR4 | exact hR4.drewN _, by first | exact hO3.trans hO4 | exact (hO3.trans hO4).drewN _⟩
theorem stepRef01_pop (w : World) (b : Nat) (S : List Nat) (s : RS Int) (o : Op01) (h : RefAt w b S s) (hS : ∀ x ∈ S, x < w.heap.size) (hk : kindOf o.k = 1) :
    Calls Try.prog 48 #[.pointer (some ⟨b, 0, none⟩), .agg #[.int .i64 o.k, .int .i64 o.v, .slice o.la o.ll.length o.lc]] w (SayRef b S w (s.free) (s.q.headD 0) (s.peekE) ([])) := by
  have HP := fun w h => ref_pop w b S s h
  generalize s.q.headD 0 = yy at HP ⊢
  generalize s.peekE = ee at HP ⊢
  have HP2 := Lib.hid HP
  clear HP
  go_enter Try.func48, Try.ntmps48
  go_wp2_with (first | (go_at_call 34; ((with_reducible refine (kind_is 1 _ _ _ _ hk).mono ?_); rintro e w3 ⟨rfl, hb3⟩; have hc1 := cell_late hb3 1 _ rfl; have hc2 := cell_late hb3 2 _ rfl; have hbb := Below.trans ((Below.refl _ _).alloc (Nat.le_refl _) _) (hb3.mono (by simp)); have hR3 := h.below hbb; have hO3 := Only.ofBelow hbb [b]; have HS3 : Hid (∀ x ∈ S, x < w3.heap.size) := (fun x hx => Nat.lt_of_lt_of_le (hS x hx) hO3.size))) | (go_at_call 60; ((with_reducible refine (HP2.out _ hR3).mono ?_); rintro e w4 ⟨rfl, hR4, hO4⟩)))
  go_ret3
  exact ⟨none, 0, rfl, IntsNew.none, by first | exact hR4 | exact hR4.drewN _, by first | exact hO3.trans hO4 | exact (hO3.trans hO4).drewN _⟩
theorem stepRef01_lay (w : World) (b : Nat) (S : List Nat) (s : RS Int) (o : Op01) (h : RefAt w b S s) (hS : ∀ x ∈ S, x < w.heap.size) (hk : kindOf o.k = 2) :
    Calls Try.prog 48 #[.pointer (some ⟨b, 0, none⟩), .agg #[.int .i64 o.k, .int .i64 o.v, .slice o.la o.ll.length o.lc]] w (SayRef b S w ((s.lay o.v).1) (0) ((s.lay o.v).2) ([])) := by
  have HP := fun w h hS => ref_lay w b S s o.v h hS
  generalize (s.lay o.v).2 = ee at HP ⊢
  have HP2 := Lib.hid HP
  clear HP
  go_enter Try.func48, Try.ntmps48
  go_wp2_with (first | (go_at_call 34; ((with_reducible refine (kind_is 2 _ _ _ _ hk).mono ?_); rintro e w3 ⟨rfl, hb3⟩; have hc1 := cell_late hb3 1 _ rfl; have hc2 := cell_late hb3 2 _ rfl; have hbb := Below.trans ((Below.refl _ _).alloc (Nat.le_refl _) _) (hb3.mono (by simp)); have hR3 := h.below hbb; have hO3 := Only.ofBelow hbb [b]; have HS3 : Hid (∀ x ∈ S, x < w3.heap.size) := (fun x hx => Nat.lt_of_lt_of_le (hS x hx) hO3.size))) | (go_at_call 61; ((with_reducible refine (HP2.out _ hR3 HS3.out).mono ?_); rintro e w4 ⟨rfl, hR4, hO4⟩)))
  go_ret3
  exact ⟨none, 0, rfl, IntsNew.none, by first | exact hR4 | exact hR4.drewN _, by first | exact hO3.trans hO4 | exact (hO3.trans hO4).drewN _⟩
theorem stepRef01_publish (w : World) (b : Nat) (S : List Nat) (s : RS Int) (o : Op01) (h : RefAt w b S s) (hS : ∀ x ∈ S, x < w.heap.size) (hk : kindOf o.k = 3) :
    Calls Try.prog 48 #[.pointer (some ⟨b, 0, none⟩), .agg #[.int .i64 o.k, .int .i64 o.v, .slice o.la o.ll.length o.lc]] w (SayRef b S w (s.publish.1) (0) (s.publish.2) ([])) := by
  have HP := fun w h hS => ref_publish w b S s h hS
  generalize s.publish.2 = ee at HP ⊢
  have HP2 := Lib.hid HP
  clear HP
  go_enter Try.func48, Try.ntmps48
  go_wp2_with (first | (go_at_call 34; ((with_reducible refine (kind_is 3 _ _ _ _ hk).mono ?_); rintro e w3 ⟨rfl, hb3⟩; have hc1 := cell_late hb3 1 _ rfl; have hc2 := cell_late hb3 2 _ rfl; have hbb := Below.trans ((Below.refl _ _).alloc (Nat.le_refl _) _) (hb3.mono (by simp)); have hR3 := h.below hbb; have hO3 := Only.ofBelow hbb [b]; have HS3 : Hid (∀ x ∈ S, x < w3.heap.size) := (fun x hx => Nat.lt_of_lt_of_le (hS x hx) hO3.size))) | (go_at_call 62; ((with_reducible refine (HP2.out _ hR3 HS3.out).mono ?_); rintro e w4 ⟨rfl, hR4, hO4⟩)))
  go_ret3
  exact ⟨none, 0, rfl, IntsNew.none, by first | exact hR4 | exact hR4.drewN _, by first | exact hO3.trans hO4 | exact (hO3.trans hO4).drewN _⟩
theorem stepRef01_free (w : World) (b : Nat) (S : List Nat) (s : RS Int) (o : Op01) (h : RefAt w b S s) (hS : ∀ x ∈ S, x < w.heap.size) (hk : kindOf o.k = 4) :
    Calls Try.prog 48 #[.pointer (some ⟨b, 0, none⟩), .agg #[.int .i64 o.k, .int .i64 o.v, .slice o.la o.ll.length o.lc]] w (SayRef b S w (s.free) (0) (s.peekE) ([])) := by
  have HP := fun w h => ref_pop w b S s h
  generalize s.q.headD 0 = yy at HP
  generalize s.peekE = ee at HP ⊢
  have HP2 := Lib.hid HP
  clear HP
  go_enter Try.func48, Try.ntmps48
  go_wp2_with (first | (go_at_call 34; ((with_reducible refine (kind_is 4 _ _ _ _ hk).mono ?_); rintro e w3 ⟨rfl, hb3⟩; have hc1 := cell_late hb3 1 _ rfl; have hc2 := cell_late hb3 2 _ rfl; have hbb := Below.trans ((Below.refl _ _).alloc (Nat.le_refl _) _) (hb3.mono (by simp)); have hR3 := h.below hbb; have hO3 := Only.ofBelow hbb [b]; have HS3 : Hid (∀ x ∈ S, x < w3.heap.size) := (fun x hx => Nat.lt_of_lt_of_le (hS x hx) hO3.size))) | (go_at_call 60; ((with_reducible refine (HP2.out _ hR3).mono ?_); rintro e w4 ⟨rfl, hR4, hO4⟩)))
  go_ret3
  exact ⟨none, 0, rfl, IntsNew.none, by first | exact hR4 | exact hR4.drewN _, by first | exact hO3.trans hO4 | exact (hO3.trans hO4).drewN _⟩
theorem stepRef01_peek (w : World) (b : Nat) (S : List Nat) (s : RS Int) (o : Op01) (h : RefAt w b S s) (hS : ∀ x ∈ S, x < w.heap.size) (hk : kindOf o.k = 5) :
    Calls Try.prog 48 #[.pointer (some ⟨b, 0, none⟩), .agg #[.int .i64 o.k, .int .i64 o.v, .slice o.la o.ll.length o.lc]] w (SayRef b S w (s) (s.q.headD 0) (s.peekE) ([])) := by
  have HP := fun w h => ref_peek w b S s h
  generalize s.q.headD 0 = yy at HP ⊢
  generalize s.peekE = ee at HP ⊢
  have HP2 := Lib.hid HP
  clear HP
  go_enter Try.func48, Try.ntmps48
  go_wp2_with (first | (go_at_call 34; ((with_reducible refine (kind_is 5 _ _ _ _ hk).mono ?_); rintro e w3 ⟨rfl, hb3⟩; have hc1 := cell_late hb3 1 _ rfl; have hc2 := cell_late hb3 2 _ rfl; have hbb := Below.trans ((Below.refl _ _).alloc (Nat.le_refl _) _) (hb3.mono (by simp)); have hR3 := h.below hbb; have hO3 := Only.ofBelow hbb [b]; have HS3 : Hid (∀ x ∈ S, x < w3.heap.size) := (fun x hx => Nat.lt_of_lt_of_le (hS x hx) hO3.size))) | (go_at_call 63; ((with_reducible refine (HP2.out _ hR3).mono ?_); rintro e w4 ⟨rfl, n4, rfl⟩; have hR4 := hR3.drewN n4; have hO4 := (Only.refl [b] w3).drewN n4)))
  go_ret3
  exact ⟨none, 0, rfl, IntsNew.none, by first | exact hR4 | exact hR4.drewN _, by first | exact hO3.trans hO4 | exact (hO3.trans hO4).drewN _⟩
theorem stepRef01_popSome (w : World) (b : Nat) (S : List Nat) (s : RS Int) (o : Op01) (h : RefAt w b S s) (hS : ∀ x ∈ S, x < w.heap.size) (hk : kindOf o.k = 7) :
    Calls Try.prog 48 #[.pointer (some ⟨b, 0, none⟩), .agg #[.int .i64 o.k, .int .i64 o.v, .slice o.la o.ll.length o.lc]] w (SayRef b S w (s.popN (someN s o.v)) 0 0 (s.q.take (someN s o.v))) := by
  have HP := fun w h hS => ref_popSome w b S s o.v h hS
  generalize s.q.take (someN s o.v) = ll at HP ⊢
  have HP2 := Lib.hid HP
  clear HP
  go_enter Try.func48, Try.ntmps48
  go_wp2_with (first | (go_at_call 34; ((with_reducible refine (kind_is 7 _ _ _ _ hk).mono ?_); rintro e w3 ⟨rfl, hb3⟩; have hc1 := cell_late hb3 1 _ rfl; have hc2 := cell_late hb3 2 _ rfl; have hbb := Below.trans ((Below.refl _ _).alloc (Nat.le_refl _) _) (hb3.mono (by simp)); have hR3 := h.below hbb; have hO3 := Only.ofBelow hbb [b]; have HS3 : Hid (∀ x ∈ S, x < w3.heap.size) := (fun x hx => Nat.lt_of_lt_of_le (hS x hx) hO3.size))) | (go_at_call 65; ((with_reducible refine (HP2.out _ hR3 HS3.out).mono ?_); rintro e w4 ⟨a, c, rfl, hi4, hR4, hO4⟩)))
  go_ret3
  exact ⟨a, c, rfl, hi4.mono hO3.size, hR4, hO3.trans hO4⟩
theorem stepRef01_pushAll (w : World) (b : Nat) (S : List Nat) (s : RS Int) (o : Op01) (h : RefAt w b S s) (hS : ∀ x ∈ S, x < w.heap.size) (hr : IntsOff .i64 w o.la o.ll [b]) (hlc : o.ll.length ≤ o.lc) (hlm : o.lc ≤ maxLen) (hk : kindOf o.k = 6) :
    Calls Try.prog 48 #[.pointer (some ⟨b, 0, none⟩), .agg #[.int .i64 o.k, .int .i64 o.v, .slice o.la o.ll.length o.lc]] w (SayRef b S w (s.pushAll (o.ll.take 20)).1 ((s.pushAll (o.ll.take 20)).2 : Int) 0 []) := by
  unfold maxLen at hlm
  obtain ⟨X, hX⟩ : ∃ X : Nat, X = min o.ll.length 20 := ⟨_, rfl⟩
  have m1 : min (o.ll.length : Int) 20 = (X : Int) := by omega
  have hXc : X ≤ o.lc := by omega
  have e : (o.ll.take 20).length = X := by rw [List.length_take]; omega
  have hr2 := Lib.hid (hr.take 20)
  have HP := fun w h hS hr => ref_pushAll w b S s o.la o.lc (o.ll.take 20) h hS (by rw [e]; unfold maxLen; omega) hr
  rw [e] at HP
  clear e hX
  have HP2 := Lib.hid HP
  clear HP
  go_enter Try.func48, Try.ntmps48
  go_wp2_with (first | (go_at_call 34; ((with_reducible refine (kind_is 6 _ _ _ _ hk).mono ?_); rintro e w3 ⟨rfl, hb3⟩; have hc1 := cell_late hb3 1 _ rfl; have hc2 := cell_late hb3 2 _ rfl; have hbb := Below.trans ((Below.refl _ _).alloc (Nat.le_refl _) _) (hb3.mono (by simp)); have hR3 := h.below hbb; have hO3 := Only.ofBelow hbb [b]; have HS3 : Hid (∀ x ∈ S, x < w3.heap.size) := (fun x hx => Nat.lt_of_lt_of_le (hS x hx) hO3.size))) | (go_at_call 64; ((with_reducible refine (HP2.out _ hR3 HS3.out ?_).mono ?_); (exact hr2.out.only hO3); rintro e w4 ⟨rfl, hR4, hO4⟩)))
  go_ret3
  exact ⟨none, 0, rfl, IntsNew.none, by first | exact hR4 | exact hR4.drewN _, by first | exact hO3.trans hO4 | exact (hO3.trans hO4).drewN _⟩
theorem stepRef01_calls (w : World) (b : Nat) (S : List Nat) (s : RS Int) (o : Op01) (h : RefAt w b S s) (hS : ∀ x ∈ S, x < w.heap.size) (hr : IntsOff .i64 w o.la o.ll [b]) (hlc : o.ll.length ≤ o.lc) (hlm : o.lc ≤ maxLen) :
    Calls Try.prog 48 #[.pointer (some ⟨b, 0, none⟩), .agg #[.int .i64 o.k, .int .i64 o.v, .slice o.la o.ll.length o.lc]] w (SayRef b S w (stepS s o) (stepN s o) (stepE s o) (stepL s o)) := by
  obtain ⟨q0, q7⟩ := kindOf_range o.k
  have hc : kindOf o.k = 0 ∨ kindOf o.k = 1 ∨ kindOf o.k = 2 ∨ kindOf o.k = 3 ∨ kindOf o.k = 4 ∨ kindOf o.k = 5 ∨ kindOf o.k = 6 ∨ kindOf o.k = 7 := by omega
  unfold stepS stepN stepE stepL
  rcases hc with hk | hk | hk | hk | hk | hk | hk | hk
  · rw [hk]; exact stepRef01_push w b S s o h hS hk
  · rw [hk]; exact stepRef01_pop w b S s o h hS hk
  · rw [hk]; exact stepRef01_lay w b S s o h hS hk
  · rw [hk]; exact stepRef01_publish w b S s o h hS hk
  · rw [hk]; exact stepRef01_free w b S s o h hS hk
  · rw [hk]; exact stepRef01_peek w b S s o h hS hk
  · rw [hk]; exact stepRef01_pushAll w b S s o h hS hr hlc hlm hk
  · rw [hk]; exact stepRef01_popSome w b S s o h hS hk
end Go.Proofs.Ytncdambphaodaaa
