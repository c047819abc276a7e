/- The walk of RingNil. -/
import Derived.Test.YtncdambphaodaaaRingNil
namespace Go.Proofs.Ytncdambphaodaaa
set_option linter.unusedVariables false
open Go.RowKit

set_option maxRecDepth 100000 in
theorem ringNil_walk (o : Op01) (w : World) (hr : IntsAt .i64 w o.la o.ll) (hlc : o.ll.length ≤ o.lc) (hlm : o.lc ≤ maxLen) :
    Calls Try.prog 14 #[.agg #[.int .i64 o.k, .int .i64 o.v, .slice o.la o.ll.length o.lc]] w fun e w' => e = .returned (.bool true) ∧ Below w.heap.size w w' := by
  have HS := Lib.hid (fun w hr => nilStep_calls w o hr hlc hlm)
  have HK := Lib.hid (fun x w => kind_calls o.k o.v x w)
  obtain ⟨q0, q7⟩ := kindOf_range o.k
  by_cases c : kindOf o.k ≤ 5
  · have e : nilE o.k = 1 := by unfold nilE; rw [if_pos c]
    rw [e] at HS
    have c2 : ¬ 5 < kindOf o.k := by omega
    generalize kindOf o.k = kk at *
    go_enter Try.func14, Try.ntmps14
    go_wp2_with (first
      | (go_at_call 31; refine (lives01_calls _).mono ?_; rintro e w1 ⟨rfl, hb⟩; have d0 := cell_late hb 0 _ rfl; have d1 := cell_late hb 1 _ rfl; have d2 := cell_late hb 2 _ rfl; have hsz : w.heap.size < w1.heap.size := (by have := hb.size; simp at this; omega); have HB1 : Below w.heap.size w w1 := ((Below.refl _ _).alloc (Nat.le_refl _) _).trans (hb.mono (by simp)))
      | (go_at_call 45; refine (HS.out _ (hr.below HB1)).mono ?_; rintro e w2 ⟨rfl, hb2⟩; have f0 := (hb2.cell (p := ⟨w.heap.size, 0, none⟩) hsz).trans d0; have f1 := (hb2.cell (p := ⟨w.heap.size, 1, none⟩) hsz).trans d1; have f2 := (hb2.cell (p := ⟨w.heap.size, 2, none⟩) hsz).trans d2; clear d0 d1 d2 hb; have HB2 := HB1.trans (hb2.mono HB1.size))
      | (go_at_call 34; refine (HK.out _ _).mono ?_; rintro e w3 ⟨rfl, hb3⟩; have HB3 := (below_drewN' HB2 _).trans (hb3.mono HB2.size))
      | (go_at_call 37; refine (nil_len _).mono ?_; rintro e w' ⟨rfl, k, rfl⟩) | (go_at_call 38; refine (nil_room _).mono ?_; rintro e w' ⟨rfl, k, rfl⟩) | (go_at_call 46; refine (nil_counts _).mono ?_; rintro e w' ⟨rfl, k, rfl⟩) | (go_at_call 42; refine (nil_all _).mono ?_; rintro e w' ⟨rfl, k, rfl⟩))
    go_ret
    exact ⟨rfl, below_drewN' HB2 _⟩
  · have e : nilE o.k = 0 := by unfold nilE; rw [if_neg c]
    rw [e] at HS
    have c2 : 5 < kindOf o.k := by omega
    generalize kindOf o.k = kk at *
    go_enter Try.func14, Try.ntmps14
    go_wp2_with (first
      | (go_at_call 31; refine (lives01_calls _).mono ?_; rintro e w1 ⟨rfl, hb⟩; have d0 := cell_late hb 0 _ rfl; have d1 := cell_late hb 1 _ rfl; have d2 := cell_late hb 2 _ rfl; have hsz : w.heap.size < w1.heap.size := (by have := hb.size; simp at this; omega); have HB1 : Below w.heap.size w w1 := ((Below.refl _ _).alloc (Nat.le_refl _) _).trans (hb.mono (by simp)))
      | (go_at_call 45; refine (HS.out _ (hr.below HB1)).mono ?_; rintro e w2 ⟨rfl, hb2⟩; have f0 := (hb2.cell (p := ⟨w.heap.size, 0, none⟩) hsz).trans d0; have f1 := (hb2.cell (p := ⟨w.heap.size, 1, none⟩) hsz).trans d1; have f2 := (hb2.cell (p := ⟨w.heap.size, 2, none⟩) hsz).trans d2; clear d0 d1 d2 hb; have HB2 := HB1.trans (hb2.mono HB1.size))
      | (go_at_call 34; refine (HK.out _ _).mono ?_; rintro e w3 ⟨rfl, hb3⟩; have HB3 := (below_drewN' HB2 _).trans (hb3.mono HB2.size))
      | (go_at_call 37; refine (nil_len _).mono ?_; rintro e w' ⟨rfl, k, rfl⟩) | (go_at_call 38; refine (nil_room _).mono ?_; rintro e w' ⟨rfl, k, rfl⟩) | (go_at_call 46; refine (nil_counts _).mono ?_; rintro e w' ⟨rfl, k, rfl⟩) | (go_at_call 42; refine (nil_all _).mono ?_; rintro e w' ⟨rfl, k, rfl⟩))
    go_ret
    exact ⟨rfl, below_drewN' HB3 _⟩
end Go.Proofs.Ytncdambphaodaaa
