/- What Lay, Publish and Free of a ring of cells answer, and how they turn it. -/
import Derived.Test.YtajbfmdgnkpjgaaRPkA
import Derived.Deep.RegionHeld3
namespace Go.Proofs.Ytajbfmdgnkpjgaa
set_option linter.unusedVariables false
open Go.RowKit
theorem flatK_setA (arr : List Pk) (x : Nat) (v : Pk) : ((((flatK arr).toArray.setIfInBounds (x * 4) (.int .i64 v.src)).setIfInBounds (x * 4 + 1) (.int .i64 v.dst)).setIfInBounds (x * 4 + 2) (.int .i64 v.seq)).setIfInBounds (x * 4 + 3) (.string v.data) = (flatK (arr.set x v)).toArray := by
  rw [List.setIfInBounds_toArray, List.setIfInBounds_toArray, List.setIfInBounds_toArray, List.setIfInBounds_toArray, Nat.mul_comm, flatK_set]
set_option maxRecDepth 100000 in
set_option maxHeartbeats 1000000 in
theorem layK_walk (w : World) (b g : Nat) (arr : List Pk) (inn out a : Nat) (v : Pk) (rm : Int) (x : Nat) (h : RawK w b g arr inn out a false)
    (HR : Hid (∀ w, RawK w b g arr inn out a false → Calls Try.prog 61 #[.pointer (some ⟨b, 0, none⟩)] w fun e w' => e = .returned (.int .i64 rm) ∧ ∃ k, w' = w.drewN k))
    (HE : Hid (∀ w, RawK w b g arr inn out a false → Calls Try.prog 90 #[.pointer (some ⟨b, 0, none⟩)] w fun e w' => e = .returned (.int .i64 x) ∧ ∃ k, w' = w.drewN k))
    (hz : (rm == 0) = false) (hx : x < arr.length) :
    Calls Try.prog 75 #[.pointer (some ⟨b, 0, none⟩), v.val] w fun e w' => e = .returned (.int .i64 0) ∧ RawK w' b g (arr.set x v) inn out a true ∧ Only [b, g] w w' := by
  obtain ⟨c0, c1, c2, c3, c4⟩ := h.cells
  obtain ⟨p0, p1, p2, p3⟩ := h.place x hx
  have fr0 := frozen_at h.row (x * 4)
  have fr1 := frozen_at h.row (x * 4 + 1)
  have fr2 := frozen_at h.row (x * 4 + 2)
  have fr3 := frozen_at h.row (x * 4 + 3)
  have fr4 := frozen_at h.obj 4
  have ne := h.ne
  have ne' := Ne.symm h.ne
  have hlb := h.lt.1
  have hlg := h.lt.2
  have hx2 : (x : Int) < (arr.length : Int) := by omega
  have hne1 : g ≠ w.heap.size := by omega
  have hne2 : w.heap.size ≠ g := by omega
  obtain ⟨v0, v1, v2, v3⟩ := v
  generalize arr.getD x Pk.zero = y at p0 p1 p2 p3
  go_enter Try.func75, Try.ntmps75
  go_wp2_with (first | (go_at_call 61; ((with_reducible refine (HR.out _ (by (repeat (first | exact h | apply RawK.drewN | apply RawK.alloc)))).mono ?_); rintro e w' ⟨rfl, k, rfl⟩)))
  go_region_held3 (fun w' => w'.cell? ⟨b, 0, none⟩ = some (.slice (some ⟨g, 0, none⟩) arr.length arr.length) ∧ w'.cell? ⟨w.heap.size, 0, none⟩ = some (.int .i64 v0) ∧ w'.cell? ⟨w.heap.size, 1, none⟩ = some (.int .i64 v1) ∧ w'.cell? ⟨w.heap.size, 2, none⟩ = some (.int .i64 v2) ∧ w'.cell? ⟨w.heap.size, 3, none⟩ = some (.string v3)) (go_keep)
    (first | (go_at_call 90; ((with_reducible refine (HE.out _ (by (repeat (first | exact h | apply RawK.drewN | apply RawK.alloc)))).mono ?_); rintro e w' ⟨rfl, k, rfl⟩)))
  go_wp2
  go_ret
  refine ⟨rfl, ⟨?_, ?_, ne⟩, ?_⟩
  · rw [List.length_set]
    exact set_at (set_other (set_other (set_other (set_other (drewN_at (alloc_old h.obj _) _) ne _ _) ne _ _) ne _ _) ne _ _) 4 _
  · rw [← flatK_setA arr x ⟨v0, v1, v2, v3⟩]
    exact set_other (set_at (set_at (set_at (set_at (drewN_at (alloc_old h.row _) _) _ _) _ _) _ _) _ _) ne' _ _
  · exact (((((((Only.refl _ _).alloc _).drewN _).setCell (by simp) _).setCell (by simp) _).setCell (by simp) _).setCell (by simp) _).setCell (by simp) _
theorem layK_state (w : World) (b g : Nat) (arr : List Pk) (inn out a : Nat) (v : Pk) (h : RawK w b g arr inn out a true) :
    Calls Try.prog 75 #[.pointer (some ⟨b, 0, none⟩), v.val] w fun e w' => e = .returned (.int .i64 13) ∧ Below w.heap.size w w' := by
  obtain ⟨c0, c1, c2, c3, c4⟩ := h.cells
  have hlb := h.lt.1
  obtain ⟨v0, v1, v2, v3⟩ := v
  go_enter Try.func75, Try.ntmps75
  go_wp2
  go_ret
  exact ⟨rfl, by repeat' (first | (with_reducible assumption) | (with_reducible refine Below.setCell ?_ ?_ _) | (with_reducible refine below_drewN' ?_ _) | (with_reducible refine Below.drew ?_) | (with_reducible refine Below.alloc ?_ ?_ _) | (with_reducible exact Below.refl _ _) | (with_reducible exact Nat.le_refl _) | omega | (simp; done) | (simp; omega))⟩
theorem layK_full (w : World) (b g : Nat) (arr : List Pk) (inn out a : Nat) (v : Pk) (h : RawK w b g arr inn out a false)
    (HR : Hid (∀ w, RawK w b g arr inn out a false → Calls Try.prog 61 #[.pointer (some ⟨b, 0, none⟩)] w fun e w' => e = .returned (.int .i64 0) ∧ ∃ k, w' = w.drewN k)) :
    Calls Try.prog 75 #[.pointer (some ⟨b, 0, none⟩), v.val] w fun e w' => e = .returned (.int .i64 7) ∧ Below w.heap.size w w' := by
  obtain ⟨c0, c1, c2, c3, c4⟩ := h.cells
  have hlb := h.lt.1
  obtain ⟨v0, v1, v2, v3⟩ := v
  go_enter Try.func75, Try.ntmps75
  go_wp2_with (first | (go_at_call 61; ((with_reducible refine (HR.out _ (by (repeat (first | exact h | apply RawK.drewN | apply RawK.alloc)))).mono ?_); rintro e w' ⟨rfl, k, rfl⟩)))
  go_ret
  exact ⟨rfl, by repeat' (first | (with_reducible assumption) | (with_reducible refine Below.setCell ?_ ?_ _) | (with_reducible refine below_drewN' ?_ _) | (with_reducible refine Below.drew ?_) | (with_reducible refine Below.alloc ?_ ?_ _) | (with_reducible exact Below.refl _ _) | (with_reducible exact Nat.le_refl _) | omega | (simp; done) | (simp; omega))⟩
theorem publishK_no (w : World) (b g : Nat) (arr : List Pk) (inn out a : Nat) (h : RawK w b g arr inn out a false) :
    Calls Try.prog 76 #[.pointer (some ⟨b, 0, none⟩)] w fun e w' => e = .returned (.int .i64 13) ∧ ∃ k, w' = w.drewN k := by
  obtain ⟨c0, c1, c2, c3, c4⟩ := h.cells
  go_enter Try.func76, Try.ntmps76
  go_wp2
  go_ret
  exact ⟨rfl, 0, rfl⟩
theorem publishK_walk (w : World) (b g : Nat) (arr : List Pk) (inn out a : Nat) (h : RawK w b g arr inn out a true) :
    Calls Try.prog 76 #[.pointer (some ⟨b, 0, none⟩)] w fun e w' => e = .returned (.int .i64 0) ∧ RawK w' b g arr ((inn + 1) % 4294967296) out a false ∧ Only [b, g] w w' := by
  obtain ⟨c0, c1, c2, c3, c4⟩ := h.cells
  have fr1 := frozen_at h.obj 1
  have fr4 := frozen_at h.obj 4
  go_enter Try.func76, Try.ntmps76
  go_wp2
  go_ret
  refine ⟨rfl, ⟨?_, ?_, h.ne⟩, ?_⟩
  · refine (set_at (set_at h.obj 1 _) 4 _).trans ?_
    have e1 : ((inn : Int) + 1) % 4294967296 = (((inn + 1) % 4294967296 : Nat) : Int) := by omega
    first | rfl | (rw [e1]; rfl)
  · exact set_other (set_other h.row (Ne.symm h.ne) _ _) (Ne.symm h.ne) _ _
  · exact ((Only.refl _ _).setCell (by simp) _).setCell (by simp) _
theorem freeK_no (w : World) (b g : Nat) (arr : List Pk) (inn out a : Nat) (laid : Bool) (y : Pk) (h : RawK w b g arr inn out a laid)
    (HP : Hid (∀ w, RawK w b g arr inn out a laid → Calls Try.prog 60 #[.pointer (some ⟨b, 0, none⟩)] w fun e w' => e = .returned (.tuple #[y.val, .int .i64 8]) ∧ Below w.heap.size w w')) :
    Calls Try.prog 77 #[.pointer (some ⟨b, 0, none⟩)] w fun e w' => e = .returned (.int .i64 8) ∧ Below w.heap.size w w' := by
  obtain ⟨y0, y1, y2, y3⟩ := y
  go_enter Try.func77, Try.ntmps77
  go_wp2_with (first | (go_at_call 60; ((with_reducible refine (HP.out _ (by (repeat (first | exact h | apply RawK.drewN | apply RawK.alloc)))).mono ?_); rintro e w1 ⟨rfl, hb1⟩)))
  go_ret
  have hs := hb1.size
  exact ⟨rfl, by repeat' (first | (with_reducible assumption) | (with_reducible refine Below.setCell ?_ ?_ _) | (with_reducible refine below_drewN' ?_ _) | (with_reducible refine Below.drew ?_) | (with_reducible refine Below.alloc ?_ ?_ _) | (with_reducible exact Below.refl _ _) | (with_reducible exact Nat.le_refl _) | omega | (simp; done) | (simp; omega))⟩
set_option maxRecDepth 100000 in
set_option maxHeartbeats 1000000 in
theorem freeK_walk (w : World) (b g : Nat) (arr : List Pk) (inn out a : Nat) (laid : Bool) (y : Pk) (h : RawK w b g arr inn out a laid) (hn : arr.length ≤ 4096)
    (HP : Hid (∀ w, RawK w b g arr inn out a laid → Calls Try.prog 60 #[.pointer (some ⟨b, 0, none⟩)] w fun e w' => e = .returned (.tuple #[y.val, .int .i64 0]) ∧ Below w.heap.size w w'))
    (ha : a < arr.length) :
    Calls Try.prog 77 #[.pointer (some ⟨b, 0, none⟩)] w fun e w' => e = .returned (.int .i64 0) ∧ RawK w' b g (arr.set a Pk.zero) inn ((out + 1) % 4294967296) ((a + 1) % arr.length) laid ∧ Only [b, g] w w' := by
  have ne := h.ne
  have ne' := Ne.symm h.ne
  have ha2 : (a : Int) < (arr.length : Int) := by omega
  have hl := h.lt
  obtain ⟨y0, y1, y2, y3⟩ := y
  go_enter Try.func77, Try.ntmps77
  go_wp2_with (first | (go_at_call 60; ((with_reducible refine (HP.out _ (by (repeat (first | exact h | apply RawK.drewN | apply RawK.alloc)))).mono ?_); rintro e w1 ⟨rfl, hb1⟩)))
  have hr2 : RawK ((w1.alloc (.cells #[.int .i64 y0, .int .i64 y1, .int .i64 y2, .string y3] 30)).alloc (.cells #[.int .i64 0, .int .i64 0, .int .i64 0, .string ⟨#[]⟩] 30)) b g arr inn out a laid := ((h.below hb1 hl.1 hl.2).alloc _).alloc _
  have hb2 : Below w.heap.size w ((w1.alloc (.cells #[.int .i64 y0, .int .i64 y1, .int .i64 y2, .string y3] 30)).alloc (.cells #[.int .i64 0, .int .i64 0, .int .i64 0, .string ⟨#[]⟩] 30)) := by have := hb1.size; repeat' (first | (with_reducible assumption) | (with_reducible refine Below.setCell ?_ ?_ _) | (with_reducible refine below_drewN' ?_ _) | (with_reducible refine Below.drew ?_) | (with_reducible refine Below.alloc ?_ ?_ _) | (with_reducible exact Below.refl _ _) | (with_reducible exact Nat.le_refl _) | omega | (simp; done) | (simp; omega))
  have hz2 := alloc_new (w := w1.alloc (.cells #[.int .i64 y0, .int .i64 y1, .int .i64 y2, .string y3] 30)) (.cells #[.int .i64 0, .int .i64 0, .int .i64 0, .string ⟨#[]⟩] 30 (0, 0))
  rw [World.size_alloc] at hz2
  clear hb1
  generalize ((w1.alloc (.cells #[.int .i64 y0, .int .i64 y1, .int .i64 y2, .string y3] 30)).alloc (.cells #[.int .i64 0, .int .i64 0, .int .i64 0, .string ⟨#[]⟩] 30)) = w2 at *
  obtain ⟨c0, c1, c2, c3, c4⟩ := hr2.cells
  have z0 := fun j => cell_at hz2 j
  have z1 := block_lt hz2
  have HR2 := Lib.hid hr2
  have HB2 := Lib.hid hb2
  clear hr2 hb2 hz2 h
  go_still_tail 10, (by kernel_rfl)
  change wpList _ _ _ _ _ w2.drew
  have hr3 : RawK w2.drew b g arr inn out a laid := ⟨HR2.out.obj, HR2.out.row, HR2.out.ne⟩
  have hb3 : Below w.heap.size w w2.drew := HB2.out.drew
  clear HR2 HB2 c0 c1 c2 c3 c4 z0 z1
  generalize w2.drew = w3 at *
  obtain ⟨p0, p1, p2, p3⟩ := hr3.place a ha
  have fr0 := frozen_at hr3.row (a * 4)
  have fr1 := frozen_at hr3.row (a * 4 + 1)
  have fr2 := frozen_at hr3.row (a * 4 + 2)
  have fr3 := frozen_at hr3.row (a * 4 + 3)
  have HR3 := Lib.hid hr3
  have HB3 := Lib.hid hb3
  clear hr3 hb3
  go_wp2
  have hr4 : RawK ((((w3.setCell ⟨g, a * 4, none⟩ (.int .i64 0)).setCell ⟨g, a * 4 + 1, none⟩ (.int .i64 0)).setCell ⟨g, a * 4 + 2, none⟩ (.int .i64 0)).setCell ⟨g, a * 4 + 3, none⟩ (.string ⟨#[]⟩)) b g (arr.set a Pk.zero) inn out a laid := by
    refine ⟨?_, ?_, ne⟩
    · rw [List.length_set]
      exact set_other (set_other (set_other (set_other HR3.out.obj ne _ _) ne _ _) ne _ _) ne _ _
    · rw [← flatK_setA arr a Pk.zero]
      exact set_at (set_at (set_at (set_at HR3.out.row _ _) _ _) _ _) _ _
  have ho4 : Only [b, g] w ((((w3.setCell ⟨g, a * 4, none⟩ (.int .i64 0)).setCell ⟨g, a * 4 + 1, none⟩ (.int .i64 0)).setCell ⟨g, a * 4 + 2, none⟩ (.int .i64 0)).setCell ⟨g, a * 4 + 3, none⟩ (.string ⟨#[]⟩)) := ((((Only.ofBelow HB3.out _).setCell (by simp) _).setCell (by simp) _).setCell (by simp) _).setCell (by simp) _
  clear HR3 HB3 p0 p1 p2 p3 fr0 fr1 fr2 fr3
  generalize ((((w3.setCell ⟨g, a * 4, none⟩ (.int .i64 0)).setCell ⟨g, a * 4 + 1, none⟩ (.int .i64 0)).setCell ⟨g, a * 4 + 2, none⟩ (.int .i64 0)).setCell ⟨g, a * 4 + 3, none⟩ (.string ⟨#[]⟩)) = w4 at *
  obtain ⟨c0, c1, c2, c3, c4⟩ := hr4.cells
  rw [List.length_set] at c0
  have HR4 := Lib.hid hr4
  have HO4 := Lib.hid ho4
  clear hr4 ho4
  have fr3 := frozen_at HR4.out.obj 3
  have fr2 := frozen_at HR4.out.obj 2
  go_region
  go_wp2
  go_ret
  refine ⟨rfl, ⟨?_, ?_, ne⟩, ?_⟩
  · refine (set_at (set_at HR4.out.obj 3 _) 2 _).trans ?_
    have e1 : ((out : Int) + 1) % 4294967296 = (((out + 1) % 4294967296 : Nat) : Int) := by omega
    have e2 : ((a : Int) + 1) % (arr.length : Int) = (((a + 1) % arr.length : Nat) : Int) := by simp
    first | rfl | (rw [e1, e2]; rfl)
  · exact set_other (set_other HR4.out.row (Ne.symm ne) _ _) (Ne.symm ne) _ _
  · exact Only.eqv ((HO4.out.setCell (p := ⟨b, 3, none⟩) (by simp) (.int .i64 (((a : Int) + 1) % (arr.length : Int)))).setCell (p := ⟨b, 2, none⟩) (by simp) (.int .u32 (((out : Int) + 1) % 4294967296))) ⟨rfl, rfl, rfl, rfl⟩
end Go.Proofs.Ytajbfmdgnkpjgaa
