/- What Lay, Publish and Free of a ring answer, and how they turn it. -/
import Derived.Test.YtmehfflomgldeabRingA
import Derived.StillTailTactics
import Derived.BigRegion
import Derived.Deep.RegionHeld3
namespace Go.Proofs.Ytmehfflomgldeab
set_option linter.unusedVariables false
open Go.RowKit

theorem lay_walk (w : World) (b g : Nat) (arr : List Int) (inn out a : Nat) (v rm y : Int) (x : Nat) (h : Raw w b g arr inn out a false)
    (HR : Hid (∀ w, Raw w b g arr inn out a false → Calls Try.prog 113 #[.pointer (some ⟨b, 0, none⟩)] w fun e w' => e = .returned (.int .i64 rm) ∧ ∃ k, w' = w.drewN k))
    (HE : Hid (∀ w, Raw w b g arr inn out a false → Calls Try.prog 114 #[.pointer (some ⟨b, 0, none⟩)] w fun e w' => e = .returned (.int .i64 x) ∧ ∃ k, w' = w.drewN k))
    (hz : (rm == 0) = false) (hx : x < arr.length) (hp : w.cell? ⟨g, x, none⟩ = some (.int .i64 y)) (fr : w.frozen? ⟨g, x, none⟩ = false) (fr4 : w.frozen? ⟨b, 4, none⟩ = false) :
    Calls Try.prog 90 #[.pointer (some ⟨b, 0, none⟩), .int .i64 v] w fun e w' => e = .returned (.int .i64 0) ∧ Eqv ((w.setCell ⟨g, x, none⟩ (.int .i64 v)).setCell ⟨b, 4, none⟩ (.bool true)) w' := by
  obtain ⟨c0, c1, c2, c3, c4⟩ := h.cells
  have ne := h.ne
  have ne' := Ne.symm h.ne
  have hx2 : (x : Int) < (arr.length : Int) := by omega
  go_enter Try.func90, Try.ntmps90
  go_wp2_with (first | (go_at_call 113; ((with_reducible refine (HR.out _ (by first | exact h | exact h.drewN _)).mono ?_); rintro e w' ⟨rfl, k, rfl⟩)))
  go_region_held3 (fun w' => w'.cell? ⟨b, 0, none⟩ = some (.slice (some ⟨g, 0, none⟩) arr.length arr.length)) (first | exact c0 | go_keep | (rw [World.cell?_setCell_other _ _ _ _ (by simp; omega)]; exact c0))
    (first | (go_at_call 114; ((with_reducible refine (HE.out _ (by first | exact h | exact h.drewN _)).mono ?_); rintro e w' ⟨rfl, k, rfl⟩)))
  go_wp2
  go_ret
  exact ⟨rfl, rfl, rfl, rfl, rfl⟩
theorem lay_state (w : World) (b g : Nat) (arr : List Int) (inn out a : Nat) (v : Int) (h : Raw w b g arr inn out a true) :
    Calls Try.prog 90 #[.pointer (some ⟨b, 0, none⟩), .int .i64 v] w fun e w' => e = .returned (.int .i64 13) ∧ ∃ k, w' = w.drewN k := by
  obtain ⟨c0, c1, c2, c3, c4⟩ := h.cells
  go_enter Try.func90, Try.ntmps90
  go_wp2
  go_ret
  exact ⟨rfl, 0, rfl⟩
theorem lay_full (w : World) (b g : Nat) (arr : List Int) (inn out a : Nat) (v : Int) (h : Raw w b g arr inn out a false)
    (HR : Hid (∀ w, Raw w b g arr inn out a false → Calls Try.prog 113 #[.pointer (some ⟨b, 0, none⟩)] w fun e w' => e = .returned (.int .i64 0) ∧ ∃ k, w' = w.drewN k)) :
    Calls Try.prog 90 #[.pointer (some ⟨b, 0, none⟩), .int .i64 v] w fun e w' => e = .returned (.int .i64 7) ∧ ∃ k, w' = w.drewN k := by
  obtain ⟨c0, c1, c2, c3, c4⟩ := h.cells
  go_enter Try.func90, Try.ntmps90
  go_wp2_with (first | (go_at_call 113; ((with_reducible refine (HR.out _ (by first | exact h | exact h.drewN _)).mono ?_); rintro e w' ⟨rfl, k, rfl⟩)))
  go_ret
  exact ⟨rfl, _, rfl⟩
theorem publish_no (w : World) (b g : Nat) (arr : List Int) (inn out a : Nat) (h : Raw w b g arr inn out a false) :
    Calls Try.prog 91 #[.pointer (some ⟨b, 0, none⟩)] w fun e w' => e = .returned (.int .i64 13) ∧ ∃ k, w' = w.drewN k := by
  obtain ⟨c0, c1, c2, c3, c4⟩ := h.cells
  go_enter Try.func91, Try.ntmps91
  go_wp2
  go_ret
  exact ⟨rfl, 0, rfl⟩
theorem publish_walk (w : World) (b g : Nat) (arr : List Int) (inn out a : Nat) (h : Raw w b g arr inn out a true) :
    Calls Try.prog 91 #[.pointer (some ⟨b, 0, none⟩)] w fun e w' => e = .returned (.int .i64 0) ∧ Eqv ((w.setCell ⟨b, 1, none⟩ (.int .u32 (((inn : Int) + 1) % 4294967296))).setCell ⟨b, 4, none⟩ (.bool false)) w' := by
  obtain ⟨c0, c1, c2, c3, c4⟩ := h.cells
  have fr1 := frozen_at h.obj 1
  have fr4 := frozen_at h.obj 4
  go_enter Try.func91, Try.ntmps91
  go_wp2
  go_ret
  exact ⟨rfl, rfl, rfl, rfl, rfl⟩
theorem free_no (w : World) (b g : Nat) (arr : List Int) (inn out a : Nat) (laid : Bool) (y : Int) (h : Raw w b g arr inn out a laid)
    (HP : Hid (∀ w, Raw w b g arr inn out a laid → Calls Try.prog 92 #[.pointer (some ⟨b, 0, none⟩)] w fun e w' => e = .returned (.tuple #[.int .i64 y, .int .i64 8]) ∧ ∃ k, w' = w.drewN k)) :
    Calls Try.prog 93 #[.pointer (some ⟨b, 0, none⟩)] w fun e w' => e = .returned (.int .i64 8) ∧ ∃ k, w' = w.drewN k := by
  go_enter Try.func93, Try.ntmps93
  go_wp2_with (first | (go_at_call 92; ((with_reducible refine (HP.out _ (by first | exact h | exact h.drewN _)).mono ?_); rintro e w' ⟨rfl, k, rfl⟩)))
  go_ret
  exact ⟨rfl, _, rfl⟩
theorem free_walk (w : World) (b g : Nat) (arr : List Int) (inn out a : Nat) (laid : Bool) (y z : Int) (h : Raw w b g arr inn out a laid) (hn : arr.length ≤ 4096)
    (HP : Hid (∀ w, Raw w b g arr inn out a laid → Calls Try.prog 92 #[.pointer (some ⟨b, 0, none⟩)] w fun e w' => e = .returned (.tuple #[.int .i64 y, .int .i64 0]) ∧ ∃ k, w' = w.drewN k))
    (ha : a < arr.length) (hp : w.cell? ⟨g, a, none⟩ = some (.int .i64 z)) :
    Calls Try.prog 93 #[.pointer (some ⟨b, 0, none⟩)] w fun e w' => e = .returned (.int .i64 0) ∧ Eqv (((w.setCell ⟨g, a, none⟩ (.int .i64 0)).setCell ⟨b, 3, none⟩ (.int .i64 (((a : Int) + 1) % (arr.length : Int)))).setCell ⟨b, 2, none⟩ (.int .u32 (((out : Int) + 1) % 4294967296))) w' := by
  obtain ⟨c0, c1, c2, c3, c4⟩ := h.cells
  have fr := frozen_at h.row a
  have fr2 := frozen_at h.obj 2
  have fr3 := frozen_at h.obj 3
  have ne := h.ne
  have ne' := Ne.symm h.ne
  have ha2 : (a : Int) < (arr.length : Int) := by omega
  go_enter Try.func93, Try.ntmps93
  go_wp2_with (first | (go_at_call 92; ((with_reducible refine (HP.out _ (by first | exact h | exact h.drewN _)).mono ?_); rintro e w' ⟨rfl, k, rfl⟩)))
  go_region
  go_wp2
  go_region
  go_wp2
  go_ret
  exact ⟨rfl, rfl, rfl, rfl, rfl⟩
end Go.Proofs.Ytmehfflomgldeab
