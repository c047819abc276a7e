/- The reference's link: with. -/
import Derived.Test.YtmehfflomgldeabRefLinkA
namespace Go.Proofs.Ytmehfflomgldeab
set_option linter.unusedVariables false
open Go.RowKit
theorem oneCell_nv (l : List Nat) : ∀ u ∈ l.map NV, u.oneCell' = true := fun u hu => by
  obtain ⟨x, _, rfl⟩ := List.mem_map.1 hu; rfl
theorem nv_row {w : World} {base : Nat} {v : Value} {l : List Nat} (h : w.ownsRow base 3 1 v l.length (l.map NV)) (hl : 0 < l.length) :
    ∃ g cap cur, v = .slice (some ⟨g, 0, none⟩) l.length cap ∧ base ≤ g ∧ w.heap[g]? = some (.cells cur 3 (0, 0)) ∧ l.length ≤ cap ∧ ∀ j, j < l.length → cur[j]? = some (.int .i64 ((l.getD j 0 : Nat) : Int)) := by
  have h' := h
  rcases h.2 with ⟨_, h0⟩ | ⟨g, cap, cur, rfl, hbg, hg, hnc, _⟩
  · omega
  · refine ⟨g, cap, cur, rfl, hbg, hg, hnc, fun j hj => ?_⟩
    have := h'.cells rfl j (NV (l.getD j 0)) (by rw [List.getElem?_map, List.getElem?_eq_getElem hj, List.getD_eq_getElem?_getD, List.getElem?_eq_getElem hj]; rfl)
    rw [addP, Nat.zero_add, cell_at hg] at this
    exact this
set_option maxRecDepth 100000 in
set_option maxHeartbeats 1000000 in
theorem ref_with (w : World) (a : Option Addr) (c : Nat) (l : List Nat) (i : Nat) (by' : Int) (y : Nat) (S : List Nat) (hr : CellsOff w a (l.map NV) S) (hi : i < l.length) (hl : l.length ≤ 8) (hy : ((l.getD i 0 : Nat) : Int) + by' = (y : Int)) (hb64 : l.getD i 0 ≤ 64) (hby : -1 ≤ by' ∧ by' ≤ 1) (hS : ∀ x ∈ S, x < w.heap.size) :
    Calls Try.prog 87 #[.slice a l.length c, .int .i64 (i : Int), .int .i64 by'] w fun e w' => ∃ a' c', e = .returned (.slice a' l.length c') ∧ CellsOff w' a' ((l.set i y).map NV) S ∧ l.length ≤ c' ∧ Below w.heap.size w w' := by
  have HR := Lib.hid (hr.weak (T := []) (by simp))
  have HL := Lib.hid (show (l.map NV).length = l.length * 1 by simp)
  have HS := Lib.hid hS
  have hiI : (i : Int) < (l.length : Int) := by omega
  obtain ⟨z, hz⟩ : ∃ z, z = l.getD i 0 := ⟨_, rfl⟩
  rw [← hz] at hy hb64
  have hy2 : -1 ≤ (z : Int) + by' := by omega
  have hy3 : (z : Int) + by' ≤ 65 := by omega
  have HY := Lib.hid hy
  have HZ := Lib.hid hz
  obtain ⟨hb1, hb2⟩ := hby
  clear hr hS hy hz
  go_enter Try.func87, Try.ntmps87
  go_wp2_with (first
    | (at_builtin; refine append_rows (W0 := w) (l.map NV) l.length w.heap.size 27 3 _ 1 8 infoInt Try.underlying27 rfl (by decide) (.slice none 0 0) 0 [] (World.ownsRow_nil _ _ _ _) (Below.refl _ _) (Nat.le_refl _) a c HL.out HR.out (oneCell_nv _) (by omega) (by decide) rfl _ _ rfl rfl rfl ?_; intro v1 w1 hown1 hbl1 hg1 hor1; clear hg1 hor1; simp only [Nat.zero_add, List.nil_append] at hown1; obtain ⟨g, cap, cur, rfl, hbg, hg, hnc, hcs⟩ := nv_row hown1 (by omega); have hci := (cell_at hg i).trans (hcs i hi); have hfr := frozen_at hg i; rw [← HZ.out] at hci; have HG := Lib.hid hg; have HCS := Lib.hid hcs; clear hg hcs hown1))
  go_ret
  have hnew : (w1.setCell ⟨g, i, none⟩ (.int .i64 ((z : Int) + by'))).heap[g]? = _ := set_at HG.out i _
  refine ⟨_, cap, rfl, fun j u hu => ⟨g, 0, rfl, fun hm => by have := HS.out g hm; omega, ?_⟩, hnc, by repeat' (first | (with_reducible assumption) | (with_reducible refine Below.setCell ?_ ?_ _) | (with_reducible refine below_drewN' ?_ _) | (with_reducible refine Below.drew ?_) | (with_reducible refine Below.alloc ?_ ?_ _) | (with_reducible exact Below.refl _ _) | (with_reducible exact Nat.le_refl _) | omega | (simp; done) | (simp; omega))⟩
  rw [Nat.zero_add, cell_at hnew]
  rw [List.getElem?_map] at hu
  have hcz : i < cur.size := by
    have := HCS.out i hi
    exact (Array.getElem?_eq_some_iff.1 this).1
  by_cases hji : i = j
  · subst hji
    rw [List.getElem?_set_self hi] at hu
    simp only [Option.map_some, Option.some.injEq] at hu
    rw [Array.getElem?_setIfInBounds_self_of_lt hcz, ← hu, HY.out]
  · rw [List.getElem?_set_ne hji] at hu
    rw [Array.getElem?_setIfInBounds_ne hji]
    have hj : j < l.length := by
      cases e : l[j]? with
      | none => rw [e] at hu; simp at hu
      | some x => exact (List.getElem?_eq_some_iff.1 e).1
    rw [HCS.out j hj]
    rw [List.getElem?_eq_getElem hj] at hu
    rw [List.getD_eq_getElem?_getD, List.getElem?_eq_getElem hj]
    exact hu
end Go.Proofs.Ytmehfflomgldeab
