/- A ring of whole numbers in memory, and what those of its methods answer that only look: Len, Counts, Room, end, Peek. -/
import Derived.Test.YtpklblaenfhncaaOnly
import Derived.StillTailTactics
import Derived.BigRegion
import Derived.Deep.RegionHeld3
namespace Go.Proofs.Ytpklblaenfhncaa
set_option linter.unusedVariables false
open Go.RowKit

/-- A ring in memory: its struct lies in block b, its places in block g. -/
structure Raw (w : World) (b g : Nat) (arr : List Int) (inn out a : Nat) (laid : Bool) : Prop where
  obj : w.heap[b]? = some (.cells #[.slice (some ⟨g, 0, none⟩) arr.length arr.length, .int .u32 inn, .int .u32 out, .int .i64 a, .bool laid] 119 (0, 0))
  row : w.heap[g]? = some (.cells (arr.map (Value.int .u64)).toArray 22 (0, 0))
  ne : b ≠ g
theorem Raw.only {w w' : World} {b g : Nat} {arr : List Int} {inn out a : Nat} {laid : Bool} {S : List Nat} (h : Raw w b g arr inn out a laid) (ho : Only S w w') (hb : b ∉ S) (hg : g ∉ S) : Raw w' b g arr inn out a laid :=
  ⟨ho.at h.obj hb, ho.at h.row hg, h.ne⟩
theorem Raw.drewN {w : World} {b g : Nat} {arr : List Int} {inn out a : Nat} {laid : Bool} (h : Raw w b g arr inn out a laid) (n : Nat) : Raw (w.drewN n) b g arr inn out a laid := ⟨h.obj, h.row, h.ne⟩
theorem Raw.cells {w : World} {b g : Nat} {arr : List Int} {inn out a : Nat} {laid : Bool} (h : Raw w b g arr inn out a laid) :
    w.cell? ⟨b, 0, none⟩ = some (.slice (some ⟨g, 0, none⟩) arr.length arr.length) ∧ w.cell? ⟨b, 1, none⟩ = some (.int .u32 inn) ∧ w.cell? ⟨b, 2, none⟩ = some (.int .u32 out) ∧ w.cell? ⟨b, 3, none⟩ = some (.int .i64 a) ∧ w.cell? ⟨b, 4, none⟩ = some (.bool laid) :=
  ⟨cell_at h.obj 0, cell_at h.obj 1, cell_at h.obj 2, cell_at h.obj 3, cell_at h.obj 4⟩
theorem Raw.place {w : World} {b g : Nat} {arr : List Int} {inn out a : Nat} {laid : Bool} (h : Raw w b g arr inn out a laid) (i : Nat) (hi : i < arr.length) : w.cell? ⟨g, i, none⟩ = some (.int .u64 (arr.getD i 0)) := by
  rw [cell_at h.row, List.getElem?_toArray, List.getElem?_map, List.getElem?_eq_getElem hi, List.getD_eq_getElem?_getD, List.getElem?_eq_getElem hi]
  rfl

/-- How many things there are, round. -/
def cnt (inn out : Nat) : Nat := (inn + 4294967296 - out) % 4294967296
theorem cnt_int {inn out : Nat} (hi : inn < 4294967296) (ho : out < 4294967296) : ((inn : Int) - (out : Int)) % 4294967296 = ((cnt inn out : Nat) : Int) := by unfold cnt; omega
theorem cnt_lt (inn out : Nat) : cnt inn out < 4294967296 := Nat.mod_lt _ (by decide)

theorem len_raw (w : World) (b g : Nat) (arr : List Int) (inn out a : Nat) (laid : Bool) (h : Raw w b g arr inn out a laid) (hi : inn < 4294967296) (ho : out < 4294967296) :
    Calls Try.prog 52 #[.pointer (some ⟨b, 0, none⟩)] w fun e w' => e = .returned (.int .i64 ((cnt inn out : Nat) : Int)) ∧ ∃ k, w' = w.drewN k := by
  obtain ⟨c0, c1, c2, c3, c4⟩ := h.cells
  have HC := Lib.hid (cnt_int hi ho)
  have hl := cnt_lt inn out
  go_enter Try.func52, Try.ntmps52
  go_wp2
  go_quiet (fail)
  go_wp2
  go_ret
  exact ⟨ret_int HC.out, drew_close1⟩
theorem room_raw (w : World) (b g : Nat) (arr : List Int) (inn out a : Nat) (laid : Bool) (h : Raw w b g arr inn out a laid) (hi : inn < 4294967296) (ho : out < 4294967296) (hn : arr.length ≤ 4096) (hc : cnt inn out ≤ arr.length) :
    Calls Try.prog 54 #[.pointer (some ⟨b, 0, none⟩)] w fun e w' => e = .returned (.int .i64 (((arr.length : Nat) : Int) - ((cnt inn out : Nat) : Int) - (if laid = true then 1 else 0))) ∧ ∃ k, w' = w.drewN k := by
  obtain ⟨c0, c1, c2, c3, c4⟩ := h.cells
  have HL := Lib.hid (fun w h => len_raw w b g arr inn out a laid h hi ho)
  clear hi ho
  generalize cnt inn out = m at *
  cases laid with
  | false =>
    go_enter Try.func54, Try.ntmps54
    go_wp2
    go_quiet (first | (go_at_call 52; refine (HL.out _ (h.drewN _)).mono ?_; rintro e w1 ⟨rfl, k, rfl⟩; exact ⟨rfl, by first | exact drew_close2 | exact drew_close0 | exact drew_close⟩))
    go_wp2
    go_ret
    exact ⟨ret_int (by simp), drew_close1⟩
  | true =>
    go_enter Try.func54, Try.ntmps54
    go_wp2
    go_quiet (first | (go_at_call 52; refine (HL.out _ (h.drewN _)).mono ?_; rintro e w1 ⟨rfl, k, rfl⟩; exact ⟨rfl, by first | exact drew_close2 | exact drew_close0 | exact drew_close⟩))
    go_wp2
    go_ret
    exact ⟨ret_int (by simp), drew_close1⟩
theorem end_raw (w : World) (b g : Nat) (arr : List Int) (inn out a : Nat) (laid : Bool) (h : Raw w b g arr inn out a laid) (hi : inn < 4294967296) (ho : out < 4294967296) (hn : arr.length ≤ 4096) (hn1 : 1 ≤ arr.length) (ha : a < arr.length) :
    Calls Try.prog 99 #[.pointer (some ⟨b, 0, none⟩)] w fun e w' => e = .returned (.int .i64 (((a + cnt inn out) % arr.length : Nat) : Int)) ∧ ∃ k, w' = w.drewN k := by
  obtain ⟨c0, c1, c2, c3, c4⟩ := h.cells
  have HL := Lib.hid (fun w h => len_raw w b g arr inn out a laid h hi ho)
  have hl := cnt_lt inn out
  clear hi ho
  generalize cnt inn out = m at *
  go_enter Try.func99, Try.ntmps99
  go_wp2
  go_quiet (first | (go_at_call 52; refine (HL.out _ (h.drewN _)).mono ?_; rintro e w1 ⟨rfl, k, rfl⟩; exact ⟨rfl, by first | exact drew_close2 | exact drew_close0 | exact drew_close⟩))
  go_wp2
  go_ret
  exact ⟨ret_int (by simp), drew_close1⟩
theorem peek_raw (w : World) (b g : Nat) (arr : List Int) (inn out a : Nat) (laid : Bool) (h : Raw w b g arr inn out a laid) (hi : inn < 4294967296) (ho : out < 4294967296) (hn : arr.length ≤ 4096) (ha : a < arr.length) :
    Calls Try.prog 53 #[.pointer (some ⟨b, 0, none⟩)] w fun e w' => e = .returned (.tuple #[.int .u64 (if cnt inn out = 0 then 0 else arr.getD a 0), .int .i64 (if cnt inn out = 0 then 8 else 0)]) ∧ ∃ k, w' = w.drewN k := by
  obtain ⟨c0, c1, c2, c3, c4⟩ := h.cells
  have hp := h.place a ha
  have HZ : Hid (cnt inn out = 0 ↔ inn = out) := by unfold Hid cnt; omega
  by_cases he : inn = out
  · have hb : ((inn : Int) == (out : Int)) = true := by simp [he]
    have HE := Lib.hid (HZ.out.2 he)
    clear he
    rw [if_pos HE.out, if_pos HE.out]
    go_enter Try.func53, Try.ntmps53
    go_wp2
    go_quiet (fail)
    go_wp2
    go_ret2
    exact ⟨rfl, drew_close1⟩
  · have hb : ((inn : Int) == (out : Int)) = false := by simp; omega
    have HE := Lib.hid (fun e => he (HZ.out.1 e))
    clear he
    rw [if_neg HE.out, if_neg HE.out]
    generalize arr.getD a 0 = y at hp ⊢
    have ha2 : (a : Int) < (arr.length : Int) := by omega
    go_enter Try.func53, Try.ntmps53
    go_wp2
    go_quiet (fail)
    go_wp2
    go_quiet (fail)
    go_wp2
    go_ret2
    exact ⟨rfl, by first | exact drew_close1 | exact drew_close0⟩
end Go.Proofs.Ytpklblaenfhncaa
namespace Go.Proofs.Ytpklblaenfhncaa
set_option linter.unusedVariables false
open Go.RowKit

theorem lay_walk (w : World) (b g : Nat) (arr : List Int) (inn out a : Nat) (v rm y : Int) (x : Nat) (h : Raw w b g arr inn out a false)
    (HR : Hid (∀ w, Raw w b g arr inn out a false → Calls Try.prog 54 #[.pointer (some ⟨b, 0, none⟩)] w fun e w' => e = .returned (.int .i64 rm) ∧ ∃ k, w' = w.drewN k))
    (HE : Hid (∀ w, Raw w b g arr inn out a false → Calls Try.prog 99 #[.pointer (some ⟨b, 0, none⟩)] w fun e w' => e = .returned (.int .i64 x) ∧ ∃ k, w' = w.drewN k))
    (hz : (rm == 0) = false) (hx : x < arr.length) (hp : w.cell? ⟨g, x, none⟩ = some (.int .u64 y)) (fr : w.frozen? ⟨g, x, none⟩ = false) (fr4 : w.frozen? ⟨b, 4, none⟩ = false) :
    Calls Try.prog 75 #[.pointer (some ⟨b, 0, none⟩), .int .u64 v] w fun e w' => e = .returned (.int .i64 0) ∧ Eqv ((w.setCell ⟨g, x, none⟩ (.int .u64 v)).setCell ⟨b, 4, none⟩ (.bool true)) w' := by
  obtain ⟨c0, c1, c2, c3, c4⟩ := h.cells
  have ne := h.ne
  have ne' := Ne.symm h.ne
  have hx2 : (x : Int) < (arr.length : Int) := by omega
  go_enter Try.func75, Try.ntmps75
  go_wp2_with (first | (go_at_call 54; ((with_reducible refine (HR.out _ (by first | exact h | exact h.drewN _)).mono ?_); rintro e w' ⟨rfl, k, rfl⟩)))
  go_region_held3 (fun w' => w'.cell? ⟨b, 0, none⟩ = some (.slice (some ⟨g, 0, none⟩) arr.length arr.length)) (first | exact c0 | go_keep | (rw [World.cell?_setCell_other _ _ _ _ (by simp; omega)]; exact c0))
    (first | (go_at_call 99; ((with_reducible refine (HE.out _ (by first | exact h | exact h.drewN _)).mono ?_); rintro e w' ⟨rfl, k, rfl⟩)))
  go_wp2
  go_ret
  exact ⟨rfl, rfl, rfl, rfl, rfl⟩
theorem lay_state (w : World) (b g : Nat) (arr : List Int) (inn out a : Nat) (v : Int) (h : Raw w b g arr inn out a true) :
    Calls Try.prog 75 #[.pointer (some ⟨b, 0, none⟩), .int .u64 v] w fun e w' => e = .returned (.int .i64 13) ∧ ∃ k, w' = w.drewN k := by
  obtain ⟨c0, c1, c2, c3, c4⟩ := h.cells
  go_enter Try.func75, Try.ntmps75
  go_wp2
  go_ret
  exact ⟨rfl, 0, rfl⟩
theorem lay_full (w : World) (b g : Nat) (arr : List Int) (inn out a : Nat) (v : Int) (h : Raw w b g arr inn out a false)
    (HR : Hid (∀ w, Raw w b g arr inn out a false → Calls Try.prog 54 #[.pointer (some ⟨b, 0, none⟩)] w fun e w' => e = .returned (.int .i64 0) ∧ ∃ k, w' = w.drewN k)) :
    Calls Try.prog 75 #[.pointer (some ⟨b, 0, none⟩), .int .u64 v] w fun e w' => e = .returned (.int .i64 7) ∧ ∃ k, w' = w.drewN k := by
  obtain ⟨c0, c1, c2, c3, c4⟩ := h.cells
  go_enter Try.func75, Try.ntmps75
  go_wp2_with (first | (go_at_call 54; ((with_reducible refine (HR.out _ (by first | exact h | exact h.drewN _)).mono ?_); rintro e w' ⟨rfl, k, rfl⟩)))
  go_ret
  exact ⟨rfl, _, rfl⟩
theorem publish_no (w : World) (b g : Nat) (arr : List Int) (inn out a : Nat) (h : Raw w b g arr inn out a false) :
    Calls Try.prog 76 #[.pointer (some ⟨b, 0, none⟩)] w fun e w' => e = .returned (.int .i64 13) ∧ ∃ k, w' = w.drewN k := by
  obtain ⟨c0, c1, c2, c3, c4⟩ := h.cells
  go_enter Try.func76, Try.ntmps76
  go_wp2
  go_ret
  exact ⟨rfl, 0, rfl⟩
theorem publish_walk (w : World) (b g : Nat) (arr : List Int) (inn out a : Nat) (h : Raw w b g arr inn out a true) :
    Calls Try.prog 76 #[.pointer (some ⟨b, 0, none⟩)] w fun e w' => e = .returned (.int .i64 0) ∧ Eqv ((w.setCell ⟨b, 1, none⟩ (.int .u32 (((inn : Int) + 1) % 4294967296))).setCell ⟨b, 4, none⟩ (.bool false)) w' := by
  obtain ⟨c0, c1, c2, c3, c4⟩ := h.cells
  have fr1 := frozen_at h.obj 1
  have fr4 := frozen_at h.obj 4
  go_enter Try.func76, Try.ntmps76
  go_wp2
  go_ret
  exact ⟨rfl, rfl, rfl, rfl, rfl⟩
theorem free_no (w : World) (b g : Nat) (arr : List Int) (inn out a : Nat) (laid : Bool) (y : Int) (h : Raw w b g arr inn out a laid)
    (HP : Hid (∀ w, Raw w b g arr inn out a laid → Calls Try.prog 53 #[.pointer (some ⟨b, 0, none⟩)] w fun e w' => e = .returned (.tuple #[.int .u64 y, .int .i64 8]) ∧ ∃ k, w' = w.drewN k)) :
    Calls Try.prog 83 #[.pointer (some ⟨b, 0, none⟩)] w fun e w' => e = .returned (.int .i64 8) ∧ ∃ k, w' = w.drewN k := by
  go_enter Try.func83, Try.ntmps83
  go_wp2_with (first | (go_at_call 53; ((with_reducible refine (HP.out _ (by first | exact h | exact h.drewN _)).mono ?_); rintro e w' ⟨rfl, k, rfl⟩)))
  go_ret
  exact ⟨rfl, _, rfl⟩
theorem free_walk (w : World) (b g : Nat) (arr : List Int) (inn out a : Nat) (laid : Bool) (y z : Int) (h : Raw w b g arr inn out a laid) (hn : arr.length ≤ 4096)
    (HP : Hid (∀ w, Raw w b g arr inn out a laid → Calls Try.prog 53 #[.pointer (some ⟨b, 0, none⟩)] w fun e w' => e = .returned (.tuple #[.int .u64 y, .int .i64 0]) ∧ ∃ k, w' = w.drewN k))
    (ha : a < arr.length) (hp : w.cell? ⟨g, a, none⟩ = some (.int .u64 z)) :
    Calls Try.prog 83 #[.pointer (some ⟨b, 0, none⟩)] w fun e w' => e = .returned (.int .i64 0) ∧ Eqv (((w.setCell ⟨g, a, none⟩ (.int .u64 0)).setCell ⟨b, 3, none⟩ (.int .i64 (((a : Int) + 1) % (arr.length : Int)))).setCell ⟨b, 2, none⟩ (.int .u32 (((out : Int) + 1) % 4294967296))) w' := by
  obtain ⟨c0, c1, c2, c3, c4⟩ := h.cells
  have fr := frozen_at h.row a
  have fr2 := frozen_at h.obj 2
  have fr3 := frozen_at h.obj 3
  have ne := h.ne
  have ne' := Ne.symm h.ne
  have ha2 : (a : Int) < (arr.length : Int) := by omega
  go_enter Try.func83, Try.ntmps83
  go_wp2_with (first | (go_at_call 53; ((with_reducible refine (HP.out _ (by first | exact h | exact h.drewN _)).mono ?_); rintro e w' ⟨rfl, k, rfl⟩)))
  go_region
  go_wp2
  go_region
  go_wp2
  go_ret
  exact ⟨rfl, rfl, rfl, rfl, rfl⟩
end Go.Proofs.Ytpklblaenfhncaa
