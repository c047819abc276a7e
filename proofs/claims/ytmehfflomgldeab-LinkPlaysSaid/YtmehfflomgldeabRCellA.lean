/- A ring of cells (a lane and a word each) in memory, and what Len, Room, end, Peek answer. -/
import Derived.Test.YtmehfflomgldeabRingD
import Derived.Test.YtmehfflomgldeabRes
import Derived.StillTailTactics
import Derived.BigRegion
import Derived.Deep.DeepCutAuto
namespace Go.Proofs.Ytmehfflomgldeab
set_option linter.unusedVariables false
open Go.RowKit

structure Cl where
  lane : Int
  word : Int
def Cl.zero : Cl := ⟨0, 0⟩
abbrev Cl.val (c : Cl) : Value := .agg #[.int .i64 c.lane, .int .u64 c.word]
def Cl.cells (c : Cl) : List Value := [.int .i64 c.lane, .int .u64 c.word]
def flatC (l : List Cl) : List Value := l.flatMap Cl.cells
theorem flatC_len : ∀ l : List Cl, (flatC l).length = 2 * l.length
  | [] => rfl
  | c :: l => by have := flatC_len l; unfold flatC at *; rw [List.flatMap_cons, List.length_append, this, List.length_cons]; simp [Cl.cells]; omega
theorem flatC_get : ∀ (l : List Cl) (i j : Nat), i < l.length → j < 2 → (flatC l)[2 * i + j]? = (l.getD i Cl.zero).cells[j]?
  | [], i, j, h, _ => by simp at h
  | c :: l, 0, j, h, hj => by
    unfold flatC
    rw [List.flatMap_cons, List.getElem?_append_left (by simp [Cl.cells]; omega)]
    simp
  | c :: l, i + 1, j, h, hj => by
    have := flatC_get l i j (by simpa using h) hj
    unfold flatC at *
    rw [List.flatMap_cons, List.getElem?_append_right (by simp [Cl.cells]; omega)]
    rw [show 2 * (i + 1) + j - c.cells.length = 2 * i + j from by simp [Cl.cells]; omega, this]
    simp
theorem flatC_set : ∀ (l : List Cl) (i : Nat) (v : Cl), ((flatC l).set (2 * i) (.int .i64 v.lane)).set (2 * i + 1) (.int .u64 v.word) = flatC (l.set i v)
  | [], i, v => by simp [flatC]
  | c :: l, 0, v => by simp [flatC, Cl.cells]
  | c :: l, i + 1, v => by
    have := flatC_set l i v
    unfold flatC at *
    rw [List.flatMap_cons, List.set_cons_succ, List.flatMap_cons, ← this, show 2 * (i + 1) = 2 * i + 1 + 1 from by omega]
    simp [Cl.cells]
/-- A ring in memory: its struct lies in block b, its places in block g. -/
structure RawC (w : World) (b g : Nat) (arr : List Cl) (inn out a : Nat) (laid : Bool) : Prop where
  obj : w.heap[b]? = some (.cells #[.slice (some ⟨g, 0, none⟩) arr.length arr.length, .int .u32 inn, .int .u32 out, .int .i64 a, .bool laid] 137 (0, 0))
  row : w.heap[g]? = some (.cells (flatC arr).toArray 35 (0, 0))
  ne : b ≠ g
variable {w : World} {b g : Nat} {arr : List Cl} {inn out a : Nat} {laid : Bool}
theorem RawC.only {w' : World} {S : List Nat} (h : RawC w b g arr inn out a laid) (ho : Only S w w') (hb : b ∉ S) (hg : g ∉ S) : RawC w' b g arr inn out a laid :=
  ⟨ho.at h.obj hb, ho.at h.row hg, h.ne⟩
theorem RawC.below {w' : World} {B : Nat} (h : RawC w b g arr inn out a laid) (hb : Below B w w') (h1 : b < B) (h2 : g < B) : RawC w' b g arr inn out a laid :=
  ⟨Below.at hb h.obj h1, Below.at hb h.row h2, h.ne⟩
theorem RawC.drewN (h : RawC w b g arr inn out a laid) (n : Nat) : RawC (w.drewN n) b g arr inn out a laid := ⟨h.obj, h.row, h.ne⟩
theorem RawC.alloc (h : RawC w b g arr inn out a laid) (o : Obj) : RawC (w.alloc o) b g arr inn out a laid := ⟨alloc_old h.obj o, alloc_old h.row o, h.ne⟩
theorem RawC.lt (h : RawC w b g arr inn out a laid) : b < w.heap.size ∧ g < w.heap.size := ⟨block_lt h.obj, block_lt h.row⟩
theorem RawC.cells (h : RawC w b g arr inn out a laid) :
    w.cell? ⟨b, 0, none⟩ = some (.slice (some ⟨g, 0, none⟩) arr.length arr.length) ∧ w.cell? ⟨b, 1, none⟩ = some (.int .u32 inn) ∧ w.cell? ⟨b, 2, none⟩ = some (.int .u32 out) ∧ w.cell? ⟨b, 3, none⟩ = some (.int .i64 a) ∧ w.cell? ⟨b, 4, none⟩ = some (.bool laid) :=
  ⟨cell_at h.obj 0, cell_at h.obj 1, cell_at h.obj 2, cell_at h.obj 3, cell_at h.obj 4⟩
theorem RawC.place (h : RawC w b g arr inn out a laid) (i : Nat) (hi : i < arr.length) : w.cell? ⟨g, i * 2, none⟩ = some (.int .i64 (arr.getD i Cl.zero).lane) ∧ w.cell? ⟨g, i * 2 + 1, none⟩ = some (.int .u64 (arr.getD i Cl.zero).word) :=
  ⟨by rw [cell_at h.row, List.getElem?_toArray, Nat.mul_comm, ← Nat.add_zero (2 * i), flatC_get _ _ _ hi (by omega)]; rfl, by rw [cell_at h.row, List.getElem?_toArray, Nat.mul_comm, flatC_get _ _ _ hi (by omega)]; rfl⟩
theorem lenC_raw (w : World) (b g : Nat) (arr : List Cl) (inn out a : Nat) (laid : Bool) (h : RawC w b g arr inn out a laid) (hi : inn < 4294967296) (ho : out < 4294967296) :
    Calls Try.prog 67 #[.pointer (some ⟨b, 0, none⟩)] w fun e w' => e = .returned (.int .i64 ((cnt inn out : Nat) : Int)) ∧ ∃ k, w' = w.drewN k := by
  obtain ⟨c0, c1, c2, c3, c4⟩ := h.cells
  have HC := Lib.hid (cnt_int hi ho)
  have hl := cnt_lt inn out
  go_enter Try.func67, Try.ntmps67
  go_wp2
  go_quiet (fail)
  go_wp2
  go_ret
  exact ⟨ret_int HC.out, drew_close1⟩
theorem roomC_raw (w : World) (b g : Nat) (arr : List Cl) (inn out a : Nat) (laid : Bool) (h : RawC w b g arr inn out a laid) (hi : inn < 4294967296) (ho : out < 4294967296) (hn : arr.length ≤ 4096) (hc : cnt inn out ≤ arr.length) :
    Calls Try.prog 63 #[.pointer (some ⟨b, 0, none⟩)] w fun e w' => e = .returned (.int .i64 (((arr.length : Nat) : Int) - ((cnt inn out : Nat) : Int) - (if laid = true then 1 else 0))) ∧ ∃ k, w' = w.drewN k := by
  obtain ⟨c0, c1, c2, c3, c4⟩ := h.cells
  have HL := Lib.hid (fun w h => lenC_raw w b g arr inn out a laid h hi ho)
  clear hi ho
  generalize cnt inn out = m at *
  cases laid with
  | false =>
    go_enter Try.func63, Try.ntmps63
    go_wp2
    go_quiet (first | (go_at_call 67; refine (HL.out _ (h.drewN _)).mono ?_; rintro e w1 ⟨rfl, k, rfl⟩; exact ⟨rfl, by first | exact drew_close2 | exact drew_close0 | exact drew_close⟩))
    go_wp2
    go_ret
    exact ⟨ret_int (by simp), drew_close1⟩
  | true =>
    go_enter Try.func63, Try.ntmps63
    go_wp2
    go_quiet (first | (go_at_call 67; refine (HL.out _ (h.drewN _)).mono ?_; rintro e w1 ⟨rfl, k, rfl⟩; exact ⟨rfl, by first | exact drew_close2 | exact drew_close0 | exact drew_close⟩))
    go_wp2
    go_ret
    exact ⟨ret_int (by simp), drew_close1⟩
theorem endC_raw (w : World) (b g : Nat) (arr : List Cl) (inn out a : Nat) (laid : Bool) (h : RawC w b g arr inn out a laid) (hi : inn < 4294967296) (ho : out < 4294967296) (hn : arr.length ≤ 4096) (hn1 : 1 ≤ arr.length) (ha : a < arr.length) :
    Calls Try.prog 115 #[.pointer (some ⟨b, 0, none⟩)] w fun e w' => e = .returned (.int .i64 (((a + cnt inn out) % arr.length : Nat) : Int)) ∧ ∃ k, w' = w.drewN k := by
  obtain ⟨c0, c1, c2, c3, c4⟩ := h.cells
  have HL := Lib.hid (fun w h => lenC_raw w b g arr inn out a laid h hi ho)
  have hl := cnt_lt inn out
  clear hi ho
  generalize cnt inn out = m at *
  go_enter Try.func115, Try.ntmps115
  go_wp2
  go_quiet (first | (go_at_call 67; refine (HL.out _ (h.drewN _)).mono ?_; rintro e w1 ⟨rfl, k, rfl⟩; exact ⟨rfl, by first | exact drew_close2 | exact drew_close0 | exact drew_close⟩))
  go_wp2
  go_ret
  exact ⟨ret_int (by simp), drew_close1⟩
set_option maxRecDepth 100000 in
set_option maxHeartbeats 1000000 in
theorem peekC_raw (w : World) (b g : Nat) (arr : List Cl) (inn out a : Nat) (laid : Bool) (h : RawC w b g arr inn out a laid) (hi : inn < 4294967296) (ho : out < 4294967296) (hn : arr.length ≤ 4096) (ha : a < arr.length) :
    Calls Try.prog 88 #[.pointer (some ⟨b, 0, none⟩)] w fun e w' => e = .returned (.tuple #[(if cnt inn out = 0 then Cl.zero else arr.getD a Cl.zero).val, .int .i64 (if cnt inn out = 0 then 8 else 0)]) ∧ Below w.heap.size w w' := by
  obtain ⟨c0, c1, c2, c3, c4⟩ := h.cells
  obtain ⟨hp0, hp1⟩ := h.place a ha
  have hlb := block_lt h.obj
  have hlg := block_lt h.row
  have HZ : Hid (cnt inn out = 0 ↔ inn = out) := by unfold Hid cnt; omega
  by_cases he : inn = out
  · have hb : ((inn : Int) == (out : Int)) = true := by simp [he]
    have HE := Lib.hid (HZ.out.2 he)
    clear he
    rw [if_pos HE.out, if_pos HE.out]
    go_enter Try.func88, Try.ntmps88
    go_wp2
    go_quiet (fail)
    go_wp2
    refine bodyPost_ret (res_row_tmp rfl _ _ w.heap.size 35 _ (0, 0) _ rfl (stored2 (drewN_at (alloc_old (alloc_new _) _) _)) Try.underlying35 rfl (by kernel_rfl)) rfl ⟨rfl, ?_⟩
    repeat' (first | (with_reducible assumption) | (with_reducible refine Below.setCell ?_ ?_ _) | (with_reducible refine below_drewN' ?_ _) | (with_reducible refine Below.drew ?_) | (with_reducible refine Below.alloc ?_ ?_ _) | (with_reducible exact Below.refl _ _) | (with_reducible exact Nat.le_refl _) | omega | (simp; done) | (simp; omega))
  · have hb : ((inn : Int) == (out : Int)) = false := by simp; omega
    have HE := Lib.hid (fun e => he (HZ.out.1 e))
    clear he
    rw [if_neg HE.out, if_neg HE.out]
    generalize arr.getD a Cl.zero = y at hp0 hp1 ⊢
    obtain ⟨y0, y1⟩ := y
    dsimp only at hp0 hp1
    have ha2 : (a : Int) < (arr.length : Int) := by omega
    go_enter Try.func88, Try.ntmps88
    go_upto_region 4 with (fail)
    go_cut [9] (fun s9 wx => s9 = .bool false ∧ (wx.heap[w.heap.size]? = some (.cells #[.int .i64 0, .int .u64 0] 35 (0, 0)) ∧ wx.cell? ⟨b, 0, none⟩ = some (.slice (some ⟨g, 0, none⟩) arr.length arr.length) ∧ wx.cell? ⟨b, 3, none⟩ = some (.int .i64 a) ∧ wx.cell? ⟨g, a * 2, none⟩ = some (.int .i64 y0) ∧ wx.cell? ⟨g, a * 2 + 1, none⟩ = some (.int .u64 y1)) ∧ Below w.heap.size w wx)
    case first =>
      go_quiet (fail)
      go_wp2
      go_meet
      refine ⟨rfl, ⟨drewN_at (alloc_old (alloc_new _) _) _, ?_, ?_, ?_, ?_⟩, by repeat' (first | (with_reducible assumption) | (with_reducible refine Below.setCell ?_ ?_ _) | (with_reducible refine below_drewN' ?_ _) | (with_reducible refine Below.drew ?_) | (with_reducible refine Below.alloc ?_ ?_ _) | (with_reducible exact Below.refl _ _) | (with_reducible exact Nat.le_refl _) | omega | (simp; done) | (simp; omega))⟩
      all_goals
        refine (Below.cell (w := w) (B := w.heap.size) ?_ ?_).trans (by assumption)
        · repeat' (first | (with_reducible assumption) | (with_reducible refine Below.setCell ?_ ?_ _) | (with_reducible refine below_drewN' ?_ _) | (with_reducible refine Below.drew ?_) | (with_reducible refine Below.alloc ?_ ?_ _) | (with_reducible exact Below.refl _ _) | (with_reducible exact Nat.le_refl _) | omega | (simp; done) | (simp; omega))
        · first | exact hlb | exact hlg
    case rest =>
      obtain ⟨rfl, ⟨hR, d0, d3, e0, e1⟩, hB⟩ := hcut
      have fr0 := frozen_at hR 0
      have fr1 := frozen_at hR 1
      have hlw := block_lt hR
      have HR := Lib.hid hR
      have HB := Lib.hid hB
      clear hR hB c0 c1 c2 c3 c4 hp0 hp1
      go_wp2
      go_still_tail 10, (by kernel_rfl)
      change wpList _ _ _ _ _ wc.drew
      have hR2 : wc.drew.heap[w.heap.size]? = some (.cells #[.int .i64 0, .int .u64 0] 35 (0, 0)) := HR.out
      have hB2 : Below w.heap.size w wc.drew := HB.out.drew
      clear HR HB fr0 fr1 d0 d3 e0 e1 hlw
      generalize wc.drew = w2 at *
      have z0 := cell_at hR2 0
      have z1 := cell_at hR2 1
      have z2 := frozen_at hR2 0
      have z3 := frozen_at hR2 1
      have HR2 := Lib.hid hR2
      have HB2 := Lib.hid hB2
      clear hR2 hB2
      go_wp2
      refine bodyPost_ret (res_row_tmp rfl _ _ w.heap.size 35 _ (0, 0) _ rfl (stored2 HR2.out) Try.underlying35 rfl (by kernel_rfl)) rfl ⟨rfl, ?_⟩
      have hB := HB2.out
      have hs := hB.size
      repeat' (first | (with_reducible assumption) | (with_reducible refine Below.setCell ?_ ?_ _) | (with_reducible refine below_drewN' ?_ _) | (with_reducible refine Below.drew ?_) | (with_reducible refine Below.alloc ?_ ?_ _) | (with_reducible exact Below.refl _ _) | (with_reducible exact Nat.le_refl _) | omega | (simp; done) | (simp; omega))
end Go.Proofs.Ytmehfflomgldeab
