/- A ring of cells (a lane and a word each) in memory, and what Len, Room, end, Peek answer. -/
import Derived.Test.YtajbfmdgnkpjgaaRingCnt
import Derived.Test.YtajbfmdgnkpjgaaPkDef
import Derived.Test.YtajbfmdgnkpjgaaRes
import Derived.StillTailTactics
import Derived.BigRegion
import Derived.Deep.DeepCutAuto
namespace Go.Proofs.Ytajbfmdgnkpjgaa
set_option linter.unusedVariables false
open Go.RowKit

def flatK (l : List Pk) : List Value := l.flatMap Pk.cells
theorem flatK_len : ∀ l : List Pk, (flatK l).length = 4 * l.length
  | [] => rfl
  | c :: l => by have := flatK_len l; unfold flatK at *; rw [List.flatMap_cons, List.length_append, this, List.length_cons]; simp [Pk.cells]; omega
theorem flatK_get : ∀ (l : List Pk) (i j : Nat), i < l.length → j < 4 → (flatK l)[4 * i + j]? = (l.getD i Pk.zero).cells[j]?
  | [], i, j, h, _ => by simp at h
  | c :: l, 0, j, h, hj => by
    unfold flatK
    rw [List.flatMap_cons, List.getElem?_append_left (by simp [Pk.cells]; omega)]
    simp
  | c :: l, i + 1, j, h, hj => by
    have := flatK_get l i j (by simpa using h) hj
    unfold flatK at *
    rw [List.flatMap_cons, List.getElem?_append_right (by simp [Pk.cells]; omega)]
    rw [show 4 * (i + 1) + j - c.cells.length = 4 * i + j from by simp [Pk.cells]; omega, this]
    simp
theorem flatK_set : ∀ (l : List Pk) (i : Nat) (v : Pk), ((((flatK l).set (4 * i) (.int .i64 v.src)).set (4 * i + 1) (.int .i64 v.dst)).set (4 * i + 2) (.int .i64 v.seq)).set (4 * i + 3) (.string v.data) = flatK (l.set i v)
  | [], i, v => by simp [flatK]
  | c :: l, 0, v => by simp [flatK, Pk.cells]
  | c :: l, i + 1, v => by
    have := flatK_set l i v
    unfold flatK at *
    rw [List.flatMap_cons, List.set_cons_succ, List.flatMap_cons, ← this, show 4 * (i + 1) = 4 * i + 1 + 1 + 1 + 1 from by omega]
    simp [Pk.cells]
/-- A ring in memory: its struct lies in block b, its places in block g. -/
structure RawK (w : World) (b g : Nat) (arr : List Pk) (inn out a : Nat) (laid : Bool) : Prop where
  obj : w.heap[b]? = some (.cells #[.slice (some ⟨g, 0, none⟩) arr.length arr.length, .int .u32 inn, .int .u32 out, .int .i64 a, .bool laid] 132 (0, 0))
  row : w.heap[g]? = some (.cells (flatK arr).toArray 30 (0, 0))
  ne : b ≠ g
variable {w : World} {b g : Nat} {arr : List Pk} {inn out a : Nat} {laid : Bool}
theorem RawK.only {w' : World} {S : List Nat} (h : RawK w b g arr inn out a laid) (ho : Only S w w') (hb : b ∉ S) (hg : g ∉ S) : RawK w' b g arr inn out a laid :=
  ⟨ho.at h.obj hb, ho.at h.row hg, h.ne⟩
theorem RawK.below {w' : World} {B : Nat} (h : RawK w b g arr inn out a laid) (hb : Below B w w') (h1 : b < B) (h2 : g < B) : RawK w' b g arr inn out a laid :=
  ⟨Below.at hb h.obj h1, Below.at hb h.row h2, h.ne⟩
theorem RawK.drewN (h : RawK w b g arr inn out a laid) (n : Nat) : RawK (w.drewN n) b g arr inn out a laid := ⟨h.obj, h.row, h.ne⟩
theorem RawK.alloc (h : RawK w b g arr inn out a laid) (o : Obj) : RawK (w.alloc o) b g arr inn out a laid := ⟨alloc_old h.obj o, alloc_old h.row o, h.ne⟩
theorem RawK.lt (h : RawK w b g arr inn out a laid) : b < w.heap.size ∧ g < w.heap.size := ⟨block_lt h.obj, block_lt h.row⟩
theorem RawK.cells (h : RawK w b g arr inn out a laid) :
    w.cell? ⟨b, 0, none⟩ = some (.slice (some ⟨g, 0, none⟩) arr.length arr.length) ∧ w.cell? ⟨b, 1, none⟩ = some (.int .u32 inn) ∧ w.cell? ⟨b, 2, none⟩ = some (.int .u32 out) ∧ w.cell? ⟨b, 3, none⟩ = some (.int .i64 a) ∧ w.cell? ⟨b, 4, none⟩ = some (.bool laid) :=
  ⟨cell_at h.obj 0, cell_at h.obj 1, cell_at h.obj 2, cell_at h.obj 3, cell_at h.obj 4⟩
theorem RawK.place (h : RawK w b g arr inn out a laid) (i : Nat) (hi : i < arr.length) : w.cell? ⟨g, i * 4, none⟩ = some (.int .i64 (arr.getD i Pk.zero).src) ∧ w.cell? ⟨g, i * 4 + 1, none⟩ = some (.int .i64 (arr.getD i Pk.zero).dst) ∧ w.cell? ⟨g, i * 4 + 2, none⟩ = some (.int .i64 (arr.getD i Pk.zero).seq) ∧ w.cell? ⟨g, i * 4 + 3, none⟩ = some (.string (arr.getD i Pk.zero).data) := by
  have key : ∀ j, j < 4 → w.cell? ⟨g, i * 4 + j, none⟩ = (arr.getD i Pk.zero).cells[j]? := fun j hj => by rw [cell_at h.row, List.getElem?_toArray, Nat.mul_comm, flatK_get _ _ _ hi hj]
  exact ⟨key 0 (by omega), key 1 (by omega), key 2 (by omega), key 3 (by omega)⟩
theorem lenK_raw (w : World) (b g : Nat) (arr : List Pk) (inn out a : Nat) (laid : Bool) (h : RawK w b g arr inn out a laid) (hi : inn < 4294967296) (ho : out < 4294967296) :
    Calls Try.prog 59 #[.pointer (some ⟨b, 0, none⟩)] w fun e w' => e = .returned (.int .i64 ((cnt inn out : Nat) : Int)) ∧ ∃ k, w' = w.drewN k := by
  obtain ⟨c0, c1, c2, c3, c4⟩ := h.cells
  have HC := Lib.hid (cnt_int hi ho)
  have hl := cnt_lt inn out
  go_enter Try.func59, Try.ntmps59
  go_wp2
  go_quiet (fail)
  go_wp2
  go_ret
  exact ⟨ret_int HC.out, drew_close1⟩
theorem roomK_raw (w : World) (b g : Nat) (arr : List Pk) (inn out a : Nat) (laid : Bool) (h : RawK w b g arr inn out a laid) (hi : inn < 4294967296) (ho : out < 4294967296) (hn : arr.length ≤ 4096) (hc : cnt inn out ≤ arr.length) :
    Calls Try.prog 61 #[.pointer (some ⟨b, 0, none⟩)] w fun e w' => e = .returned (.int .i64 (((arr.length : Nat) : Int) - ((cnt inn out : Nat) : Int) - (if laid = true then 1 else 0))) ∧ ∃ k, w' = w.drewN k := by
  obtain ⟨c0, c1, c2, c3, c4⟩ := h.cells
  have HL := Lib.hid (fun w h => lenK_raw w b g arr inn out a laid h hi ho)
  clear hi ho
  generalize cnt inn out = m at *
  cases laid with
  | false =>
    go_enter Try.func61, Try.ntmps61
    go_wp2
    go_quiet (first | (go_at_call 59; refine (HL.out _ (h.drewN _)).mono ?_; rintro e w1 ⟨rfl, k, rfl⟩; exact ⟨rfl, by first | exact drew_close2 | exact drew_close0 | exact drew_close⟩))
    go_wp2
    go_ret
    exact ⟨ret_int (by simp), drew_close1⟩
  | true =>
    go_enter Try.func61, Try.ntmps61
    go_wp2
    go_quiet (first | (go_at_call 59; refine (HL.out _ (h.drewN _)).mono ?_; rintro e w1 ⟨rfl, k, rfl⟩; exact ⟨rfl, by first | exact drew_close2 | exact drew_close0 | exact drew_close⟩))
    go_wp2
    go_ret
    exact ⟨ret_int (by simp), drew_close1⟩
theorem endK_raw (w : World) (b g : Nat) (arr : List Pk) (inn out a : Nat) (laid : Bool) (h : RawK w b g arr inn out a laid) (hi : inn < 4294967296) (ho : out < 4294967296) (hn : arr.length ≤ 4096) (hn1 : 1 ≤ arr.length) (ha : a < arr.length) :
    Calls Try.prog 90 #[.pointer (some ⟨b, 0, none⟩)] w fun e w' => e = .returned (.int .i64 (((a + cnt inn out) % arr.length : Nat) : Int)) ∧ ∃ k, w' = w.drewN k := by
  obtain ⟨c0, c1, c2, c3, c4⟩ := h.cells
  have HL := Lib.hid (fun w h => lenK_raw w b g arr inn out a laid h hi ho)
  have hl := cnt_lt inn out
  clear hi ho
  generalize cnt inn out = m at *
  go_enter Try.func90, Try.ntmps90
  go_wp2
  go_quiet (first | (go_at_call 59; refine (HL.out _ (h.drewN _)).mono ?_; rintro e w1 ⟨rfl, k, rfl⟩; exact ⟨rfl, by first | exact drew_close2 | exact drew_close0 | exact drew_close⟩))
  go_wp2
  go_ret
  exact ⟨ret_int (by simp), drew_close1⟩
set_option maxRecDepth 100000 in
set_option maxHeartbeats 1000000 in
theorem peekK_raw (w : World) (b g : Nat) (arr : List Pk) (inn out a : Nat) (laid : Bool) (h : RawK w b g arr inn out a laid) (hi : inn < 4294967296) (ho : out < 4294967296) (hn : arr.length ≤ 4096) (ha : a < arr.length) :
    Calls Try.prog 60 #[.pointer (some ⟨b, 0, none⟩)] w fun e w' => e = .returned (.tuple #[(if cnt inn out = 0 then Pk.zero else arr.getD a Pk.zero).val, .int .i64 (if cnt inn out = 0 then 8 else 0)]) ∧ Below w.heap.size w w' := by
  obtain ⟨c0, c1, c2, c3, c4⟩ := h.cells
  obtain ⟨hp0, hp1, hp2, hp3⟩ := h.place a ha
  have hlb := block_lt h.obj
  have hlg := block_lt h.row
  have HZ : Hid (cnt inn out = 0 ↔ inn = out) := by unfold Hid cnt; omega
  by_cases he : inn = out
  · have hb : ((inn : Int) == (out : Int)) = true := by simp [he]
    have HE := Lib.hid (HZ.out.2 he)
    clear he
    rw [if_pos HE.out, if_pos HE.out]
    go_enter Try.func60, Try.ntmps60
    go_wp2
    go_quiet (fail)
    go_wp2
    refine bodyPost_ret (res_row_tmp rfl _ _ w.heap.size 30 _ (0, 0) _ rfl (stored4 (drewN_at (alloc_old (alloc_new _) _) _)) Try.underlying30 rfl (by kernel_rfl)) rfl ⟨rfl, ?_⟩
    repeat' (first | (with_reducible assumption) | (with_reducible refine Below.setCell ?_ ?_ _) | (with_reducible refine below_drewN' ?_ _) | (with_reducible refine Below.drew ?_) | (with_reducible refine Below.alloc ?_ ?_ _) | (with_reducible exact Below.refl _ _) | (with_reducible exact Nat.le_refl _) | omega | (simp; done) | (simp; omega))
  · have hb : ((inn : Int) == (out : Int)) = false := by simp; omega
    have HE := Lib.hid (fun e => he (HZ.out.1 e))
    clear he
    rw [if_neg HE.out, if_neg HE.out]
    generalize arr.getD a Pk.zero = y at hp0 hp1 hp2 hp3 ⊢
    obtain ⟨y0, y1, y2, y3⟩ := y
    dsimp only at hp0 hp1 hp2 hp3
    have ha2 : (a : Int) < (arr.length : Int) := by omega
    go_enter Try.func60, Try.ntmps60
    go_upto_region 4 with (fail)
    go_cut [9] (fun s9 wx => s9 = .bool false ∧ (wx.heap[w.heap.size]? = some (.cells #[.int .i64 0, .int .i64 0, .int .i64 0, .string ⟨#[]⟩] 30 (0, 0)) ∧ wx.cell? ⟨b, 0, none⟩ = some (.slice (some ⟨g, 0, none⟩) arr.length arr.length) ∧ wx.cell? ⟨b, 3, none⟩ = some (.int .i64 a) ∧ wx.cell? ⟨g, a * 4, none⟩ = some (.int .i64 y0) ∧ wx.cell? ⟨g, a * 4 + 1, none⟩ = some (.int .i64 y1) ∧ wx.cell? ⟨g, a * 4 + 2, none⟩ = some (.int .i64 y2) ∧ wx.cell? ⟨g, a * 4 + 3, none⟩ = some (.string y3)) ∧ Below w.heap.size w wx)
    case first =>
      go_quiet (fail)
      go_wp2
      go_meet
      refine ⟨rfl, ⟨drewN_at (alloc_old (alloc_new _) _) _, ?_, ?_, ?_, ?_, ?_, ?_⟩, by repeat' (first | (with_reducible assumption) | (with_reducible refine Below.setCell ?_ ?_ _) | (with_reducible refine below_drewN' ?_ _) | (with_reducible refine Below.drew ?_) | (with_reducible refine Below.alloc ?_ ?_ _) | (with_reducible exact Below.refl _ _) | (with_reducible exact Nat.le_refl _) | omega | (simp; done) | (simp; omega))⟩
      all_goals
        refine (Below.cell (w := w) (B := w.heap.size) ?_ ?_).trans (by assumption)
        · repeat' (first | (with_reducible assumption) | (with_reducible refine Below.setCell ?_ ?_ _) | (with_reducible refine below_drewN' ?_ _) | (with_reducible refine Below.drew ?_) | (with_reducible refine Below.alloc ?_ ?_ _) | (with_reducible exact Below.refl _ _) | (with_reducible exact Nat.le_refl _) | omega | (simp; done) | (simp; omega))
        · first | exact hlb | exact hlg
    case rest =>
      obtain ⟨rfl, ⟨hR, d0, d3, e0, e1, e2, e3⟩, hB⟩ := hcut
      have fr0 := frozen_at hR 0
      have fr1 := frozen_at hR 1
      have fr2 := frozen_at hR 2
      have fr3 := frozen_at hR 3
      have hlw := block_lt hR
      have HR := Lib.hid hR
      have HB := Lib.hid hB
      clear hR hB c0 c1 c2 c3 c4 hp0 hp1 hp2 hp3
      go_wp2
      go_still_tail 10, (by kernel_rfl)
      change wpList _ _ _ _ _ wc.drew
      have hR2 : wc.drew.heap[w.heap.size]? = some (.cells #[.int .i64 0, .int .i64 0, .int .i64 0, .string ⟨#[]⟩] 30 (0, 0)) := HR.out
      have hB2 : Below w.heap.size w wc.drew := HB.out.drew
      clear HR HB fr0 fr1 fr2 fr3 d0 d3 e0 e1 e2 e3 hlw
      generalize wc.drew = w2 at *
      have z0 := fun j => cell_at hR2 j
      have z1 := fun j => frozen_at hR2 j
      have HR2 := Lib.hid hR2
      have HB2 := Lib.hid hB2
      clear hR2 hB2
      go_wp2
      refine bodyPost_ret (res_row_tmp rfl _ _ w.heap.size 30 _ (0, 0) _ rfl (stored4 HR2.out) Try.underlying30 rfl (by kernel_rfl)) rfl ⟨rfl, ?_⟩
      have hB := HB2.out
      have hs := hB.size
      repeat' (first | (with_reducible assumption) | (with_reducible refine Below.setCell ?_ ?_ _) | (with_reducible refine below_drewN' ?_ _) | (with_reducible refine Below.drew ?_) | (with_reducible refine Below.alloc ?_ ?_ _) | (with_reducible exact Below.refl _ _) | (with_reducible exact Nat.le_refl _) | omega | (simp; done) | (simp; omega))
end Go.Proofs.Ytajbfmdgnkpjgaa
