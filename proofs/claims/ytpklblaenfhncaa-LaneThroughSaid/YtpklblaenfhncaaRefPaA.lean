/- The reference's Right of any parcel. -/
import Derived.Test.YtpklblaenfhncaaPaMath
import Derived.Test.YtpklblaenfhncaaInC
import Derived.BigQuiet
namespace Go.Proofs.Ytpklblaenfhncaa
set_option linter.unusedVariables false
open Go.RowKit
def flatT (l : List T2) : List Value := l.flatMap T2.cells
def flatP (l : List Pk) : List Value := l.flatMap Pk.cells
theorem head_cell {w : World} {a : Option Addr} {l : List T2} {S : List Nat} (h : CellsOff w a (flatT l) S) {i : Nat} (hi : i < l.length) :
    ∃ blk off, a = some ⟨blk, off, none⟩ ∧ blk < w.heap.size ∧ w.cell? ⟨blk, off + i * 2, none⟩ = some (.int .i64 (l.getD i T2.zero).node) ∧ w.cell? ⟨blk, off + i * 2 + 1, none⟩ = some (.int .i64 (l.getD i T2.zero).seq) := by
  obtain ⟨blk, off, e, _, hlt, hc⟩ := CellsOff.elem T2.clen T2.zero h (by decide) hi
  exact ⟨blk, off, e, hlt, by have := hc 0 (by decide); rwa [Nat.add_zero] at this, hc 1 (by decide)⟩
theorem pk_cell {w : World} {a : Option Addr} {l : List Pk} {S : List Nat} (h : CellsOff w a (flatP l) S) {i : Nat} (hi : i < l.length) :
    ∃ blk off, a = some ⟨blk, off, none⟩ ∧ blk < w.heap.size ∧ w.cell? ⟨blk, off + i * 4, none⟩ = some (.int .i64 (l.getD i Pk.zero).src) ∧ w.cell? ⟨blk, off + i * 4 + 1, none⟩ = some (.int .i64 (l.getD i Pk.zero).dst) ∧ w.cell? ⟨blk, off + i * 4 + 2, none⟩ = some (.int .i64 (l.getD i Pk.zero).seq) ∧ w.cell? ⟨blk, off + i * 4 + 3, none⟩ = some (.string (l.getD i Pk.zero).data) := by
  obtain ⟨blk, off, e, _, hlt, hc⟩ := CellsOff.elem Pk.clen Pk.zero h (by decide) hi
  exact ⟨blk, off, e, hlt, by have := hc 0 (by decide); rwa [Nat.add_zero] at this, hc 1 (by decide), hc 2 (by decide), hc 3 (by decide)⟩
set_option maxRecDepth 100000 in
set_option maxHeartbeats 1000000 in
theorem rright10 (p : Pa) (a : Option Addr) (c : Nat) (w : World) (hn : p.heads.length ≤ maxLen) (h : CellsOff w a (flatT p.heads) []) :
    Calls Try.prog 58 #[p.val (.slice a p.heads.length c)] w fun e w' => e = .returned (.bool (rightP p)) ∧ Below w.heap.size w w' := by
  obtain ⟨src, cast, heads, data⟩ := p
  dsimp only at hn h
  unfold maxLen at hn
  have HC := Lib.hid (fun i hi => head_cell (i := i) h hi)
  clear h
  unfold Pa.val
  go_enter Try.func58, Try.ntmps58
  go_wp2
  go_loopw [3] (fun i wr => ∃ m : Nat, m ≤ heads.length ∧ i = .int .i64 (m : Int) ∧ Hid (∀ t ∈ heads.take m, okT t = true) ∧ wr.heap[w.heap.size]? = some (.cells #[.int .i64 src, .bool cast, .slice a heads.length c, .string data] 43 (0, 0)) ∧ Below w.heap.size w wr) (fun i _ => heads.length - (intOf i).toNat)
  case atStart => exact ⟨0, by omega, rfl, fun t ht => by simp at ht, alloc_new _, by repeat' (first | (with_reducible assumption) | (with_reducible refine below_setRowN ?_ ?_ _) | (with_reducible refine Below.setCell ?_ ?_ _) | (with_reducible refine below_drewN' ?_ _) | (with_reducible refine Below.drew ?_) | (with_reducible refine Below.alloc ?_ ?_ _) | (with_reducible exact Below.refl _ _) | (with_reducible exact Nat.le_refl _) | (simp; done) | omega | (simp; omega))⟩
  case round =>
    obtain ⟨m, hm, rfl, hA, hF, hb⟩ := hrel
    have f0 := fun j => cell_at hF j
    by_cases hml : m < heads.length
    · obtain ⟨blk, off, rfl, hlt, c0, c1⟩ := HC.out m hml
      have HN := Lib.hid (take_snocD hml T2.zero)
      have HM : Hid (heads.getD m T2.zero ∈ heads) := (by rw [List.getD_eq_getElem?_getD, List.getElem?_eq_getElem hml]; exact List.getElem_mem hml)
      have hmI : (m : Int) < (heads.length : Int) := by omega
      have d0 := (hb.cell (p := ⟨blk, _, none⟩) hlt).trans c0
      have d1 := (hb.cell (p := ⟨blk, _, none⟩) hlt).trans c1
      clear c0 c1
      generalize heads.getD m T2.zero = t at *
      obtain ⟨x, y⟩ := t
      dsimp only at d0 d1
      by_cases h1 : x < 0
      · (go_wp2; go_ret; exact ⟨ret_bool (by symm; unfold rightP; rw [Bool.and_eq_false_iff]; left; rw [List.all_eq_false]; exact ⟨_, HM.out, by unfold okT; simp; omega⟩), hb⟩)
      by_cases h2 : 4095 < x
      · (go_wp2; go_ret; exact ⟨ret_bool (by symm; unfold rightP; rw [Bool.and_eq_false_iff]; left; rw [List.all_eq_false]; exact ⟨_, HM.out, by unfold okT; simp; omega⟩), hb⟩)
      by_cases h3 : y < 0
      · (go_wp2; go_ret; exact ⟨ret_bool (by symm; unfold rightP; rw [Bool.and_eq_false_iff]; left; rw [List.all_eq_false]; exact ⟨_, HM.out, by unfold okT; simp; omega⟩), hb⟩)
      by_cases h4 : 65535 < y
      · (go_wp2; go_ret; exact ⟨ret_bool (by symm; unfold rightP; rw [Bool.and_eq_false_iff]; left; rw [List.all_eq_false]; exact ⟨_, HM.out, by unfold okT; simp; omega⟩), hb⟩)
      have HF := Lib.hid hF
      have HB := Lib.hid hb
      clear hF hb
      go_wp2
      go_roundw
      case rel => exact ⟨m + 1, by omega, by go_num, fun t ht => by
        rw [HN.out, List.mem_append, List.mem_singleton] at ht
        rcases ht with ht | rfl
        · exact hA.out t ht
        · unfold okT; refine decide_eq_true ⟨?_, ?_, ?_, ?_⟩ <;> dsimp only <;> omega, HF.out, HB.out⟩
      case measure => simp [intOf]; omega
    · obtain rfl : m = heads.length := by omega
      have HALL : Hid (heads.all okT = true) := (by rw [List.all_eq_true]; have := hA.out; rwa [List.take_length] at this)
      clear hA
      by_cases g1 : 0 ≤ src
      rotate_left
      · go_wp2; go_ret; exact ⟨ret_bool (by symm; unfold rightP; rw [HALL.out]; simp; omega), hb⟩
      by_cases g2 : src ≤ 4095
      rotate_left
      · go_wp2; go_ret; exact ⟨ret_bool (by symm; unfold rightP; rw [HALL.out]; simp; omega), hb⟩
      by_cases g3 : (1 : Int) ≤ (heads.length : Int)
      rotate_left
      · go_wp2; go_ret; exact ⟨ret_bool (by symm; unfold rightP; rw [HALL.out]; simp; omega), hb⟩
      by_cases g4 : (heads.length : Int) ≤ 4096
      rotate_left
      · go_wp2; go_ret; exact ⟨ret_bool (by symm; unfold rightP; rw [HALL.out]; simp; omega), hb⟩
      have g3n : 1 ≤ heads.length := by omega
      have g4n : heads.length ≤ 4096 := by omega
      cases cast with
      | true =>
        by_cases g6 : (data.size : Int) ≤ 64
        · go_wp2; go_ret; exact ⟨ret_bool (by symm; unfold rightP; rw [HALL.out]; simp; omega), hb⟩
        · go_wp2; go_ret; exact ⟨ret_bool (by symm; unfold rightP; rw [HALL.out]; simp; omega), hb⟩
      | false =>
        by_cases g5 : heads.length = 1
        · have g5b : ((heads.length : Int) == 1) = true := beq_iff_eq.2 (by omega)
          have G5 := Lib.hid g5
          clear g5
          by_cases g6 : (data.size : Int) ≤ 64
          · go_wp2; go_ret; exact ⟨ret_bool (by symm; unfold rightP; rw [HALL.out]; have := G5.out; simp; omega), hb⟩
          · go_wp2; go_ret; exact ⟨ret_bool (by symm; unfold rightP; rw [HALL.out]; have := G5.out; simp; omega), hb⟩
        · have g5b : ((heads.length : Int) == 1) = false := beq_eq_false_iff_ne.2 (by omega)
          go_wp2; go_ret; exact ⟨ret_bool (by symm; unfold rightP; rw [HALL.out]; simp; omega), hb⟩
end Go.Proofs.Ytpklblaenfhncaa
