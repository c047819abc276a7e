/- cut.Packets; slices.Equal; Same of parcels, of words. -/
import Derived.Test.YtmehfflomgldeabCutB
namespace Go.Proofs.Ytmehfflomgldeab
set_option linter.unusedVariables false
set_option linter.unusedSimpArgs false
open Go.RowKit
instance : DecidableEq T2 := fun a b => decidable_of_iff (a.node = b.node ∧ a.seq = b.seq) (by cases a; cases b; simp)
theorem eq_diff {α : Type} {l r : List α} {m : Nat} {d : α} (hne : l.getD m d ≠ r.getD m d) : l ≠ r := fun e => hne (by rw [e])
theorem eq_all {α : Type} {l r : List α} (hl : l.length = r.length) (h : l.take l.length = r.take l.length) : l = r := by
  rwa [List.take_length, hl, List.take_length] at h
theorem take_eq_succ {α : Type} {l r : List α} {m : Nat} {d : α} (hl : m < l.length) (hr : m < r.length) (h : l.take m = r.take m) (he : l.getD m d = r.getD m d) : l.take (m + 1) = r.take (m + 1) := by
  rw [take_snocD hl d, take_snocD hr d, h, he]
theorem u_cell {w : World} {a : Option Addr} {l : List Nat} {S : List Nat} (h : CellsOff w a (l.map UV) S) {i : Nat} (hi : i < l.length) :
    ∃ blk off, a = some ⟨blk, off, none⟩ ∧ blk < w.heap.size ∧ w.cell? ⟨blk, off + i, none⟩ = some (.int .u64 ((l.getD i 0 : Nat) : Int)) := by
  obtain ⟨blk, off, e, _, hc⟩ := h i (UV (l.getD i 0)) (by rw [List.getElem?_map, List.getElem?_eq_getElem hi, List.getD_eq_getElem?_getD, List.getElem?_eq_getElem hi]; rfl)
  exact ⟨blk, off, e, World.block_lt_of_cell? w _ hc, hc⟩
set_option maxRecDepth 100000 in
set_option maxHeartbeats 2000000 in
theorem equal_words (l r : List Nat) (a b : Option Addr) (c d : Nat) (w : World) (hl : l.length ≤ 1000000) (ha : CellsOff w a (l.map UV) []) (hb : CellsOff w b (r.map UV) []) :
    Calls Try.prog 74 #[.slice a l.length c, .slice b r.length d] w fun e w' => e = .returned (.bool (decide (l = r))) ∧ ∃ k, w' = w.drewN k := by
  have HA := Lib.hid (fun i hi => u_cell (i := i) ha hi)
  have HB := Lib.hid (fun i hi => u_cell (i := i) hb hi)
  clear ha hb
  by_cases hlr : l.length = r.length
  rotate_left
  · have hlrb : ((l.length : Int) != (r.length : Int)) = true := bne_iff_ne.2 (by omega)
    have hd : decide (l = r) = false := decide_eq_false (fun e => hlr (by rw [e]))
    have HD := Lib.hid hd
    clear hlr hd
    go_enter Try.func74, Try.ntmps74
    go_wp2
    go_ret
    exact ⟨ret_bool HD.out.symm, (by first | exact ⟨0, rfl⟩ | exact drew_close1 | exact drew_close0)⟩
  have hlrb : ((l.length : Int) != (r.length : Int)) = false := by rw [bne_eq_false_iff_eq]; omega
  have hle : l.length ≤ r.length := by omega
  have HLR := Lib.hid hlr
  clear hlr
  go_enter Try.func74, Try.ntmps74
  go_wp2
  go_loopw [13] (fun i wr => ∃ (m n : Nat), m ≤ l.length ∧ i = .int .i64 (m : Int) ∧ Hid (l.take m = r.take m) ∧ wr = w.drewN n) (fun i _ => l.length - (intOf i).toNat)
  case atStart => exact ⟨0, 0, by omega, rfl, Lib.hid rfl, rfl⟩
  case round =>
    obtain ⟨m, n, hm, rfl, hE, rfl⟩ := hrel
    by_cases hml : m < l.length
    · have hmr : m < r.length := by omega
      obtain ⟨blk, off, rfl, -, c0⟩ := HA.out m hml
      obtain ⟨blk2, off2, rfl, -, e0⟩ := HB.out m hmr
      have hmI : (m : Int) < (l.length : Int) := by omega
      have hmrI : (m : Int) < (r.length : Int) := by omega
      have HN := Lib.hid (fun he => take_eq_succ (d := 0) hml hmr hE.out he)
      have HD := Lib.hid (fun he => eq_diff (l := l) (r := r) (m := m) (d := 0) he)
      clear hE
      generalize l.getD m 0 = x at *
      generalize r.getD m 0 = y at *
      by_cases hxy : x = y
      · subst hxy
        go_wp2
        go_quiet (fail)
        go_wp2
        go_roundw
        case rel => exact ⟨m + 1, _, by omega, by go_num, Lib.hid (HN.out (by first | rfl | trivial)), rfl⟩
        case measure => simp [intOf]; omega
      · have hxyb : ((x : Int) != (y : Int)) = true := bne_iff_ne.2 (by omega)
        have hd : decide (l = r) = false := decide_eq_false (HD.out hxy)
        have HDD := Lib.hid hd
        clear hxy hd
        go_wp2
        go_quiet (fail)
        go_wp2
        go_ret
        exact ⟨ret_bool HDD.out.symm, (by first | exact ⟨0, rfl⟩ | exact drew_close1 | exact drew_close0)⟩
    · obtain rfl : m = l.length := by omega
      have hd : decide (l = r) = true := decide_eq_true (eq_all HLR.out hE.out)
      have HD := Lib.hid hd
      clear hd hE
      go_wp2
      go_ret
      exact ⟨ret_bool HD.out.symm, (by first | exact ⟨0, rfl⟩ | exact drew_close1 | exact drew_close0)⟩
set_option maxRecDepth 100000 in
set_option maxHeartbeats 2000000 in
theorem same_words (l r : List Nat) (a b : Option Addr) (c d : Nat) (w : World) (hl : l.length ≤ 1000000) (ha : CellsOff w a (l.map UV) []) (hb : CellsOff w b (r.map UV) []) :
    Calls Try.prog 46 #[.slice a l.length c, .slice b r.length d] w fun e w' => e = .returned (.bool (decide (l = r))) ∧ ∃ k, w' = w.drewN k := by
  have HA := Lib.hid (fun i hi => u_cell (i := i) ha hi)
  have HB := Lib.hid (fun i hi => u_cell (i := i) hb hi)
  clear ha hb
  by_cases hlr : l.length = r.length
  rotate_left
  · have hlrb : ((l.length : Int) != (r.length : Int)) = true := bne_iff_ne.2 (by omega)
    have hd : decide (l = r) = false := decide_eq_false (fun e => hlr (by rw [e]))
    have HD := Lib.hid hd
    clear hlr hd
    go_enter Try.func46, Try.ntmps46
    go_wp2
    go_ret
    exact ⟨ret_bool HD.out.symm, (by first | exact ⟨0, rfl⟩ | exact drew_close1 | exact drew_close0)⟩
  have hlrb : ((l.length : Int) != (r.length : Int)) = false := by rw [bne_eq_false_iff_eq]; omega
  have hle : l.length ≤ r.length := by omega
  have HLR := Lib.hid hlr
  clear hlr
  go_enter Try.func46, Try.ntmps46
  go_wp2
  go_loopw [5] (fun i wr => ∃ (m n : Nat), m ≤ l.length ∧ i = .int .i64 (m : Int) ∧ Hid (l.take m = r.take m) ∧ wr = w.drewN n) (fun i _ => l.length - (intOf i).toNat)
  case atStart => exact ⟨0, 0, by omega, rfl, Lib.hid rfl, rfl⟩
  case round =>
    obtain ⟨m, n, hm, rfl, hE, rfl⟩ := hrel
    by_cases hml : m < l.length
    · have hmr : m < r.length := by omega
      obtain ⟨blk, off, rfl, -, c0⟩ := HA.out m hml
      obtain ⟨blk2, off2, rfl, -, e0⟩ := HB.out m hmr
      have hmI : (m : Int) < (l.length : Int) := by omega
      have hmrI : (m : Int) < (r.length : Int) := by omega
      have HN := Lib.hid (fun he => take_eq_succ (d := 0) hml hmr hE.out he)
      have HD := Lib.hid (fun he => eq_diff (l := l) (r := r) (m := m) (d := 0) he)
      clear hE
      generalize l.getD m 0 = x at *
      generalize r.getD m 0 = y at *
      by_cases hxy : x = y
      · subst hxy
        go_wp2
        go_quiet (fail)
        go_wp2
        go_roundw
        case rel => exact ⟨m + 1, _, by omega, by go_num, Lib.hid (HN.out (by first | rfl | trivial)), rfl⟩
        case measure => simp [intOf]; omega
      · have hxyb : ((x : Int) != (y : Int)) = true := bne_iff_ne.2 (by omega)
        have hd : decide (l = r) = false := decide_eq_false (HD.out hxy)
        have HDD := Lib.hid hd
        clear hxy hd
        go_wp2
        go_quiet (fail)
        go_wp2
        go_ret
        exact ⟨ret_bool HDD.out.symm, (by first | exact ⟨0, rfl⟩ | exact drew_close1 | exact drew_close0)⟩
    · obtain rfl : m = l.length := by omega
      have hd : decide (l = r) = true := decide_eq_true (eq_all HLR.out hE.out)
      have HD := Lib.hid hd
      clear hd hE
      go_wp2
      go_ret
      exact ⟨ret_bool HD.out.symm, (by first | exact ⟨0, rfl⟩ | exact drew_close1 | exact drew_close0)⟩
set_option maxRecDepth 100000 in
set_option maxHeartbeats 2000000 in
theorem equal_heads (l r : List T2) (a b : Option Addr) (c d : Nat) (w : World) (hl : l.length ≤ 1000000) (ha : CellsOff w a (flatT l) []) (hb : CellsOff w b (flatT r) []) :
    Calls Try.prog 85 #[.slice a l.length c, .slice b r.length d] w fun e w' => e = .returned (.bool (decide (l = r))) ∧ ∃ k, w' = w.drewN k := by
  have HA := Lib.hid (fun i hi => head_cell (i := i) ha hi)
  have HB := Lib.hid (fun i hi => head_cell (i := i) hb hi)
  clear ha hb
  by_cases hlr : l.length = r.length
  rotate_left
  · have hlrb : ((l.length : Int) != (r.length : Int)) = true := bne_iff_ne.2 (by omega)
    have hd : decide (l = r) = false := decide_eq_false (fun e => hlr (by rw [e]))
    have HD := Lib.hid hd
    clear hlr hd
    go_enter Try.func85, Try.ntmps85
    go_wp2
    go_ret
    exact ⟨ret_bool HD.out.symm, (by first | exact ⟨0, rfl⟩ | exact drew_close1 | exact drew_close0)⟩
  have hlrb : ((l.length : Int) != (r.length : Int)) = false := by rw [bne_eq_false_iff_eq]; omega
  have hle : l.length ≤ r.length := by omega
  have HLR := Lib.hid hlr
  clear hlr
  go_enter Try.func85, Try.ntmps85
  go_wp2
  go_loopw [13] (fun i wr => ∃ (m n : Nat), m ≤ l.length ∧ i = .int .i64 (m : Int) ∧ Hid (l.take m = r.take m) ∧ wr = w.drewN n) (fun i _ => l.length - (intOf i).toNat)
  case atStart => exact ⟨0, 0, by omega, rfl, Lib.hid rfl, rfl⟩
  case round =>
    obtain ⟨m, n, hm, rfl, hE, rfl⟩ := hrel
    by_cases hml : m < l.length
    · have hmr : m < r.length := by omega
      obtain ⟨blk, off, rfl, -, c0, c1⟩ := HA.out m hml
      obtain ⟨blk2, off2, rfl, -, e0, e1⟩ := HB.out m hmr
      have hmI : (m : Int) < (l.length : Int) := by omega
      have hmrI : (m : Int) < (r.length : Int) := by omega
      have HN := Lib.hid (fun he => take_eq_succ (d := T2.zero) hml hmr hE.out he)
      have HD := Lib.hid (fun he => eq_diff (l := l) (r := r) (m := m) (d := T2.zero) he)
      clear hE
      generalize l.getD m T2.zero = x at *
      generalize r.getD m T2.zero = y at *
      obtain ⟨x0, x1⟩ := x
      obtain ⟨y0, y1⟩ := y
      dsimp only at c0 c1 e0 e1
      by_cases h0 : x0 = y0
      · subst h0
        by_cases h1 : x1 = y1
        · subst h1
          go_wp2
          go_quiet (fail)
          go_wp2
          go_roundw
          case rel => exact ⟨m + 1, _, by omega, by go_num, Lib.hid (HN.out (by first | rfl | trivial)), rfl⟩
          case measure => simp [intOf]; omega
        · have h1b : (x1 == y1) = false := beq_eq_false_iff_ne.2 h1
          have hd : decide (l = r) = false := decide_eq_false (HD.out (fun e => h1 (by injection e)))
          have HDD := Lib.hid hd
          clear hd h1
          go_wp2
          go_quiet (fail)
          go_wp2
          go_ret
          exact ⟨ret_bool HDD.out.symm, (by first | exact ⟨0, rfl⟩ | exact drew_close1 | exact drew_close0)⟩
      · have h0b : (x0 == y0) = false := beq_eq_false_iff_ne.2 h0
        have hd : decide (l = r) = false := decide_eq_false (HD.out (fun e => h0 (by injection e)))
        have HDD := Lib.hid hd
        clear hd h0
        go_wp2
        go_quiet (fail)
        go_wp2
        go_ret
        exact ⟨ret_bool HDD.out.symm, (by first | exact ⟨0, rfl⟩ | exact drew_close1 | exact drew_close0)⟩
    · obtain rfl : m = l.length := by omega
      have hd : decide (l = r) = true := decide_eq_true (eq_all HLR.out hE.out)
      have HD := Lib.hid hd
      clear hd hE
      go_wp2
      go_ret
      exact ⟨ret_bool HD.out.symm, (by first | exact ⟨0, rfl⟩ | exact drew_close1 | exact drew_close0)⟩
end Go.Proofs.Ytmehfflomgldeab
