/- cut.node, cut.Right. -/
import Derived.Test.YtmehfflomgldeabPaMem
namespace Go.Proofs.Ytmehfflomgldeab
set_option linter.unusedVariables false
set_option linter.unusedSimpArgs false
open Go.RowKit
theorem cut_node (n : Int) (w : World) : Calls Try.prog 83 #[.int .i64 n] w fun e w' => e = .returned (.bool (decide (0 ≤ n ∧ n ≤ 4095))) ∧ ∃ k, w' = w.drewN k := by
  by_cases h0 : 0 ≤ n
  · by_cases h1 : n < 4096
    · go_enter Try.func83, Try.ntmps83
      go_wp2
      go_ret
      exact ⟨ret_bool (by first | rfl | (simp; done) | (simp; omega) | (rw [Bool.eq_iff_iff]; simp; omega)), by first | exact ⟨0, rfl⟩ | exact drew_close1⟩
    · go_enter Try.func83, Try.ntmps83
      go_wp2
      go_ret
      exact ⟨ret_bool (by first | rfl | (simp; done) | (simp; omega) | (rw [Bool.eq_iff_iff]; simp; omega)), by first | exact ⟨0, rfl⟩ | exact drew_close1⟩
  · go_enter Try.func83, Try.ntmps83
    go_wp2
    go_ret
    exact ⟨ret_bool (by first | rfl | (simp; done) | (simp; omega) | (rw [Bool.eq_iff_iff]; simp; omega)), by first | exact ⟨0, rfl⟩ | exact drew_close1⟩
theorem cut_odd (t : T2) (w : World) : Calls Try.prog 82 #[.agg #[.int .i64 t.node, .int .i64 t.seq]] w fun e w' => e = .returned (.bool (!okT t)) ∧ Below w.heap.size w w' := by
  obtain ⟨n, s⟩ := t
  dsimp only
  have hn := fun w => cut_node n w
  have ho : okT ⟨n, s⟩ = (decide (0 ≤ n ∧ n ≤ 4095) && decide (0 ≤ s ∧ s ≤ 65535)) := by
    unfold okT; rw [Bool.eq_iff_iff]; simp [and_assoc]
  rw [ho]
  generalize decide (0 ≤ n ∧ n ≤ 4095) = b at *
  have HN := Lib.hid hn
  clear hn ho
  cases b with
  | true =>
    by_cases h1 : s < 0
    · go_enter Try.func82, Try.ntmps82
      go_wp2_with ((go_at_call 83; ((with_reducible refine (HN.out _).mono ?_); rintro e w1 ⟨rfl, k, rfl⟩)))
      go_ret
      exact ⟨ret_bool (by first | rfl | (simp; done) | (simp; omega) | (rw [Bool.eq_iff_iff]; simp; omega)), by repeat' (first | (with_reducible assumption) | (with_reducible refine below_setRowN ?_ ?_ _) | (with_reducible refine Below.setCell ?_ ?_ _) | (with_reducible refine below_drewN' ?_ _) | (with_reducible refine Below.drew ?_) | (with_reducible refine Below.alloc ?_ ?_ _) | (with_reducible exact Below.refl _ _) | (with_reducible exact Nat.le_refl _) | (simp; done) | omega | (simp; omega))⟩
    · by_cases h2 : 65536 ≤ s
      · go_enter Try.func82, Try.ntmps82
        go_wp2_with ((go_at_call 83; ((with_reducible refine (HN.out _).mono ?_); rintro e w1 ⟨rfl, k, rfl⟩)))
        go_ret
        exact ⟨ret_bool (by first | rfl | (simp; done) | (simp; omega) | (rw [Bool.eq_iff_iff]; simp; omega)), by repeat' (first | (with_reducible assumption) | (with_reducible refine below_setRowN ?_ ?_ _) | (with_reducible refine Below.setCell ?_ ?_ _) | (with_reducible refine below_drewN' ?_ _) | (with_reducible refine Below.drew ?_) | (with_reducible refine Below.alloc ?_ ?_ _) | (with_reducible exact Below.refl _ _) | (with_reducible exact Nat.le_refl _) | (simp; done) | omega | (simp; omega))⟩
      · go_enter Try.func82, Try.ntmps82
        go_wp2_with ((go_at_call 83; ((with_reducible refine (HN.out _).mono ?_); rintro e w1 ⟨rfl, k, rfl⟩)))
        go_ret
        exact ⟨ret_bool (by first | rfl | (simp; done) | (simp; omega) | (rw [Bool.eq_iff_iff]; simp; omega)), by repeat' (first | (with_reducible assumption) | (with_reducible refine below_setRowN ?_ ?_ _) | (with_reducible refine Below.setCell ?_ ?_ _) | (with_reducible refine below_drewN' ?_ _) | (with_reducible refine Below.drew ?_) | (with_reducible refine Below.alloc ?_ ?_ _) | (with_reducible exact Below.refl _ _) | (with_reducible exact Nat.le_refl _) | (simp; done) | omega | (simp; omega))⟩
  | false =>
    go_enter Try.func82, Try.ntmps82
    go_wp2_with ((go_at_call 83; ((with_reducible refine (HN.out _).mono ?_); rintro e w1 ⟨rfl, k, rfl⟩)))
    go_ret
    exact ⟨ret_bool (by first | rfl | (simp; done) | (simp; omega) | (rw [Bool.eq_iff_iff]; simp; omega)), by repeat' (first | (with_reducible assumption) | (with_reducible refine below_setRowN ?_ ?_ _) | (with_reducible refine Below.setCell ?_ ?_ _) | (with_reducible refine below_drewN' ?_ _) | (with_reducible refine Below.drew ?_) | (with_reducible refine Below.alloc ?_ ?_ _) | (with_reducible exact Below.refl _ _) | (with_reducible exact Nat.le_refl _) | (simp; done) | omega | (simp; omega))⟩
set_option maxRecDepth 100000 in
set_option maxHeartbeats 1000000 in
theorem cut_index (l : List T2) (a : Option Addr) (c : Nat) (w : World) (hn : l.length ≤ maxLen) (h : CellsOff w a (flatT l) []) :
    Calls Try.prog 112 #[.slice a l.length c, .func (.func 82) #[] #[]] w fun e w' => ∃ r : Int, e = .returned (.int .i64 r) ∧ decide (0 ≤ r) = !(l.all okT) ∧ Below w.heap.size w w' := by
  unfold maxLen at hn
  have HC := Lib.hid (fun i hi => head_cell (i := i) h hi)
  clear h
  go_enter Try.func112, Try.ntmps112
  go_wp2
  go_loopw [8] (fun i wr => ∃ m : Nat, m ≤ l.length ∧ i = .int .i64 (m : Int) ∧ Hid (∀ t ∈ l.take m, okT t = true) ∧ Below w.heap.size w wr) (fun i _ => l.length - (intOf i).toNat)
  case atStart => exact ⟨0, by omega, rfl, fun t ht => by simp at ht, Below.refl _ _⟩
  case round =>
    obtain ⟨m, hm, rfl, hA, hb⟩ := hrel
    obtain ⟨wo, rfl⟩ : ∃ x : World, x = wr := ⟨_, rfl⟩
    by_cases hml : m < l.length
    · obtain ⟨blk, off, rfl, hlt, c0, c1⟩ := HC.out m hml
      have HN := Lib.hid (take_snocD hml T2.zero)
      have HM : Hid (l.getD m T2.zero ∈ l) := (by rw [List.getD_eq_getElem?_getD, List.getElem?_eq_getElem hml]; exact List.getElem_mem hml)
      have hmI : (m : Int) < (l.length : Int) := by omega
      have d0 := (hb.cell (p := ⟨blk, _, none⟩) hlt).trans c0
      have d1 := (hb.cell (p := ⟨blk, _, none⟩) hlt).trans c1
      have hT := fun w => cut_odd (l.getD m T2.zero) w
      clear c0 c1
      generalize l.getD m T2.zero = t at *
      obtain ⟨x, y⟩ := t
      dsimp only at d0 d1 hT
      obtain ⟨b, hbo⟩ : ∃ b, b = okT ⟨x, y⟩ := ⟨_, rfl⟩
      rw [← hbo] at hT
      have HB := Lib.hid hb
      have HBO := Lib.hid hbo
      have HT := Lib.hid hT
      clear hb hbo hT
      cases b with
      | true =>
        go_wp2_with (go_at_call 82; ((with_reducible refine (HT.out _).mono ?_); rintro e w1 ⟨rfl, hb1⟩; have HB1 := Lib.hid hb1; clear hb1))
        go_roundw
        case rel => exact ⟨m + 1, by omega, by go_num, fun t ht => by
          rw [HN.out, List.mem_append, List.mem_singleton] at ht
          rcases ht with ht | rfl
          · exact hA.out t ht
          · exact HBO.out.symm, HB.out.trans (HB1.out.mono HB.out.size)⟩
        case measure => simp [intOf]; omega
      | false =>
        go_wp2_with (go_at_call 82; ((with_reducible refine (HT.out _).mono ?_); rintro e w1 ⟨rfl, hb1⟩; have HB1 := Lib.hid hb1; clear hb1))
        go_ret
        refine ⟨_, rfl, ?_, HB.out.trans (HB1.out.mono HB.out.size)⟩
        have h2 : l.all okT = false := by rw [List.all_eq_false]; exact ⟨_, HM.out, by rw [← HBO.out]; simp⟩
        rw [h2]; simp
    · obtain rfl : m = l.length := by omega
      have HALL : Hid (l.all okT = true) := (by rw [List.all_eq_true]; have := hA.out; rwa [List.take_length] at this)
      clear hA
      go_wp2
      go_ret
      exact ⟨_, rfl, by rw [HALL.out]; simp, hb⟩
theorem cut_contains (l : List T2) (a : Option Addr) (c : Nat) (w : World) (hn : l.length ≤ maxLen) (h : CellsOff w a (flatT l) []) :
    Calls Try.prog 84 #[.slice a l.length c, .func (.func 82) #[] #[]] w fun e w' => e = .returned (.bool (!(l.all okT))) ∧ Below w.heap.size w w' := by
  have HI := Lib.hid (cut_index l a c w hn h)
  go_enter Try.func84, Try.ntmps84
  go_wp2_with (go_at_call 112; ((with_reducible refine (HI.out).mono ?_); rintro e w1 ⟨r, rfl, hr, hb⟩; have HR := Lib.hid hr; clear hr))
  all_goals go_ret
  exact ⟨ret_bool (by rw [← HR.out]), hb⟩
set_option maxRecDepth 100000 in
set_option maxHeartbeats 1000000 in
theorem cut_right (p : Pa) (a : Option Addr) (c : Nat) (w : World) (hn : p.heads.length ≤ maxLen) (h : CellsOff w a (flatT p.heads) []) :
    Calls Try.prog 49 #[p.val (.slice a p.heads.length c)] w fun e w' => e = .returned (.bool (rightP p)) ∧ Below w.heap.size w w' := by
  obtain ⟨src, cast, heads, data⟩ := p
  dsimp only at hn h
  have hr : rightP ⟨src, cast, heads, data⟩ = (decide (0 < heads.length ∧ heads.length ≤ 4096 ∧ (cast = true ∨ heads.length = 1)) && decide (0 ≤ src ∧ src ≤ 4095) && heads.all okT && decide (data.size ≤ 64)) := by
    unfold rightP; rw [Bool.eq_iff_iff]; simp only [Bool.and_eq_true, decide_eq_true_eq]
    constructor
    · rintro ⟨h1, h2, h3, h4, h5, h6, h7⟩; exact ⟨⟨⟨⟨by omega, h5, h6⟩, h2, h3⟩, h1⟩, h7⟩
    · rintro ⟨⟨⟨⟨h4, h5, h6⟩, h2, h3⟩, h1⟩, h7⟩; exact ⟨h1, h2, h3, by omega, h5, h6, h7⟩
  rw [hr]
  have hN := fun w => cut_node src w
  have hC := fun w' hb => cut_contains heads a c w' hn (h.below (w' := w') hb)
  obtain ⟨hb, hhb⟩ : ∃ b, b = decide (0 < heads.length ∧ heads.length ≤ 4096 ∧ (cast = true ∨ heads.length = 1)) := ⟨_, rfl⟩
  rw [← hhb]
  generalize decide (0 ≤ src ∧ src ≤ 4095) = b1 at *
  generalize heads.all okT = b2 at *
  have HHB := Lib.hid hhb
  have HN := Lib.hid hN
  have HC := Lib.hid hC
  unfold maxLen at hn
  clear hr hN hC h hhb
  unfold Pa.val
  go_enter Try.func49, Try.ntmps49
  go_upto_region 2 with (fail)
  go_cut [4] (fun v4 wx => v4 = .bool hb ∧ wx = w.alloc (.cells #[.int .i64 src, .bool cast, .slice a heads.length c, .string data] 68))
  case first =>
    by_cases h1 : (0 : Int) < (heads.length : Int)
    · by_cases h2 : (heads.length : Int) ≤ 4096
      · cases cast with
        | true =>
          go_wp2
          go_meet
          exact ⟨by rw [HHB.out]; symm; exact congrArg Value.bool (decide_eq_true (by refine ⟨by omega, by omega, ?_⟩; simp)), rfl⟩
        | false =>
          by_cases h3 : (heads.length : Int) = 1
          · have h3b : ((heads.length : Int) == 1) = true := beq_iff_eq.2 h3
            have H3 := Lib.hid h3
            clear h3
            go_wp2
            go_meet
            exact ⟨by rw [HHB.out]; symm; exact congrArg Value.bool (decide_eq_true ⟨by omega, by omega, .inr (by have := H3.out; omega)⟩), rfl⟩
          · have h3b : ((heads.length : Int) == 1) = false := beq_eq_false_iff_ne.2 h3
            go_wp2
            go_meet
            exact ⟨by rw [HHB.out]; symm; exact congrArg Value.bool (decide_eq_false (fun h => by rcases h.2.2 with h | h; exact absurd h (by decide); omega)), rfl⟩
      · go_wp2
        go_meet
        exact ⟨by rw [HHB.out]; symm; exact congrArg Value.bool (decide_eq_false (fun h => by omega)), rfl⟩
    · go_wp2
      go_meet
      exact ⟨by rw [HHB.out]; symm; exact congrArg Value.bool (decide_eq_false (fun h => by omega)), rfl⟩
  case rest =>
    obtain ⟨rfl, rfl⟩ := hcut
    have hsz : ∀ k, decide (((data.size : Nat) : Int) ≤ k) = decide ((data.size : Int) ≤ k) := fun _ => rfl
    clear HHB
    cases hb with
    | false =>
      go_wp2_with (first
        | (go_at_call 83; ((with_reducible refine (HN.out _).mono ?_); rintro e w1 ⟨rfl, k, rfl⟩))
        | (go_at_call 84; ((with_reducible refine (HC.out _ (by repeat' (first | (with_reducible assumption) | (with_reducible refine below_setRowN ?_ ?_ _) | (with_reducible refine Below.setCell ?_ ?_ _) | (with_reducible refine below_drewN' ?_ _) | (with_reducible refine Below.drew ?_) | (with_reducible refine Below.alloc ?_ ?_ _) | (with_reducible exact Below.refl _ _) | (with_reducible exact Nat.le_refl _) | (simp; done) | omega | (simp; omega)))).mono ?_); rintro e w2 ⟨rfl, hb2⟩; have hF2 := Below.at hb2 (drewN_at (alloc_new _) _) (by simp); have f2 := fun j => cell_at hF2 j; clear hF2)))
      go_ret
      exact ⟨rfl, by repeat' (first | (with_reducible assumption) | (with_reducible refine below_setRowN ?_ ?_ _) | (with_reducible refine Below.setCell ?_ ?_ _) | (with_reducible refine below_drewN' ?_ _) | (with_reducible refine Below.drew ?_) | (with_reducible refine Below.alloc ?_ ?_ _) | (with_reducible exact Below.refl _ _) | (with_reducible exact Nat.le_refl _) | (simp; done) | omega | (simp; omega))⟩
    | true =>
      cases b1 with
      | false =>
        go_wp2_with (first
          | (go_at_call 83; ((with_reducible refine (HN.out _).mono ?_); rintro e w1 ⟨rfl, k, rfl⟩))
          | (go_at_call 84; ((with_reducible refine (HC.out _ (by repeat' (first | (with_reducible assumption) | (with_reducible refine below_setRowN ?_ ?_ _) | (with_reducible refine Below.setCell ?_ ?_ _) | (with_reducible refine below_drewN' ?_ _) | (with_reducible refine Below.drew ?_) | (with_reducible refine Below.alloc ?_ ?_ _) | (with_reducible exact Below.refl _ _) | (with_reducible exact Nat.le_refl _) | (simp; done) | omega | (simp; omega)))).mono ?_); rintro e w2 ⟨rfl, hb2⟩; have hF2 := Below.at hb2 (drewN_at (alloc_new _) _) (by simp); have f2 := fun j => cell_at hF2 j; clear hF2)))
        go_ret
        exact ⟨rfl, by repeat' (first | (with_reducible assumption) | (with_reducible refine below_setRowN ?_ ?_ _) | (with_reducible refine Below.setCell ?_ ?_ _) | (with_reducible refine below_drewN' ?_ _) | (with_reducible refine Below.drew ?_) | (with_reducible refine Below.alloc ?_ ?_ _) | (with_reducible exact Below.refl _ _) | (with_reducible exact Nat.le_refl _) | (simp; done) | omega | (simp; omega))⟩
      | true =>
        cases b2 with
        | false =>
          go_wp2_with (first
            | (go_at_call 83; ((with_reducible refine (HN.out _).mono ?_); rintro e w1 ⟨rfl, k, rfl⟩))
            | (go_at_call 84; ((with_reducible refine (HC.out _ (by repeat' (first | (with_reducible assumption) | (with_reducible refine below_setRowN ?_ ?_ _) | (with_reducible refine Below.setCell ?_ ?_ _) | (with_reducible refine below_drewN' ?_ _) | (with_reducible refine Below.drew ?_) | (with_reducible refine Below.alloc ?_ ?_ _) | (with_reducible exact Below.refl _ _) | (with_reducible exact Nat.le_refl _) | (simp; done) | omega | (simp; omega)))).mono ?_); rintro e w2 ⟨rfl, hb2⟩; have hF2 := Below.at hb2 (drewN_at (alloc_new _) _) (by simp); have f2 := fun j => cell_at hF2 j; clear hF2)))
          go_ret
          exact ⟨rfl, Below.trans (by repeat' (first | (with_reducible assumption) | (with_reducible refine below_setRowN ?_ ?_ _) | (with_reducible refine Below.setCell ?_ ?_ _) | (with_reducible refine below_drewN' ?_ _) | (with_reducible refine Below.drew ?_) | (with_reducible refine Below.alloc ?_ ?_ _) | (with_reducible exact Below.refl _ _) | (with_reducible exact Nat.le_refl _) | (simp; done) | omega | (simp; omega))) (hb2.mono (by simp))⟩
        | true =>
          by_cases h6 : (data.size : Int) ≤ 64
          ·
            go_wp2_with (first
              | (go_at_call 83; ((with_reducible refine (HN.out _).mono ?_); rintro e w1 ⟨rfl, k, rfl⟩))
              | (go_at_call 84; ((with_reducible refine (HC.out _ (by repeat' (first | (with_reducible assumption) | (with_reducible refine below_setRowN ?_ ?_ _) | (with_reducible refine Below.setCell ?_ ?_ _) | (with_reducible refine below_drewN' ?_ _) | (with_reducible refine Below.drew ?_) | (with_reducible refine Below.alloc ?_ ?_ _) | (with_reducible exact Below.refl _ _) | (with_reducible exact Nat.le_refl _) | (simp; done) | omega | (simp; omega)))).mono ?_); rintro e w2 ⟨rfl, hb2⟩; have hF2 := Below.at hb2 (drewN_at (alloc_new _) _) (by simp); have f2 := fun j => cell_at hF2 j; clear hF2)))
            go_ret
            exact ⟨ret_bool (by simp; omega), Below.trans (by repeat' (first | (with_reducible assumption) | (with_reducible refine below_setRowN ?_ ?_ _) | (with_reducible refine Below.setCell ?_ ?_ _) | (with_reducible refine below_drewN' ?_ _) | (with_reducible refine Below.drew ?_) | (with_reducible refine Below.alloc ?_ ?_ _) | (with_reducible exact Below.refl _ _) | (with_reducible exact Nat.le_refl _) | (simp; done) | omega | (simp; omega))) (hb2.mono (by simp))⟩
          ·
            go_wp2_with (first
              | (go_at_call 83; ((with_reducible refine (HN.out _).mono ?_); rintro e w1 ⟨rfl, k, rfl⟩))
              | (go_at_call 84; ((with_reducible refine (HC.out _ (by repeat' (first | (with_reducible assumption) | (with_reducible refine below_setRowN ?_ ?_ _) | (with_reducible refine Below.setCell ?_ ?_ _) | (with_reducible refine below_drewN' ?_ _) | (with_reducible refine Below.drew ?_) | (with_reducible refine Below.alloc ?_ ?_ _) | (with_reducible exact Below.refl _ _) | (with_reducible exact Nat.le_refl _) | (simp; done) | omega | (simp; omega)))).mono ?_); rintro e w2 ⟨rfl, hb2⟩; have hF2 := Below.at hb2 (drewN_at (alloc_new _) _) (by simp); have f2 := fun j => cell_at hF2 j; clear hF2)))
            go_ret
            exact ⟨ret_bool (by simp; omega), Below.trans (by repeat' (first | (with_reducible assumption) | (with_reducible refine below_setRowN ?_ ?_ _) | (with_reducible refine Below.setCell ?_ ?_ _) | (with_reducible refine below_drewN' ?_ _) | (with_reducible refine Below.drew ?_) | (with_reducible refine Below.alloc ?_ ?_ _) | (with_reducible exact Below.refl _ _) | (with_reducible exact Nat.le_refl _) | (simp; done) | omega | (simp; omega))) (hb2.mono (by simp))⟩
end Go.Proofs.Ytmehfflomgldeab
