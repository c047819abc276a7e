/- The reference's link: New. -/
import Derived.Test.YtmehfflomgldeabRefLinkF
namespace Go.Proofs.Ytmehfflomgldeab
set_option linter.unusedVariables false
open Go.RowKit
theorem Two.setB {base : Nat} {e1 e2 : TypeId} {w : World} {v u : Value} {n m : Nat} {xs ys : List Value} {B : Nat} (h : Two base e1 e2 w v u n m xs ys B) (hB : B < base) (j : Nat) (x : Value) : Two base e1 e2 (w.setCell ⟨B, j, none⟩ x) v u n m xs ys B :=
  ⟨ownsRow_only h.fst (S := [B]) ((Only.refl _ _).setCell (by simp) _) (by simpa using hB), ownsRow_only h.snd (S := [B]) ((Only.refl _ _).setCell (by simp) _) (by simpa using hB), h.ne, h.nv, h.nu, by have := h.lt; simpa using this⟩
set_option maxRecDepth 100000 in
set_option maxHeartbeats 1000000 in
theorem ref_new (lanes depth size : Int) (w : World) (S : List Nat) (hS : ∀ x ∈ S, x < w.heap.size) :
    Calls Try.prog 17 #[.int .i64 lanes, .int .i64 depth, .int .i64 size] w fun e w' => ∃ r, e = .returned (.agg ((LS.new (clampN lanes 8) (clampN depth 64) (clampN size 64)).vals r)) ∧ RL w' (LS.new (clampN lanes 8) (clampN depth 64) (clampN size 64)) r S ∧ Below w.heap.size w w' := by
  obtain ⟨L, hL⟩ : ∃ L : Nat, L = clampN lanes 8 := ⟨_, rfl⟩
  obtain ⟨D, hD⟩ : ∃ D : Nat, D = clampN depth 64 := ⟨_, rfl⟩
  obtain ⟨Z, hZ⟩ : ∃ Z : Nat, Z = clampN size 64 := ⟨_, rfl⟩
  rw [← hL, ← hD, ← hZ]
  unfold clampN at hL hD hZ
  have l1 : min (max lanes 1) 8 = (L : Int) := by omega
  have l2 : min (max depth 1) 64 = (D : Int) := by omega
  have l3 : min (max size 1) 64 = (Z : Int) := by omega
  have b1 : 1 ≤ L := by omega
  have b2 : L ≤ 8 := by omega
  have HOK := Lib.hid (LS.new_ok (lanes := L) (depth := D) (size := Z) b1 b2 (by omega) (by omega) (by omega) (by omega))
  have HS := Lib.hid hS
  clear hL hD hZ hS
  go_enter Try.func17, Try.ntmps17
  go_wp2
  go_loopw [8] (fun i wr => ∃ (m : Nat) (v u : Value), m ≤ L ∧ i = .int .i64 (m : Int) ∧ wr.heap[w.heap.size + 1]? = some (.cells #[.int .i64 (L : Int), .int .i64 (D : Int), .int .i64 (Z : Int), v, .slice none 0 0, u, .slice none 0 0] 30 (0, 0)) ∧ wr.heap[w.heap.size]? = some (.cells #[.int .i64 0, .int .i64 0, .int .i64 0, .slice none 0 0, .slice none 0 0, .slice none 0 0, .slice none 0 0] 30 (0, 0)) ∧ Two (w.heap.size + 1 + 1) 3 3 wr v u m m ((List.replicate m D).map NV) ((List.replicate m 0).map NV) (w.heap.size + 1) ∧ Below w.heap.size w wr ∧ w.heap.size + 1 + 1 ≤ wr.heap.size) (fun i _ => L - (intOf i).toNat)
  case atStart => exact ⟨0, .slice none 0 0, .slice none 0 0, by omega, rfl, alloc_at _ _ (by simp), alloc_old (alloc_new _) _, ⟨World.ownsRow_nil _ _ _ _, World.ownsRow_nil _ _ _ _, fun k hk => by simp [Value.ownBlock] at hk, fun k hk => by simp [Value.ownBlock] at hk, fun k hk => by simp [Value.ownBlock] at hk, by simp⟩, by repeat' (first | (with_reducible assumption) | (with_reducible refine Below.setCell ?_ ?_ _) | (with_reducible refine below_drewN' ?_ _) | (with_reducible refine Below.drew ?_) | (with_reducible refine Below.alloc ?_ ?_ _) | (with_reducible exact Below.refl _ _) | (with_reducible exact Nat.le_refl _) | omega | (simp; done) | (simp; omega)), by simp⟩
  case round =>
    obtain ⟨m, v, u, hm, rfl, hF, hG, hT, hB, hz⟩ := hrel
    by_cases hml : m < L
    · have hmI : (m : Int) < (L : Int) := by omega
      have f0 := cell_at hF 0; have f1 := cell_at hF 1; have f2 := cell_at hF 2; have f3 := cell_at hF 3; have f4 := cell_at hF 4; have f5 := cell_at hF 5; have f6 := cell_at hF 6
      have x3 := frozen_at hF 3
      have HT := Lib.hid hT
      have HF := Lib.hid hF
      have HG := Lib.hid hG
      have HB := Lib.hid hB
      have hzz : w.heap.size + 1 < w.heap.size + 1 + 1 := by omega
      have ho1 := hT.fst
      clear hT hF hG hB
      go_wp2_with (first
        | (at_builtin; first
            | (refine append_own (W0 := wr) [.int .i64 (D : Int)] (w.heap.size + 1 + 1) _ _ _ 1 8 infoInt Try.underlying27 rfl (by decide) _ _ _ ho1 (Below.refl _ _) hz rfl (by simp [Value.oneCell']) (by omega) (by decide) rfl _ _ rfl rfl rfl ?_; intro v1 w4 hown4 hb4 hg4 hor4; obtain ⟨p1, q1, rfl, -, -, -⟩ := CellsOff.own hown4 [] (by simp); have T4 := HT.out.first hg4 hor4 hown4; have hF4 := Below.at hb4 HF.out hzz; have T5 := T4.setB hzz 3 (.slice p1 (m + 1) q1); have hF5 := set_at hF4 3 (.slice p1 (m + 1) q1); clear f0 f1 f2 f3 f4 f5 f6 x3; have f0 := cell_at hF4 0; have f1 := cell_at hF4 1; have f2 := cell_at hF4 2; have f3 := cell_at hF4 3; have f4 := cell_at hF4 4; have f5 := cell_at hF4 5; have f6 := cell_at hF4 6; have x3 := frozen_at hF4 3; have x5 := frozen_at hF4 5; have ho2 := T5.snd; have hs4 : w.heap.size + 1 + 1 ≤ (w4.setCell ⟨w.heap.size + 1, 3, none⟩ (.slice p1 (m + 1) q1)).heap.size := (by have := hb4.size; simp; omega); have HSZ := Lib.hid (show (w4.setCell ⟨w.heap.size + 1, 3, none⟩ (.slice p1 (m + 1) q1)).heap.size = w4.heap.size by simp); have HT5 := Lib.hid T5; have HF5 := Lib.hid hF5; have HB4 := Lib.hid hb4; clear T4 T5 hF4 hF5 hown4 hb4 hg4 hor4)
            | (refine append_own (W0 := w4.setCell ⟨w.heap.size + 1, 3, none⟩ (.slice p1 (m + 1) q1)) [.int .i64 0] (w.heap.size + 1 + 1) _ _ _ 1 8 infoInt Try.underlying27 rfl (by decide) _ _ _ ho2 (Below.refl _ _) hs4 rfl (by simp [Value.oneCell']) (by omega) (by decide) rfl _ _ rfl rfl (by rw [HSZ.out]; rfl) ?_; intro v2 w6 hown6 hb6 hg6 hor6; obtain ⟨p2, q2, rfl, -, -, -⟩ := CellsOff.own hown6 [] (by simp); have T6 := HT5.out.second hg6 hor6 hown6; have hF6 := Below.at hb6 HF5.out hzz; have T7 := T6.setB hzz 5 (.slice p2 (m + 1) q2); have hF7 := set_at hF6 5 (.slice p2 (m + 1) q2); clear f0 f1 f2 f3 f4 f5 f6 x3 x5; have f0 := cell_at hF6 0; have f1 := cell_at hF6 1; have f2 := cell_at hF6 2; have f3 := cell_at hF6 3; have f4 := cell_at hF6 4; have f5 := cell_at hF6 5; have f6 := cell_at hF6 6; have x5 := frozen_at hF6 5; have HT7 := Lib.hid T7; have HF7 := Lib.hid hF7; have HB6 := Lib.hid hb6; clear T6 T7 hF6 hF7 hown6 hb6 hg6 hor6)))
      go_roundw
      case rel =>
        have hb4 := HB4.out
        have hb6 := HB6.out
        have hG7 : (w6.setCell ⟨w.heap.size + 1, 5, none⟩ (.slice p2 (m + 1) q2)).heap[w.heap.size]? = _ := set_other (Below.at hb6 (set_other (Below.at hb4 HG.out (by omega)) (by omega) 3 (.slice p1 (m + 1) q1)) (by omega)) (by omega) 5 (.slice p2 (m + 1) q2)
        have hB7 : Below w.heap.size w (w6.setCell ⟨w.heap.size + 1, 5, none⟩ (.slice p2 (m + 1) q2)) := by
          have h1 := HB.out
          have h2 : Below w.heap.size w w4 := h1.trans (hb4.mono (by omega))
          have h3 : Below w.heap.size w (w4.setCell ⟨w.heap.size + 1, 3, none⟩ (.slice p1 (m + 1) q1)) := h2.setCell (by simp) _
          exact (h3.trans (hb6.mono (by omega))).setCell (by simp) _
        have hT7 := HT7.out
        exact ⟨m + 1, (.slice p1 (m + 1) q1), (.slice p2 (m + 1) q2), by omega, by go_num, HF7.out, hG7, by rw [List.replicate_succ', List.replicate_succ', List.map_append, List.map_append]; exact hT7, hB7, by have h1 := hb6.size; simp at hs4 h1 ⊢; omega⟩
      case measure => simp [intOf] <;> omega
    · obtain rfl : L = m := by omega
      obtain ⟨a1, c1, rfl, k1, -, r1⟩ := CellsOff.own hT.fst ([w.heap.size, w.heap.size + 1] ++ S) (fun x hx => by rcases List.mem_append.1 hx with hx | hx; (simp at hx; omega); (have := HS.out x hx; omega))
      obtain ⟨a3, c3, rfl, k3, -, r3⟩ := CellsOff.own hT.snd ([w.heap.size, w.heap.size + 1] ++ S) (fun x hx => by rcases List.mem_append.1 hx with hx | hx; (simp at hx; omega); (have := HS.out x hx; omega))
      have f0 := cell_at hF 0; have f1 := cell_at hF 1; have f2 := cell_at hF 2; have f3 := cell_at hF 3; have f4 := cell_at hF 4; have f5 := cell_at hF 5; have f6 := cell_at hF 6
      have g0 := cell_at hG 0; have g1 := cell_at hG 1; have g2 := cell_at hG 2; have g3 := cell_at hG 3; have g4 := cell_at hG 4; have g5 := cell_at hG 5; have g6 := cell_at hG 6
      have y0 := frozen_at hG 0; have y1 := frozen_at hG 1; have y2 := frozen_at hG 2; have y3 := frozen_at hG 3; have y4 := frozen_at hG 4; have y5 := frozen_at hG 5; have y6 := frozen_at hG 6
      have HG := Lib.hid hG
      have HB := Lib.hid hB
      have R1 := Lib.hid r1
      have R3 := Lib.hid r3
      clear hF hG hB hT r1 r3
      have hz2 : w.heap.size ≠ w.heap.size + 1 := by omega
      go_wp2
      have hb := HB.out
      refine bodyPost_ret (results_cell_row rfl _ _ w.heap.size 30 _ (0, 0) _ rfl (stored7 HG.out) Try.underlying30 rfl (by kernel_rfl)) rfl ⟨⟨a1, c1, none, 0, a3, c3, none, 0⟩, ?_, ?_, by repeat' (first | (with_reducible assumption) | (with_reducible refine Below.setCell ?_ ?_ _) | (with_reducible refine below_drewN' ?_ _) | (with_reducible refine Below.drew ?_) | (with_reducible refine Below.alloc ?_ ?_ _) | (with_reducible exact Below.refl _ _) | (with_reducible exact Nat.le_refl _) | omega | (simp; done) | (simp; omega))⟩
      · show Ending.returned (.agg #[.int .i64 (L : Int), .int .i64 (D : Int), .int .i64 (Z : Int), .slice a1 L c1, .slice none 0 0, .slice a3 L c3, .slice none 0 0]) = _
        have e1 : (LS.new L D Z).cr.length = L := List.length_replicate
        have e2 : (LS.new L D Z).fa.length = L := List.length_replicate
        unfold LS.vals
        rw [e1, e2]
        rfl
      · have hch : Only [w.heap.size] wr (((((((wr.setCell ⟨w.heap.size, 0, none⟩ (.int .i64 (L : Int))).setCell ⟨w.heap.size, 1, none⟩ (.int .i64 (D : Int))).setCell ⟨w.heap.size, 2, none⟩ (.int .i64 (Z : Int))).setCell ⟨w.heap.size, 3, none⟩ (.slice a1 L c1)).setCell ⟨w.heap.size, 4, none⟩ (.slice none 0 0)).setCell ⟨w.heap.size, 5, none⟩ (.slice a3 L c3)).setCell ⟨w.heap.size, 6, none⟩ (.slice none 0 0)) := by
          repeat' (first | (with_reducible exact Only.refl _ _) | (with_reducible refine Only.setCell ?_ ?_ _) | (simp; done))
        have e1 : (LS.new L D Z).cr.map NV = (List.replicate L D).map NV := rfl
        have e3 : (LS.new L D Z).fa.map NV = (List.replicate L 0).map NV := rfl
        refine ⟨HOK.out, ?_, ?_, ?_, ?_, ?_, Nat.zero_le _, ?_, Nat.zero_le _⟩
        · rw [e1]; exact (R1.out.only hch (by simp)).weak (fun x hx => List.mem_append_right _ hx)
        · show CellsOff _ none [] S; exact CellsOff.nil
        · rw [e3]; exact (R3.out.only hch (by simp)).weak (fun x hx => List.mem_append_right _ hx)
        · show CellsOff _ none [] S; exact CellsOff.nil
        · show (List.replicate L D).length ≤ c1
          rw [List.length_replicate]; exact k1
        · show (List.replicate L 0).length ≤ c3
          rw [List.length_replicate]; exact k3
end Go.Proofs.Ytmehfflomgldeab
