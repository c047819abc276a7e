/- The walk of FlitEdges. -/
import Derived.Test.YtncdambphaodaabRefFlitG
import Derived.Deep.RegionHeld3
import Derived.Deep.RegionWith
import Derived.Deep.DeepCutAuto
namespace Go.Proofs.Ytncdambphaodaab
set_option linter.unusedVariables false
open Go.RowKit BM
theorem head_right (p q r s : Int) : rightF ⟨1, p, q, r, s, false, false, ⟨#[]⟩⟩ = decide (0 ≤ p ∧ p < 4096 ∧ 0 ≤ q ∧ q < 4096 ∧ 0 ≤ r ∧ r < 65536 ∧ 0 ≤ s ∧ s < 65) := by
  unfold rightF headOk
  rw [if_pos rfl]
  congr 1
  rw [eq_iff_iff]
  constructor
  · rintro ⟨h1, h2, h3, h4, h5, h6, h7, h8, h9⟩; exact ⟨h2, h3, h4, h5, h6, h7, h8, by simp at h9; omega⟩
  · rintro ⟨h2, h3, h4, h5, h6, h7, h8, h9⟩; exact ⟨rfl, h2, h3, h4, h5, h6, h7, h8, by simp; omega⟩
theorem edge_cases (kind : Int) (d : ByteArray) (X : Nat) (hd : d.size = X) :
    (kind = 2 ∧ (X : Int) = 6 ∧ rightF ⟨kind, 0, 0, 0, 0, false, false, d⟩ = true ∧ rightF ⟨kind, 0, 0, 0, 0, true, false, d⟩ = false)
    ∨ (kind = 2 ∧ ¬ (X : Int) = 6 ∧ rightF ⟨kind, 0, 0, 0, 0, false, false, d⟩ = false ∧ rightF ⟨kind, 0, 0, 0, 0, true, false, d⟩ = false)
    ∨ (kind = 3 ∧ (X : Int) < 7 ∧ rightF ⟨kind, 0, 0, 0, 0, false, false, d⟩ = true ∧ rightF ⟨kind, 0, 0, 0, 0, true, false, d⟩ = false)
    ∨ (kind = 3 ∧ ¬ (X : Int) < 7 ∧ rightF ⟨kind, 0, 0, 0, 0, false, false, d⟩ = false ∧ rightF ⟨kind, 0, 0, 0, 0, true, false, d⟩ = false)
    ∨ (kind = 1 ∧ d.toList = [] ∧ rightF ⟨kind, 0, 0, 0, 0, false, false, d⟩ = true ∧ rightF ⟨kind, 0, 0, 0, 0, true, false, d⟩ = true)
    ∨ (kind = 1 ∧ ¬ d.toList = [] ∧ rightF ⟨kind, 0, 0, 0, 0, false, false, d⟩ = false ∧ rightF ⟨kind, 0, 0, 0, 0, true, false, d⟩ = false)
    ∨ ((¬ kind = 1 ∧ ¬ kind = 2 ∧ ¬ kind = 3) ∧ rightF ⟨kind, 0, 0, 0, 0, false, false, d⟩ = false ∧ rightF ⟨kind, 0, 0, 0, 0, true, false, d⟩ = false) := by
  subst hd
  by_cases h1 : kind = 1
  · subst h1
    by_cases hz : d.size = 0
    · refine .inr (.inr (.inr (.inr (.inl ⟨rfl, str_nil hz, ?_, ?_⟩)))) <;> simp [rightF, headOk, hz]
    · refine .inr (.inr (.inr (.inr (.inr (.inl ⟨rfl, str_ne hz, ?_, ?_⟩))))) <;> simp [rightF, headOk, hz]
  · by_cases h2 : kind = 2
    · subst h2
      by_cases hz : d.size = 6
      · refine .inl ⟨rfl, by omega, ?_, ?_⟩ <;> simp [rightF, bareOk, sizeOk, hz]
      · refine .inr (.inl ⟨rfl, by omega, ?_, ?_⟩) <;> simp [rightF, bareOk, sizeOk, hz]
    · by_cases h3 : kind = 3
      · subst h3
        by_cases hz : d.size < 7
        · refine .inr (.inr (.inl ⟨rfl, by omega, ?_, ?_⟩)) <;> simp [rightF, bareOk, sizeOk] <;> omega
        · refine .inr (.inr (.inr (.inl ⟨rfl, by omega, ?_, ?_⟩))) <;> simp [rightF, bareOk, sizeOk] <;> omega
      · refine .inr (.inr (.inr (.inr (.inr (.inr ⟨⟨h1, h2, h3⟩, ?_, ?_⟩))))) <;> simp [rightF, bareOk, sizeOk, h1, h2, h3]
theorem edge_writes (f : Fl) : (rightF f = true ∧ ∃ n : Nat, writeF f = ((n : Int), 0)) ∨ (rightF f = false ∧ writeF f = (0, 1)) := by
  by_cases h : rightF f = true
  · exact .inl ⟨h, _, writeF_right h⟩
  · exact .inr ⟨Bool.eq_false_iff.2 h, by unfold writeF; rw [if_neg h]⟩
set_option maxRecDepth 100000 in
set_option maxHeartbeats 8000000 in
theorem flitEdges_walk (p q r s : Int) (data : ByteArray) (kind : Int) (w : World) (hf : data.size ≤ maxLen) :
    Calls Try.prog 7 #[.agg #[.int .i64 p, .int .i64 q, .int .i64 r, .int .i64 s], .string data, .int .i64 kind] w fun e w' => e = .returned (.bool true) ∧ Below w.heap.size w w' := by
  unfold maxLen at hf
  obtain ⟨X, hX⟩ : ∃ X : Nat, X = min data.size 10 := ⟨_, rfl⟩
  have m1 : min (data.size : Int) 10 = (X : Int) := by omega
  have hXs : X ≤ data.size := by omega
  have hds : (data.extract 0 X).size = X := by simp; omega
  clear hX
  have HKX := Lib.hid (edge_cases kind _ X hds)
  have HWR := Lib.hid (edge_writes ⟨kind, 0, 0, 0, 0, false, false, data.extract 0 X⟩)
  have HR := Lib.hid (fun w => fright_calls ⟨kind, 0, 0, 0, 0, false, false, data.extract 0 X⟩ w)
  have HW := Lib.hid (fun w => flit_write ⟨kind, 0, 0, 0, 0, false, false, data.extract 0 X⟩ w)
  have HM := Lib.hid (fun w => fright_calls ⟨kind, 0, 0, 0, 0, true, false, data.extract 0 X⟩ w)
  clear hds
  have HH0 := fun w => fright_calls ⟨1, p, q, r, s, false, false, ⟨#[]⟩⟩ w
  rw [head_right] at HH0
  obtain ⟨i, hi⟩ : ∃ i : Bool, i = decide (0 ≤ p ∧ p < 4096 ∧ 0 ≤ q ∧ q < 4096 ∧ 0 ≤ r ∧ r < 65536 ∧ 0 ≤ s ∧ s < 65) := ⟨_, rfl⟩
  rw [← hi] at HH0
  have HI := Lib.hid hi
  have HH := Lib.hid HH0
  clear HH0 hi
  go_enter Try.func7, Try.ntmps7
  go_upto_region 4 with (first
    | (go_at_call 18; ((with_reducible refine (lives03_calls _).mono ?_); rintro e w1 ⟨rfl, hb1⟩; have hF1 := Below.at hb1 (alloc_new _) (by simp); have hz1 := hb1.size; have f0 := cell_at hF1 0; have f1 := cell_at hF1 1; have f2 := cell_at hF1 2; have f3 := cell_at hF1 3; have HB1 := Lib.hid (show Below w.heap.size w w1 from Below.trans ((Below.refl _ _).alloc (Nat.le_refl _) _) (hb1.mono (by simp))); clear hb1 hF1)))
  go_cut [7] (fun s7 wx => wx = w1 ∧ s7 = .bool i)
  case first =>
    go_wp2
    all_goals go_meet
    all_goals
      refine ⟨rfl, congrArg Value.bool ?_⟩
      rw [HI.out]
      first
      | (refine (decide_eq_false ?_).symm; omega)
      | (refine decide_eq_decide.2 ⟨fun h => ?_, fun h => ?_⟩ <;> omega)
  case rest =>
    obtain ⟨rfl, rfl⟩ := hcut
    go_upto_region 7 with (first
      | (go_at_call 25; ((with_reducible refine (HH.out _).mono ?_); rintro e w2 ⟨rfl, hb2⟩; have HB2 := Lib.hid (show Below w.heap.size w w2 from Below.trans (by have := HB1.out; repeat' (first | (with_reducible assumption) | (with_reducible refine Below.setCell ?_ ?_ _) | (with_reducible refine below_drewN' ?_ _) | (with_reducible refine Below.drew ?_) | (with_reducible refine Below.alloc ?_ ?_ _) | (with_reducible exact Below.refl _ _) | (with_reducible exact Nat.le_refl _) | omega | (simp; done) | (simp; omega))) (hb2.mono HB1.out.size)); clear hb2 f0 f1 f2 f3 HH HI)))
    go_cut [10] (fun s10 wx => wx = w2.alloc (.cells #[.int .i64 kind, .int .i64 0, .int .i64 0, .int .i64 0, .int .i64 0, .bool false, .bool false, .string (data.extract 0 X)] 44) ∧ s10 = .bool (rightF ⟨kind, 0, 0, 0, 0, false, false, data.extract 0 X⟩))
    case first =>
      generalize (rightF ⟨kind, 0, 0, 0, 0, false, false, data.extract 0 X⟩) = rr at *
      generalize rightF ⟨kind, 0, 0, 0, 0, true, false, data.extract 0 X⟩ = rm at *
      rcases HKX.out with ⟨rfl, hx, h1, h2⟩ | ⟨rfl, hx, h1, h2⟩ | ⟨rfl, hx, h1, h2⟩ | ⟨rfl, hx, h1, h2⟩ | ⟨rfl, hx, h1, h2⟩ | ⟨rfl, hx, h1, h2⟩ | ⟨⟨hx1, hx2, hx3⟩, h1, h2⟩
      all_goals
        subst h1
        clear h2 HKX HWR HR HW HM
        go_wp2
        go_meet
        refine ⟨rfl, ?_⟩
        first
        | rfl
        | exact congrArg Value.bool (beq_eq_false_iff_ne.2 hx)
        | exact congrArg Value.bool (decide_eq_false (Int.not_lt.2 hx))
        | exact congrArg Value.bool (Bool.eq_false_iff.2 fun e => hx (List.isEmpty_iff.1 e))
    case rest =>
      obtain ⟨rfl, rfl⟩ := hcut
      have hco : (rightF ⟨kind, 0, 0, 0, 0, false, false, data.extract 0 X⟩ = true ∧ kind = 1 ∧ rightF ⟨kind, 0, 0, 0, 0, true, false, data.extract 0 X⟩ = true) ∨ (rightF ⟨kind, 0, 0, 0, 0, false, false, data.extract 0 X⟩ = true ∧ ¬ kind = 1 ∧ rightF ⟨kind, 0, 0, 0, 0, true, false, data.extract 0 X⟩ = false) ∨ (rightF ⟨kind, 0, 0, 0, 0, false, false, data.extract 0 X⟩ = false ∧ kind = kind ∧ rightF ⟨kind, 0, 0, 0, 0, true, false, data.extract 0 X⟩ = false) := by
        have hn : ∀ k : Int, k = 2 ∨ k = 3 → ¬ k = 1 := fun k h => by omega
        rcases HKX.out with ⟨h0, hx, h1, h2⟩ | ⟨h0, hx, h1, h2⟩ | ⟨h0, hx, h1, h2⟩ | ⟨h0, hx, h1, h2⟩ | ⟨h0, hx, h1, h2⟩ | ⟨h0, hx, h1, h2⟩ | ⟨h0, h1, h2⟩
        · exact .inr (.inl ⟨h1, hn _ (.inl h0), h2⟩)
        · exact .inr (.inr ⟨h1, rfl, h2⟩)
        · exact .inr (.inl ⟨h1, hn _ (.inr h0), h2⟩)
        · exact .inr (.inr ⟨h1, rfl, h2⟩)
        · exact .inl ⟨h1, h0, h2⟩
        · exact .inr (.inr ⟨h1, rfl, h2⟩)
        · exact .inr (.inr ⟨h1, rfl, h2⟩)
      have HCO := Lib.hid hco
      clear hco HKX
      generalize (rightF ⟨kind, 0, 0, 0, 0, false, false, data.extract 0 X⟩) = rr at *
      generalize rightF ⟨kind, 0, 0, 0, 0, true, false, data.extract 0 X⟩ = rm at *
      generalize writeF ⟨kind, 0, 0, 0, 0, false, false, data.extract 0 X⟩ = wr at *
      have hco : (∃ n : Nat, rr = true ∧ wr = ((n : Int), (0 : Int)) ∧ kind = 1 ∧ rm = true) ∨ (∃ n : Nat, rr = true ∧ wr = ((n : Int), (0 : Int)) ∧ ¬ kind = 1 ∧ rm = false) ∨ (rr = false ∧ wr = (0, 1) ∧ rm = false) := by
        rcases HCO.out with ⟨h1, h2, h3⟩ | ⟨h1, h2, h3⟩ | ⟨h1, h2, h3⟩
        · rcases HWR.out with ⟨_, n, h4⟩ | ⟨h5, _⟩
          · exact .inl ⟨n, h1, h4, h2, h3⟩
          · rw [h1] at h5; exact Bool.noConfusion h5
        · rcases HWR.out with ⟨_, n, h4⟩ | ⟨h5, _⟩
          · exact .inr (.inl ⟨n, h1, h4, h2, h3⟩)
          · rw [h1] at h5; exact Bool.noConfusion h5
        · rcases HWR.out with ⟨h5, _⟩ | ⟨_, h4⟩
          · rw [h1] at h5; exact Bool.noConfusion h5
          · exact .inr (.inr ⟨h1, h4, h3⟩)
      clear HCO HWR
      have hF2 := alloc_new (w := w2) (.cells #[.int .i64 kind, .int .i64 0, .int .i64 0, .int .i64 0, .int .i64 0, .bool false, .bool false, .string (data.extract 0 X)] 44 (0, 0))
      have f0 := cell_at hF2 0; have f1 := cell_at hF2 1; have f2 := cell_at hF2 2; have f3 := cell_at hF2 3; have f4 := cell_at hF2 4; have f5 := cell_at hF2 5; have f6 := cell_at hF2 6; have f7 := cell_at hF2 7
      clear hF2
      rcases hco with ⟨n, rfl, rfl, rfl, rfl⟩ | ⟨n, rfl, rfl, hk, rfl⟩ | ⟨rfl, rfl, rfl⟩
      all_goals
        go_wp2_with (first
          | (go_at_call 25; first
              | ((with_reducible refine (HR.out _).mono ?_); rintro e w4 ⟨rfl, hb4⟩; have hG4 := Below.at hb4 (alloc_new _) (by simp); have HB4 := Lib.hid hb4; clear f0 f1 f2 f3 f4 f5 f6 f7; have g0 := cell_at hG4 0; have g1 := cell_at hG4 1; have g2 := cell_at hG4 2; have g3 := cell_at hG4 3; have g4 := cell_at hG4 4; have g5 := cell_at hG4 5; have g6 := cell_at hG4 6; have g7 := cell_at hG4 7; clear hb4 hG4)
              | ((with_reducible refine (HM.out _).mono ?_); rintro e w5 ⟨rfl, hb5⟩; have HB5 := Lib.hid hb5; clear hb5))
          | (go_at_call 24; ((with_reducible refine (HW.out _).mono ?_); rintro e w3 ⟨rfl, hb3⟩; have hF3 := Below.at hb3 (alloc_new _) (by simp); have HB3 := Lib.hid hb3; have hz3 := hb3.size; have hz4 : w2.heap.size < w3.heap.size := (by simp at hz3; omega); clear f0 f1 f2 f3 f4 f5 f6 f7; have f0 := cell_at hF3 0; have f1 := cell_at hF3 1; have f2 := cell_at hF3 2; have f3 := cell_at hF3 3; have f4 := cell_at hF3 4; have f5 := cell_at hF3 5; have f6 := cell_at hF3 6; have f7 := cell_at hF3 7; have HF3 := Lib.hid hF3; clear hb3 hF3 hz3)))
        go_ret
        have h2 : Below w.heap.size w w2 := HB2.out
        have h3 : Below w.heap.size w w3 := Below.trans (by have hs := h2.size; repeat' (first | (with_reducible assumption) | (with_reducible refine Below.setCell ?_ ?_ _) | (with_reducible refine below_drewN' ?_ _) | (with_reducible refine Below.drew ?_) | (with_reducible refine Below.alloc ?_ ?_ _) | (with_reducible exact Below.refl _ _) | (with_reducible exact Nat.le_refl _) | omega | (simp; done) | (simp; omega))) (HB3.out.mono (by have hs := h2.size; simp; omega))
        have h4 : Below w.heap.size w w4 := Below.trans (by have hs := h3.size; repeat' (first | (with_reducible assumption) | (with_reducible refine Below.setCell ?_ ?_ _) | (with_reducible refine below_drewN' ?_ _) | (with_reducible refine Below.drew ?_) | (with_reducible refine Below.alloc ?_ ?_ _) | (with_reducible exact Below.refl _ _) | (with_reducible exact Nat.le_refl _) | omega | (simp; done) | (simp; omega))) (HB4.out.mono (by have hs := h3.size; simp; omega))
        have h5 : Below w.heap.size w w5 := Below.trans (by have hs := h4.size; repeat' (first | (with_reducible assumption) | (with_reducible refine Below.setCell ?_ ?_ _) | (with_reducible refine below_drewN' ?_ _) | (with_reducible refine Below.drew ?_) | (with_reducible refine Below.alloc ?_ ?_ _) | (with_reducible exact Below.refl _ _) | (with_reducible exact Nat.le_refl _) | omega | (simp; done) | (simp; omega))) (HB5.out.mono (by have hs := h4.size; first | omega | (simp; omega)))
        first
        | exact ⟨rfl, h5⟩
        | exact ⟨congrArg (fun b => Ending.returned (.bool (!b))) (beq_eq_false_iff_ne.2 hk), h5⟩
end Go.Proofs.Ytncdambphaodaab
