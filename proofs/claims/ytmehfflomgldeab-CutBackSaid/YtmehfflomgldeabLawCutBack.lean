/- The walk of CutBack. -/
import Derived.Test.YtmehfflomgldeabCutI
namespace Go.Proofs.Ytmehfflomgldeab
set_option linter.unusedVariables false
set_option linter.unusedSimpArgs false
open Go.RowKit BM
theorem backP_good (p : Pa) : backP (goodP p) = goodP p := by
  have h1 := good_heads p
  have h2 := good_size p
  generalize goodP p = g at *
  obtain ⟨s, c, h, d⟩ := g
  dsimp only at *
  unfold backP
  dsimp only
  rw [List.take_of_length_le (by omega), Nat.min_eq_left (by omega), ByteArray.extract_zero_size]
theorem sameP_self (p : Pa) : sameP p p = true := by unfold sameP; simp
theorem packets_at {p : Pa} {m : Nat} (hm : m < p.heads.length) : (packetsP p).getD m Pk.zero = ⟨p.src, (p.heads.getD m T2.zero).node, (p.heads.getD m T2.zero).seq, p.data⟩ := by
  unfold packetsP
  rw [List.getD_eq_getElem?_getD, List.getElem?_map, List.getD_eq_getElem?_getD, List.getElem?_eq_getElem hm]; rfl
set_option maxRecDepth 100000 in
set_option maxHeartbeats 4000000 in
theorem cutBack_walk (p : PaM) (w : World) (h : p.Here w) :
    Calls Try.prog 14 #[.agg #[.int .i64 p.pa.src, .bool p.pa.cast, .slice p.ha p.pa.heads.length p.hc, .string p.pa.data]] w fun e w' => e = .returned (.bool true) ∧ Below w.heap.size w w' := by
  have hG := fun w' hb => rgood10 p.pa p.ha p.hc w' (h.below (w' := w') hb).1 h.2.1 h.2.2
  have hr := good_right p.pa
  have hgh := good_heads p.pa
  have hgd := good_size p.pa
  have hbk := backP_good p.pa
  have hB := fun w' a c h => back10 (goodP p.pa) a c w' h (by unfold maxLen; omega) (by unfold maxLen; omega)
  rw [hbk] at hB
  have hW := fun w' a c h => cut_words (goodP p.pa) a c w' h hr
  have hR := fun w' a c h => cut_read (wordsP (goodP p.pa)) a c w' (by rw [wordsP_len]; unfold nBody; omega) (words_lt _) h
  rw [readL_words hr] at hR
  have hP := fun w' a c h => cut_packets (goodP p.pa) a c w' h (by omega)
  have hS := fun w' a b c d h1 h2 => cut_same (goodP p.pa) (goodP p.pa) a b c d w' (by omega) h1 h2
  rw [sameP_self] at hS
  have hWW := fun w' => walk_words (goodP p.pa) hr w'
  have hPA := fun m hm => packets_at (p := goodP p.pa) (m := m) hm
  have hpl : (packetsP (goodP p.pa)).length = (goodP p.pa).heads.length := by unfold packetsP; rw [List.length_map]
  have hwl1 : (wordsP (goodP p.pa)).length ≤ 100 := by rw [wordsP_len]; unfold nBody; omega
  generalize wordsP (goodP p.pa) = wl at *
  generalize packetsP (goodP p.pa) = pk at *
  generalize goodP p.pa = g at *
  obtain ⟨gs, gc, gh, gd⟩ := g
  obtain ⟨⟨src, cast, heads, data⟩, ha, hc⟩ := p
  dsimp only [Pa.val] at *
  have HG := Lib.hid hG
  have HBK := Lib.hid hB
  have HWD := Lib.hid hW
  have HRD := Lib.hid hR
  have HPK := Lib.hid hP
  have HSM := Lib.hid hS
  have HWW := Lib.hid hWW
  have HPA := Lib.hid hPA
  have HPL := Lib.hid hpl
  have HLV := Lib.hid (fun w => lives10_calls w)
  have hgl : gh.length ≤ 6 := hgh.1
  clear hG hr hbk hB hW hR hP hS hWW hPA hpl h hgh
  go_enter Try.func14, Try.ntmps14
  go_wp2_with (first
    | (go_at_call 36; ((with_reducible refine (HLV.out _).mono ?_); rintro e w1 ⟨rfl, hb1⟩; have hX1 := Below.at hb1 (alloc_new _) (by simp); have f1 := fun j => cell_at hX1 j; have hB1 : Below w.heap.size w w1 := Below.trans ((Below.refl _ _).alloc (Nat.le_refl _) _) (hb1.mono (by simp)); have HB1 := Lib.hid hB1; clear hb1 hX1 hB1))
    | (go_at_call 38; ((with_reducible refine (HG.out _ HB1.out).mono ?_); rintro e w2 ⟨v2, rfl, hown2, hb2⟩; obtain ⟨p2, q2, rfl, -, -, hc2⟩ := CellsOff.own hown2 [] (by simp); have HC2 := Lib.hid hc2; have HB2 := Lib.hid hb2; clear hown2 hc2 hb2))
    | (go_at_call 43; ((with_reducible refine (HBK.out _ _ _ HC2.out).mono ?_); rintro e w3 ⟨v3, rfl, hown3, hb3⟩; obtain ⟨p3, q3, rfl, -, -, hc3⟩ := CellsOff.own hown3 [] (by simp); have HC3 := Lib.hid (hc3.below ((Below.refl _ _).alloc (Nat.le_refl _) (.cells #[.int .i64 gs, .bool gc, .slice p3 gh.length q3, .string gd] 68))); have HB3 := Lib.hid hb3; clear hown3 hc3 hb3))
    | (go_at_call 44; ((with_reducible refine (HWD.out _ _ _ HC3.out).mono ?_); rintro e w4 ⟨v4, rfl, hown4, hb4⟩; obtain ⟨p4, q4, rfl, -, -, hc4⟩ := CellsOff.own hown4 [] (by simp); have hX4 := Below.at hb4 (alloc_new _) (by simp); have f4 := fun j => cell_at hX4 j; have HX4 := Lib.hid hX4; have HC4 := Lib.hid hc4; have HB4 := Lib.hid hb4; clear hown4 hc4 hb4 hX4))
    | (go_at_call 39; ((with_reducible refine (HRD.out _ _ _ HC4.out).mono ?_); rintro e w5 ⟨v5, rfl, hown5, hb5⟩; obtain ⟨p5, q5, rfl, -, -, hc5⟩ := CellsOff.own hown5 [] (by simp); have hX5 := Below.at hb5 HX4.out (block_lt HX4.out); have hl5 := block_lt hX5; have f5 := fun j => cell_at hX5 j; have HX5 := Lib.hid hX5; have HC5 := Lib.hid hc5; have HB5 := Lib.hid hb5; clear hown5 hc5 hb5 hX5))
    | (go_at_call 47; ((with_reducible refine (HPK.out _ _ _ ?_).mono ?_); exact ((HC3.out.below HB4.out).below HB5.out).below ((Below.refl _ _).alloc (Nat.le_refl _) _); rintro e w6 ⟨v6, rfl, hown6, hb6⟩; obtain ⟨p6, q6, rfl, -, -, hc6⟩ := CellsOff.own hown6 [] (by simp); have hX6 := Below.at hb6 (alloc_old HX5.out _) (by simp; omega); have hY6 := Below.at hb6 (alloc_new _) (by simp); have f6 := fun j => cell_at hX6 j; have g6 := fun j => cell_at hY6 j; have HX6 := Lib.hid hX6; have HC6 := Lib.hid hc6; have HB6 := Lib.hid hb6; clear hown6 hc6 hb6 hX6 hY6)))
  clear f1 f4 f5 hl5
  have HC36 := Lib.hid ((((HC3.out.below HB4.out).below HB5.out).below ((Below.refl _ _).alloc (Nat.le_refl _) (.cells #[.int .i64 gs, .bool gc, .slice p5 gh.length q5, .string gd] 68))).below HB6.out)
  have HC56 := Lib.hid ((HC5.out.below ((Below.refl _ _).alloc (Nat.le_refl _) (.cells #[.int .i64 gs, .bool gc, .slice p5 gh.length q5, .string gd] 68))).below HB6.out)
  have h2 : Below w.heap.size w w2 := HB1.out.trans (HB2.out.mono HB1.out.size)
  have h3 : Below w.heap.size w w3 := h2.trans (HB3.out.mono h2.size)
  have h4 : Below w.heap.size w w4 := (h3.alloc h3.size _).trans (HB4.out.mono (by have := h3.size; simp; omega))
  have h5 : Below w.heap.size w w5 := h4.trans (HB5.out.mono h4.size)
  have h6 : Below w.heap.size w w6 := (h5.alloc h5.size _).trans (HB6.out.mono (by have := h5.size; simp; omega))
  have H6 := Lib.hid h6
  have hghI : (gh.length : Int) ≤ 6 := by omega
  clear h2 h3 h4 h5 h6
  go_loopw [9] (fun i wr => ∃ (m n : Nat), m ≤ gh.length ∧ i = .int .i64 (m : Int) ∧ wr = w6.drewN n) (fun i _ => gh.length - (intOf i).toNat)
  case atStart => exact ⟨0, 0, by omega, rfl, rfl⟩
  case round =>
    obtain ⟨m, n, hm, rfl, rfl⟩ := hrel
    by_cases hml : m < gh.length
    · obtain ⟨blk, off, rfl, -, c0, c1⟩ := head_cell HC36.out hml
      obtain ⟨blk2, off2, rfl, -, d0, d1, d2, d3⟩ := pk_cell HC6.out (by rw [HPL.out]; exact hml)
      rw [HPA.out m hml] at d0 d1 d2 d3
      generalize gh.getD m T2.zero = t at *
      obtain ⟨t0, t1⟩ := t
      dsimp only at c0 c1 d0 d1 d2 d3
      have hmI : (m : Int) < (gh.length : Int) := by omega
      go_wp2
      go_quiet (fail)
      go_wp2
      go_roundw
      case rel => exact ⟨m + 1, _, by omega, by go_num, rfl⟩
      case measure => simp [intOf]; omega
    · obtain rfl : m = gh.length := by omega
      have hss : ((wl.length : Int) == (wl.length : Int)) = true := beq_self_eq_true _
      go_wp2_with (first
        | (go_at_call 51; ((with_reducible refine (HSM.out _ _ _ _ _ ?_ ?_).mono ?_); exact HC36.out; exact HC56.out; rintro e w7 ⟨rfl, hb7⟩; have hX7 := Below.at hb7 (drewN_at HX6.out _) (block_lt HX6.out); have f7 := fun j => cell_at hX7 j; have HB7 := Lib.hid hb7; clear hb7 hX7))
        | (go_at_call 52; ((with_reducible refine (HWW.out _).mono ?_); rintro e w' ⟨rfl, k8, rfl⟩)))
      go_ret
      have h7 : Below w.heap.size w w7 := (below_drewN' H6.out _).trans (HB7.out.mono H6.out.size)
      exact ⟨rfl, by repeat' (first | (with_reducible assumption) | (with_reducible refine below_setRowN ?_ ?_ _) | (with_reducible refine Below.setCell ?_ ?_ _) | (with_reducible refine below_drewN' ?_ _) | (with_reducible refine Below.drew ?_) | (with_reducible refine Below.alloc ?_ ?_ _) | (with_reducible exact Below.refl _ _) | (with_reducible exact Nat.le_refl _) | (simp; done) | omega | (simp; omega))⟩
end Go.Proofs.Ytmehfflomgldeab
