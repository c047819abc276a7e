/- The walk of CutKinds. -/
import Derived.Test.YtmehfflomgldeabCutI
namespace Go.Proofs.Ytmehfflomgldeab
set_option linter.unusedVariables false
set_option linter.unusedSimpArgs false
open Go.RowKit BM
theorem backP_good (p : Pa) : backP (goodP p) = goodP p := by
  have h1 := good_heads p
  have h2 := good_size p
  generalize goodP p = g at *
  obtain ⟨s, c, h, d⟩ := g
  dsimp only at *
  unfold backP
  dsimp only
  rw [List.take_of_length_le (by omega), Nat.min_eq_left (by omega), ByteArray.extract_zero_size]
/-- The flits of a parcel's words. -/
def flAt (p : Pa) (i : Nat) : Fl := if i < p.heads.length then headFl p i else if i - p.heads.length < nBody p.data then bodyFl p.data (i - p.heads.length) else tailFl p.data
def accAt (p : Pa) (i : Nat) : ByteArray := if i ≤ p.heads.length then ⟨#[]⟩ else if i ≤ p.heads.length + nBody p.data then p.data.extract 0 (6 * (i - p.heads.length)) else p.data
theorem flAt_right {p : Pa} (h : rightP p = true) (i : Nat) : rightF (flAt p i) = true := by
  unfold flAt
  split
  · rename_i h1; exact head_right h h1
  · split
    · rename_i h2; exact body_right h2
    · exact tail_right _
theorem words_flAt (p : Pa) {i : Nat} (hi : i < (wordsP p).length) : (wordsP p).getD i 0 = wordF (flAt p i) := by
  rw [wordsP_len] at hi
  unfold flAt wordsP headWs restWs bodyWs
  rw [List.getD_eq_getElem?_getD]
  by_cases h1 : i < p.heads.length
  · rw [if_pos h1, List.getElem?_append_left (by simpa using h1), List.getElem?_map, List.getElem?_range h1, Option.map_some, Option.getD_some]
  · rw [if_neg h1, List.getElem?_append_right (by simp; omega)]
    simp only [List.length_map, List.length_range]
    by_cases h2 : i - p.heads.length < nBody p.data
    · rw [if_pos h2, List.getElem?_append_left (by simpa using h2), List.getElem?_map, List.getElem?_range h2, Option.map_some, Option.getD_some]
    · rw [if_neg h2, List.getElem?_append_right (by simp; omega)]
      simp only [List.length_map, List.length_range]
      rw [show i - p.heads.length - nBody p.data = 0 from by omega, List.getElem?_cons_zero, Option.getD_some]
theorem acc_next (p : Pa) {i : Nat} (hi : i < (wordsP p).length) : accAt p i ++ (flAt p i).data = accAt p (i + 1) := by
  rw [wordsP_len] at hi
  unfold flAt accAt
  by_cases h1 : i < p.heads.length
  · rw [if_pos h1, if_pos (by omega), if_pos (by omega)]; rfl
  · rw [if_neg h1]
    have hn : nBody p.data * 6 ≤ p.data.size := by unfold nBody; omega
    by_cases h2 : i - p.heads.length < nBody p.data
    · rw [if_pos h2, if_neg (show ¬ i + 1 ≤ p.heads.length by omega), if_pos (show i + 1 ≤ p.heads.length + nBody p.data by omega)]
      have e : (if i ≤ p.heads.length then (⟨#[]⟩ : ByteArray) else if i ≤ p.heads.length + nBody p.data then p.data.extract 0 (6 * (i - p.heads.length)) else p.data) = p.data.extract 0 (6 * (i - p.heads.length)) := by
        by_cases h3 : i ≤ p.heads.length
        · rw [if_pos h3, show i - p.heads.length = 0 from by omega, Nat.mul_zero, ByteArray.extract_same]; rfl
        · rw [if_neg h3, if_pos (by omega)]
      rw [e]
      show p.data.extract 0 (6 * (i - p.heads.length)) ++ p.data.extract (6 * (i - p.heads.length)) (6 * (i - p.heads.length) + 6) = _
      rw [ByteArray.extract_append_extract]; congr 1 <;> omega
    · rw [if_neg h2, if_neg (show ¬ i + 1 ≤ p.heads.length by omega), if_neg (show ¬ i + 1 ≤ p.heads.length + nBody p.data by omega)]
      have e : (if i ≤ p.heads.length then (⟨#[]⟩ : ByteArray) else if i ≤ p.heads.length + nBody p.data then p.data.extract 0 (6 * (i - p.heads.length)) else p.data) = p.data.extract 0 (6 * nBody p.data) := by
        by_cases h3 : i ≤ p.heads.length
        · rw [if_pos h3, show nBody p.data = 0 from by omega, Nat.mul_zero, ByteArray.extract_same]; rfl
        · rw [if_neg h3, if_pos (by omega), show i - p.heads.length = nBody p.data from by omega]
      rw [e]
      show p.data.extract 0 (6 * nBody p.data) ++ p.data.extract (6 * nBody p.data) p.data.size = p.data
      rw [ByteArray.extract_append_extract, show min 0 (6 * nBody p.data) = 0 from by omega, show max (6 * nBody p.data) p.data.size = p.data.size from by omega, ByteArray.extract_zero_size]
theorem acc_size (p : Pa) (i : Nat) : (accAt p i).size ≤ p.data.size := by
  unfold accAt
  split
  · exact Nat.zero_le _
  · split
    · rw [ByteArray.size_extract]; omega
    · exact Nat.le_refl _
theorem fl_size {p : Pa} (h : rightP p = true) (i : Nat) : (flAt p i).data.size ≤ 6 := by
  have := read_small (x := wordF (flAt p i))
  rwa [read_write (flAt_right h i)] at this
set_option maxRecDepth 100000 in
set_option maxHeartbeats 4000000 in
theorem cutKinds_walk (p : PaM) (w : World) (h : p.Here w) :
    Calls Try.prog 11 #[.agg #[.int .i64 p.pa.src, .bool p.pa.cast, .slice p.ha p.pa.heads.length p.hc, .string p.pa.data]] w fun e w' => e = .returned (.bool true) ∧ Below w.heap.size w w' := by
  have hG := fun w' hb => rgood10 p.pa p.ha p.hc w' (h.below (w' := w') hb).1 h.2.1 h.2.2
  have hr := good_right p.pa
  have hgh := good_heads p.pa
  have hgd := good_size p.pa
  have hbk := backP_good p.pa
  have hB := fun w' a c h => back10 (goodP p.pa) a c w' h (by unfold maxLen; omega) (by unfold maxLen; omega)
  rw [hbk] at hB
  have hW := fun w' a c h => cut_words (goodP p.pa) a c w' h hr
  have hF := fun i (hi : i < (wordsP (goodP p.pa)).length) w' => flit_read ((wordsP (goodP p.pa)).getD i 0) (by rw [words_flAt _ hi]; exact wordF_lt _) w'
  have hF2 : ∀ i, i < (wordsP (goodP p.pa)).length → readF ((wordsP (goodP p.pa)).getD i 0) = (flAt (goodP p.pa) i, 0) := fun i hi => by rw [words_flAt _ hi, read_write (flAt_right hr i)]
  have hN := fun i hi => acc_next (goodP p.pa) (i := i) hi
  have hA0 : accAt (goodP p.pa) 0 = ⟨#[]⟩ := if_pos (Nat.zero_le _)
  have hAE : accAt (goodP p.pa) (wordsP (goodP p.pa)).length = (goodP p.pa).data := by
    unfold accAt; rw [wordsP_len, if_neg (by omega), if_neg (by omega)]
  have hAS := acc_size (goodP p.pa)
  have hFS := fl_size hr
  have hwl := wordsP_len (goodP p.pa)
  have hFA : ∀ i, flAt (goodP p.pa) i = if i < (goodP p.pa).heads.length then headFl (goodP p.pa) i else if i - (goodP p.pa).heads.length < nBody (goodP p.pa).data then bodyFl (goodP p.pa).data (i - (goodP p.pa).heads.length) else tailFl (goodP p.pa).data := fun _ => rfl
  have hnb : nBody (goodP p.pa).data ≤ 20 := by unfold nBody; omega
  have hH1 : ∀ i, headFl (goodP p.pa) i = ⟨1, (goodP p.pa).src, ((goodP p.pa).heads.getD i T2.zero).node, ((goodP p.pa).heads.getD i T2.zero).seq, (goodP p.pa).data.size, decide (i + 1 < (goodP p.pa).heads.length), (goodP p.pa).cast, ByteArray.empty⟩ := fun _ => rfl
  generalize flAt (goodP p.pa) = fl at *
  generalize accAt (goodP p.pa) = acc at *
  generalize headFl (goodP p.pa) = hf at *
  generalize wordsP (goodP p.pa) = wl at *
  generalize goodP p.pa = g at *
  obtain ⟨gs, gc, gh, gd⟩ := g
  obtain ⟨⟨src, cast, heads, data⟩, ha, hc⟩ := p
  dsimp only [Pa.val] at *
  generalize hnbe : nBody gd = nb at *
  have HG := Lib.hid hG
  have HBK := Lib.hid hB
  have HWD := Lib.hid hW
  have HF := Lib.hid hF
  have HF2 := Lib.hid hF2
  have HN := Lib.hid hN
  have HA0 := Lib.hid hA0
  have HAE := Lib.hid hAE
  have HAS := Lib.hid hAS
  have HFS := Lib.hid hFS
  have HWL := Lib.hid hwl
  have HFA := Lib.hid hFA
  have HH1 := Lib.hid hH1
  have HLV := Lib.hid (fun w => lives10_calls w)
  have hgl : gh.length ≤ 6 := hgh.1
  have hwl1 : wl.length ≤ 100 := by omega
  clear hG hr hbk hB hW h hgh hF hF2 hN hA0 hAE hAS hFS hwl hFA hH1 hnbe
  go_enter Try.func11, Try.ntmps11
  go_wp2_with (first
    | (go_at_call 36; ((with_reducible refine (HLV.out _).mono ?_); rintro e w1 ⟨rfl, hb1⟩; have hX1 := Below.at hb1 (alloc_new _) (by simp); have f1 := fun j => cell_at hX1 j; have hB1 : Below w.heap.size w w1 := Below.trans ((Below.refl _ _).alloc (Nat.le_refl _) _) (hb1.mono (by simp)); have HB1 := Lib.hid hB1; clear hb1 hX1 hB1))
    | (go_at_call 38; ((with_reducible refine (HG.out _ HB1.out).mono ?_); rintro e w2 ⟨v2, rfl, hown2, hb2⟩; obtain ⟨p2, q2, rfl, -, -, hc2⟩ := CellsOff.own hown2 [] (by simp); have HC2 := Lib.hid hc2; have HB2 := Lib.hid hb2; clear hown2 hc2 hb2))
    | (go_at_call 43; ((with_reducible refine (HBK.out _ _ _ HC2.out).mono ?_); rintro e w3 ⟨v3, rfl, hown3, hb3⟩; obtain ⟨p3, q3, rfl, -, -, hc3⟩ := CellsOff.own hown3 [] (by simp); have HC3 := Lib.hid (hc3.below ((Below.refl _ _).alloc (Nat.le_refl _) (.cells #[.int .i64 gs, .bool gc, .slice p3 gh.length q3, .string gd] 68))); have HB3 := Lib.hid hb3; clear hown3 hc3 hb3))
    | (go_at_call 44; ((with_reducible refine (HWD.out _ _ _ HC3.out).mono ?_); rintro e w4 ⟨v4, rfl, hown4, hb4⟩; obtain ⟨p4, q4, rfl, -, -, hc4⟩ := CellsOff.own hown4 [] (by simp); have hX4 := Below.at hb4 (alloc_new _) (by simp); have HX4 := Lib.hid hX4; have HC4 := Lib.hid hc4; have HB4 := Lib.hid hb4; clear hown4 hc4 hb4 hX4)))
  have h2 : Below w.heap.size w w2 := HB1.out.trans (HB2.out.mono HB1.out.size)
  have h3 : Below w.heap.size w w3 := h2.trans (HB3.out.mono h2.size)
  have h4 : Below w.heap.size w w4 := (h3.alloc h3.size _).trans (HB4.out.mono (by have := h3.size; simp; omega))
  have hlx := block_lt HX4.out
  have H4 := Lib.hid h4
  clear f1 h2 h3 h4 HB1 HB2 HB3 HB4 HC2 HC3 HG HBK HWD HLV
  go_loopw [6, 7] (fun ac i wr => ∃ (m : Nat), m ≤ wl.length ∧ i = .int .i64 (m : Int) ∧ ac = .string (acc m) ∧ Below w4.heap.size w4 wr) (fun _ i _ => wl.length - (intOf i).toNat)
  case atStart => exact ⟨0, by omega, rfl, by rw [HA0.out], Below.refl _ _⟩
  case round =>
    obtain ⟨m, hm, rfl, rfl, hb⟩ := hrel
    obtain ⟨wo, rfl⟩ : ∃ x : World, x = wr := ⟨_, rfl⟩
    have hX := Below.at hb HX4.out hlx
    have fX := fun j => cell_at hX j
    have hlo := block_lt hX
    have HX := Lib.hid hX
    by_cases hml : m < wl.length
    · have hmI : (m : Int) < (wl.length : Int) := by omega
      obtain ⟨blk, off, rfl, -, c0⟩ := u_cell (HC4.out.below hb) hml
      have hRd := fun w' => HF.out m hml w'
      rw [HF2.out m hml] at hRd
      have hnx := HN.out m hml
      have hs1 := HAS.out m
      have hs2 := HFS.out m
      have hfa := HFA.out m
      have hwl := HWL.out
      generalize wl.getD m 0 = x at *
      have HB := Lib.hid hb
      clear hX hb HF HF2 HN
      by_cases h1 : m < gh.length
      · rw [if_pos h1, HH1.out] at hfa
        have h1I : (m : Int) < (gh.length : Int) := by omega
        rw [show decide (m + 1 < gh.length) = decide ((m : Int) + 1 < (gh.length : Int)) from decide_eq_decide.2 (by omega)] at hfa
        rw [hfa] at hRd hnx hs2
        dsimp only [Fl.val] at hRd hnx hs2
        generalize gh.getD m T2.zero = t at *
        have HRD := Lib.hid hRd
        have HNX := Lib.hid hnx
        generalize acc m = am at *
        clear hRd hnx hfa hwl
        go_wp2_with (go_at_call 45; ((with_reducible refine (HRD.out _).mono ?_); rintro e w5 ⟨rfl, hb5⟩; have hX5 := Below.at hb5 HX.out hlo; have hlo5 := block_lt hX5; have fX := fun j => cell_at hX5 j; have HB5 := Lib.hid hb5; clear hb5 hX5))
        go_roundw
        case rel => exact ⟨m + 1, by omega, by go_num, congrArg Value.string (by rw [← HNX.out]; first | rfl | exact ByteArray.append_empty.symm | simp), Below.alloc (HB.out.trans (HB5.out.mono HB.out.size)) (Nat.le_trans HB.out.size HB5.out.size) _⟩
        case measure => simp [intOf]; omega
      · rw [if_neg h1] at hfa
        have h1I : ¬ ((m : Int) < (gh.length : Int)) := by omega
        by_cases h2 : m - gh.length < nb
        · rw [if_pos h2] at hfa
          have h2b : ((m : Int) == (wl.length : Int) - 1) = false := beq_eq_false_iff_ne.2 (by omega)
          rw [hfa] at hRd hnx hs2
          unfold bodyFl at hRd hnx hs2
          dsimp only [Fl.val] at hRd hnx hs2
          generalize gd.extract (6 * (m - gh.length)) (6 * (m - gh.length) + 6) = dd at *
          have HRD := Lib.hid hRd
          have HNX := Lib.hid hnx
          generalize acc m = am at *
          clear hRd hnx hfa hwl
          go_wp2_with (go_at_call 45; ((with_reducible refine (HRD.out _).mono ?_); rintro e w5 ⟨rfl, hb5⟩; have hX5 := Below.at hb5 HX.out hlo; have hlo5 := block_lt hX5; have fX := fun j => cell_at hX5 j; have HB5 := Lib.hid hb5; clear hb5 hX5))
          go_roundw
          case rel => exact ⟨m + 1, by omega, by go_num, congrArg Value.string HNX.out, Below.alloc (HB.out.trans (HB5.out.mono HB.out.size)) (Nat.le_trans HB.out.size HB5.out.size) _⟩
          case measure => simp [intOf]; omega
        · rw [if_neg h2] at hfa
          have h2b : ((m : Int) == (wl.length : Int) - 1) = true := beq_iff_eq.2 (by omega)
          rw [hfa] at hRd hnx hs2
          unfold tailFl at hRd hnx hs2
          dsimp only [Fl.val] at hRd hnx hs2
          generalize gd.extract (6 * nBody gd) gd.size = dd at *
          have HRD := Lib.hid hRd
          have HNX := Lib.hid hnx
          generalize acc m = am at *
          clear hRd hnx hfa hwl
          go_wp2_with (go_at_call 45; ((with_reducible refine (HRD.out _).mono ?_); rintro e w5 ⟨rfl, hb5⟩; have hX5 := Below.at hb5 HX.out hlo; have hlo5 := block_lt hX5; have fX := fun j => cell_at hX5 j; have HB5 := Lib.hid hb5; clear hb5 hX5))
          go_roundw
          case rel => exact ⟨m + 1, by omega, by go_num, congrArg Value.string HNX.out, Below.alloc (HB.out.trans (HB5.out.mono HB.out.size)) (Nat.le_trans HB.out.size HB5.out.size) _⟩
          case measure => simp [intOf]; omega
    · obtain rfl : m = wl.length := by omega
      have hg : (gh.length : Int) < (wl.length : Int) := by have := HWL.out; omega
      rw [HAE.out]
      have HB := Lib.hid hb
      clear hX hb
      go_wp2
      go_ret
      exact ⟨rfl, H4.out.trans (HB.out.mono H4.out.size)⟩
end Go.Proofs.Ytmehfflomgldeab
