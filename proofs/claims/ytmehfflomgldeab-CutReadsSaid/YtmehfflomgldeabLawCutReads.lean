/- The walk of CutReads. -/
import Derived.Test.YtmehfflomgldeabCutI
namespace Go.Proofs.Ytmehfflomgldeab
set_option linter.unusedVariables false
set_option linter.unusedSimpArgs false
open Go.RowKit BM
theorem oneCell_UV (l : List Nat) : ∀ u ∈ l.map UV, u.oneCell' = true := fun u hu => by
  obtain ⟨x, _, rfl⟩ := List.mem_map.1 hu; rfl
theorem sameP_self (p : Pa) : sameP p p = true := by unfold sameP; simp
theorem readGo_len (l : List Nat) : ∀ p : Pa, (readGo p l).1.heads.length ≤ p.heads.length + l.length := by
  induction l with
  | nil => intro p; exact Nat.le_add_right _ _
  | cons x l ih =>
    intro p
    rw [readGo_cons]
    split
    · have h1 := ih (readStep p (readF x).1)
      have h2 : (readStep p (readF x).1).heads.length ≤ p.heads.length + 1 := by unfold readStep; split <;> simp
      rw [List.length_cons]; omega
    · simp [Pa.zero]
theorem readL_len (l : List Nat) : (readL l).1.heads.length ≤ l.length := by
  have h := readGo_len l Pa.zero
  unfold readL
  split
  · split
    · simpa [Pa.zero] using h
    · simp [Pa.zero]
  · simp [Pa.zero]
/-- A row of words that may be read. -/
def WordsAt (w : World) (v : Value) : Prop := ∃ (a : Option Addr) (L : List Nat) (c : Nat), v = .slice a L.length c ∧ L.length ≤ 1000 ∧ (∀ x ∈ L, x < 2 ^ 64) ∧ CellsOff w a (L.map UV) []
theorem WordsAt.below {w w' : World} {v : Value} (h : WordsAt w v) (hb : Below w.heap.size w w') : WordsAt w' v := by
  obtain ⟨a, L, c, h1, h2, h3, h4⟩ := h
  exact ⟨a, L, c, h1, h2, h3, h4.below hb⟩
set_option maxRecDepth 100000 in
set_option maxHeartbeats 4000000 in
theorem cutReads_walk (p : PaM) (at_ : Int) (o : List Nat) (b : Option Addr) (d : Nat) (w : World) (h : p.Here w) (ho : CellsOff w b (o.map UV) []) (hox : ∀ x ∈ o, x < 2 ^ 64) (hod : o.length ≤ d) :
    Calls Try.prog 10 #[.agg #[.int .i64 p.pa.src, .bool p.pa.cast, .slice p.ha p.pa.heads.length p.hc, .string p.pa.data], .int .i64 at_, .slice b o.length d] w fun e w' => e = .returned (.bool true) ∧ Below w.heap.size w w' := by
  have hG := fun w' hb => rgood10 p.pa p.ha p.hc w' (h.below (w' := w') hb).1 h.2.1 h.2.2
  have hr := good_right p.pa
  have hgh := good_heads p.pa
  have hgd := good_size p.pa
  have hW := fun w' a c h => rwords10 (goodP p.pa) a c w' h hr
  have hwl1 : (wordsP (goodP p.pa)).length ≤ 100 := by rw [wordsP_len]; unfold nBody; omega
  have hwl0 : 0 < (wordsP (goodP p.pa)).length := by rw [wordsP_len]; omega
  have hlt := words_lt (goodP p.pa)
  have hmn : min (o.length : Int) 20 = ((o.take 20).length : Int) := by rw [List.length_take]; omega
  have hon : (o.take 20).length ≤ 20 := by rw [List.length_take]; omega
  have hod2 : ((o.take 20).length : Int) ≤ (d : Int) := by rw [List.length_take]; omega
  have ho2 := ho.take 20
  rw [← List.map_take] at ho2
  have hox2 : ∀ x ∈ o.take 20, x < 2 ^ 64 := fun x hx => hox x (List.mem_of_mem_take hx)
  have hCR := fun L a c w h1 h2 h3 => cut_read L a c w h1 h2 h3
  have hRR := fun L a c w h1 h2 h3 => rread10 L a c w h1 h2 h3
  clear ho hox hgh hgd hr
  generalize o.take 20 = o2 at *
  generalize wordsP (goodP p.pa) = wl at *
  generalize goodP p.pa = g at *
  obtain ⟨gs, gc, gh, gd⟩ := g
  obtain ⟨⟨src, cast, heads, data⟩, ha, hc⟩ := p
  dsimp only [Pa.val] at *
  obtain ⟨k, hk, hkl⟩ : ∃ k : Nat, wrap64 ((IntKind.u64.wrap at_).tmod (wl.length : Int)) = (k : Int) ∧ k < wl.length := by
    have h : IntKind.u64.wrap at_ = at_ % 18446744073709551616 := by simp [IntKind.wrap, IntKind.bits, IntKind.signed]
    rw [h, Int.tmod_eq_emod_of_nonneg (by omega)]
    have h1 := Int.emod_nonneg (at_ % 18446744073709551616) (b := (wl.length : Int)) (by omega)
    have h2 := Int.emod_lt_of_pos (at_ % 18446744073709551616) (b := (wl.length : Int)) (by omega)
    refine ⟨(at_ % 18446744073709551616 % (wl.length : Int)).toNat, ?_⟩
    unfold wrap64
    omega
  have HG := Lib.hid hG
  have HWD := Lib.hid hW
  have HCR := Lib.hid hCR
  have HRR := Lib.hid hRR
  have HLT := Lib.hid hlt
  have HO2 := Lib.hid ho2
  have HOX := Lib.hid hox2
  have HLV := Lib.hid (fun w => lives10_calls w)
  have hkI : (k : Int) < (wl.length : Int) := by omega
  clear hG hW hCR hRR hlt ho2 hox2 h
  go_enter Try.func10, Try.ntmps10
  go_upto_region 7 with (first
    | (go_at_call 36; ((with_reducible refine (HLV.out _).mono ?_); rintro e w1 ⟨rfl, hb1⟩; have hX1 := Below.at hb1 (alloc_new _) (by simp); have f1 := fun j => cell_at hX1 j; have hB1 : Below w.heap.size w w1 := Below.trans ((Below.refl _ _).alloc (Nat.le_refl _) _) (hb1.mono (by simp)); have HB1 := Lib.hid hB1; clear hb1 hX1 hB1))
    | (go_at_call 38; ((with_reducible refine (HG.out _ HB1.out).mono ?_); rintro e w2 ⟨v2, rfl, hown2, hb2⟩; obtain ⟨p2, q2, rfl, -, -, hc2⟩ := CellsOff.own hown2 [] (by simp); have HC2 := Lib.hid hc2; have HB2 := Lib.hid hb2; clear hown2 hc2 hb2))
    | (go_at_call 37; ((with_reducible refine (HWD.out _ _ _ HC2.out).mono ?_); rintro e w4 ⟨v4, rfl, hown4, hb4⟩; obtain ⟨p4, q4, rfl, hq4, -, hc4⟩ := CellsOff.own hown4 [] (by simp); have HC4 := Lib.hid hc4; have HB4 := Lib.hid hb4; clear hown4 hc4 hb4)))
  rw [hk]
  clear hk f1
  have hco4 := (HO2.out.below HB1.out)
  have h2 : Below w.heap.size w w2 := HB1.out.trans (HB2.out.mono HB1.out.size)
  have h4 : Below w.heap.size w w4 := h2.trans (HB4.out.mono h2.size)
  have HO24 := Lib.hid (HO2.out.below h4)
  have H4 := Lib.hid h4
  clear h2 h4 hco4
  obtain ⟨blk4, off4, rfl, -, -⟩ := u_cell HC4.out (show 0 < wl.length by omega)
  have hqk : ¬ (q4 = k) := by omega
  go_upto_region 8 with (at_builtin; refine append_rows (W0 := w4) ((wl.take k).map UV) k w4.heap.size 61 33 _ 1 8 infoU64p Try.underlying61 rfl (by decide) _ _ _ (World.ownsRow_nil _ _ _ _) (Below.refl _ _) (Nat.le_refl _) _ _ (by simp; omega) (by rw [List.map_take]; exact HC4.out.take k) (oneCell_UV _) (by omega) (by decide) rfl _ _ rfl rfl rfl ?_; intro v5 w5 hown5 hb5 hg5 hor5; rw [Nat.zero_add, List.nil_append] at hown5; obtain ⟨p5, q5, rfl, -, -, -⟩ := CellsOff.own hown5 [] (by simp); have HO5 := Lib.hid hown5; have HB5 := Lib.hid hb5; clear hown5 hb5 hg5 hor5)
  have hs5 : w4.heap.size ≤ w5.heap.size := HB5.out.size
  have HC45 := Lib.hid (HC4.out.below HB5.out)
  go_cut [10] (fun v10 wx => WordsAt wx v10 ∧ Below w4.heap.size w4 wx)
  case first =>
    have hX : ∀ x ∈ wl.take k ++ wl.drop (k + 1), x < 2 ^ 64 := fun x hx => by
      rcases List.mem_append.1 hx with h | h
      · exact HLT.out x (List.mem_of_mem_take h)
      · exact HLT.out x (List.mem_of_mem_drop h)
    have hXl : (wl.take k ++ wl.drop (k + 1)).length = k + (wl.length - (k + 1)) := by rw [List.length_append, List.length_take, List.length_drop]; omega
    have HX := Lib.hid hX
    have HXL := Lib.hid hXl
    clear hX hXl
    by_cases hq : q4 = k + 1
    · subst hq
      go_wp2_with (at_builtin; refine append_rows (W0 := w5) [] 0 w4.heap.size 61 33 _ 1 8 infoU64p Try.underlying61 rfl (by decide) _ _ _ HO5.out (Below.refl _ _) hs5 _ _ rfl CellsOff.nil (by simp) (by omega) (by decide) rfl _ _ rfl rfl rfl ?_; intro v6 w6 hown6 hb6 hg6 hor6; rw [Nat.add_zero, List.append_nil] at hown6; obtain ⟨p6, q6, rfl, -, -, hc6⟩ := CellsOff.own hown6 [] (by simp); have HC6 := Lib.hid hc6; have HB6 := Lib.hid hb6; clear hown6 hb6 hg6 hor6 hc6)
      go_meet
      exact ⟨⟨p6, wl.take k, q6, by rw [List.length_take, Nat.min_eq_left (by omega)], by rw [List.length_take]; omega, fun x hx => HLT.out x (List.mem_of_mem_take hx), HC6.out⟩, HB5.out.trans HB6.out⟩
    · have hq1 : k + 1 < q4 := by omega
      have hq2 : ¬ (q4 - (k + 1) = 0) := by omega
      go_wp2_with (at_builtin; refine append_rows (W0 := w5) ((wl.drop (k + 1)).map UV) (wl.length - (k + 1)) w4.heap.size 61 33 _ 1 8 infoU64p Try.underlying61 rfl (by decide) _ _ _ HO5.out (Below.refl _ _) hs5 _ _ (by simp) (by rw [List.map_drop]; exact HC45.out.dropAt (k + 1)) (oneCell_UV _) (by omega) (by decide) rfl _ _ rfl rfl rfl ?_; intro v6 w6 hown6 hb6 hg6 hor6; obtain ⟨p6, q6, rfl, -, -, hc6⟩ := CellsOff.own hown6 [] (by simp); have HC6 := Lib.hid hc6; have HB6 := Lib.hid hb6; clear hown6 hb6 hg6 hor6 hc6)
      go_meet
      refine ⟨⟨p6, _, q6, by rw [HXL.out], by rw [HXL.out]; omega, HX.out, ?_⟩, HB5.out.trans HB6.out⟩
      have h := HC6.out
      rw [← List.map_append] at h
      exact h
  case rest =>
  obtain ⟨hless, hb6⟩ := hcut
  obtain ⟨w6, rfl⟩ : ∃ x : World, x = wc := ⟨_, rfl⟩
  have hs46 := hb6.size
  have HC46 := Lib.hid (HC4.out.below hb6)
  have H6 := Lib.hid (H4.out.trans (hb6.mono H4.out.size))
  have HO26 := Lib.hid (HO24.out.below hb6)
  have HLESS := Lib.hid hless
  clear hless hb6 HO5 HB5 HC45 hs5
  go_upto_region 11 with (at_builtin; refine append_rows (W0 := w6) ((wl.take (k + 1)).map UV) (k + 1) w6.heap.size 61 33 _ 1 8 infoU64p Try.underlying61 rfl (by decide) _ _ _ (World.ownsRow_nil _ _ _ _) (Below.refl _ _) (Nat.le_refl _) _ _ (by simp; omega) (by rw [List.map_take]; exact HC46.out.take (k + 1)) (oneCell_UV _) (by omega) (by decide) rfl _ _ rfl rfl rfl ?_; intro v7 w7 hown7 hb7 hg7 hor7; rw [Nat.zero_add, List.nil_append] at hown7; obtain ⟨p7, q7, rfl, -, -, -⟩ := CellsOff.own hown7 [] (by simp); have HO7 := Lib.hid hown7; have HB7 := Lib.hid hb7; clear hown7 hb7 hg7 hor7)
  have hs7 : w6.heap.size ≤ w7.heap.size := HB7.out.size
  have HC47 := Lib.hid (HC46.out.below HB7.out)
  go_upto_region 12 with (at_builtin; refine append_rows (W0 := w7) ((wl.drop k).map UV) (wl.length - k) w6.heap.size 61 33 _ 1 8 infoU64p Try.underlying61 rfl (by decide) _ _ _ HO7.out (Below.refl _ _) hs7 _ _ (by simp) (by rw [List.map_drop]; exact HC47.out.dropAt k) (oneCell_UV _) (by omega) (by decide) rfl _ _ rfl rfl rfl ?_; intro v8 w8 hown8 hb8 hg8 hor8; obtain ⟨p8, q8, rfl, -, -, hc8⟩ := CellsOff.own hown8 [] (by simp); have HC8 := Lib.hid hc8; have HB8 := Lib.hid hb8; clear hown8 hb8 hg8 hor8 hc8)
  have hX8 : ∀ x ∈ wl.take (k + 1) ++ wl.drop k, x < 2 ^ 64 := fun x hx => by
    rcases List.mem_append.1 hx with h | h
    · exact HLT.out x (List.mem_of_mem_take h)
    · exact HLT.out x (List.mem_of_mem_drop h)
  have hX8l : (wl.take (k + 1) ++ wl.drop k).length = k + 1 + (wl.length - k) := by rw [List.length_append, List.length_take, List.length_drop]; omega
  have htw : WordsAt w8 (.slice p8 (k + 1 + (wl.length - k)) q8) := ⟨p8, _, q8, by rw [hX8l], by rw [hX8l]; omega, hX8, by have h := HC8.out; rw [← List.map_append] at h; exact h⟩
  have hb8 : Below w6.heap.size w6 w8 := HB7.out.trans HB8.out
  have hle8 := HLESS.out.below hb8
  obtain ⟨a3, L3, c3, rfl, -, -, -⟩ := HLESS.out
  have ho8 : WordsAt w8 (.slice b o2.length d) := ⟨b, o2, d, rfl, by omega, HOX.out, HO26.out.below hb8⟩
  have hw8 : WordsAt w8 (.slice (some ⟨blk4, off4, none⟩) wl.length q4) := ⟨_, wl, q4, rfl, by omega, HLT.out, HC46.out.below hb8⟩
  have h8 : Below w.heap.size w w8 := H6.out.trans (hb8.mono H6.out.size)
  have hd8 : Below w8.heap.size w8 (w8.alloc (.cells #[.slice b o2.length d, .slice (some ⟨blk4, off4, none⟩) wl.length q4, .slice a3 L3.length c3, .slice p8 (k + 1 + (wl.length - k)) q8] 61)) := (Below.refl _ _).alloc (Nat.le_refl _) _
  obtain ⟨VS, hVS⟩ : ∃ VS : Array Value, VS = #[.slice b o2.length d, .slice (some ⟨blk4, off4, none⟩) wl.length q4, .slice a3 L3.length c3, .slice p8 (k + 1 + (wl.length - k)) q8] := ⟨_, rfl⟩
  have HAll : Hid (∀ m : Nat, m < 4 → ∃ v, VS[m]? = some v ∧ WordsAt w8 v) := fun m hm => by
    rw [hVS]
    match m, hm with
    | 0, _ => exact ⟨_, rfl, ho8⟩
    | 1, _ => exact ⟨_, rfl, hw8⟩
    | 2, _ => exact ⟨_, rfl, hle8⟩
    | 3, _ => exact ⟨_, rfl, htw⟩
  have HVS := Lib.hid hVS
  have H8 := Lib.hid h8
  clear hX8 hX8l htw hb8 hle8 ho8 hw8 h8 hd8 HO7 HB7 HC47 hs7 HC8 HB8 HC46 HO26 HLESS H6 hs46 hVS hqk
  go_wp2
  have hV9 : (w8.alloc (.cells #[.slice b o2.length d, .slice (some ⟨blk4, off4, none⟩) wl.length q4, .slice a3 L3.length c3, .slice p8 (k + 1 + (wl.length - k)) q8] 61)).heap[w8.heap.size]? = some (.cells VS 61 (0, 0)) := by rw [HVS.out]; exact alloc_new _
  have h9 : Below w.heap.size w (w8.alloc (.cells #[.slice b o2.length d, .slice (some ⟨blk4, off4, none⟩) wl.length q4, .slice a3 L3.length c3, .slice p8 (k + 1 + (wl.length - k)) q8] 61)) := H8.out.alloc H8.out.size _
  have hAll9 : ∀ m : Nat, m < 4 → ∃ v, VS[m]? = some v ∧ WordsAt (w8.alloc (.cells #[.slice b o2.length d, .slice (some ⟨blk4, off4, none⟩) wl.length q4, .slice a3 L3.length c3, .slice p8 (k + 1 + (wl.length - k)) q8] 61)) v := fun m hm => by
    obtain ⟨v, h1, h2⟩ := HAll.out m hm
    exact ⟨v, h1, h2.below ((Below.refl _ _).alloc (Nat.le_refl _) _)⟩
  have hl9 := block_lt hV9
  have HV9 := Lib.hid hV9
  have H9 := Lib.hid h9
  have HAll9 := Lib.hid hAll9
  clear hV9 h9 hAll9 HAll HVS H8
  generalize w8.alloc (.cells #[.slice b o2.length d, .slice (some ⟨blk4, off4, none⟩) wl.length q4, .slice a3 L3.length c3, .slice p8 (k + 1 + (wl.length - k)) q8] 61) = w9 at *
  go_loopw [13] (fun i wr => ∃ (m : Nat), m ≤ 4 ∧ i = .int .i64 (m : Int) ∧ Below w9.heap.size w9 wr) (fun i _ => 4 - (intOf i).toNat)
  case atStart => exact ⟨0, by omega, rfl, Below.refl _ _⟩
  case round =>
    obtain ⟨m, hm, rfl, hb⟩ := hrel
    obtain ⟨wo, rfl⟩ : ∃ x : World, x = wr := ⟨_, rfl⟩
    by_cases hm4 : m < 4
    · have hmI : (m : Int) < 4 := by omega
      obtain ⟨v, hv, pa, L, pc, rfl, hL, hL64, hcL⟩ := HAll9.out m hm4
      have hc0 := (cell_at (Below.at hb HV9.out hl9) m).trans hv
      have hrl := readL_len L
      have hC1 := fun w' (hw : Below w9.heap.size w9 w') => HCR.out L pa pc w' (by omega) hL64 (hcL.below hw)
      have hC2 := fun w' (hw : Below w9.heap.size w9 w') => HRR.out L pa pc w' (by omega) hL64 (hcL.below hw)
      have hAS := fun w' a c h => as10 (readL L).1 a c w' h (by omega)
      have hSM := fun w' a b c d h1 h2 => rsame10 (readL L).1 (readL L).1 a b c d w' (by omega) h1 h2
      rw [sameP_self] at hSM
      have hcb := (Below.at hb HV9.out hl9)
      have HCB := Lib.hid (fun w' (hw : Below wo.heap.size wo w') => (cell_at (Below.at hw hcb (block_lt hcb)) m).trans hv)
      have HB := Lib.hid hb
      generalize (readL L).2 = er at *
      generalize (readL L).1 = q at *
      obtain ⟨qs, qc, qh, qd⟩ := q
      dsimp only [Pa.val] at *
      have HC1 := Lib.hid hC1
      have HC2 := Lib.hid hC2
      have HAS := Lib.hid hAS
      have HSM := Lib.hid hSM
      clear hC1 hC2 hAS hSM hb hcb hv hL64 hcL
      go_upto_region 18 with (first
        | (go_at_call 39; ((with_reducible refine (HC1.out _ HB.out).mono ?_); rintro e w10 ⟨v10, rfl, hown10, hb10⟩; obtain ⟨p10, q10, rfl, -, -, hc10⟩ := CellsOff.own hown10 [] (by simp); have hz10 : w8.heap.size < w10.heap.size := (by have := hb10.size; have := HB.out.size; omega); have c10 := HCB.out _ hb10; have HC10 := Lib.hid hc10; have HB10 := Lib.hid hb10; clear hown10 hc10 hb10))
        | (go_at_call 40; ((with_reducible refine (HC2.out _ ((HB.out.trans (HB10.out.mono HB.out.size)).alloc (Nat.le_trans HB.out.size HB10.out.size) _)).mono ?_); rintro e w11 ⟨v11, rfl, hown11, hb11⟩; obtain ⟨p11, q11, rfl, -, -, hc11⟩ := CellsOff.own hown11 [] (by simp); have hA11 := Below.at hb11 (alloc_new _) (by simp); have HA11 := Lib.hid hA11; have HC11 := Lib.hid hc11; have HB11 := Lib.hid hb11; clear hown11 hc11 hb11 hA11)))
      have hA12 := alloc_old HA11.out (.cells #[.int .i64 qs, .bool qc, .slice p11 qh.length q11, .string qd] 60)
      have hB12 := alloc_new (w := w11) (.cells #[.int .i64 qs, .bool qc, .slice p11 qh.length q11, .string qd] 60)
      have hc12 := (HC10.out.below ((Below.refl _ _).alloc (Nat.le_refl _) (.cells #[.int .i64 qs, .bool qc, .slice p10 qh.length q10, .string qd] 68))).below HB11.out |>.below ((Below.refl _ _).alloc (Nat.le_refl _) (.cells #[.int .i64 qs, .bool qc, .slice p11 qh.length q11, .string qd] 60))
      have hd12 := HC11.out.below ((Below.refl _ _).alloc (Nat.le_refl _) (.cells #[.int .i64 qs, .bool qc, .slice p11 qh.length q11, .string qd] 60))
      have h10 : Below w9.heap.size w9 w10 := HB.out.trans (HB10.out.mono HB.out.size)
      have h11 : Below w9.heap.size w9 w11 := (h10.alloc h10.size _).trans (HB11.out.mono (by have := h10.size; simp; omega))
      have h12 : Below w9.heap.size w9 (w11.alloc (.cells #[.int .i64 qs, .bool qc, .slice p11 qh.length q11, .string qd] 60)) := h11.alloc h11.size _
      clear h10 h11 c10 hz10 HC1 HC2 HCB HB HB10 HC10 HA11 HB11 HC11
      generalize w11.alloc (.cells #[.int .i64 qs, .bool qc, .slice p11 qh.length q11, .string qd] 60) = w12 at *
      have HX : Hid (∀ w', Below w12.heap.size w12 w' → ((∀ j, w'.cell? ⟨w10.heap.size, j, none⟩ = (#[.int .i64 qs, .bool qc, .slice p10 qh.length q10, .string qd] : Array Value)[j]?) ∧ (∀ j, w'.cell? ⟨w11.heap.size, j, none⟩ = (#[.int .i64 qs, .bool qc, .slice p11 qh.length q11, .string qd] : Array Value)[j]?))) := fun w' hb => ⟨fun j => cell_at (Below.at hb hA12 (block_lt hA12)) j, fun j => cell_at (Below.at hb hB12 (block_lt hB12)) j⟩
      have H12 := Lib.hid h12
      have HC12 := Lib.hid hc12
      have HD12 := Lib.hid hd12
      clear hA12 hB12 h12 hc12 hd12
      refine wp_region_held_drew (S := (fun w' => ((∀ j, w'.cell? ⟨w10.heap.size, j, none⟩ = (#[.int .i64 qs, .bool qc, .slice p10 qh.length q10, .string qd] : Array Value)[j]?) ∧ (∀ j, w'.cell? ⟨w11.heap.size, j, none⟩ = (#[.int .i64 qs, .bool qc, .slice p11 qh.length q11, .string qd] : Array Value)[j]?)))) (by kernel_rfl) ?_ (fun hHeld0 => ?_)
      · (try dsimp only); exact HX.out _ (by repeat' (first | (with_reducible assumption) | (with_reducible refine below_setRowN ?_ ?_ _) | (with_reducible refine Below.setCell ?_ ?_ _) | (with_reducible refine below_drewN' ?_ _) | (with_reducible refine Below.drew ?_) | (with_reducible refine Below.alloc ?_ ?_ _) | (with_reducible exact Below.refl _ _) | (with_reducible exact Nat.le_refl _) | (simp; done) | omega | (simp; omega)))
      refine wpAnyH_take (i := 0) (v := ?_) rfl (by kernel_rfl) (by kernel_rfl) (by kernel_rfl) (fun _ _ _ h => h) (Or.inl ⟨by rfl, ?_⟩) (by assumption) ?_
      rotate_left
      · (intro w hSw; (try dsimp only at hSw); go_simp; try with_reducible rfl)
      (try simp only [Act.put, List.setIfInBounds_toArray, List.set_cons_zero, List.set_cons_succ, List.getElem_toArray, List.getElem_cons_zero, List.getElem_cons_succ])
      refine wpAnyH_take (i := 2) (v := ?_) rfl (by kernel_rfl) (by kernel_rfl) (by kernel_rfl) (fun _ _ _ h => h) (Or.inl ⟨by rfl, ?_⟩) (by assumption) ?_
      rotate_left
      · (intro w hSw; (try dsimp only at hSw); go_simp; try with_reducible rfl)
      (try simp only [Act.put, List.setIfInBounds_toArray, List.set_cons_zero, List.set_cons_succ, List.getElem_toArray, List.getElem_cons_zero, List.getElem_cons_succ])
      refine wpAnyH_ready (rs := [1]) (by kernel_rfl) (by simp) ?_
      refine AllReadyH.cons rfl (fun K hK => ?_) ?_
      · (go_simp; go_at_call 42; (with_reducible refine (HAS.out _ _ _ ?_).mono ?_); exact HC12.out.below (by repeat' (first | (with_reducible assumption) | (with_reducible refine below_setRowN ?_ ?_ _) | (with_reducible refine Below.setCell ?_ ?_ _) | (with_reducible refine below_drewN' ?_ _) | (with_reducible refine Below.drew ?_) | (with_reducible refine Below.alloc ?_ ?_ _) | (with_reducible exact Below.refl _ _) | (with_reducible exact Nat.le_refl _) | (simp; done) | omega | (simp; omega))); rintro e w13 ⟨v13, rfl, hown13, hb13⟩; obtain ⟨p13, q13, rfl, -, -, hc13⟩ := CellsOff.own hown13 [] (by simp); have hcur : Below w12.heap.size w12 w13 := (Below.trans (by repeat' (first | (with_reducible assumption) | (with_reducible refine below_setRowN ?_ ?_ _) | (with_reducible refine Below.setCell ?_ ?_ _) | (with_reducible refine below_drewN' ?_ _) | (with_reducible refine Below.drew ?_) | (with_reducible refine Below.alloc ?_ ?_ _) | (with_reducible exact Below.refl _ _) | (with_reducible exact Nat.le_refl _) | (simp; done) | omega | (simp; omega))) (hb13.mono (by first | (simp; done) | omega | (simp; omega)))); have hcs := hcur.size; have HC13 := Lib.hid hc13; have HD13 := Lib.hid (HD12.out.below hcur); clear hown13 hc13)
        refine hK.out _ _ ?_ (fun hHeld1 => ?_)
        · (try dsimp only); exact HX.out _ (by repeat' (first | (with_reducible assumption) | (with_reducible refine below_setRowN ?_ ?_ _) | (with_reducible refine Below.setCell ?_ ?_ _) | (with_reducible refine below_drewN' ?_ _) | (with_reducible refine Below.drew ?_) | (with_reducible refine Below.alloc ?_ ?_ _) | (with_reducible exact Below.refl _ _) | (with_reducible exact Nat.le_refl _) | (simp; done) | omega | (simp; omega)))
        clear hK K hHeld0
        (try simp only [Act.put, List.setIfInBounds_toArray, List.set_cons_zero, List.set_cons_succ, List.getElem_toArray, List.getElem_cons_zero, List.getElem_cons_succ])
        refine wpAnyH_ready (rs := [3]) (by kernel_rfl) (by simp) ?_
        refine AllReadyH.cons rfl (fun K hK => ?_) ?_
        · (go_simp; go_at_call 41; (with_reducible refine (HSM.out _ _ _ _ _ ?_ ?_).mono ?_); exact HC13.out; exact HD13.out; rintro e w14 ⟨rfl, hb14⟩; have hcur4 : Below w12.heap.size w12 w14 := (Below.trans (by repeat' (first | (with_reducible assumption) | (with_reducible refine below_setRowN ?_ ?_ _) | (with_reducible refine Below.setCell ?_ ?_ _) | (with_reducible refine below_drewN' ?_ _) | (with_reducible refine Below.drew ?_) | (with_reducible refine Below.alloc ?_ ?_ _) | (with_reducible exact Below.refl _ _) | (with_reducible exact Nat.le_refl _) | (simp; done) | omega | (simp; omega))) (hb14.mono (by first | (simp; done) | omega | (simp; omega)))); have hcs4 := hcur4.size)
          refine hK.out _ _ ?_ (fun hHeld2 => ?_)
          · (try dsimp only); exact HX.out _ (by repeat' (first | (with_reducible assumption) | (with_reducible refine below_setRowN ?_ ?_ _) | (with_reducible refine Below.setCell ?_ ?_ _) | (with_reducible refine below_drewN' ?_ _) | (with_reducible refine Below.drew ?_) | (with_reducible refine Below.alloc ?_ ?_ _) | (with_reducible exact Below.refl _ _) | (with_reducible exact Nat.le_refl _) | (simp; done) | omega | (simp; omega)))
          clear hK K hHeld1
          (try simp only [Act.put, List.setIfInBounds_toArray, List.set_cons_zero, List.set_cons_succ, List.getElem_toArray, List.getElem_cons_zero, List.getElem_cons_succ])
          refine wpAnyH_take (i := 4) (v := ?_) rfl (by kernel_rfl) (by kernel_rfl) (by kernel_rfl) (fun _ _ _ h => h) (Or.inl ⟨by rfl, ?_⟩) (by assumption) ?_
          rotate_left
          · (intro w hSw; (try dsimp only at hSw); go_simp; try with_reducible rfl)
          (try simp only [Act.put, List.setIfInBounds_toArray, List.set_cons_zero, List.set_cons_succ, List.getElem_toArray, List.getElem_cons_zero, List.getElem_cons_succ])
          refine wpAnyH_take (i := 5) (v := ?_) rfl (by kernel_rfl) (by kernel_rfl) (by kernel_rfl) (fun _ _ _ h => h) (Or.inl ⟨by rfl, ?_⟩) (by assumption) ?_
          rotate_left
          · (intro w hSw; (try dsimp only at hSw); go_simp; try with_reducible rfl)
          (try simp only [Act.put, List.setIfInBounds_toArray, List.set_cons_zero, List.set_cons_succ, List.getElem_toArray, List.getElem_cons_zero, List.getElem_cons_succ])
          refine wpAnyH_take (i := 6) (v := ?_) rfl (by kernel_rfl) (by kernel_rfl) (by kernel_rfl) (fun _ _ _ h => h) (Or.inl ⟨by rfl, ?_⟩) (by assumption) ?_
          rotate_left
          · (intro w hSw; (try dsimp only at hSw); go_simp; try with_reducible rfl)
          (try simp only [Act.put, List.setIfInBounds_toArray, List.set_cons_zero, List.set_cons_succ, List.getElem_toArray, List.getElem_cons_zero, List.getElem_cons_succ])
          refine wpAnyH_take (i := 7) (v := ?_) rfl (by kernel_rfl) (by kernel_rfl) (by kernel_rfl) (fun _ _ _ h => h) (Or.inl ⟨by rfl, ?_⟩) (by assumption) ?_
          rotate_left
          · (intro w hSw; (try dsimp only at hSw); go_simp; try with_reducible rfl)
          (try simp only [Act.put, List.setIfInBounds_toArray, List.set_cons_zero, List.set_cons_succ, List.getElem_toArray, List.getElem_cons_zero, List.getElem_cons_succ])
          refine wpAnyH_take (i := 8) (v := ?_) rfl (by kernel_rfl) (by kernel_rfl) (by kernel_rfl) (fun _ _ _ h => h) (Or.inl ⟨by rfl, ?_⟩) (by assumption) ?_
          rotate_left
          · (intro w hSw; (try dsimp only at hSw); go_simp; try with_reducible rfl)
          (try simp only [Act.put, List.setIfInBounds_toArray, List.set_cons_zero, List.set_cons_succ, List.getElem_toArray, List.getElem_cons_zero, List.getElem_cons_succ])
          refine wpAnyH_take (i := 9) (v := ?_) rfl (by kernel_rfl) (by kernel_rfl) (by kernel_rfl) (fun _ _ _ h => h) (Or.inl ⟨by rfl, ?_⟩) (by assumption) ?_
          rotate_left
          · (intro w hSw; (try dsimp only at hSw); go_simp; try with_reducible rfl)
          (try simp only [Act.put, List.setIfInBounds_toArray, List.set_cons_zero, List.set_cons_succ, List.getElem_toArray, List.getElem_cons_zero, List.getElem_cons_succ])
          refine wpAnyH_done (by kernel_rfl) ?_ _
          go_wp2
          go_roundw
          case rel => exact ⟨m + 1, by omega, by go_num, H12.out.trans (hcur4.mono H12.out.size)⟩
          case measure => simp [intOf]; omega
        exact AllReadyH.nil
      exact AllReadyH.nil
    · obtain rfl : m = 4 := by omega
      go_wp2
      go_ret
      exact ⟨rfl, H9.out.trans (hb.mono H9.out.size)⟩
theorem cutReads_walkI (p : PaM) (at_ : Int) (o : List Int) (b : Option Addr) (d : Nat) (w : World) (h : p.Here w) (ho : IntsAt .u64 w b o) (hox : ∀ x ∈ o, 0 ≤ x ∧ x < 18446744073709551616) (hod : o.length ≤ d) :
    Calls Try.prog 10 #[.agg #[.int .i64 p.pa.src, .bool p.pa.cast, .slice p.ha p.pa.heads.length p.hc, .string p.pa.data], .int .i64 at_, .slice b o.length d] w fun e w' => e = .returned (.bool true) ∧ Below w.heap.size w w' := by
  have hl2 : o.length = (o.map Int.toNat).length := by rw [List.length_map]
  have h64 : ∀ x ∈ o.map Int.toNat, x < 2 ^ 64 := fun x hx => by
    obtain ⟨y, hy, rfl⟩ := List.mem_map.1 hx
    have := hox y hy; omega
  have hc : CellsOff w b ((o.map Int.toNat).map UV) [] := by
    have h1 : (o.map Int.toNat).map UV = o.map (Value.int .u64) := by
      rw [List.map_map]
      exact List.map_congr_left fun x hx => by have := (hox x hx).1; simp [UV]; omega
    rw [h1]
    intro i u hu
    rw [List.getElem?_map] at hu
    cases hi : o[i]? with
    | none => rw [hi] at hu; simp at hu
    | some y =>
      rw [hi] at hu
      simp at hu
      obtain ⟨blk, off, e1, hcell⟩ := ho i (List.getElem?_eq_some_iff.1 hi).1
      exact ⟨blk, off, e1, by simp, by rw [hcell, ← hu, List.getD_eq_getElem?_getD, hi]; rfl⟩
  rw [hl2]
  exact cutReads_walk p at_ _ b d w h hc h64 (by omega)
end Go.Proofs.Ytmehfflomgldeab
