/- law11's words of a row of parcels. -/
import Derived.Test.YtmehfflomgldeaaJoinD
namespace Go.Proofs.Ytmehfflomgldeaa
set_option linter.unusedVariables false
set_option linter.unusedSimpArgs false
open Go.RowKit BM
theorem map_take_snoc {l : List PaM} {m : Nat} {p : PaM} (h : l[m]? = some p) : (l.map PaM.pa).take (m + 1) = (l.map PaM.pa).take m ++ [p.pa] := by
  rw [← List.map_take, ← List.map_take]; exact take_map_snoc h
theorem oneCell_UV (l : List Nat) : ∀ u ∈ l.map UV, u.oneCell' = true := fun u hu => by
  obtain ⟨x, _, rfl⟩ := List.mem_map.1 hu; rfl
theorem oneCell_P (l : List Pk) : ∀ u ∈ flatP l, u.oneCell' = true := fun u hu => by
  unfold flatP at hu
  obtain ⟨x, _, hx⟩ := List.mem_flatMap.1 hu
  simp [Pk.cells] at hx
  rcases hx with rfl | rfl | rfl | rfl <;> rfl
set_option maxRecDepth 100000 in
set_option maxHeartbeats 4000000 in
theorem law11_words (l : List PaM) (a : Option Addr) (c : Nat) (w : World) (hl : l.length ≤ maxLen) (h : ParcelsAt w a l) :
    Calls Try.prog 35 #[.slice a l.length c] w fun e w' => ∃ v u, e = .returned (.tuple #[v, u]) ∧ Pair w.heap.size 73 29 1 4 w' v u (wordsL ((l.map PaM.pa).take 8)).length (packetsL ((l.map PaM.pa).take 8)).length ((wordsL ((l.map PaM.pa).take 8)).map UV) (flatP (packetsL ((l.map PaM.pa).take 8))) ∧ Below w.heap.size w w' := by
  unfold maxLen at hl
  have HP := Lib.hid h
  clear h
  go_enter Try.func35, Try.ntmps35
  go_wp2
  go_loopw [4, 5, 6] (fun v u i wr => ∃ m : Nat, m ≤ l.length ∧ m ≤ 8 ∧ i = .int .i64 (m : Int) ∧ Pair w.heap.size 73 29 1 4 wr v u (wordsL ((l.map PaM.pa).take m)).length (packetsL ((l.map PaM.pa).take m)).length ((wordsL ((l.map PaM.pa).take m)).map UV) (flatP (packetsL ((l.map PaM.pa).take m))) ∧ Below w.heap.size w wr) (fun _ _ i _ => 8 - (intOf i).toNat)
  case atStart => exact ⟨0, by omega, by omega, rfl, ⟨World.ownsRow_nil _ _ _ _, World.ownsRow_nil _ _ _ _, fun k hk => by simp [Value.ownBlock] at hk⟩, Below.refl _ _⟩
  case round =>
    obtain ⟨m, hm, hm8, rfl, hQ, hb⟩ := hrel
    obtain ⟨wo, rfl⟩ : ∃ x : World, x = wr := ⟨_, rfl⟩
    have hsw := hb.size
    by_cases hml : m < l.length
    · have hmI : (m : Int) < (l.length : Int) := by omega
      by_cases hm7 : m < 8
      · have hm8I : (m : Int) < 8 := by omega
        obtain ⟨blk, off, ⟨pa, ha, hc⟩, hp, rfl, c0, c1, c2, c3, hH⟩ := HP.out m hml
        have hE := map_take_snoc hp
        dsimp only at *
        have hlt : blk < w.heap.size := World.block_lt_of_cell? w _ c0
        have d0 := (hb.cell (p := ⟨blk, _, none⟩) hlt).trans c0
        have d1 := (hb.cell (p := ⟨blk, _, none⟩) hlt).trans c1
        have d2 := (hb.cell (p := ⟨blk, _, none⟩) hlt).trans c2
        have d3 := (hb.cell (p := ⟨blk, _, none⟩) hlt).trans c3
        have hol := oneP_len pa
        have hWL := wordsL_len ((l.map PaM.pa).take m)
        have hll : ((l.map PaM.pa).take m).length ≤ 8 := by rw [List.length_take]; omega
        have HWS := Lib.hid (wordsL_snoc ((l.map PaM.pa).take m) pa)
        have HPS := Lib.hid (packetsL_snoc ((l.map PaM.pa).take m) pa)
        rw [← hE] at HWS HPS
        have HGo : Hid (∀ w', Below w.heap.size w w' → Calls Try.prog 52 #[.agg #[.int .i64 pa.src, .bool false, .slice ha pa.heads.length hc, .string pa.data]] w' fun e w'' => ∃ v, e = .returned (.agg #[.int .i64 (oneP pa).src, .bool (oneP pa).cast, v, .string (oneP pa).data]) ∧ w''.ownsRow w'.heap.size 101 2 v (oneP pa).heads.length (flatT (oneP pa).heads) ∧ Below w'.heap.size w' w'') := fun w' hb' =>
          rgood10 { pa with cast := false } ha hc w' (hH.below hb').1 hH.2.1 hH.2.2
        have HWo : Hid (∀ w' p q, CellsOff w' p (flatT (oneP pa).heads) [] → Calls Try.prog 51 #[.agg #[.int .i64 (oneP pa).src, .bool (oneP pa).cast, .slice p (oneP pa).heads.length q, .string (oneP pa).data]] w' fun e w'' => ∃ v, e = .returned (.tuple #[v, .int .i64 0]) ∧ w''.ownsRow w'.heap.size 73 1 v (wordsP (oneP pa)).length ((wordsP (oneP pa)).map UV) ∧ Below w'.heap.size w' w'') := fun w' p q hc' => rwords10 (oneP pa) p q w' hc' (oneP_right pa)
        have HPo : Hid (∀ w' p q, CellsOff w' p (flatT (oneP pa).heads) [] → Calls Try.prog 53 #[.agg #[.int .i64 (oneP pa).src, .bool (oneP pa).cast, .slice p (oneP pa).heads.length q, .string (oneP pa).data]] w' fun e w'' => ∃ v, e = .returned v ∧ w''.ownsRow w'.heap.size 29 4 v (oneP pa).heads.length (flatP (packetsP (oneP pa))) ∧ Below w'.heap.size w' w'') := fun w' p q hc' => rpackets10 (oneP pa) p q w' hc' (by rw [oneP_heads]; decide)
        have hoh := oneP_heads pa
        rw [hoh] at HGo HWo HPo
        generalize wordsL ((l.map PaM.pa).take m) = wl at *
        generalize packetsL ((l.map PaM.pa).take m) = pl at *
        generalize wordsP (oneP pa) = wp at *
        generalize packetsP (oneP pa) = pp at *
        generalize flatT (oneP pa).heads = ht at *
        generalize oneP pa = q0 at *
        obtain ⟨src, cast, heads, data⟩ := pa
        obtain ⟨gs, gc, gh, gd⟩ := q0
        dsimp only at *
        have HQ := Lib.hid hQ
        have HB := Lib.hid hb
        have HH := Lib.hid hH
        clear hQ hb hH c0 c1 c2 c3 hp hE hoh
        have HF1 : Hid (∀ k, u4.ownBlock = some k → k < wo.heap.size) := fun k hk => (HQ.out.fst.lt k hk).2
        have HF2 : Hid (∀ k, u5.ownBlock = some k → k < wo.heap.size) := fun k hk => (HQ.out.snd.lt k hk).2
        go_wp2_with (first
          | (go_at_call 52; ((with_reducible refine (HGo.out _ (by have hb := HB.out; repeat' (first | (with_reducible assumption) | (with_reducible refine below_setRowN ?_ ?_ _) | (with_reducible refine Below.setCell ?_ ?_ _) | (with_reducible refine below_drewN' ?_ _) | (with_reducible refine Below.drew ?_) | (with_reducible refine Below.alloc ?_ ?_ _) | (with_reducible exact Below.refl _ _) | (with_reducible exact Nat.le_refl _) | (simp; done) | omega | (simp; omega)))).mono ?_); rintro e w3 ⟨v3, rfl, hown3, hb3⟩; obtain ⟨p3, q3, rfl, -, -, hc3⟩ := CellsOff.own hown3 [wo.heap.size] (by simp); have hT3 := Below.at hb3 (alloc_new _) (by simp); have t3 := fun j => cell_at hT3 j; have u3 := fun j => frozen_at hT3 j; have hlt3 := block_lt hT3; have hq3 := (HQ.out.aft ((Below.refl _ _).alloc (Nat.le_refl _) _)).aft hb3; have HQ3 := Lib.hid hq3; have HT3 := Lib.hid hT3; have HO3 := Lib.hid hown3; have HC3 := Lib.hid hc3; have HB3 := Lib.hid hb3; clear hown3 hb3 hc3 hT3 hq3))
          | (go_at_call 51; ((with_reducible refine (HWo.out _ p3 q3 ((HC3.out.only (T := [wo.heap.size]) (by repeat' (first | (with_reducible assumption) | (with_reducible refine only_setRowN ?_ ?_ _) | (with_reducible exact Only.refl _ _) | (with_reducible refine Only.setCell ?_ ?_ _) | (with_reducible refine Only.drewN ?_ _) | (with_reducible refine Only.drew ?_) | (with_reducible refine Only.alloc ?_ _) | (simp; done) | (simp; omega))) (fun x hx => hx)).weak (by simp))).mono ?_); rintro e w4 ⟨v8, rfl, hown8, hb4⟩; obtain ⟨p8, q8, rfl, -, -, hc8⟩ := CellsOff.own hown8 [] (by simp); have hT4 := Below.at hb4 (stored4 HT3.out) (by simpa using hlt3); have hq4 := (HQ3.out.off (S := [wo.heap.size]) (by repeat' (first | (with_reducible assumption) | (with_reducible refine only_setRowN ?_ ?_ _) | (with_reducible exact Only.refl _ _) | (with_reducible refine Only.setCell ?_ ?_ _) | (with_reducible refine Only.drewN ?_ _) | (with_reducible refine Only.drew ?_) | (with_reducible refine Only.alloc ?_ _) | (simp; done) | (simp; omega))) (fun k hk => by have := HF1.out k hk; simp; omega) (fun k hk => by have := HF2.out k hk; simp; omega)).aft hb4; have hown34 := owns_aft (owns_off HO3.out (S := [wo.heap.size]) (by repeat' (first | (with_reducible assumption) | (with_reducible refine only_setRowN ?_ ?_ _) | (with_reducible exact Only.refl _ _) | (with_reducible refine Only.setCell ?_ ?_ _) | (with_reducible refine Only.drewN ?_ _) | (with_reducible refine Only.drew ?_) | (with_reducible refine Only.alloc ?_ _) | (simp; done) | (simp; omega))) (fun k hk => by have := (HO3.out.lt k hk).1; simp at this ⊢; omega)) hb4; have hs4 : w.heap.size ≤ w4.heap.size := (by have h1 := hb4.size; have h2 := HB3.out.size; simp at h1 h2; omega); have hf4 := hq4.fst; have HT4 := Lib.hid hT4; have HQ4 := Lib.hid hq4; have HB4 := Lib.hid hb4; have HO34 := Lib.hid hown34; clear hown8 hb4 hT4 hq4 hown34))
          | (go_at_call 53; ((with_reducible refine (HPo.out _ p3 q3 HC5.out).mono ?_); rintro e w6 ⟨v9, rfl, hown9, hb6⟩; have hl9 := hown9.1; obtain ⟨p9, q9, rfl, -, -, hc9⟩ := CellsOff.own hown9 [] (by simp); have hq6 := HQ5.out.aft hb6; have hs6 : w.heap.size ≤ w6.heap.size := (by have h1 := hb6.size; omega); have hf6 := hq6.snd; have HQ6 := Lib.hid hq6; have HB6 := Lib.hid hb6; clear hown9 hb6 hq6))
          | (at_builtin; first
              | (refine append_rows (W0 := w4) (wp.map UV) wp.length w.heap.size 62 73 _ 1 8 infoU64p Try.underlying62 rfl (by decide) _ _ _ hf4 (Below.refl _ _) hs4 _ _ (by simp) hc8 (oneCell_UV _) (by omega) (by decide) rfl _ _ rfl rfl rfl ?_; intro v5 w5 hown5 hb5 hg5 hor5; have hq5 := HQ4.out.first hg5 hor5 hown5; have hT5 := (hg5.block wo.heap.size (block_lt HT4.out) (fun e => Nat.lt_irrefl _ (HF1.out _ e.symm))).trans HT4.out; have t5 := fun j => cell_at hT5 j; have hc5 : CellsOff w5 p3 ht [] := (by obtain ⟨_, _, he, -, -, h5⟩ := CellsOff.own (owns_kept HO34.out hg5 (fun k hk e => by have h1 := (HO3.out.lt k hk).1; have h2 := HF1.out k e; simp at h1; omega)) [] (by simp); simp only [Value.slice.injEq] at he; obtain ⟨rfl, -, -⟩ := he; exact h5); have hs5 : w.heap.size ≤ w5.heap.size := Nat.le_trans hs4 hb5.size; have HC5 := Lib.hid hc5; have HQ5 := Lib.hid hq5; have HB5 := Lib.hid hb5; clear hq5 hown5 hb5 hg5 hor5 hT5 hc5 hf4 hc8)
              | (refine append_rows (W0 := w6) (flatP pp) 1 w.heap.size 35 29 _ 4 40 infoPk Try.underlying35 rfl (by decide) _ _ _ hf6 (Below.refl _ _) hs6 _ _ hl9 hc9 (oneCell_P _) (by omega) (by decide) rfl _ _ rfl rfl rfl ?_; intro v7 w7 hown7 hb7 hg7 hor7; have hq7 := HQ6.out.second hg7 hor7 hown7; have HQ7 := Lib.hid hq7; have HB7 := Lib.hid hb7; clear hq7 hown7 hb7 hg7 hor7)))
        go_roundw
        case rel =>
          have hb := HB.out
          have h1 : Below w.heap.size w w3 := (hb.alloc hb.size _).trans (HB3.out.mono (by simp; omega))
          have h2 := (((h1.setCell (p := ⟨wo.heap.size, 0, none⟩) hb.size (.int .i64 gs)).setCell (p := ⟨wo.heap.size, 1, none⟩) hb.size (.bool gc)).setCell (p := ⟨wo.heap.size, 2, none⟩) hb.size (.slice p3 1 q3)).setCell (p := ⟨wo.heap.size, 3, none⟩) hb.size (.string gd)
          have h4 : Below w.heap.size w w4 := h2.trans (HB4.out.mono (by have := h1.size; simp; omega))
          have hq := HQ7.out
          refine ⟨m + 1, by omega, by omega, by go_num, ?_, ((h4.trans HB5.out).trans (HB6.out.mono (by omega))).trans HB7.out⟩
          rw [HWS.out, HPS.out, List.length_append, List.length_append, List.map_append, hol.2]
          unfold flatP at *
          rw [List.flatMap_append]
          exact hq
        case measure => simp [intOf]; omega
      · have hm8I : ¬ ((m : Int) < 8) := by omega
        obtain rfl : m = 8 := by omega
        have HQ := Lib.hid hQ
        have HB := Lib.hid hb
        clear hQ hb
        go_wp2
        go_ret2
        exact ⟨u4, u5, rfl, HQ.out, HB.out⟩
    · have hmI : ¬ ((m : Int) < (l.length : Int)) := by omega
      have he : (l.map PaM.pa).take m = (l.map PaM.pa).take 8 := by rw [List.take_of_length_le (by rw [List.length_map]; omega), List.take_of_length_le (by rw [List.length_map]; omega)]
      rw [he] at hQ
      have HQ := Lib.hid hQ
      have HB := Lib.hid hb
      clear hQ hb he
      go_wp2
      go_ret2
      exact ⟨u4, u5, rfl, HQ.out, HB.out⟩
end Go.Proofs.Ytmehfflomgldeaa
