/- The walk of CutWords. -/
import Derived.Test.YtmehfflomgldeabCutI
namespace Go.Proofs.Ytmehfflomgldeab
set_option linter.unusedVariables false
set_option linter.unusedSimpArgs false
open Go.RowKit BM
theorem drew_at {w : World} {b : Nat} {o : Obj} (hb : w.heap[b]? = some o) : w.drew.heap[b]? = some o := hb
theorem owns_setRow {w : World} {base : Nat} {e : TypeId} {size : Nat} {v : Value} {n : Nat} {xs : List Value} {g : Nat} (h : w.ownsRow base e size v n xs) (hg : ∀ k, v.ownBlock = some k → k ≠ g) (cs : Array Value) : (w.setRow g cs).ownsRow base e size v n xs :=
  owns_off h (S := [g]) (only_setRowN (Only.refl _ _) (.inl (by simp)) cs) (fun k hk => by have := hg k hk; simp [this])
theorem cells_own {w : World} {base : Nat} {e : TypeId} {size : Nat} {a : Option Addr} {n c : Nat} {xs : List Value} (h : w.ownsRow base e size (.slice a n c) n xs) : CellsOff w a xs [] := by
  obtain ⟨_, _, he, -, -, hc⟩ := CellsOff.own h [] (by simp)
  simp only [Value.slice.injEq, true_and] at he
  obtain ⟨rfl, rfl⟩ := he
  exact hc
set_option maxRecDepth 100000 in
set_option maxHeartbeats 8000000 in
theorem cutWords_walk (p q : PaM) (w : World) (hp : p.Here w) (hq : q.Here w) :
    Calls Try.prog 13 #[.agg #[.int .i64 p.pa.src, .bool p.pa.cast, .slice p.ha p.pa.heads.length p.hc, .string p.pa.data], .agg #[.int .i64 q.pa.src, .bool q.pa.cast, .slice q.ha q.pa.heads.length q.hc, .string q.pa.data]] w fun e w' => e = .returned (.bool true) ∧ Below w.heap.size w w' := by
  have hBP := fun w' (hb : Below w.heap.size w w') => back10 p.pa p.ha p.hc w' (hp.below hb).1 hp.2.1 hp.2.2
  have hBQ := fun w' (hb : Below w.heap.size w w') => back10 q.pa q.ha q.hc w' (hq.below hb).1 hq.2.1 hq.2.2
  have hxl : (backP p.pa).heads.length ≤ 12 := by unfold backP; dsimp only; rw [List.length_take]; omega
  have hyl : (backP q.pa).heads.length ≤ 12 := by unfold backP; dsimp only; rw [List.length_take]; omega
  generalize backP p.pa = xp at *
  generalize backP q.pa = yp at *
  have hWX := fun w' a c h => cut_words_any xp a c w' (by unfold maxLen; omega) h
  have hRW := fun w' a c h => rwords_any xp a c w' (by unfold maxLen; omega) h
  have hPK := fun w' a c h => cut_packets xp a c w' h (by omega)
  have hRP := fun w' a c h => rpackets10 xp a c w' h (by omega)
  have hR1 := fun w' a c h => cut_right xp a c w' (by unfold maxLen; omega) h
  have hR2 := fun w' a c h => rright10 xp a c w' (by unfold maxLen; omega) h
  have hSM := fun w' a b c d h1 h2 => cut_same xp yp a b c d w' (by omega) h1 h2
  have hRS := fun w' a b c d h1 h2 => rsame10 xp yp a b c d w' (by omega) h1 h2
  have hAX := fun w' a c h => as10 xp a c w' h (by omega)
  have hAY := fun w' a c h => as10 yp a c w' h (by omega)
  have hwl := wordsF_len xp
  have hpl : (packetsP xp).length = xp.heads.length := by unfold packetsP; rw [List.length_map]
  generalize sameP xp yp = sb at *
  generalize rightP xp = rb at *
  generalize packetsP xp = pk at *
  generalize wordsF xp = wf at *
  obtain ⟨wl, we⟩ := wf
  dsimp only at hwl hWX hRW
  have hSW := fun w' a b c d h1 h2 => same_words wl wl a b c d w' hwl h1 h2
  rw [show decide (wl = wl) = true from decide_eq_true rfl] at hSW
  obtain ⟨xs, xc, xh, xd⟩ := xp
  obtain ⟨ys, yc, yh, yd⟩ := yp
  obtain ⟨⟨s1, k1, h1, d1⟩, a1, c1⟩ := p
  obtain ⟨⟨s2, k2, h2, d2⟩, a2, c2⟩ := q
  dsimp only [Pa.val] at *
  have HBP := Lib.hid hBP
  have HBQ := Lib.hid hBQ
  have HWX := Lib.hid hWX
  have HRW := Lib.hid hRW
  have HPK := Lib.hid hPK
  have HRP := Lib.hid hRP
  have HR1 := Lib.hid hR1
  have HR2 := Lib.hid hR2
  have HSM := Lib.hid hSM
  have HRS := Lib.hid hRS
  have HAX := Lib.hid hAX
  have HAY := Lib.hid hAY
  have HSW := Lib.hid hSW
  have HPL := Lib.hid hpl
  have HLV := Lib.hid (fun w => lives10_calls w)
  clear hBP hBQ hWX hRW hPK hRP hR1 hR2 hSM hRS hAX hAY hSW hpl hp hq
  go_enter Try.func13, Try.ntmps13
  go_upto_region 3 with (go_at_call 36; ((with_reducible refine (HLV.out _).mono ?_); rintro e w1 ⟨rfl, hb1⟩; have hP1 := Below.at hb1 (alloc_old (alloc_new _) _) (by simp; omega); have hQ1 := Below.at hb1 (alloc_at _ (w.heap.size + 1) (by simp)) (by simp); have hB1 : Below w.heap.size w w1 := Below.trans (by repeat' (first | (with_reducible assumption) | (with_reducible refine below_setRowN ?_ ?_ _) | (with_reducible refine Below.setCell ?_ ?_ _) | (with_reducible refine below_drewN' ?_ _) | (with_reducible refine Below.drew ?_) | (with_reducible refine Below.alloc ?_ ?_ _) | (with_reducible exact Below.refl _ _) | (with_reducible exact Nat.le_refl _) | (simp; done) | omega | (simp; omega))) (hb1.mono (by simp; omega)); have HP1 := Lib.hid hP1; have HQ1 := Lib.hid hQ1; have HB1 := Lib.hid hB1; clear hb1 hP1 hQ1 hB1))
  have HX : Hid (∀ w', Below w1.heap.size w1 w' → ((∀ j, w'.cell? ⟨w.heap.size, j, none⟩ = (#[.int .i64 s1, .bool k1, .slice a1 h1.length c1, .string d1] : Array Value)[j]?) ∧ (∀ j, w'.cell? ⟨w.heap.size + 1, j, none⟩ = (#[.int .i64 s2, .bool k2, .slice a2 h2.length c2, .string d2] : Array Value)[j]?))) := fun w' hb => ⟨fun j => cell_at (Below.at hb HP1.out (block_lt HP1.out)) j, fun j => cell_at (Below.at hb HQ1.out (block_lt HQ1.out)) j⟩
  go_cut [5, 6] (fun v5 v6 wx => ∃ n d px qx py qy, v5 = .pointer (some ⟨n, 0, none⟩) ∧ v6 = .pointer (some ⟨d, 0, none⟩) ∧ wx.heap[n]? = some (.cells #[.int .i64 xs, .bool xc, .slice px xh.length qx, .string xd] 68 (0, 0)) ∧ wx.heap[d]? = some (.cells #[.int .i64 ys, .bool yc, .slice py yh.length qy, .string yd] 68 (0, 0)) ∧ CellsOff wx px (flatT xh) [] ∧ CellsOff wx py (flatT yh) [] ∧ Below w1.heap.size w1 wx)
  case first =>
    refine wp_region_held_drew (S := (fun w' => ((∀ j, w'.cell? ⟨w.heap.size, j, none⟩ = (#[.int .i64 s1, .bool k1, .slice a1 h1.length c1, .string d1] : Array Value)[j]?) ∧ (∀ j, w'.cell? ⟨w.heap.size + 1, j, none⟩ = (#[.int .i64 s2, .bool k2, .slice a2 h2.length c2, .string d2] : Array Value)[j]?)))) (by kernel_rfl) ?_ (fun hHeld0 => ?_)
    · (try dsimp only); exact HX.out _ (by repeat' (first | (with_reducible assumption) | (with_reducible refine below_setRowN ?_ ?_ _) | (with_reducible refine Below.setCell ?_ ?_ _) | (with_reducible refine below_drewN' ?_ _) | (with_reducible refine Below.drew ?_) | (with_reducible refine Below.alloc ?_ ?_ _) | (with_reducible exact Below.refl _ _) | (with_reducible exact Nat.le_refl _) | (simp; done) | omega | (simp; omega)))
    refine wpAnyH_take (i := 0) (v := ?_) rfl (by kernel_rfl) (by kernel_rfl) (by kernel_rfl) (fun _ _ _ h => h) (Or.inl ⟨by rfl, ?_⟩) (by assumption) ?_
    rotate_left
    · (intro w hSw; (try dsimp only at hSw); go_simp; try with_reducible rfl)
    (try simp only [Act.put, List.setIfInBounds_toArray, List.set_cons_zero, List.set_cons_succ, List.getElem_toArray, List.getElem_cons_zero, List.getElem_cons_succ])
    refine wpAnyH_take (i := 2) (v := ?_) rfl (by kernel_rfl) (by kernel_rfl) (by kernel_rfl) (fun _ _ _ h => h) (Or.inl ⟨by rfl, ?_⟩) (by assumption) ?_
    rotate_left
    · (intro w hSw; (try dsimp only at hSw); go_simp; try with_reducible rfl)
    (try simp only [Act.put, List.setIfInBounds_toArray, List.set_cons_zero, List.set_cons_succ, List.getElem_toArray, List.getElem_cons_zero, List.getElem_cons_succ])
    refine wpAnyH_ready (rs := [1, 4, 5]) (by kernel_rfl) (by simp) ?_
    refine AllReadyH.cons rfl (fun K hK => ?_) ?_
    · (go_simp; go_at_call 43; (with_reducible refine (HBP.out _ (HB1.out.trans (Below.mono (B := w1.heap.size) (by repeat' (first | (with_reducible assumption) | (with_reducible refine below_setRowN ?_ ?_ _) | (with_reducible refine Below.setCell ?_ ?_ _) | (with_reducible refine below_drewN' ?_ _) | (with_reducible refine Below.drew ?_) | (with_reducible refine Below.alloc ?_ ?_ _) | (with_reducible exact Below.refl _ _) | (with_reducible exact Nat.le_refl _) | (simp; done) | omega | (simp; omega))) HB1.out.size))).mono ?_); rintro e w5 ⟨v5, rfl, hown5, hb5⟩; have hlt5 := hown5.lt; obtain ⟨p5, q5, rfl, -, -, -⟩ := CellsOff.own hown5 [] (by simp); have hcur : Below w1.heap.size w1 w5 := (Below.trans (by repeat' (first | (with_reducible assumption) | (with_reducible refine below_setRowN ?_ ?_ _) | (with_reducible refine Below.setCell ?_ ?_ _) | (with_reducible refine below_drewN' ?_ _) | (with_reducible refine Below.drew ?_) | (with_reducible refine Below.alloc ?_ ?_ _) | (with_reducible exact Below.refl _ _) | (with_reducible exact Nat.le_refl _) | (simp; done) | omega | (simp; omega))) (hb5.mono (by first | (simp; done) | omega | (simp; omega)))); have hcs := hcur.size; have hcs5 := hb5.size; (try simp at hcs5 hlt5); have HO5 := Lib.hid hown5; have HLT5 := Lib.hid hlt5; clear hown5 hlt5)
      refine hK.out _ _ ?_ (fun hHeld1 => ?_)
      · (try dsimp only); exact HX.out _ (by repeat' (first | (with_reducible assumption) | (with_reducible refine below_setRowN ?_ ?_ _) | (with_reducible refine Below.setCell ?_ ?_ _) | (with_reducible refine below_drewN' ?_ _) | (with_reducible refine Below.drew ?_) | (with_reducible refine Below.alloc ?_ ?_ _) | (with_reducible exact Below.refl _ _) | (with_reducible exact Nat.le_refl _) | (simp; done) | omega | (simp; omega)))
      clear hK K hHeld0
      (try simp only [Act.put, List.setIfInBounds_toArray, List.set_cons_zero, List.set_cons_succ, List.getElem_toArray, List.getElem_cons_zero, List.getElem_cons_succ])
      refine wpAnyH_ready (rs := [3, 4, 5]) (by kernel_rfl) (by simp) ?_
      refine AllReadyH.cons rfl (fun K hK => ?_) ?_
      · (go_simp; go_at_call 43; (with_reducible refine (HBQ.out _ (HB1.out.trans (Below.mono (B := w1.heap.size) (by repeat' (first | (with_reducible assumption) | (with_reducible refine below_setRowN ?_ ?_ _) | (with_reducible refine Below.setCell ?_ ?_ _) | (with_reducible refine below_drewN' ?_ _) | (with_reducible refine Below.drew ?_) | (with_reducible refine Below.alloc ?_ ?_ _) | (with_reducible exact Below.refl _ _) | (with_reducible exact Nat.le_refl _) | (simp; done) | omega | (simp; omega))) HB1.out.size))).mono ?_); rintro e w6 ⟨v6, rfl, hown6, hb6⟩; have hlt6 := hown6.lt; obtain ⟨p6, q6, rfl, -, -, -⟩ := CellsOff.own hown6 [] (by simp); have hcur6 : Below w1.heap.size w1 w6 := (Below.trans (by repeat' (first | (with_reducible assumption) | (with_reducible refine below_setRowN ?_ ?_ _) | (with_reducible refine Below.setCell ?_ ?_ _) | (with_reducible refine below_drewN' ?_ _) | (with_reducible refine Below.drew ?_) | (with_reducible refine Below.alloc ?_ ?_ _) | (with_reducible exact Below.refl _ _) | (with_reducible exact Nat.le_refl _) | (simp; done) | omega | (simp; omega))) (hb6.mono (by first | (simp; done) | omega | (simp; omega)))); have hcs6 := hcur6.size; have hcs6b := hb6.size; (try simp at hcs6b hlt6); have HO6 := Lib.hid hown6; have HLT6 := Lib.hid hlt6; clear hown6 hlt6)
        refine hK.out _ _ ?_ (fun hHeld2 => ?_)
        · (try dsimp only); exact HX.out _ (by repeat' (first | (with_reducible assumption) | (with_reducible refine below_setRowN ?_ ?_ _) | (with_reducible refine Below.setCell ?_ ?_ _) | (with_reducible refine below_drewN' ?_ _) | (with_reducible refine Below.drew ?_) | (with_reducible refine Below.alloc ?_ ?_ _) | (with_reducible exact Below.refl _ _) | (with_reducible exact Nat.le_refl _) | (simp; done) | omega | (simp; omega)))
        clear hK K hHeld1
        (try simp only [Act.put, List.setIfInBounds_toArray, List.set_cons_zero, List.set_cons_succ, List.getElem_toArray, List.getElem_cons_zero, List.getElem_cons_succ])
        refine wpAnyH_ready (rs := [4, 5]) (by kernel_rfl) (by simp) ?_
        refine AllReadyH.cons rfl (fun K hK => ?_) ?_
        · go_simp
          refine hK.out _ _ ?_ (fun hHeld3 => ?_)
          · (try dsimp only); exact HX.out _ (by repeat' (first | (with_reducible assumption) | (with_reducible refine below_setRowN ?_ ?_ _) | (with_reducible refine Below.setCell ?_ ?_ _) | (with_reducible refine below_drewN' ?_ _) | (with_reducible refine Below.drew ?_) | (with_reducible refine Below.alloc ?_ ?_ _) | (with_reducible exact Below.refl _ _) | (with_reducible exact Nat.le_refl _) | (simp; done) | omega | (simp; omega)))
          clear hK K hHeld2
          (try simp only [Act.put, List.setIfInBounds_toArray, List.set_cons_zero, List.set_cons_succ, List.getElem_toArray, List.getElem_cons_zero, List.getElem_cons_succ])
          refine wpAnyH_ready (rs := [5]) (by kernel_rfl) (by simp) ?_
          refine AllReadyH.cons rfl (fun K hK => ?_) ?_
          · go_simp
            refine hK.out _ _ ?_ (fun hHeld4 => ?_)
            · (try dsimp only); exact HX.out _ (by repeat' (first | (with_reducible assumption) | (with_reducible refine below_setRowN ?_ ?_ _) | (with_reducible refine Below.setCell ?_ ?_ _) | (with_reducible refine below_drewN' ?_ _) | (with_reducible refine Below.drew ?_) | (with_reducible refine Below.alloc ?_ ?_ _) | (with_reducible exact Below.refl _ _) | (with_reducible exact Nat.le_refl _) | (simp; done) | omega | (simp; omega)))
            clear hK K hHeld3
            (try simp only [Act.put, List.setIfInBounds_toArray, List.set_cons_zero, List.set_cons_succ, List.getElem_toArray, List.getElem_cons_zero, List.getElem_cons_succ])
            refine wpAnyH_ready (rs := [6]) (by kernel_rfl) (by simp) ?_
            refine AllReadyH.cons rfl (fun K hK => ?_) ?_
            · (rw [if_pos (by rfl)]; refine wp_store_row 68 _ _ (by rfl) _ _ (by rfl) (by rfl) 68 #[.int .i64 0, .bool false, .slice none 0 0, .string ⟨#[]⟩] (by repeat' (first | (with_reducible refine drew_at ?_) | (with_reducible refine setRow_off ?_ ?_ _) | (with_reducible exact setRow_at (by assumption) _) | (with_reducible exact alloc_new _) | ((with_reducible refine alloc_at _ _ ?_); (simp; done)) | (with_reducible refine alloc_old ?_ _) | (with_reducible refine Below.at hb5 ?_ ?_) | (with_reducible refine Below.at hb6 ?_ ?_) | (simp; done) | (simp; omega) | omega)) (by kernel_rfl) (by rfl) (by first | (simp; done) | simp [Value.oneCell']) ?_)
              refine hK.out _ _ ?_ (fun hHeld5 => ?_)
              · (try dsimp only); exact HX.out _ (by repeat' (first | (with_reducible assumption) | (with_reducible refine below_setRowN ?_ ?_ _) | (with_reducible refine Below.setCell ?_ ?_ _) | (with_reducible refine below_drewN' ?_ _) | (with_reducible refine Below.drew ?_) | (with_reducible refine Below.alloc ?_ ?_ _) | (with_reducible exact Below.refl _ _) | (with_reducible exact Nat.le_refl _) | (simp; done) | omega | (simp; omega)))
              clear hK K hHeld4
              (try simp only [Act.put, List.setIfInBounds_toArray, List.set_cons_zero, List.set_cons_succ, List.getElem_toArray, List.getElem_cons_zero, List.getElem_cons_succ])
              refine wpAnyH_ready (rs := [7]) (by kernel_rfl) (by simp) ?_
              refine AllReadyH.cons rfl (fun K hK => ?_) ?_
              · (rw [if_pos (by rfl)]; refine wp_store_row 68 _ _ (by rfl) _ _ (by rfl) (by rfl) 68 #[.int .i64 0, .bool false, .slice none 0 0, .string ⟨#[]⟩] (by repeat' (first | (with_reducible refine drew_at ?_) | (with_reducible refine setRow_off ?_ ?_ _) | (with_reducible exact setRow_at (by assumption) _) | (with_reducible exact alloc_new _) | ((with_reducible refine alloc_at _ _ ?_); (simp; done)) | (with_reducible refine alloc_old ?_ _) | (with_reducible refine Below.at hb5 ?_ ?_) | (with_reducible refine Below.at hb6 ?_ ?_) | (simp; done) | (simp; omega) | omega)) (by kernel_rfl) (by rfl) (by first | (simp; done) | simp [Value.oneCell']) ?_)
                refine hK.out _ _ ?_ (fun hHeld6 => ?_)
                · (try dsimp only); exact HX.out _ (by repeat' (first | (with_reducible assumption) | (with_reducible refine below_setRowN ?_ ?_ _) | (with_reducible refine Below.setCell ?_ ?_ _) | (with_reducible refine below_drewN' ?_ _) | (with_reducible refine Below.drew ?_) | (with_reducible refine Below.alloc ?_ ?_ _) | (with_reducible exact Below.refl _ _) | (with_reducible exact Nat.le_refl _) | (simp; done) | omega | (simp; omega)))
                clear hK K hHeld5
                (try simp only [Act.put, List.setIfInBounds_toArray, List.set_cons_zero, List.set_cons_succ, List.getElem_toArray, List.getElem_cons_zero, List.getElem_cons_succ])
                refine wpAnyH_done (by kernel_rfl) ?_ _
                go_wp2
                go_meet
                refine ⟨_, _, p5, q5, p6, q6, rfl, rfl, ?_, ?_, ?_, ?_, by repeat' (first | (with_reducible assumption) | (with_reducible refine below_setRowN ?_ ?_ _) | (with_reducible refine Below.setCell ?_ ?_ _) | (with_reducible refine below_drewN' ?_ _) | (with_reducible refine Below.drew ?_) | (with_reducible refine Below.alloc ?_ ?_ _) | (with_reducible exact Below.refl _ _) | (with_reducible exact Nat.le_refl _) | (simp; done) | omega | (simp; omega))⟩
                · refine setRow_off (setRow_at (old := #[.int .i64 0, .bool false, .slice none 0 0, .string ⟨#[]⟩]) ?_ _) ?_ _
                  · repeat' (first | (with_reducible refine drew_at ?_) | (with_reducible refine setRow_off ?_ ?_ _) | (with_reducible exact setRow_at (by assumption) _) | (with_reducible exact alloc_new _) | ((with_reducible refine alloc_at _ _ ?_); (simp; done)) | (with_reducible refine alloc_old ?_ _) | (with_reducible refine Below.at hb5 ?_ ?_) | (with_reducible refine Below.at hb6 ?_ ?_) | (simp; done) | (simp; omega) | omega)
                  · repeat' (first | (with_reducible refine drew_at ?_) | (with_reducible refine setRow_off ?_ ?_ _) | (with_reducible exact setRow_at (by assumption) _) | (with_reducible exact alloc_new _) | ((with_reducible refine alloc_at _ _ ?_); (simp; done)) | (with_reducible refine alloc_old ?_ _) | (with_reducible refine Below.at hb5 ?_ ?_) | (with_reducible refine Below.at hb6 ?_ ?_) | (simp; done) | (simp; omega) | omega)
                · refine setRow_at (old := #[.int .i64 0, .bool false, .slice none 0 0, .string ⟨#[]⟩]) ?_ _
                  repeat' (first | (with_reducible refine drew_at ?_) | (with_reducible refine setRow_off ?_ ?_ _) | (with_reducible exact setRow_at (by assumption) _) | (with_reducible exact alloc_new _) | ((with_reducible refine alloc_at _ _ ?_); (simp; done)) | (with_reducible refine alloc_old ?_ _) | (with_reducible refine Below.at hb5 ?_ ?_) | (with_reducible refine Below.at hb6 ?_ ?_) | (simp; done) | (simp; omega) | omega)
                · apply cells_own
                  repeat' (first | (with_reducible exact HO5.out) | (with_reducible apply owns_setRow) | (with_reducible apply World.ownsRow.drew) | (with_reducible apply World.ownsRow.alloc) | (with_reducible apply fun h => owns_aft h hb6) | (intro k hk; have := HLT5.out k hk; first | omega | (simp; omega)))
                · apply cells_own
                  repeat' (first | (with_reducible exact HO6.out) | (with_reducible apply owns_setRow) | (with_reducible apply World.ownsRow.drew) | (with_reducible apply World.ownsRow.alloc) | (intro k hk; have := HLT6.out k hk; first | omega | (simp; omega)))
              exact AllReadyH.nil
            exact AllReadyH.nil
          exact AllReadyH.nil
        refine AllReadyH.cons rfl (fun K hK => ?_) ?_
        · go_simp
          refine hK.out _ _ ?_ (fun hHeld3 => ?_)
          · (try dsimp only); exact HX.out _ (by repeat' (first | (with_reducible assumption) | (with_reducible refine below_setRowN ?_ ?_ _) | (with_reducible refine Below.setCell ?_ ?_ _) | (with_reducible refine below_drewN' ?_ _) | (with_reducible refine Below.drew ?_) | (with_reducible refine Below.alloc ?_ ?_ _) | (with_reducible exact Below.refl _ _) | (with_reducible exact Nat.le_refl _) | (simp; done) | omega | (simp; omega)))
          clear hK K hHeld2
          (try simp only [Act.put, List.setIfInBounds_toArray, List.set_cons_zero, List.set_cons_succ, List.getElem_toArray, List.getElem_cons_zero, List.getElem_cons_succ])
          refine wpAnyH_ready (rs := [4]) (by kernel_rfl) (by simp) ?_
          refine AllReadyH.cons rfl (fun K hK => ?_) ?_
          · go_simp
            refine hK.out _ _ ?_ (fun hHeld4 => ?_)
            · (try dsimp only); exact HX.out _ (by repeat' (first | (with_reducible assumption) | (with_reducible refine below_setRowN ?_ ?_ _) | (with_reducible refine Below.setCell ?_ ?_ _) | (with_reducible refine below_drewN' ?_ _) | (with_reducible refine Below.drew ?_) | (with_reducible refine Below.alloc ?_ ?_ _) | (with_reducible exact Below.refl _ _) | (with_reducible exact Nat.le_refl _) | (simp; done) | omega | (simp; omega)))
            clear hK K hHeld3
            (try simp only [Act.put, List.setIfInBounds_toArray, List.set_cons_zero, List.set_cons_succ, List.getElem_toArray, List.getElem_cons_zero, List.getElem_cons_succ])
            refine wpAnyH_ready (rs := [6]) (by kernel_rfl) (by simp) ?_
            refine AllReadyH.cons rfl (fun K hK => ?_) ?_
            · (rw [if_pos (by rfl)]; refine wp_store_row 68 _ _ (by rfl) _ _ (by rfl) (by rfl) 68 #[.int .i64 0, .bool false, .slice none 0 0, .string ⟨#[]⟩] (by repeat' (first | (with_reducible refine drew_at ?_) | (with_reducible refine setRow_off ?_ ?_ _) | (with_reducible exact setRow_at (by assumption) _) | (with_reducible exact alloc_new _) | ((with_reducible refine alloc_at _ _ ?_); (simp; done)) | (with_reducible refine alloc_old ?_ _) | (with_reducible refine Below.at hb5 ?_ ?_) | (with_reducible refine Below.at hb6 ?_ ?_) | (simp; done) | (simp; omega) | omega)) (by kernel_rfl) (by rfl) (by first | (simp; done) | simp [Value.oneCell']) ?_)
              refine hK.out _ _ ?_ (fun hHeld5 => ?_)
              · (try dsimp only); exact HX.out _ (by repeat' (first | (with_reducible assumption) | (with_reducible refine below_setRowN ?_ ?_ _) | (with_reducible refine Below.setCell ?_ ?_ _) | (with_reducible refine below_drewN' ?_ _) | (with_reducible refine Below.drew ?_) | (with_reducible refine Below.alloc ?_ ?_ _) | (with_reducible exact Below.refl _ _) | (with_reducible exact Nat.le_refl _) | (simp; done) | omega | (simp; omega)))
              clear hK K hHeld4
              (try simp only [Act.put, List.setIfInBounds_toArray, List.set_cons_zero, List.set_cons_succ, List.getElem_toArray, List.getElem_cons_zero, List.getElem_cons_succ])
              refine wpAnyH_ready (rs := [7]) (by kernel_rfl) (by simp) ?_
              refine AllReadyH.cons rfl (fun K hK => ?_) ?_
              · (rw [if_pos (by rfl)]; refine wp_store_row 68 _ _ (by rfl) _ _ (by rfl) (by rfl) 68 #[.int .i64 0, .bool false, .slice none 0 0, .string ⟨#[]⟩] (by repeat' (first | (with_reducible refine drew_at ?_) | (with_reducible refine setRow_off ?_ ?_ _) | (with_reducible exact setRow_at (by assumption) _) | (with_reducible exact alloc_new _) | ((with_reducible refine alloc_at _ _ ?_); (simp; done)) | (with_reducible refine alloc_old ?_ _) | (with_reducible refine Below.at hb5 ?_ ?_) | (with_reducible refine Below.at hb6 ?_ ?_) | (simp; done) | (simp; omega) | omega)) (by kernel_rfl) (by rfl) (by first | (simp; done) | simp [Value.oneCell']) ?_)
                refine hK.out _ _ ?_ (fun hHeld6 => ?_)
                · (try dsimp only); exact HX.out _ (by repeat' (first | (with_reducible assumption) | (with_reducible refine below_setRowN ?_ ?_ _) | (with_reducible refine Below.setCell ?_ ?_ _) | (with_reducible refine below_drewN' ?_ _) | (with_reducible refine Below.drew ?_) | (with_reducible refine Below.alloc ?_ ?_ _) | (with_reducible exact Below.refl _ _) | (with_reducible exact Nat.le_refl _) | (simp; done) | omega | (simp; omega)))
                clear hK K hHeld5
                (try simp only [Act.put, List.setIfInBounds_toArray, List.set_cons_zero, List.set_cons_succ, List.getElem_toArray, List.getElem_cons_zero, List.getElem_cons_succ])
                refine wpAnyH_done (by kernel_rfl) ?_ _
                go_wp2
                go_meet
                refine ⟨_, _, p5, q5, p6, q6, rfl, rfl, ?_, ?_, ?_, ?_, by repeat' (first | (with_reducible assumption) | (with_reducible refine below_setRowN ?_ ?_ _) | (with_reducible refine Below.setCell ?_ ?_ _) | (with_reducible refine below_drewN' ?_ _) | (with_reducible refine Below.drew ?_) | (with_reducible refine Below.alloc ?_ ?_ _) | (with_reducible exact Below.refl _ _) | (with_reducible exact Nat.le_refl _) | (simp; done) | omega | (simp; omega))⟩
                · refine setRow_off (setRow_at (old := #[.int .i64 0, .bool false, .slice none 0 0, .string ⟨#[]⟩]) ?_ _) ?_ _
                  · repeat' (first | (with_reducible refine drew_at ?_) | (with_reducible refine setRow_off ?_ ?_ _) | (with_reducible exact setRow_at (by assumption) _) | (with_reducible exact alloc_new _) | ((with_reducible refine alloc_at _ _ ?_); (simp; done)) | (with_reducible refine alloc_old ?_ _) | (with_reducible refine Below.at hb5 ?_ ?_) | (with_reducible refine Below.at hb6 ?_ ?_) | (simp; done) | (simp; omega) | omega)
                  · repeat' (first | (with_reducible refine drew_at ?_) | (with_reducible refine setRow_off ?_ ?_ _) | (with_reducible exact setRow_at (by assumption) _) | (with_reducible exact alloc_new _) | ((with_reducible refine alloc_at _ _ ?_); (simp; done)) | (with_reducible refine alloc_old ?_ _) | (with_reducible refine Below.at hb5 ?_ ?_) | (with_reducible refine Below.at hb6 ?_ ?_) | (simp; done) | (simp; omega) | omega)
                · refine setRow_at (old := #[.int .i64 0, .bool false, .slice none 0 0, .string ⟨#[]⟩]) ?_ _
                  repeat' (first | (with_reducible refine drew_at ?_) | (with_reducible refine setRow_off ?_ ?_ _) | (with_reducible exact setRow_at (by assumption) _) | (with_reducible exact alloc_new _) | ((with_reducible refine alloc_at _ _ ?_); (simp; done)) | (with_reducible refine alloc_old ?_ _) | (with_reducible refine Below.at hb5 ?_ ?_) | (with_reducible refine Below.at hb6 ?_ ?_) | (simp; done) | (simp; omega) | omega)
                · apply cells_own
                  repeat' (first | (with_reducible exact HO5.out) | (with_reducible apply owns_setRow) | (with_reducible apply World.ownsRow.drew) | (with_reducible apply World.ownsRow.alloc) | (with_reducible apply fun h => owns_aft h hb6) | (intro k hk; have := HLT5.out k hk; first | omega | (simp; omega)))
                · apply cells_own
                  repeat' (first | (with_reducible exact HO6.out) | (with_reducible apply owns_setRow) | (with_reducible apply World.ownsRow.drew) | (with_reducible apply World.ownsRow.alloc) | (intro k hk; have := HLT6.out k hk; first | omega | (simp; omega)))
              exact AllReadyH.nil
            exact AllReadyH.nil
          exact AllReadyH.nil
        exact AllReadyH.nil
      refine AllReadyH.cons rfl (fun K hK => ?_) ?_
      · go_simp
        refine hK.out _ _ ?_ (fun hHeld2 => ?_)
        · (try dsimp only); exact HX.out _ (by repeat' (first | (with_reducible assumption) | (with_reducible refine below_setRowN ?_ ?_ _) | (with_reducible refine Below.setCell ?_ ?_ _) | (with_reducible refine below_drewN' ?_ _) | (with_reducible refine Below.drew ?_) | (with_reducible refine Below.alloc ?_ ?_ _) | (with_reducible exact Below.refl _ _) | (with_reducible exact Nat.le_refl _) | (simp; done) | omega | (simp; omega)))
        clear hK K hHeld1
        (try simp only [Act.put, List.setIfInBounds_toArray, List.set_cons_zero, List.set_cons_succ, List.getElem_toArray, List.getElem_cons_zero, List.getElem_cons_succ])
        refine wpAnyH_ready (rs := [3, 5]) (by kernel_rfl) (by simp) ?_
        refine AllReadyH.cons rfl (fun K hK => ?_) ?_
        · (go_simp; go_at_call 43; (with_reducible refine (HBQ.out _ (HB1.out.trans (Below.mono (B := w1.heap.size) (by repeat' (first | (with_reducible assumption) | (with_reducible refine below_setRowN ?_ ?_ _) | (with_reducible refine Below.setCell ?_ ?_ _) | (with_reducible refine below_drewN' ?_ _) | (with_reducible refine Below.drew ?_) | (with_reducible refine Below.alloc ?_ ?_ _) | (with_reducible exact Below.refl _ _) | (with_reducible exact Nat.le_refl _) | (simp; done) | omega | (simp; omega))) HB1.out.size))).mono ?_); rintro e w6 ⟨v6, rfl, hown6, hb6⟩; have hlt6 := hown6.lt; obtain ⟨p6, q6, rfl, -, -, -⟩ := CellsOff.own hown6 [] (by simp); have hcur6 : Below w1.heap.size w1 w6 := (Below.trans (by repeat' (first | (with_reducible assumption) | (with_reducible refine below_setRowN ?_ ?_ _) | (with_reducible refine Below.setCell ?_ ?_ _) | (with_reducible refine below_drewN' ?_ _) | (with_reducible refine Below.drew ?_) | (with_reducible refine Below.alloc ?_ ?_ _) | (with_reducible exact Below.refl _ _) | (with_reducible exact Nat.le_refl _) | (simp; done) | omega | (simp; omega))) (hb6.mono (by first | (simp; done) | omega | (simp; omega)))); have hcs6 := hcur6.size; have hcs6b := hb6.size; (try simp at hcs6b hlt6); have HO6 := Lib.hid hown6; have HLT6 := Lib.hid hlt6; clear hown6 hlt6)
          refine hK.out _ _ ?_ (fun hHeld3 => ?_)
          · (try dsimp only); exact HX.out _ (by repeat' (first | (with_reducible assumption) | (with_reducible refine below_setRowN ?_ ?_ _) | (with_reducible refine Below.setCell ?_ ?_ _) | (with_reducible refine below_drewN' ?_ _) | (with_reducible refine Below.drew ?_) | (with_reducible refine Below.alloc ?_ ?_ _) | (with_reducible exact Below.refl _ _) | (with_reducible exact Nat.le_refl _) | (simp; done) | omega | (simp; omega)))
          clear hK K hHeld2
          (try simp only [Act.put, List.setIfInBounds_toArray, List.set_cons_zero, List.set_cons_succ, List.getElem_toArray, List.getElem_cons_zero, List.getElem_cons_succ])
          refine wpAnyH_ready (rs := [5]) (by kernel_rfl) (by simp) ?_
          refine AllReadyH.cons rfl (fun K hK => ?_) ?_
          · go_simp
            refine hK.out _ _ ?_ (fun hHeld4 => ?_)
            · (try dsimp only); exact HX.out _ (by repeat' (first | (with_reducible assumption) | (with_reducible refine below_setRowN ?_ ?_ _) | (with_reducible refine Below.setCell ?_ ?_ _) | (with_reducible refine below_drewN' ?_ _) | (with_reducible refine Below.drew ?_) | (with_reducible refine Below.alloc ?_ ?_ _) | (with_reducible exact Below.refl _ _) | (with_reducible exact Nat.le_refl _) | (simp; done) | omega | (simp; omega)))
            clear hK K hHeld3
            (try simp only [Act.put, List.setIfInBounds_toArray, List.set_cons_zero, List.set_cons_succ, List.getElem_toArray, List.getElem_cons_zero, List.getElem_cons_succ])
            refine wpAnyH_ready (rs := [6]) (by kernel_rfl) (by simp) ?_
            refine AllReadyH.cons rfl (fun K hK => ?_) ?_
            · (rw [if_pos (by rfl)]; refine wp_store_row 68 _ _ (by rfl) _ _ (by rfl) (by rfl) 68 #[.int .i64 0, .bool false, .slice none 0 0, .string ⟨#[]⟩] (by repeat' (first | (with_reducible refine drew_at ?_) | (with_reducible refine setRow_off ?_ ?_ _) | (with_reducible exact setRow_at (by assumption) _) | (with_reducible exact alloc_new _) | ((with_reducible refine alloc_at _ _ ?_); (simp; done)) | (with_reducible refine alloc_old ?_ _) | (with_reducible refine Below.at hb5 ?_ ?_) | (with_reducible refine Below.at hb6 ?_ ?_) | (simp; done) | (simp; omega) | omega)) (by kernel_rfl) (by rfl) (by first | (simp; done) | simp [Value.oneCell']) ?_)
              refine hK.out _ _ ?_ (fun hHeld5 => ?_)
              · (try dsimp only); exact HX.out _ (by repeat' (first | (with_reducible assumption) | (with_reducible refine below_setRowN ?_ ?_ _) | (with_reducible refine Below.setCell ?_ ?_ _) | (with_reducible refine below_drewN' ?_ _) | (with_reducible refine Below.drew ?_) | (with_reducible refine Below.alloc ?_ ?_ _) | (with_reducible exact Below.refl _ _) | (with_reducible exact Nat.le_refl _) | (simp; done) | omega | (simp; omega)))
              clear hK K hHeld4
              (try simp only [Act.put, List.setIfInBounds_toArray, List.set_cons_zero, List.set_cons_succ, List.getElem_toArray, List.getElem_cons_zero, List.getElem_cons_succ])
              refine wpAnyH_ready (rs := [7]) (by kernel_rfl) (by simp) ?_
              refine AllReadyH.cons rfl (fun K hK => ?_) ?_
              · (rw [if_pos (by rfl)]; refine wp_store_row 68 _ _ (by rfl) _ _ (by rfl) (by rfl) 68 #[.int .i64 0, .bool false, .slice none 0 0, .string ⟨#[]⟩] (by repeat' (first | (with_reducible refine drew_at ?_) | (with_reducible refine setRow_off ?_ ?_ _) | (with_reducible exact setRow_at (by assumption) _) | (with_reducible exact alloc_new _) | ((with_reducible refine alloc_at _ _ ?_); (simp; done)) | (with_reducible refine alloc_old ?_ _) | (with_reducible refine Below.at hb5 ?_ ?_) | (with_reducible refine Below.at hb6 ?_ ?_) | (simp; done) | (simp; omega) | omega)) (by kernel_rfl) (by rfl) (by first | (simp; done) | simp [Value.oneCell']) ?_)
                refine hK.out _ _ ?_ (fun hHeld6 => ?_)
                · (try dsimp only); exact HX.out _ (by repeat' (first | (with_reducible assumption) | (with_reducible refine below_setRowN ?_ ?_ _) | (with_reducible refine Below.setCell ?_ ?_ _) | (with_reducible refine below_drewN' ?_ _) | (with_reducible refine Below.drew ?_) | (with_reducible refine Below.alloc ?_ ?_ _) | (with_reducible exact Below.refl _ _) | (with_reducible exact Nat.le_refl _) | (simp; done) | omega | (simp; omega)))
                clear hK K hHeld5
                (try simp only [Act.put, List.setIfInBounds_toArray, List.set_cons_zero, List.set_cons_succ, List.getElem_toArray, List.getElem_cons_zero, List.getElem_cons_succ])
                refine wpAnyH_done (by kernel_rfl) ?_ _
                go_wp2
                go_meet
                refine ⟨_, _, p5, q5, p6, q6, rfl, rfl, ?_, ?_, ?_, ?_, by repeat' (first | (with_reducible assumption) | (with_reducible refine below_setRowN ?_ ?_ _) | (with_reducible refine Below.setCell ?_ ?_ _) | (with_reducible refine below_drewN' ?_ _) | (with_reducible refine Below.drew ?_) | (with_reducible refine Below.alloc ?_ ?_ _) | (with_reducible exact Below.refl _ _) | (with_reducible exact Nat.le_refl _) | (simp; done) | omega | (simp; omega))⟩
                · refine setRow_off (setRow_at (old := #[.int .i64 0, .bool false, .slice none 0 0, .string ⟨#[]⟩]) ?_ _) ?_ _
                  · repeat' (first | (with_reducible refine drew_at ?_) | (with_reducible refine setRow_off ?_ ?_ _) | (with_reducible exact setRow_at (by assumption) _) | (with_reducible exact alloc_new _) | ((with_reducible refine alloc_at _ _ ?_); (simp; done)) | (with_reducible refine alloc_old ?_ _) | (with_reducible refine Below.at hb5 ?_ ?_) | (with_reducible refine Below.at hb6 ?_ ?_) | (simp; done) | (simp; omega) | omega)
                  · repeat' (first | (with_reducible refine drew_at ?_) | (with_reducible refine setRow_off ?_ ?_ _) | (with_reducible exact setRow_at (by assumption) _) | (with_reducible exact alloc_new _) | ((with_reducible refine alloc_at _ _ ?_); (simp; done)) | (with_reducible refine alloc_old ?_ _) | (with_reducible refine Below.at hb5 ?_ ?_) | (with_reducible refine Below.at hb6 ?_ ?_) | (simp; done) | (simp; omega) | omega)
                · refine setRow_at (old := #[.int .i64 0, .bool false, .slice none 0 0, .string ⟨#[]⟩]) ?_ _
                  repeat' (first | (with_reducible refine drew_at ?_) | (with_reducible refine setRow_off ?_ ?_ _) | (with_reducible exact setRow_at (by assumption) _) | (with_reducible exact alloc_new _) | ((with_reducible refine alloc_at _ _ ?_); (simp; done)) | (with_reducible refine alloc_old ?_ _) | (with_reducible refine Below.at hb5 ?_ ?_) | (with_reducible refine Below.at hb6 ?_ ?_) | (simp; done) | (simp; omega) | omega)
                · apply cells_own
                  repeat' (first | (with_reducible exact HO5.out) | (with_reducible apply owns_setRow) | (with_reducible apply World.ownsRow.drew) | (with_reducible apply World.ownsRow.alloc) | (with_reducible apply fun h => owns_aft h hb6) | (intro k hk; have := HLT5.out k hk; first | omega | (simp; omega)))
                · apply cells_own
                  repeat' (first | (with_reducible exact HO6.out) | (with_reducible apply owns_setRow) | (with_reducible apply World.ownsRow.drew) | (with_reducible apply World.ownsRow.alloc) | (intro k hk; have := HLT6.out k hk; first | omega | (simp; omega)))
              exact AllReadyH.nil
            exact AllReadyH.nil
          exact AllReadyH.nil
        refine AllReadyH.cons rfl (fun K hK => ?_) ?_
        · go_simp
          refine hK.out _ _ ?_ (fun hHeld3 => ?_)
          · (try dsimp only); exact HX.out _ (by repeat' (first | (with_reducible assumption) | (with_reducible refine below_setRowN ?_ ?_ _) | (with_reducible refine Below.setCell ?_ ?_ _) | (with_reducible refine below_drewN' ?_ _) | (with_reducible refine Below.drew ?_) | (with_reducible refine Below.alloc ?_ ?_ _) | (with_reducible exact Below.refl _ _) | (with_reducible exact Nat.le_refl _) | (simp; done) | omega | (simp; omega)))
          clear hK K hHeld2
          (try simp only [Act.put, List.setIfInBounds_toArray, List.set_cons_zero, List.set_cons_succ, List.getElem_toArray, List.getElem_cons_zero, List.getElem_cons_succ])
          refine wpAnyH_ready (rs := [3]) (by kernel_rfl) (by simp) ?_
          refine AllReadyH.cons rfl (fun K hK => ?_) ?_
          · (go_simp; go_at_call 43; (with_reducible refine (HBQ.out _ (HB1.out.trans (Below.mono (B := w1.heap.size) (by repeat' (first | (with_reducible assumption) | (with_reducible refine below_setRowN ?_ ?_ _) | (with_reducible refine Below.setCell ?_ ?_ _) | (with_reducible refine below_drewN' ?_ _) | (with_reducible refine Below.drew ?_) | (with_reducible refine Below.alloc ?_ ?_ _) | (with_reducible exact Below.refl _ _) | (with_reducible exact Nat.le_refl _) | (simp; done) | omega | (simp; omega))) HB1.out.size))).mono ?_); rintro e w6 ⟨v6, rfl, hown6, hb6⟩; have hlt6 := hown6.lt; obtain ⟨p6, q6, rfl, -, -, -⟩ := CellsOff.own hown6 [] (by simp); have hcur6 : Below w1.heap.size w1 w6 := (Below.trans (by repeat' (first | (with_reducible assumption) | (with_reducible refine below_setRowN ?_ ?_ _) | (with_reducible refine Below.setCell ?_ ?_ _) | (with_reducible refine below_drewN' ?_ _) | (with_reducible refine Below.drew ?_) | (with_reducible refine Below.alloc ?_ ?_ _) | (with_reducible exact Below.refl _ _) | (with_reducible exact Nat.le_refl _) | (simp; done) | omega | (simp; omega))) (hb6.mono (by first | (simp; done) | omega | (simp; omega)))); have hcs6 := hcur6.size; have hcs6b := hb6.size; (try simp at hcs6b hlt6); have HO6 := Lib.hid hown6; have HLT6 := Lib.hid hlt6; clear hown6 hlt6)
            refine hK.out _ _ ?_ (fun hHeld4 => ?_)
            · (try dsimp only); exact HX.out _ (by repeat' (first | (with_reducible assumption) | (with_reducible refine below_setRowN ?_ ?_ _) | (with_reducible refine Below.setCell ?_ ?_ _) | (with_reducible refine below_drewN' ?_ _) | (with_reducible refine Below.drew ?_) | (with_reducible refine Below.alloc ?_ ?_ _) | (with_reducible exact Below.refl _ _) | (with_reducible exact Nat.le_refl _) | (simp; done) | omega | (simp; omega)))
            clear hK K hHeld3
            (try simp only [Act.put, List.setIfInBounds_toArray, List.set_cons_zero, List.set_cons_succ, List.getElem_toArray, List.getElem_cons_zero, List.getElem_cons_succ])
            refine wpAnyH_ready (rs := [6]) (by kernel_rfl) (by simp) ?_
            refine AllReadyH.cons rfl (fun K hK => ?_) ?_
            · (rw [if_pos (by rfl)]; refine wp_store_row 68 _ _ (by rfl) _ _ (by rfl) (by rfl) 68 #[.int .i64 0, .bool false, .slice none 0 0, .string ⟨#[]⟩] (by repeat' (first | (with_reducible refine drew_at ?_) | (with_reducible refine setRow_off ?_ ?_ _) | (with_reducible exact setRow_at (by assumption) _) | (with_reducible exact alloc_new _) | ((with_reducible refine alloc_at _ _ ?_); (simp; done)) | (with_reducible refine alloc_old ?_ _) | (with_reducible refine Below.at hb5 ?_ ?_) | (with_reducible refine Below.at hb6 ?_ ?_) | (simp; done) | (simp; omega) | omega)) (by kernel_rfl) (by rfl) (by first | (simp; done) | simp [Value.oneCell']) ?_)
              refine hK.out _ _ ?_ (fun hHeld5 => ?_)
              · (try dsimp only); exact HX.out _ (by repeat' (first | (with_reducible assumption) | (with_reducible refine below_setRowN ?_ ?_ _) | (with_reducible refine Below.setCell ?_ ?_ _) | (with_reducible refine below_drewN' ?_ _) | (with_reducible refine Below.drew ?_) | (with_reducible refine Below.alloc ?_ ?_ _) | (with_reducible exact Below.refl _ _) | (with_reducible exact Nat.le_refl _) | (simp; done) | omega | (simp; omega)))
              clear hK K hHeld4
              (try simp only [Act.put, List.setIfInBounds_toArray, List.set_cons_zero, List.set_cons_succ, List.getElem_toArray, List.getElem_cons_zero, List.getElem_cons_succ])
              refine wpAnyH_ready (rs := [7]) (by kernel_rfl) (by simp) ?_
              refine AllReadyH.cons rfl (fun K hK => ?_) ?_
              · (rw [if_pos (by rfl)]; refine wp_store_row 68 _ _ (by rfl) _ _ (by rfl) (by rfl) 68 #[.int .i64 0, .bool false, .slice none 0 0, .string ⟨#[]⟩] (by repeat' (first | (with_reducible refine drew_at ?_) | (with_reducible refine setRow_off ?_ ?_ _) | (with_reducible exact setRow_at (by assumption) _) | (with_reducible exact alloc_new _) | ((with_reducible refine alloc_at _ _ ?_); (simp; done)) | (with_reducible refine alloc_old ?_ _) | (with_reducible refine Below.at hb5 ?_ ?_) | (with_reducible refine Below.at hb6 ?_ ?_) | (simp; done) | (simp; omega) | omega)) (by kernel_rfl) (by rfl) (by first | (simp; done) | simp [Value.oneCell']) ?_)
                refine hK.out _ _ ?_ (fun hHeld6 => ?_)
                · (try dsimp only); exact HX.out _ (by repeat' (first | (with_reducible assumption) | (with_reducible refine below_setRowN ?_ ?_ _) | (with_reducible refine Below.setCell ?_ ?_ _) | (with_reducible refine below_drewN' ?_ _) | (with_reducible refine Below.drew ?_) | (with_reducible refine Below.alloc ?_ ?_ _) | (with_reducible exact Below.refl _ _) | (with_reducible exact Nat.le_refl _) | (simp; done) | omega | (simp; omega)))
                clear hK K hHeld5
                (try simp only [Act.put, List.setIfInBounds_toArray, List.set_cons_zero, List.set_cons_succ, List.getElem_toArray, List.getElem_cons_zero, List.getElem_cons_succ])
                refine wpAnyH_done (by kernel_rfl) ?_ _
                go_wp2
                go_meet
                refine ⟨_, _, p5, q5, p6, q6, rfl, rfl, ?_, ?_, ?_, ?_, by repeat' (first | (with_reducible assumption) | (with_reducible refine below_setRowN ?_ ?_ _) | (with_reducible refine Below.setCell ?_ ?_ _) | (with_reducible refine below_drewN' ?_ _) | (with_reducible refine Below.drew ?_) | (with_reducible refine Below.alloc ?_ ?_ _) | (with_reducible exact Below.refl _ _) | (with_reducible exact Nat.le_refl _) | (simp; done) | omega | (simp; omega))⟩
                · refine setRow_off (setRow_at (old := #[.int .i64 0, .bool false, .slice none 0 0, .string ⟨#[]⟩]) ?_ _) ?_ _
                  · repeat' (first | (with_reducible refine drew_at ?_) | (with_reducible refine setRow_off ?_ ?_ _) | (with_reducible exact setRow_at (by assumption) _) | (with_reducible exact alloc_new _) | ((with_reducible refine alloc_at _ _ ?_); (simp; done)) | (with_reducible refine alloc_old ?_ _) | (with_reducible refine Below.at hb5 ?_ ?_) | (with_reducible refine Below.at hb6 ?_ ?_) | (simp; done) | (simp; omega) | omega)
                  · repeat' (first | (with_reducible refine drew_at ?_) | (with_reducible refine setRow_off ?_ ?_ _) | (with_reducible exact setRow_at (by assumption) _) | (with_reducible exact alloc_new _) | ((with_reducible refine alloc_at _ _ ?_); (simp; done)) | (with_reducible refine alloc_old ?_ _) | (with_reducible refine Below.at hb5 ?_ ?_) | (with_reducible refine Below.at hb6 ?_ ?_) | (simp; done) | (simp; omega) | omega)
                · refine setRow_at (old := #[.int .i64 0, .bool false, .slice none 0 0, .string ⟨#[]⟩]) ?_ _
                  repeat' (first | (with_reducible refine drew_at ?_) | (with_reducible refine setRow_off ?_ ?_ _) | (with_reducible exact setRow_at (by assumption) _) | (with_reducible exact alloc_new _) | ((with_reducible refine alloc_at _ _ ?_); (simp; done)) | (with_reducible refine alloc_old ?_ _) | (with_reducible refine Below.at hb5 ?_ ?_) | (with_reducible refine Below.at hb6 ?_ ?_) | (simp; done) | (simp; omega) | omega)
                · apply cells_own
                  repeat' (first | (with_reducible exact HO5.out) | (with_reducible apply owns_setRow) | (with_reducible apply World.ownsRow.drew) | (with_reducible apply World.ownsRow.alloc) | (with_reducible apply fun h => owns_aft h hb6) | (intro k hk; have := HLT5.out k hk; first | omega | (simp; omega)))
                · apply cells_own
                  repeat' (first | (with_reducible exact HO6.out) | (with_reducible apply owns_setRow) | (with_reducible apply World.ownsRow.drew) | (with_reducible apply World.ownsRow.alloc) | (intro k hk; have := HLT6.out k hk; first | omega | (simp; omega)))
              exact AllReadyH.nil
            exact AllReadyH.nil
          exact AllReadyH.nil
        exact AllReadyH.nil
      refine AllReadyH.cons rfl (fun K hK => ?_) ?_
      · go_simp
        refine hK.out _ _ ?_ (fun hHeld2 => ?_)
        · (try dsimp only); exact HX.out _ (by repeat' (first | (with_reducible assumption) | (with_reducible refine below_setRowN ?_ ?_ _) | (with_reducible refine Below.setCell ?_ ?_ _) | (with_reducible refine below_drewN' ?_ _) | (with_reducible refine Below.drew ?_) | (with_reducible refine Below.alloc ?_ ?_ _) | (with_reducible exact Below.refl _ _) | (with_reducible exact Nat.le_refl _) | (simp; done) | omega | (simp; omega)))
        clear hK K hHeld1
        (try simp only [Act.put, List.setIfInBounds_toArray, List.set_cons_zero, List.set_cons_succ, List.getElem_toArray, List.getElem_cons_zero, List.getElem_cons_succ])
        refine wpAnyH_ready (rs := [3, 4]) (by kernel_rfl) (by simp) ?_
        refine AllReadyH.cons rfl (fun K hK => ?_) ?_
        · (go_simp; go_at_call 43; (with_reducible refine (HBQ.out _ (HB1.out.trans (Below.mono (B := w1.heap.size) (by repeat' (first | (with_reducible assumption) | (with_reducible refine below_setRowN ?_ ?_ _) | (with_reducible refine Below.setCell ?_ ?_ _) | (with_reducible refine below_drewN' ?_ _) | (with_reducible refine Below.drew ?_) | (with_reducible refine Below.alloc ?_ ?_ _) | (with_reducible exact Below.refl _ _) | (with_reducible exact Nat.le_refl _) | (simp; done) | omega | (simp; omega))) HB1.out.size))).mono ?_); rintro e w6 ⟨v6, rfl, hown6, hb6⟩; have hlt6 := hown6.lt; obtain ⟨p6, q6, rfl, -, -, -⟩ := CellsOff.own hown6 [] (by simp); have hcur6 : Below w1.heap.size w1 w6 := (Below.trans (by repeat' (first | (with_reducible assumption) | (with_reducible refine below_setRowN ?_ ?_ _) | (with_reducible refine Below.setCell ?_ ?_ _) | (with_reducible refine below_drewN' ?_ _) | (with_reducible refine Below.drew ?_) | (with_reducible refine Below.alloc ?_ ?_ _) | (with_reducible exact Below.refl _ _) | (with_reducible exact Nat.le_refl _) | (simp; done) | omega | (simp; omega))) (hb6.mono (by first | (simp; done) | omega | (simp; omega)))); have hcs6 := hcur6.size; have hcs6b := hb6.size; (try simp at hcs6b hlt6); have HO6 := Lib.hid hown6; have HLT6 := Lib.hid hlt6; clear hown6 hlt6)
          refine hK.out _ _ ?_ (fun hHeld3 => ?_)
          · (try dsimp only); exact HX.out _ (by repeat' (first | (with_reducible assumption) | (with_reducible refine below_setRowN ?_ ?_ _) | (with_reducible refine Below.setCell ?_ ?_ _) | (with_reducible refine below_drewN' ?_ _) | (with_reducible refine Below.drew ?_) | (with_reducible refine Below.alloc ?_ ?_ _) | (with_reducible exact Below.refl _ _) | (with_reducible exact Nat.le_refl _) | (simp; done) | omega | (simp; omega)))
          clear hK K hHeld2
          (try simp only [Act.put, List.setIfInBounds_toArray, List.set_cons_zero, List.set_cons_succ, List.getElem_toArray, List.getElem_cons_zero, List.getElem_cons_succ])
          refine wpAnyH_ready (rs := [4]) (by kernel_rfl) (by simp) ?_
          refine AllReadyH.cons rfl (fun K hK => ?_) ?_
          · go_simp
            refine hK.out _ _ ?_ (fun hHeld4 => ?_)
            · (try dsimp only); exact HX.out _ (by repeat' (first | (with_reducible assumption) | (with_reducible refine below_setRowN ?_ ?_ _) | (with_reducible refine Below.setCell ?_ ?_ _) | (with_reducible refine below_drewN' ?_ _) | (with_reducible refine Below.drew ?_) | (with_reducible refine Below.alloc ?_ ?_ _) | (with_reducible exact Below.refl _ _) | (with_reducible exact Nat.le_refl _) | (simp; done) | omega | (simp; omega)))
            clear hK K hHeld3
            (try simp only [Act.put, List.setIfInBounds_toArray, List.set_cons_zero, List.set_cons_succ, List.getElem_toArray, List.getElem_cons_zero, List.getElem_cons_succ])
            refine wpAnyH_ready (rs := [6]) (by kernel_rfl) (by simp) ?_
            refine AllReadyH.cons rfl (fun K hK => ?_) ?_
            · (rw [if_pos (by rfl)]; refine wp_store_row 68 _ _ (by rfl) _ _ (by rfl) (by rfl) 68 #[.int .i64 0, .bool false, .slice none 0 0, .string ⟨#[]⟩] (by repeat' (first | (with_reducible refine drew_at ?_) | (with_reducible refine setRow_off ?_ ?_ _) | (with_reducible exact setRow_at (by assumption) _) | (with_reducible exact alloc_new _) | ((with_reducible refine alloc_at _ _ ?_); (simp; done)) | (with_reducible refine alloc_old ?_ _) | (with_reducible refine Below.at hb5 ?_ ?_) | (with_reducible refine Below.at hb6 ?_ ?_) | (simp; done) | (simp; omega) | omega)) (by kernel_rfl) (by rfl) (by first | (simp; done) | simp [Value.oneCell']) ?_)
              refine hK.out _ _ ?_ (fun hHeld5 => ?_)
              · (try dsimp only); exact HX.out _ (by repeat' (first | (with_reducible assumption) | (with_reducible refine below_setRowN ?_ ?_ _) | (with_reducible refine Below.setCell ?_ ?_ _) | (with_reducible refine below_drewN' ?_ _) | (with_reducible refine Below.drew ?_) | (with_reducible refine Below.alloc ?_ ?_ _) | (with_reducible exact Below.refl _ _) | (with_reducible exact Nat.le_refl _) | (simp; done) | omega | (simp; omega)))
              clear hK K hHeld4
              (try simp only [Act.put, List.setIfInBounds_toArray, List.set_cons_zero, List.set_cons_succ, List.getElem_toArray, List.getElem_cons_zero, List.getElem_cons_succ])
              refine wpAnyH_ready (rs := [7]) (by kernel_rfl) (by simp) ?_
              refine AllReadyH.cons rfl (fun K hK => ?_) ?_
              · (rw [if_pos (by rfl)]; refine wp_store_row 68 _ _ (by rfl) _ _ (by rfl) (by rfl) 68 #[.int .i64 0, .bool false, .slice none 0 0, .string ⟨#[]⟩] (by repeat' (first | (with_reducible refine drew_at ?_) | (with_reducible refine setRow_off ?_ ?_ _) | (with_reducible exact setRow_at (by assumption) _) | (with_reducible exact alloc_new _) | ((with_reducible refine alloc_at _ _ ?_); (simp; done)) | (with_reducible refine alloc_old ?_ _) | (with_reducible refine Below.at hb5 ?_ ?_) | (with_reducible refine Below.at hb6 ?_ ?_) | (simp; done) | (simp; omega) | omega)) (by kernel_rfl) (by rfl) (by first | (simp; done) | simp [Value.oneCell']) ?_)
                refine hK.out _ _ ?_ (fun hHeld6 => ?_)
                · (try dsimp only); exact HX.out _ (by repeat' (first | (with_reducible assumption) | (with_reducible refine below_setRowN ?_ ?_ _) | (with_reducible refine Below.setCell ?_ ?_ _) | (with_reducible refine below_drewN' ?_ _) | (with_reducible refine Below.drew ?_) | (with_reducible refine Below.alloc ?_ ?_ _) | (with_reducible exact Below.refl _ _) | (with_reducible exact Nat.le_refl _) | (simp; done) | omega | (simp; omega)))
                clear hK K hHeld5
                (try simp only [Act.put, List.setIfInBounds_toArray, List.set_cons_zero, List.set_cons_succ, List.getElem_toArray, List.getElem_cons_zero, List.getElem_cons_succ])
                refine wpAnyH_done (by kernel_rfl) ?_ _
                go_wp2
                go_meet
                refine ⟨_, _, p5, q5, p6, q6, rfl, rfl, ?_, ?_, ?_, ?_, by repeat' (first | (with_reducible assumption) | (with_reducible refine below_setRowN ?_ ?_ _) | (with_reducible refine Below.setCell ?_ ?_ _) | (with_reducible refine below_drewN' ?_ _) | (with_reducible refine Below.drew ?_) | (with_reducible refine Below.alloc ?_ ?_ _) | (with_reducible exact Below.refl _ _) | (with_reducible exact Nat.le_refl _) | (simp; done) | omega | (simp; omega))⟩
                · refine setRow_off (setRow_at (old := #[.int .i64 0, .bool false, .slice none 0 0, .string ⟨#[]⟩]) ?_ _) ?_ _
                  · repeat' (first | (with_reducible refine drew_at ?_) | (with_reducible refine setRow_off ?_ ?_ _) | (with_reducible exact setRow_at (by assumption) _) | (with_reducible exact alloc_new _) | ((with_reducible refine alloc_at _ _ ?_); (simp; done)) | (with_reducible refine alloc_old ?_ _) | (with_reducible refine Below.at hb5 ?_ ?_) | (with_reducible refine Below.at hb6 ?_ ?_) | (simp; done) | (simp; omega) | omega)
                  · repeat' (first | (with_reducible refine drew_at ?_) | (with_reducible refine setRow_off ?_ ?_ _) | (with_reducible exact setRow_at (by assumption) _) | (with_reducible exact alloc_new _) | ((with_reducible refine alloc_at _ _ ?_); (simp; done)) | (with_reducible refine alloc_old ?_ _) | (with_reducible refine Below.at hb5 ?_ ?_) | (with_reducible refine Below.at hb6 ?_ ?_) | (simp; done) | (simp; omega) | omega)
                · refine setRow_at (old := #[.int .i64 0, .bool false, .slice none 0 0, .string ⟨#[]⟩]) ?_ _
                  repeat' (first | (with_reducible refine drew_at ?_) | (with_reducible refine setRow_off ?_ ?_ _) | (with_reducible exact setRow_at (by assumption) _) | (with_reducible exact alloc_new _) | ((with_reducible refine alloc_at _ _ ?_); (simp; done)) | (with_reducible refine alloc_old ?_ _) | (with_reducible refine Below.at hb5 ?_ ?_) | (with_reducible refine Below.at hb6 ?_ ?_) | (simp; done) | (simp; omega) | omega)
                · apply cells_own
                  repeat' (first | (with_reducible exact HO5.out) | (with_reducible apply owns_setRow) | (with_reducible apply World.ownsRow.drew) | (with_reducible apply World.ownsRow.alloc) | (with_reducible apply fun h => owns_aft h hb6) | (intro k hk; have := HLT5.out k hk; first | omega | (simp; omega)))
                · apply cells_own
                  repeat' (first | (with_reducible exact HO6.out) | (with_reducible apply owns_setRow) | (with_reducible apply World.ownsRow.drew) | (with_reducible apply World.ownsRow.alloc) | (intro k hk; have := HLT6.out k hk; first | omega | (simp; omega)))
              exact AllReadyH.nil
            exact AllReadyH.nil
          exact AllReadyH.nil
        refine AllReadyH.cons rfl (fun K hK => ?_) ?_
        · go_simp
          refine hK.out _ _ ?_ (fun hHeld3 => ?_)
          · (try dsimp only); exact HX.out _ (by repeat' (first | (with_reducible assumption) | (with_reducible refine below_setRowN ?_ ?_ _) | (with_reducible refine Below.setCell ?_ ?_ _) | (with_reducible refine below_drewN' ?_ _) | (with_reducible refine Below.drew ?_) | (with_reducible refine Below.alloc ?_ ?_ _) | (with_reducible exact Below.refl _ _) | (with_reducible exact Nat.le_refl _) | (simp; done) | omega | (simp; omega)))
          clear hK K hHeld2
          (try simp only [Act.put, List.setIfInBounds_toArray, List.set_cons_zero, List.set_cons_succ, List.getElem_toArray, List.getElem_cons_zero, List.getElem_cons_succ])
          refine wpAnyH_ready (rs := [3]) (by kernel_rfl) (by simp) ?_
          refine AllReadyH.cons rfl (fun K hK => ?_) ?_
          · (go_simp; go_at_call 43; (with_reducible refine (HBQ.out _ (HB1.out.trans (Below.mono (B := w1.heap.size) (by repeat' (first | (with_reducible assumption) | (with_reducible refine below_setRowN ?_ ?_ _) | (with_reducible refine Below.setCell ?_ ?_ _) | (with_reducible refine below_drewN' ?_ _) | (with_reducible refine Below.drew ?_) | (with_reducible refine Below.alloc ?_ ?_ _) | (with_reducible exact Below.refl _ _) | (with_reducible exact Nat.le_refl _) | (simp; done) | omega | (simp; omega))) HB1.out.size))).mono ?_); rintro e w6 ⟨v6, rfl, hown6, hb6⟩; have hlt6 := hown6.lt; obtain ⟨p6, q6, rfl, -, -, -⟩ := CellsOff.own hown6 [] (by simp); have hcur6 : Below w1.heap.size w1 w6 := (Below.trans (by repeat' (first | (with_reducible assumption) | (with_reducible refine below_setRowN ?_ ?_ _) | (with_reducible refine Below.setCell ?_ ?_ _) | (with_reducible refine below_drewN' ?_ _) | (with_reducible refine Below.drew ?_) | (with_reducible refine Below.alloc ?_ ?_ _) | (with_reducible exact Below.refl _ _) | (with_reducible exact Nat.le_refl _) | (simp; done) | omega | (simp; omega))) (hb6.mono (by first | (simp; done) | omega | (simp; omega)))); have hcs6 := hcur6.size; have hcs6b := hb6.size; (try simp at hcs6b hlt6); have HO6 := Lib.hid hown6; have HLT6 := Lib.hid hlt6; clear hown6 hlt6)
            refine hK.out _ _ ?_ (fun hHeld4 => ?_)
            · (try dsimp only); exact HX.out _ (by repeat' (first | (with_reducible assumption) | (with_reducible refine below_setRowN ?_ ?_ _) | (with_reducible refine Below.setCell ?_ ?_ _) | (with_reducible refine below_drewN' ?_ _) | (with_reducible refine Below.drew ?_) | (with_reducible refine Below.alloc ?_ ?_ _) | (with_reducible exact Below.refl _ _) | (with_reducible exact Nat.le_refl _) | (simp; done) | omega | (simp; omega)))
            clear hK K hHeld3
            (try simp only [Act.put, List.setIfInBounds_toArray, List.set_cons_zero, List.set_cons_succ, List.getElem_toArray, List.getElem_cons_zero, List.getElem_cons_succ])
            refine wpAnyH_ready (rs := [6]) (by kernel_rfl) (by simp) ?_
            refine AllReadyH.cons rfl (fun K hK => ?_) ?_
            · (rw [if_pos (by rfl)]; refine wp_store_row 68 _ _ (by rfl) _ _ (by rfl) (by rfl) 68 #[.int .i64 0, .bool false, .slice none 0 0, .string ⟨#[]⟩] (by repeat' (first | (with_reducible refine drew_at ?_) | (with_reducible refine setRow_off ?_ ?_ _) | (with_reducible exact setRow_at (by assumption) _) | (with_reducible exact alloc_new _) | ((with_reducible refine alloc_at _ _ ?_); (simp; done)) | (with_reducible refine alloc_old ?_ _) | (with_reducible refine Below.at hb5 ?_ ?_) | (with_reducible refine Below.at hb6 ?_ ?_) | (simp; done) | (simp; omega) | omega)) (by kernel_rfl) (by rfl) (by first | (simp; done) | simp [Value.oneCell']) ?_)
              refine hK.out _ _ ?_ (fun hHeld5 => ?_)
              · (try dsimp only); exact HX.out _ (by repeat' (first | (with_reducible assumption) | (with_reducible refine below_setRowN ?_ ?_ _) | (with_reducible refine Below.setCell ?_ ?_ _) | (with_reducible refine below_drewN' ?_ _) | (with_reducible refine Below.drew ?_) | (with_reducible refine Below.alloc ?_ ?_ _) | (with_reducible exact Below.refl _ _) | (with_reducible exact Nat.le_refl _) | (simp; done) | omega | (simp; omega)))
              clear hK K hHeld4
              (try simp only [Act.put, List.setIfInBounds_toArray, List.set_cons_zero, List.set_cons_succ, List.getElem_toArray, List.getElem_cons_zero, List.getElem_cons_succ])
              refine wpAnyH_ready (rs := [7]) (by kernel_rfl) (by simp) ?_
              refine AllReadyH.cons rfl (fun K hK => ?_) ?_
              · (rw [if_pos (by rfl)]; refine wp_store_row 68 _ _ (by rfl) _ _ (by rfl) (by rfl) 68 #[.int .i64 0, .bool false, .slice none 0 0, .string ⟨#[]⟩] (by repeat' (first | (with_reducible refine drew_at ?_) | (with_reducible refine setRow_off ?_ ?_ _) | (with_reducible exact setRow_at (by assumption) _) | (with_reducible exact alloc_new _) | ((with_reducible refine alloc_at _ _ ?_); (simp; done)) | (with_reducible refine alloc_old ?_ _) | (with_reducible refine Below.at hb5 ?_ ?_) | (with_reducible refine Below.at hb6 ?_ ?_) | (simp; done) | (simp; omega) | omega)) (by kernel_rfl) (by rfl) (by first | (simp; done) | simp [Value.oneCell']) ?_)
                refine hK.out _ _ ?_ (fun hHeld6 => ?_)
                · (try dsimp only); exact HX.out _ (by repeat' (first | (with_reducible assumption) | (with_reducible refine below_setRowN ?_ ?_ _) | (with_reducible refine Below.setCell ?_ ?_ _) | (with_reducible refine below_drewN' ?_ _) | (with_reducible refine Below.drew ?_) | (with_reducible refine Below.alloc ?_ ?_ _) | (with_reducible exact Below.refl _ _) | (with_reducible exact Nat.le_refl _) | (simp; done) | omega | (simp; omega)))
                clear hK K hHeld5
                (try simp only [Act.put, List.setIfInBounds_toArray, List.set_cons_zero, List.set_cons_succ, List.getElem_toArray, List.getElem_cons_zero, List.getElem_cons_succ])
                refine wpAnyH_done (by kernel_rfl) ?_ _
                go_wp2
                go_meet
                refine ⟨_, _, p5, q5, p6, q6, rfl, rfl, ?_, ?_, ?_, ?_, by repeat' (first | (with_reducible assumption) | (with_reducible refine below_setRowN ?_ ?_ _) | (with_reducible refine Below.setCell ?_ ?_ _) | (with_reducible refine below_drewN' ?_ _) | (with_reducible refine Below.drew ?_) | (with_reducible refine Below.alloc ?_ ?_ _) | (with_reducible exact Below.refl _ _) | (with_reducible exact Nat.le_refl _) | (simp; done) | omega | (simp; omega))⟩
                · refine setRow_off (setRow_at (old := #[.int .i64 0, .bool false, .slice none 0 0, .string ⟨#[]⟩]) ?_ _) ?_ _
                  · repeat' (first | (with_reducible refine drew_at ?_) | (with_reducible refine setRow_off ?_ ?_ _) | (with_reducible exact setRow_at (by assumption) _) | (with_reducible exact alloc_new _) | ((with_reducible refine alloc_at _ _ ?_); (simp; done)) | (with_reducible refine alloc_old ?_ _) | (with_reducible refine Below.at hb5 ?_ ?_) | (with_reducible refine Below.at hb6 ?_ ?_) | (simp; done) | (simp; omega) | omega)
                  · repeat' (first | (with_reducible refine drew_at ?_) | (with_reducible refine setRow_off ?_ ?_ _) | (with_reducible exact setRow_at (by assumption) _) | (with_reducible exact alloc_new _) | ((with_reducible refine alloc_at _ _ ?_); (simp; done)) | (with_reducible refine alloc_old ?_ _) | (with_reducible refine Below.at hb5 ?_ ?_) | (with_reducible refine Below.at hb6 ?_ ?_) | (simp; done) | (simp; omega) | omega)
                · refine setRow_at (old := #[.int .i64 0, .bool false, .slice none 0 0, .string ⟨#[]⟩]) ?_ _
                  repeat' (first | (with_reducible refine drew_at ?_) | (with_reducible refine setRow_off ?_ ?_ _) | (with_reducible exact setRow_at (by assumption) _) | (with_reducible exact alloc_new _) | ((with_reducible refine alloc_at _ _ ?_); (simp; done)) | (with_reducible refine alloc_old ?_ _) | (with_reducible refine Below.at hb5 ?_ ?_) | (with_reducible refine Below.at hb6 ?_ ?_) | (simp; done) | (simp; omega) | omega)
                · apply cells_own
                  repeat' (first | (with_reducible exact HO5.out) | (with_reducible apply owns_setRow) | (with_reducible apply World.ownsRow.drew) | (with_reducible apply World.ownsRow.alloc) | (with_reducible apply fun h => owns_aft h hb6) | (intro k hk; have := HLT5.out k hk; first | omega | (simp; omega)))
                · apply cells_own
                  repeat' (first | (with_reducible exact HO6.out) | (with_reducible apply owns_setRow) | (with_reducible apply World.ownsRow.drew) | (with_reducible apply World.ownsRow.alloc) | (intro k hk; have := HLT6.out k hk; first | omega | (simp; omega)))
              exact AllReadyH.nil
            exact AllReadyH.nil
          exact AllReadyH.nil
        exact AllReadyH.nil
      exact AllReadyH.nil
    refine AllReadyH.cons rfl (fun K hK => ?_) ?_
    · go_simp
      refine hK.out _ _ ?_ (fun hHeld1 => ?_)
      · (try dsimp only); exact HX.out _ (by repeat' (first | (with_reducible assumption) | (with_reducible refine below_setRowN ?_ ?_ _) | (with_reducible refine Below.setCell ?_ ?_ _) | (with_reducible refine below_drewN' ?_ _) | (with_reducible refine Below.drew ?_) | (with_reducible refine Below.alloc ?_ ?_ _) | (with_reducible exact Below.refl _ _) | (with_reducible exact Nat.le_refl _) | (simp; done) | omega | (simp; omega)))
      clear hK K hHeld0
      (try simp only [Act.put, List.setIfInBounds_toArray, List.set_cons_zero, List.set_cons_succ, List.getElem_toArray, List.getElem_cons_zero, List.getElem_cons_succ])
      refine wpAnyH_ready (rs := [1, 5]) (by kernel_rfl) (by simp) ?_
      refine AllReadyH.cons rfl (fun K hK => ?_) ?_
      · (go_simp; go_at_call 43; (with_reducible refine (HBP.out _ (HB1.out.trans (Below.mono (B := w1.heap.size) (by repeat' (first | (with_reducible assumption) | (with_reducible refine below_setRowN ?_ ?_ _) | (with_reducible refine Below.setCell ?_ ?_ _) | (with_reducible refine below_drewN' ?_ _) | (with_reducible refine Below.drew ?_) | (with_reducible refine Below.alloc ?_ ?_ _) | (with_reducible exact Below.refl _ _) | (with_reducible exact Nat.le_refl _) | (simp; done) | omega | (simp; omega))) HB1.out.size))).mono ?_); rintro e w5 ⟨v5, rfl, hown5, hb5⟩; have hlt5 := hown5.lt; obtain ⟨p5, q5, rfl, -, -, -⟩ := CellsOff.own hown5 [] (by simp); have hcur : Below w1.heap.size w1 w5 := (Below.trans (by repeat' (first | (with_reducible assumption) | (with_reducible refine below_setRowN ?_ ?_ _) | (with_reducible refine Below.setCell ?_ ?_ _) | (with_reducible refine below_drewN' ?_ _) | (with_reducible refine Below.drew ?_) | (with_reducible refine Below.alloc ?_ ?_ _) | (with_reducible exact Below.refl _ _) | (with_reducible exact Nat.le_refl _) | (simp; done) | omega | (simp; omega))) (hb5.mono (by first | (simp; done) | omega | (simp; omega)))); have hcs := hcur.size; have hcs5 := hb5.size; (try simp at hcs5 hlt5); have HO5 := Lib.hid hown5; have HLT5 := Lib.hid hlt5; clear hown5 hlt5)
        refine hK.out _ _ ?_ (fun hHeld2 => ?_)
        · (try dsimp only); exact HX.out _ (by repeat' (first | (with_reducible assumption) | (with_reducible refine below_setRowN ?_ ?_ _) | (with_reducible refine Below.setCell ?_ ?_ _) | (with_reducible refine below_drewN' ?_ _) | (with_reducible refine Below.drew ?_) | (with_reducible refine Below.alloc ?_ ?_ _) | (with_reducible exact Below.refl _ _) | (with_reducible exact Nat.le_refl _) | (simp; done) | omega | (simp; omega)))
        clear hK K hHeld1
        (try simp only [Act.put, List.setIfInBounds_toArray, List.set_cons_zero, List.set_cons_succ, List.getElem_toArray, List.getElem_cons_zero, List.getElem_cons_succ])
        refine wpAnyH_ready (rs := [3, 5]) (by kernel_rfl) (by simp) ?_
        refine AllReadyH.cons rfl (fun K hK => ?_) ?_
        · (go_simp; go_at_call 43; (with_reducible refine (HBQ.out _ (HB1.out.trans (Below.mono (B := w1.heap.size) (by repeat' (first | (with_reducible assumption) | (with_reducible refine below_setRowN ?_ ?_ _) | (with_reducible refine Below.setCell ?_ ?_ _) | (with_reducible refine below_drewN' ?_ _) | (with_reducible refine Below.drew ?_) | (with_reducible refine Below.alloc ?_ ?_ _) | (with_reducible exact Below.refl _ _) | (with_reducible exact Nat.le_refl _) | (simp; done) | omega | (simp; omega))) HB1.out.size))).mono ?_); rintro e w6 ⟨v6, rfl, hown6, hb6⟩; have hlt6 := hown6.lt; obtain ⟨p6, q6, rfl, -, -, -⟩ := CellsOff.own hown6 [] (by simp); have hcur6 : Below w1.heap.size w1 w6 := (Below.trans (by repeat' (first | (with_reducible assumption) | (with_reducible refine below_setRowN ?_ ?_ _) | (with_reducible refine Below.setCell ?_ ?_ _) | (with_reducible refine below_drewN' ?_ _) | (with_reducible refine Below.drew ?_) | (with_reducible refine Below.alloc ?_ ?_ _) | (with_reducible exact Below.refl _ _) | (with_reducible exact Nat.le_refl _) | (simp; done) | omega | (simp; omega))) (hb6.mono (by first | (simp; done) | omega | (simp; omega)))); have hcs6 := hcur6.size; have hcs6b := hb6.size; (try simp at hcs6b hlt6); have HO6 := Lib.hid hown6; have HLT6 := Lib.hid hlt6; clear hown6 hlt6)
          refine hK.out _ _ ?_ (fun hHeld3 => ?_)
          · (try dsimp only); exact HX.out _ (by repeat' (first | (with_reducible assumption) | (with_reducible refine below_setRowN ?_ ?_ _) | (with_reducible refine Below.setCell ?_ ?_ _) | (with_reducible refine below_drewN' ?_ _) | (with_reducible refine Below.drew ?_) | (with_reducible refine Below.alloc ?_ ?_ _) | (with_reducible exact Below.refl _ _) | (with_reducible exact Nat.le_refl _) | (simp; done) | omega | (simp; omega)))
          clear hK K hHeld2
          (try simp only [Act.put, List.setIfInBounds_toArray, List.set_cons_zero, List.set_cons_succ, List.getElem_toArray, List.getElem_cons_zero, List.getElem_cons_succ])
          refine wpAnyH_ready (rs := [5]) (by kernel_rfl) (by simp) ?_
          refine AllReadyH.cons rfl (fun K hK => ?_) ?_
          · go_simp
            refine hK.out _ _ ?_ (fun hHeld4 => ?_)
            · (try dsimp only); exact HX.out _ (by repeat' (first | (with_reducible assumption) | (with_reducible refine below_setRowN ?_ ?_ _) | (with_reducible refine Below.setCell ?_ ?_ _) | (with_reducible refine below_drewN' ?_ _) | (with_reducible refine Below.drew ?_) | (with_reducible refine Below.alloc ?_ ?_ _) | (with_reducible exact Below.refl _ _) | (with_reducible exact Nat.le_refl _) | (simp; done) | omega | (simp; omega)))
            clear hK K hHeld3
            (try simp only [Act.put, List.setIfInBounds_toArray, List.set_cons_zero, List.set_cons_succ, List.getElem_toArray, List.getElem_cons_zero, List.getElem_cons_succ])
            refine wpAnyH_ready (rs := [6]) (by kernel_rfl) (by simp) ?_
            refine AllReadyH.cons rfl (fun K hK => ?_) ?_
            · (rw [if_pos (by rfl)]; refine wp_store_row 68 _ _ (by rfl) _ _ (by rfl) (by rfl) 68 #[.int .i64 0, .bool false, .slice none 0 0, .string ⟨#[]⟩] (by repeat' (first | (with_reducible refine drew_at ?_) | (with_reducible refine setRow_off ?_ ?_ _) | (with_reducible exact setRow_at (by assumption) _) | (with_reducible exact alloc_new _) | ((with_reducible refine alloc_at _ _ ?_); (simp; done)) | (with_reducible refine alloc_old ?_ _) | (with_reducible refine Below.at hb5 ?_ ?_) | (with_reducible refine Below.at hb6 ?_ ?_) | (simp; done) | (simp; omega) | omega)) (by kernel_rfl) (by rfl) (by first | (simp; done) | simp [Value.oneCell']) ?_)
              refine hK.out _ _ ?_ (fun hHeld5 => ?_)
              · (try dsimp only); exact HX.out _ (by repeat' (first | (with_reducible assumption) | (with_reducible refine below_setRowN ?_ ?_ _) | (with_reducible refine Below.setCell ?_ ?_ _) | (with_reducible refine below_drewN' ?_ _) | (with_reducible refine Below.drew ?_) | (with_reducible refine Below.alloc ?_ ?_ _) | (with_reducible exact Below.refl _ _) | (with_reducible exact Nat.le_refl _) | (simp; done) | omega | (simp; omega)))
              clear hK K hHeld4
              (try simp only [Act.put, List.setIfInBounds_toArray, List.set_cons_zero, List.set_cons_succ, List.getElem_toArray, List.getElem_cons_zero, List.getElem_cons_succ])
              refine wpAnyH_ready (rs := [7]) (by kernel_rfl) (by simp) ?_
              refine AllReadyH.cons rfl (fun K hK => ?_) ?_
              · (rw [if_pos (by rfl)]; refine wp_store_row 68 _ _ (by rfl) _ _ (by rfl) (by rfl) 68 #[.int .i64 0, .bool false, .slice none 0 0, .string ⟨#[]⟩] (by repeat' (first | (with_reducible refine drew_at ?_) | (with_reducible refine setRow_off ?_ ?_ _) | (with_reducible exact setRow_at (by assumption) _) | (with_reducible exact alloc_new _) | ((with_reducible refine alloc_at _ _ ?_); (simp; done)) | (with_reducible refine alloc_old ?_ _) | (with_reducible refine Below.at hb5 ?_ ?_) | (with_reducible refine Below.at hb6 ?_ ?_) | (simp; done) | (simp; omega) | omega)) (by kernel_rfl) (by rfl) (by first | (simp; done) | simp [Value.oneCell']) ?_)
                refine hK.out _ _ ?_ (fun hHeld6 => ?_)
                · (try dsimp only); exact HX.out _ (by repeat' (first | (with_reducible assumption) | (with_reducible refine below_setRowN ?_ ?_ _) | (with_reducible refine Below.setCell ?_ ?_ _) | (with_reducible refine below_drewN' ?_ _) | (with_reducible refine Below.drew ?_) | (with_reducible refine Below.alloc ?_ ?_ _) | (with_reducible exact Below.refl _ _) | (with_reducible exact Nat.le_refl _) | (simp; done) | omega | (simp; omega)))
                clear hK K hHeld5
                (try simp only [Act.put, List.setIfInBounds_toArray, List.set_cons_zero, List.set_cons_succ, List.getElem_toArray, List.getElem_cons_zero, List.getElem_cons_succ])
                refine wpAnyH_done (by kernel_rfl) ?_ _
                go_wp2
                go_meet
                refine ⟨_, _, p5, q5, p6, q6, rfl, rfl, ?_, ?_, ?_, ?_, by repeat' (first | (with_reducible assumption) | (with_reducible refine below_setRowN ?_ ?_ _) | (with_reducible refine Below.setCell ?_ ?_ _) | (with_reducible refine below_drewN' ?_ _) | (with_reducible refine Below.drew ?_) | (with_reducible refine Below.alloc ?_ ?_ _) | (with_reducible exact Below.refl _ _) | (with_reducible exact Nat.le_refl _) | (simp; done) | omega | (simp; omega))⟩
                · refine setRow_off (setRow_at (old := #[.int .i64 0, .bool false, .slice none 0 0, .string ⟨#[]⟩]) ?_ _) ?_ _
                  · repeat' (first | (with_reducible refine drew_at ?_) | (with_reducible refine setRow_off ?_ ?_ _) | (with_reducible exact setRow_at (by assumption) _) | (with_reducible exact alloc_new _) | ((with_reducible refine alloc_at _ _ ?_); (simp; done)) | (with_reducible refine alloc_old ?_ _) | (with_reducible refine Below.at hb5 ?_ ?_) | (with_reducible refine Below.at hb6 ?_ ?_) | (simp; done) | (simp; omega) | omega)
                  · repeat' (first | (with_reducible refine drew_at ?_) | (with_reducible refine setRow_off ?_ ?_ _) | (with_reducible exact setRow_at (by assumption) _) | (with_reducible exact alloc_new _) | ((with_reducible refine alloc_at _ _ ?_); (simp; done)) | (with_reducible refine alloc_old ?_ _) | (with_reducible refine Below.at hb5 ?_ ?_) | (with_reducible refine Below.at hb6 ?_ ?_) | (simp; done) | (simp; omega) | omega)
                · refine setRow_at (old := #[.int .i64 0, .bool false, .slice none 0 0, .string ⟨#[]⟩]) ?_ _
                  repeat' (first | (with_reducible refine drew_at ?_) | (with_reducible refine setRow_off ?_ ?_ _) | (with_reducible exact setRow_at (by assumption) _) | (with_reducible exact alloc_new _) | ((with_reducible refine alloc_at _ _ ?_); (simp; done)) | (with_reducible refine alloc_old ?_ _) | (with_reducible refine Below.at hb5 ?_ ?_) | (with_reducible refine Below.at hb6 ?_ ?_) | (simp; done) | (simp; omega) | omega)
                · apply cells_own
                  repeat' (first | (with_reducible exact HO5.out) | (with_reducible apply owns_setRow) | (with_reducible apply World.ownsRow.drew) | (with_reducible apply World.ownsRow.alloc) | (with_reducible apply fun h => owns_aft h hb6) | (intro k hk; have := HLT5.out k hk; first | omega | (simp; omega)))
                · apply cells_own
                  repeat' (first | (with_reducible exact HO6.out) | (with_reducible apply owns_setRow) | (with_reducible apply World.ownsRow.drew) | (with_reducible apply World.ownsRow.alloc) | (intro k hk; have := HLT6.out k hk; first | omega | (simp; omega)))
              exact AllReadyH.nil
            exact AllReadyH.nil
          exact AllReadyH.nil
        refine AllReadyH.cons rfl (fun K hK => ?_) ?_
        · go_simp
          refine hK.out _ _ ?_ (fun hHeld3 => ?_)
          · (try dsimp only); exact HX.out _ (by repeat' (first | (with_reducible assumption) | (with_reducible refine below_setRowN ?_ ?_ _) | (with_reducible refine Below.setCell ?_ ?_ _) | (with_reducible refine below_drewN' ?_ _) | (with_reducible refine Below.drew ?_) | (with_reducible refine Below.alloc ?_ ?_ _) | (with_reducible exact Below.refl _ _) | (with_reducible exact Nat.le_refl _) | (simp; done) | omega | (simp; omega)))
          clear hK K hHeld2
          (try simp only [Act.put, List.setIfInBounds_toArray, List.set_cons_zero, List.set_cons_succ, List.getElem_toArray, List.getElem_cons_zero, List.getElem_cons_succ])
          refine wpAnyH_ready (rs := [3]) (by kernel_rfl) (by simp) ?_
          refine AllReadyH.cons rfl (fun K hK => ?_) ?_
          · (go_simp; go_at_call 43; (with_reducible refine (HBQ.out _ (HB1.out.trans (Below.mono (B := w1.heap.size) (by repeat' (first | (with_reducible assumption) | (with_reducible refine below_setRowN ?_ ?_ _) | (with_reducible refine Below.setCell ?_ ?_ _) | (with_reducible refine below_drewN' ?_ _) | (with_reducible refine Below.drew ?_) | (with_reducible refine Below.alloc ?_ ?_ _) | (with_reducible exact Below.refl _ _) | (with_reducible exact Nat.le_refl _) | (simp; done) | omega | (simp; omega))) HB1.out.size))).mono ?_); rintro e w6 ⟨v6, rfl, hown6, hb6⟩; have hlt6 := hown6.lt; obtain ⟨p6, q6, rfl, -, -, -⟩ := CellsOff.own hown6 [] (by simp); have hcur6 : Below w1.heap.size w1 w6 := (Below.trans (by repeat' (first | (with_reducible assumption) | (with_reducible refine below_setRowN ?_ ?_ _) | (with_reducible refine Below.setCell ?_ ?_ _) | (with_reducible refine below_drewN' ?_ _) | (with_reducible refine Below.drew ?_) | (with_reducible refine Below.alloc ?_ ?_ _) | (with_reducible exact Below.refl _ _) | (with_reducible exact Nat.le_refl _) | (simp; done) | omega | (simp; omega))) (hb6.mono (by first | (simp; done) | omega | (simp; omega)))); have hcs6 := hcur6.size; have hcs6b := hb6.size; (try simp at hcs6b hlt6); have HO6 := Lib.hid hown6; have HLT6 := Lib.hid hlt6; clear hown6 hlt6)
            refine hK.out _ _ ?_ (fun hHeld4 => ?_)
            · (try dsimp only); exact HX.out _ (by repeat' (first | (with_reducible assumption) | (with_reducible refine below_setRowN ?_ ?_ _) | (with_reducible refine Below.setCell ?_ ?_ _) | (with_reducible refine below_drewN' ?_ _) | (with_reducible refine Below.drew ?_) | (with_reducible refine Below.alloc ?_ ?_ _) | (with_reducible exact Below.refl _ _) | (with_reducible exact Nat.le_refl _) | (simp; done) | omega | (simp; omega)))
            clear hK K hHeld3
            (try simp only [Act.put, List.setIfInBounds_toArray, List.set_cons_zero, List.set_cons_succ, List.getElem_toArray, List.getElem_cons_zero, List.getElem_cons_succ])
            refine wpAnyH_ready (rs := [6]) (by kernel_rfl) (by simp) ?_
            refine AllReadyH.cons rfl (fun K hK => ?_) ?_
            · (rw [if_pos (by rfl)]; refine wp_store_row 68 _ _ (by rfl) _ _ (by rfl) (by rfl) 68 #[.int .i64 0, .bool false, .slice none 0 0, .string ⟨#[]⟩] (by repeat' (first | (with_reducible refine drew_at ?_) | (with_reducible refine setRow_off ?_ ?_ _) | (with_reducible exact setRow_at (by assumption) _) | (with_reducible exact alloc_new _) | ((with_reducible refine alloc_at _ _ ?_); (simp; done)) | (with_reducible refine alloc_old ?_ _) | (with_reducible refine Below.at hb5 ?_ ?_) | (with_reducible refine Below.at hb6 ?_ ?_) | (simp; done) | (simp; omega) | omega)) (by kernel_rfl) (by rfl) (by first | (simp; done) | simp [Value.oneCell']) ?_)
              refine hK.out _ _ ?_ (fun hHeld5 => ?_)
              · (try dsimp only); exact HX.out _ (by repeat' (first | (with_reducible assumption) | (with_reducible refine below_setRowN ?_ ?_ _) | (with_reducible refine Below.setCell ?_ ?_ _) | (with_reducible refine below_drewN' ?_ _) | (with_reducible refine Below.drew ?_) | (with_reducible refine Below.alloc ?_ ?_ _) | (with_reducible exact Below.refl _ _) | (with_reducible exact Nat.le_refl _) | (simp; done) | omega | (simp; omega)))
              clear hK K hHeld4
              (try simp only [Act.put, List.setIfInBounds_toArray, List.set_cons_zero, List.set_cons_succ, List.getElem_toArray, List.getElem_cons_zero, List.getElem_cons_succ])
              refine wpAnyH_ready (rs := [7]) (by kernel_rfl) (by simp) ?_
              refine AllReadyH.cons rfl (fun K hK => ?_) ?_
              · (rw [if_pos (by rfl)]; refine wp_store_row 68 _ _ (by rfl) _ _ (by rfl) (by rfl) 68 #[.int .i64 0, .bool false, .slice none 0 0, .string ⟨#[]⟩] (by repeat' (first | (with_reducible refine drew_at ?_) | (with_reducible refine setRow_off ?_ ?_ _) | (with_reducible exact setRow_at (by assumption) _) | (with_reducible exact alloc_new _) | ((with_reducible refine alloc_at _ _ ?_); (simp; done)) | (with_reducible refine alloc_old ?_ _) | (with_reducible refine Below.at hb5 ?_ ?_) | (with_reducible refine Below.at hb6 ?_ ?_) | (simp; done) | (simp; omega) | omega)) (by kernel_rfl) (by rfl) (by first | (simp; done) | simp [Value.oneCell']) ?_)
                refine hK.out _ _ ?_ (fun hHeld6 => ?_)
                · (try dsimp only); exact HX.out _ (by repeat' (first | (with_reducible assumption) | (with_reducible refine below_setRowN ?_ ?_ _) | (with_reducible refine Below.setCell ?_ ?_ _) | (with_reducible refine below_drewN' ?_ _) | (with_reducible refine Below.drew ?_) | (with_reducible refine Below.alloc ?_ ?_ _) | (with_reducible exact Below.refl _ _) | (with_reducible exact Nat.le_refl _) | (simp; done) | omega | (simp; omega)))
                clear hK K hHeld5
                (try simp only [Act.put, List.setIfInBounds_toArray, List.set_cons_zero, List.set_cons_succ, List.getElem_toArray, List.getElem_cons_zero, List.getElem_cons_succ])
                refine wpAnyH_done (by kernel_rfl) ?_ _
                go_wp2
                go_meet
                refine ⟨_, _, p5, q5, p6, q6, rfl, rfl, ?_, ?_, ?_, ?_, by repeat' (first | (with_reducible assumption) | (with_reducible refine below_setRowN ?_ ?_ _) | (with_reducible refine Below.setCell ?_ ?_ _) | (with_reducible refine below_drewN' ?_ _) | (with_reducible refine Below.drew ?_) | (with_reducible refine Below.alloc ?_ ?_ _) | (with_reducible exact Below.refl _ _) | (with_reducible exact Nat.le_refl _) | (simp; done) | omega | (simp; omega))⟩
                · refine setRow_off (setRow_at (old := #[.int .i64 0, .bool false, .slice none 0 0, .string ⟨#[]⟩]) ?_ _) ?_ _
                  · repeat' (first | (with_reducible refine drew_at ?_) | (with_reducible refine setRow_off ?_ ?_ _) | (with_reducible exact setRow_at (by assumption) _) | (with_reducible exact alloc_new _) | ((with_reducible refine alloc_at _ _ ?_); (simp; done)) | (with_reducible refine alloc_old ?_ _) | (with_reducible refine Below.at hb5 ?_ ?_) | (with_reducible refine Below.at hb6 ?_ ?_) | (simp; done) | (simp; omega) | omega)
                  · repeat' (first | (with_reducible refine drew_at ?_) | (with_reducible refine setRow_off ?_ ?_ _) | (with_reducible exact setRow_at (by assumption) _) | (with_reducible exact alloc_new _) | ((with_reducible refine alloc_at _ _ ?_); (simp; done)) | (with_reducible refine alloc_old ?_ _) | (with_reducible refine Below.at hb5 ?_ ?_) | (with_reducible refine Below.at hb6 ?_ ?_) | (simp; done) | (simp; omega) | omega)
                · refine setRow_at (old := #[.int .i64 0, .bool false, .slice none 0 0, .string ⟨#[]⟩]) ?_ _
                  repeat' (first | (with_reducible refine drew_at ?_) | (with_reducible refine setRow_off ?_ ?_ _) | (with_reducible exact setRow_at (by assumption) _) | (with_reducible exact alloc_new _) | ((with_reducible refine alloc_at _ _ ?_); (simp; done)) | (with_reducible refine alloc_old ?_ _) | (with_reducible refine Below.at hb5 ?_ ?_) | (with_reducible refine Below.at hb6 ?_ ?_) | (simp; done) | (simp; omega) | omega)
                · apply cells_own
                  repeat' (first | (with_reducible exact HO5.out) | (with_reducible apply owns_setRow) | (with_reducible apply World.ownsRow.drew) | (with_reducible apply World.ownsRow.alloc) | (with_reducible apply fun h => owns_aft h hb6) | (intro k hk; have := HLT5.out k hk; first | omega | (simp; omega)))
                · apply cells_own
                  repeat' (first | (with_reducible exact HO6.out) | (with_reducible apply owns_setRow) | (with_reducible apply World.ownsRow.drew) | (with_reducible apply World.ownsRow.alloc) | (intro k hk; have := HLT6.out k hk; first | omega | (simp; omega)))
              exact AllReadyH.nil
            exact AllReadyH.nil
          exact AllReadyH.nil
        exact AllReadyH.nil
      refine AllReadyH.cons rfl (fun K hK => ?_) ?_
      · go_simp
        refine hK.out _ _ ?_ (fun hHeld2 => ?_)
        · (try dsimp only); exact HX.out _ (by repeat' (first | (with_reducible assumption) | (with_reducible refine below_setRowN ?_ ?_ _) | (with_reducible refine Below.setCell ?_ ?_ _) | (with_reducible refine below_drewN' ?_ _) | (with_reducible refine Below.drew ?_) | (with_reducible refine Below.alloc ?_ ?_ _) | (with_reducible exact Below.refl _ _) | (with_reducible exact Nat.le_refl _) | (simp; done) | omega | (simp; omega)))
        clear hK K hHeld1
        (try simp only [Act.put, List.setIfInBounds_toArray, List.set_cons_zero, List.set_cons_succ, List.getElem_toArray, List.getElem_cons_zero, List.getElem_cons_succ])
        refine wpAnyH_ready (rs := [1]) (by kernel_rfl) (by simp) ?_
        refine AllReadyH.cons rfl (fun K hK => ?_) ?_
        · (go_simp; go_at_call 43; (with_reducible refine (HBP.out _ (HB1.out.trans (Below.mono (B := w1.heap.size) (by repeat' (first | (with_reducible assumption) | (with_reducible refine below_setRowN ?_ ?_ _) | (with_reducible refine Below.setCell ?_ ?_ _) | (with_reducible refine below_drewN' ?_ _) | (with_reducible refine Below.drew ?_) | (with_reducible refine Below.alloc ?_ ?_ _) | (with_reducible exact Below.refl _ _) | (with_reducible exact Nat.le_refl _) | (simp; done) | omega | (simp; omega))) HB1.out.size))).mono ?_); rintro e w5 ⟨v5, rfl, hown5, hb5⟩; have hlt5 := hown5.lt; obtain ⟨p5, q5, rfl, -, -, -⟩ := CellsOff.own hown5 [] (by simp); have hcur : Below w1.heap.size w1 w5 := (Below.trans (by repeat' (first | (with_reducible assumption) | (with_reducible refine below_setRowN ?_ ?_ _) | (with_reducible refine Below.setCell ?_ ?_ _) | (with_reducible refine below_drewN' ?_ _) | (with_reducible refine Below.drew ?_) | (with_reducible refine Below.alloc ?_ ?_ _) | (with_reducible exact Below.refl _ _) | (with_reducible exact Nat.le_refl _) | (simp; done) | omega | (simp; omega))) (hb5.mono (by first | (simp; done) | omega | (simp; omega)))); have hcs := hcur.size; have hcs5 := hb5.size; (try simp at hcs5 hlt5); have HO5 := Lib.hid hown5; have HLT5 := Lib.hid hlt5; clear hown5 hlt5)
          refine hK.out _ _ ?_ (fun hHeld3 => ?_)
          · (try dsimp only); exact HX.out _ (by repeat' (first | (with_reducible assumption) | (with_reducible refine below_setRowN ?_ ?_ _) | (with_reducible refine Below.setCell ?_ ?_ _) | (with_reducible refine below_drewN' ?_ _) | (with_reducible refine Below.drew ?_) | (with_reducible refine Below.alloc ?_ ?_ _) | (with_reducible exact Below.refl _ _) | (with_reducible exact Nat.le_refl _) | (simp; done) | omega | (simp; omega)))
          clear hK K hHeld2
          (try simp only [Act.put, List.setIfInBounds_toArray, List.set_cons_zero, List.set_cons_succ, List.getElem_toArray, List.getElem_cons_zero, List.getElem_cons_succ])
          refine wpAnyH_ready (rs := [3]) (by kernel_rfl) (by simp) ?_
          refine AllReadyH.cons rfl (fun K hK => ?_) ?_
          · (go_simp; go_at_call 43; (with_reducible refine (HBQ.out _ (HB1.out.trans (Below.mono (B := w1.heap.size) (by repeat' (first | (with_reducible assumption) | (with_reducible refine below_setRowN ?_ ?_ _) | (with_reducible refine Below.setCell ?_ ?_ _) | (with_reducible refine below_drewN' ?_ _) | (with_reducible refine Below.drew ?_) | (with_reducible refine Below.alloc ?_ ?_ _) | (with_reducible exact Below.refl _ _) | (with_reducible exact Nat.le_refl _) | (simp; done) | omega | (simp; omega))) HB1.out.size))).mono ?_); rintro e w6 ⟨v6, rfl, hown6, hb6⟩; have hlt6 := hown6.lt; obtain ⟨p6, q6, rfl, -, -, -⟩ := CellsOff.own hown6 [] (by simp); have hcur6 : Below w1.heap.size w1 w6 := (Below.trans (by repeat' (first | (with_reducible assumption) | (with_reducible refine below_setRowN ?_ ?_ _) | (with_reducible refine Below.setCell ?_ ?_ _) | (with_reducible refine below_drewN' ?_ _) | (with_reducible refine Below.drew ?_) | (with_reducible refine Below.alloc ?_ ?_ _) | (with_reducible exact Below.refl _ _) | (with_reducible exact Nat.le_refl _) | (simp; done) | omega | (simp; omega))) (hb6.mono (by first | (simp; done) | omega | (simp; omega)))); have hcs6 := hcur6.size; have hcs6b := hb6.size; (try simp at hcs6b hlt6); have HO6 := Lib.hid hown6; have HLT6 := Lib.hid hlt6; clear hown6 hlt6)
            refine hK.out _ _ ?_ (fun hHeld4 => ?_)
            · (try dsimp only); exact HX.out _ (by repeat' (first | (with_reducible assumption) | (with_reducible refine below_setRowN ?_ ?_ _) | (with_reducible refine Below.setCell ?_ ?_ _) | (with_reducible refine below_drewN' ?_ _) | (with_reducible refine Below.drew ?_) | (with_reducible refine Below.alloc ?_ ?_ _) | (with_reducible exact Below.refl _ _) | (with_reducible exact Nat.le_refl _) | (simp; done) | omega | (simp; omega)))
            clear hK K hHeld3
            (try simp only [Act.put, List.setIfInBounds_toArray, List.set_cons_zero, List.set_cons_succ, List.getElem_toArray, List.getElem_cons_zero, List.getElem_cons_succ])
            refine wpAnyH_ready (rs := [6]) (by kernel_rfl) (by simp) ?_
            refine AllReadyH.cons rfl (fun K hK => ?_) ?_
            · (rw [if_pos (by rfl)]; refine wp_store_row 68 _ _ (by rfl) _ _ (by rfl) (by rfl) 68 #[.int .i64 0, .bool false, .slice none 0 0, .string ⟨#[]⟩] (by repeat' (first | (with_reducible refine drew_at ?_) | (with_reducible refine setRow_off ?_ ?_ _) | (with_reducible exact setRow_at (by assumption) _) | (with_reducible exact alloc_new _) | ((with_reducible refine alloc_at _ _ ?_); (simp; done)) | (with_reducible refine alloc_old ?_ _) | (with_reducible refine Below.at hb5 ?_ ?_) | (with_reducible refine Below.at hb6 ?_ ?_) | (simp; done) | (simp; omega) | omega)) (by kernel_rfl) (by rfl) (by first | (simp; done) | simp [Value.oneCell']) ?_)
              refine hK.out _ _ ?_ (fun hHeld5 => ?_)
              · (try dsimp only); exact HX.out _ (by repeat' (first | (with_reducible assumption) | (with_reducible refine below_setRowN ?_ ?_ _) | (with_reducible refine Below.setCell ?_ ?_ _) | (with_reducible refine below_drewN' ?_ _) | (with_reducible refine Below.drew ?_) | (with_reducible refine Below.alloc ?_ ?_ _) | (with_reducible exact Below.refl _ _) | (with_reducible exact Nat.le_refl _) | (simp; done) | omega | (simp; omega)))
              clear hK K hHeld4
              (try simp only [Act.put, List.setIfInBounds_toArray, List.set_cons_zero, List.set_cons_succ, List.getElem_toArray, List.getElem_cons_zero, List.getElem_cons_succ])
              refine wpAnyH_ready (rs := [7]) (by kernel_rfl) (by simp) ?_
              refine AllReadyH.cons rfl (fun K hK => ?_) ?_
              · (rw [if_pos (by rfl)]; refine wp_store_row 68 _ _ (by rfl) _ _ (by rfl) (by rfl) 68 #[.int .i64 0, .bool false, .slice none 0 0, .string ⟨#[]⟩] (by repeat' (first | (with_reducible refine drew_at ?_) | (with_reducible refine setRow_off ?_ ?_ _) | (with_reducible exact setRow_at (by assumption) _) | (with_reducible exact alloc_new _) | ((with_reducible refine alloc_at _ _ ?_); (simp; done)) | (with_reducible refine alloc_old ?_ _) | (with_reducible refine Below.at hb5 ?_ ?_) | (with_reducible refine Below.at hb6 ?_ ?_) | (simp; done) | (simp; omega) | omega)) (by kernel_rfl) (by rfl) (by first | (simp; done) | simp [Value.oneCell']) ?_)
                refine hK.out _ _ ?_ (fun hHeld6 => ?_)
                · (try dsimp only); exact HX.out _ (by repeat' (first | (with_reducible assumption) | (with_reducible refine below_setRowN ?_ ?_ _) | (with_reducible refine Below.setCell ?_ ?_ _) | (with_reducible refine below_drewN' ?_ _) | (with_reducible refine Below.drew ?_) | (with_reducible refine Below.alloc ?_ ?_ _) | (with_reducible exact Below.refl _ _) | (with_reducible exact Nat.le_refl _) | (simp; done) | omega | (simp; omega)))
                clear hK K hHeld5
                (try simp only [Act.put, List.setIfInBounds_toArray, List.set_cons_zero, List.set_cons_succ, List.getElem_toArray, List.getElem_cons_zero, List.getElem_cons_succ])
                refine wpAnyH_done (by kernel_rfl) ?_ _
                go_wp2
                go_meet
                refine ⟨_, _, p5, q5, p6, q6, rfl, rfl, ?_, ?_, ?_, ?_, by repeat' (first | (with_reducible assumption) | (with_reducible refine below_setRowN ?_ ?_ _) | (with_reducible refine Below.setCell ?_ ?_ _) | (with_reducible refine below_drewN' ?_ _) | (with_reducible refine Below.drew ?_) | (with_reducible refine Below.alloc ?_ ?_ _) | (with_reducible exact Below.refl _ _) | (with_reducible exact Nat.le_refl _) | (simp; done) | omega | (simp; omega))⟩
                · refine setRow_off (setRow_at (old := #[.int .i64 0, .bool false, .slice none 0 0, .string ⟨#[]⟩]) ?_ _) ?_ _
                  · repeat' (first | (with_reducible refine drew_at ?_) | (with_reducible refine setRow_off ?_ ?_ _) | (with_reducible exact setRow_at (by assumption) _) | (with_reducible exact alloc_new _) | ((with_reducible refine alloc_at _ _ ?_); (simp; done)) | (with_reducible refine alloc_old ?_ _) | (with_reducible refine Below.at hb5 ?_ ?_) | (with_reducible refine Below.at hb6 ?_ ?_) | (simp; done) | (simp; omega) | omega)
                  · repeat' (first | (with_reducible refine drew_at ?_) | (with_reducible refine setRow_off ?_ ?_ _) | (with_reducible exact setRow_at (by assumption) _) | (with_reducible exact alloc_new _) | ((with_reducible refine alloc_at _ _ ?_); (simp; done)) | (with_reducible refine alloc_old ?_ _) | (with_reducible refine Below.at hb5 ?_ ?_) | (with_reducible refine Below.at hb6 ?_ ?_) | (simp; done) | (simp; omega) | omega)
                · refine setRow_at (old := #[.int .i64 0, .bool false, .slice none 0 0, .string ⟨#[]⟩]) ?_ _
                  repeat' (first | (with_reducible refine drew_at ?_) | (with_reducible refine setRow_off ?_ ?_ _) | (with_reducible exact setRow_at (by assumption) _) | (with_reducible exact alloc_new _) | ((with_reducible refine alloc_at _ _ ?_); (simp; done)) | (with_reducible refine alloc_old ?_ _) | (with_reducible refine Below.at hb5 ?_ ?_) | (with_reducible refine Below.at hb6 ?_ ?_) | (simp; done) | (simp; omega) | omega)
                · apply cells_own
                  repeat' (first | (with_reducible exact HO5.out) | (with_reducible apply owns_setRow) | (with_reducible apply World.ownsRow.drew) | (with_reducible apply World.ownsRow.alloc) | (with_reducible apply fun h => owns_aft h hb6) | (intro k hk; have := HLT5.out k hk; first | omega | (simp; omega)))
                · apply cells_own
                  repeat' (first | (with_reducible exact HO6.out) | (with_reducible apply owns_setRow) | (with_reducible apply World.ownsRow.drew) | (with_reducible apply World.ownsRow.alloc) | (intro k hk; have := HLT6.out k hk; first | omega | (simp; omega)))
              exact AllReadyH.nil
            exact AllReadyH.nil
          exact AllReadyH.nil
        exact AllReadyH.nil
      exact AllReadyH.nil
    refine AllReadyH.cons rfl (fun K hK => ?_) ?_
    · go_simp
      refine hK.out _ _ ?_ (fun hHeld1 => ?_)
      · (try dsimp only); exact HX.out _ (by repeat' (first | (with_reducible assumption) | (with_reducible refine below_setRowN ?_ ?_ _) | (with_reducible refine Below.setCell ?_ ?_ _) | (with_reducible refine below_drewN' ?_ _) | (with_reducible refine Below.drew ?_) | (with_reducible refine Below.alloc ?_ ?_ _) | (with_reducible exact Below.refl _ _) | (with_reducible exact Nat.le_refl _) | (simp; done) | omega | (simp; omega)))
      clear hK K hHeld0
      (try simp only [Act.put, List.setIfInBounds_toArray, List.set_cons_zero, List.set_cons_succ, List.getElem_toArray, List.getElem_cons_zero, List.getElem_cons_succ])
      refine wpAnyH_ready (rs := [1, 4]) (by kernel_rfl) (by simp) ?_
      refine AllReadyH.cons rfl (fun K hK => ?_) ?_
      · (go_simp; go_at_call 43; (with_reducible refine (HBP.out _ (HB1.out.trans (Below.mono (B := w1.heap.size) (by repeat' (first | (with_reducible assumption) | (with_reducible refine below_setRowN ?_ ?_ _) | (with_reducible refine Below.setCell ?_ ?_ _) | (with_reducible refine below_drewN' ?_ _) | (with_reducible refine Below.drew ?_) | (with_reducible refine Below.alloc ?_ ?_ _) | (with_reducible exact Below.refl _ _) | (with_reducible exact Nat.le_refl _) | (simp; done) | omega | (simp; omega))) HB1.out.size))).mono ?_); rintro e w5 ⟨v5, rfl, hown5, hb5⟩; have hlt5 := hown5.lt; obtain ⟨p5, q5, rfl, -, -, -⟩ := CellsOff.own hown5 [] (by simp); have hcur : Below w1.heap.size w1 w5 := (Below.trans (by repeat' (first | (with_reducible assumption) | (with_reducible refine below_setRowN ?_ ?_ _) | (with_reducible refine Below.setCell ?_ ?_ _) | (with_reducible refine below_drewN' ?_ _) | (with_reducible refine Below.drew ?_) | (with_reducible refine Below.alloc ?_ ?_ _) | (with_reducible exact Below.refl _ _) | (with_reducible exact Nat.le_refl _) | (simp; done) | omega | (simp; omega))) (hb5.mono (by first | (simp; done) | omega | (simp; omega)))); have hcs := hcur.size; have hcs5 := hb5.size; (try simp at hcs5 hlt5); have HO5 := Lib.hid hown5; have HLT5 := Lib.hid hlt5; clear hown5 hlt5)
        refine hK.out _ _ ?_ (fun hHeld2 => ?_)
        · (try dsimp only); exact HX.out _ (by repeat' (first | (with_reducible assumption) | (with_reducible refine below_setRowN ?_ ?_ _) | (with_reducible refine Below.setCell ?_ ?_ _) | (with_reducible refine below_drewN' ?_ _) | (with_reducible refine Below.drew ?_) | (with_reducible refine Below.alloc ?_ ?_ _) | (with_reducible exact Below.refl _ _) | (with_reducible exact Nat.le_refl _) | (simp; done) | omega | (simp; omega)))
        clear hK K hHeld1
        (try simp only [Act.put, List.setIfInBounds_toArray, List.set_cons_zero, List.set_cons_succ, List.getElem_toArray, List.getElem_cons_zero, List.getElem_cons_succ])
        refine wpAnyH_ready (rs := [3, 4]) (by kernel_rfl) (by simp) ?_
        refine AllReadyH.cons rfl (fun K hK => ?_) ?_
        · (go_simp; go_at_call 43; (with_reducible refine (HBQ.out _ (HB1.out.trans (Below.mono (B := w1.heap.size) (by repeat' (first | (with_reducible assumption) | (with_reducible refine below_setRowN ?_ ?_ _) | (with_reducible refine Below.setCell ?_ ?_ _) | (with_reducible refine below_drewN' ?_ _) | (with_reducible refine Below.drew ?_) | (with_reducible refine Below.alloc ?_ ?_ _) | (with_reducible exact Below.refl _ _) | (with_reducible exact Nat.le_refl _) | (simp; done) | omega | (simp; omega))) HB1.out.size))).mono ?_); rintro e w6 ⟨v6, rfl, hown6, hb6⟩; have hlt6 := hown6.lt; obtain ⟨p6, q6, rfl, -, -, -⟩ := CellsOff.own hown6 [] (by simp); have hcur6 : Below w1.heap.size w1 w6 := (Below.trans (by repeat' (first | (with_reducible assumption) | (with_reducible refine below_setRowN ?_ ?_ _) | (with_reducible refine Below.setCell ?_ ?_ _) | (with_reducible refine below_drewN' ?_ _) | (with_reducible refine Below.drew ?_) | (with_reducible refine Below.alloc ?_ ?_ _) | (with_reducible exact Below.refl _ _) | (with_reducible exact Nat.le_refl _) | (simp; done) | omega | (simp; omega))) (hb6.mono (by first | (simp; done) | omega | (simp; omega)))); have hcs6 := hcur6.size; have hcs6b := hb6.size; (try simp at hcs6b hlt6); have HO6 := Lib.hid hown6; have HLT6 := Lib.hid hlt6; clear hown6 hlt6)
          refine hK.out _ _ ?_ (fun hHeld3 => ?_)
          · (try dsimp only); exact HX.out _ (by repeat' (first | (with_reducible assumption) | (with_reducible refine below_setRowN ?_ ?_ _) | (with_reducible refine Below.setCell ?_ ?_ _) | (with_reducible refine below_drewN' ?_ _) | (with_reducible refine Below.drew ?_) | (with_reducible refine Below.alloc ?_ ?_ _) | (with_reducible exact Below.refl _ _) | (with_reducible exact Nat.le_refl _) | (simp; done) | omega | (simp; omega)))
          clear hK K hHeld2
          (try simp only [Act.put, List.setIfInBounds_toArray, List.set_cons_zero, List.set_cons_succ, List.getElem_toArray, List.getElem_cons_zero, List.getElem_cons_succ])
          refine wpAnyH_ready (rs := [4]) (by kernel_rfl) (by simp) ?_
          refine AllReadyH.cons rfl (fun K hK => ?_) ?_
          · go_simp
            refine hK.out _ _ ?_ (fun hHeld4 => ?_)
            · (try dsimp only); exact HX.out _ (by repeat' (first | (with_reducible assumption) | (with_reducible refine below_setRowN ?_ ?_ _) | (with_reducible refine Below.setCell ?_ ?_ _) | (with_reducible refine below_drewN' ?_ _) | (with_reducible refine Below.drew ?_) | (with_reducible refine Below.alloc ?_ ?_ _) | (with_reducible exact Below.refl _ _) | (with_reducible exact Nat.le_refl _) | (simp; done) | omega | (simp; omega)))
            clear hK K hHeld3
            (try simp only [Act.put, List.setIfInBounds_toArray, List.set_cons_zero, List.set_cons_succ, List.getElem_toArray, List.getElem_cons_zero, List.getElem_cons_succ])
            refine wpAnyH_ready (rs := [6]) (by kernel_rfl) (by simp) ?_
            refine AllReadyH.cons rfl (fun K hK => ?_) ?_
            · (rw [if_pos (by rfl)]; refine wp_store_row 68 _ _ (by rfl) _ _ (by rfl) (by rfl) 68 #[.int .i64 0, .bool false, .slice none 0 0, .string ⟨#[]⟩] (by repeat' (first | (with_reducible refine drew_at ?_) | (with_reducible refine setRow_off ?_ ?_ _) | (with_reducible exact setRow_at (by assumption) _) | (with_reducible exact alloc_new _) | ((with_reducible refine alloc_at _ _ ?_); (simp; done)) | (with_reducible refine alloc_old ?_ _) | (with_reducible refine Below.at hb5 ?_ ?_) | (with_reducible refine Below.at hb6 ?_ ?_) | (simp; done) | (simp; omega) | omega)) (by kernel_rfl) (by rfl) (by first | (simp; done) | simp [Value.oneCell']) ?_)
              refine hK.out _ _ ?_ (fun hHeld5 => ?_)
              · (try dsimp only); exact HX.out _ (by repeat' (first | (with_reducible assumption) | (with_reducible refine below_setRowN ?_ ?_ _) | (with_reducible refine Below.setCell ?_ ?_ _) | (with_reducible refine below_drewN' ?_ _) | (with_reducible refine Below.drew ?_) | (with_reducible refine Below.alloc ?_ ?_ _) | (with_reducible exact Below.refl _ _) | (with_reducible exact Nat.le_refl _) | (simp; done) | omega | (simp; omega)))
              clear hK K hHeld4
              (try simp only [Act.put, List.setIfInBounds_toArray, List.set_cons_zero, List.set_cons_succ, List.getElem_toArray, List.getElem_cons_zero, List.getElem_cons_succ])
              refine wpAnyH_ready (rs := [7]) (by kernel_rfl) (by simp) ?_
              refine AllReadyH.cons rfl (fun K hK => ?_) ?_
              · (rw [if_pos (by rfl)]; refine wp_store_row 68 _ _ (by rfl) _ _ (by rfl) (by rfl) 68 #[.int .i64 0, .bool false, .slice none 0 0, .string ⟨#[]⟩] (by repeat' (first | (with_reducible refine drew_at ?_) | (with_reducible refine setRow_off ?_ ?_ _) | (with_reducible exact setRow_at (by assumption) _) | (with_reducible exact alloc_new _) | ((with_reducible refine alloc_at _ _ ?_); (simp; done)) | (with_reducible refine alloc_old ?_ _) | (with_reducible refine Below.at hb5 ?_ ?_) | (with_reducible refine Below.at hb6 ?_ ?_) | (simp; done) | (simp; omega) | omega)) (by kernel_rfl) (by rfl) (by first | (simp; done) | simp [Value.oneCell']) ?_)
                refine hK.out _ _ ?_ (fun hHeld6 => ?_)
                · (try dsimp only); exact HX.out _ (by repeat' (first | (with_reducible assumption) | (with_reducible refine below_setRowN ?_ ?_ _) | (with_reducible refine Below.setCell ?_ ?_ _) | (with_reducible refine below_drewN' ?_ _) | (with_reducible refine Below.drew ?_) | (with_reducible refine Below.alloc ?_ ?_ _) | (with_reducible exact Below.refl _ _) | (with_reducible exact Nat.le_refl _) | (simp; done) | omega | (simp; omega)))
                clear hK K hHeld5
                (try simp only [Act.put, List.setIfInBounds_toArray, List.set_cons_zero, List.set_cons_succ, List.getElem_toArray, List.getElem_cons_zero, List.getElem_cons_succ])
                refine wpAnyH_done (by kernel_rfl) ?_ _
                go_wp2
                go_meet
                refine ⟨_, _, p5, q5, p6, q6, rfl, rfl, ?_, ?_, ?_, ?_, by repeat' (first | (with_reducible assumption) | (with_reducible refine below_setRowN ?_ ?_ _) | (with_reducible refine Below.setCell ?_ ?_ _) | (with_reducible refine below_drewN' ?_ _) | (with_reducible refine Below.drew ?_) | (with_reducible refine Below.alloc ?_ ?_ _) | (with_reducible exact Below.refl _ _) | (with_reducible exact Nat.le_refl _) | (simp; done) | omega | (simp; omega))⟩
                · refine setRow_off (setRow_at (old := #[.int .i64 0, .bool false, .slice none 0 0, .string ⟨#[]⟩]) ?_ _) ?_ _
                  · repeat' (first | (with_reducible refine drew_at ?_) | (with_reducible refine setRow_off ?_ ?_ _) | (with_reducible exact setRow_at (by assumption) _) | (with_reducible exact alloc_new _) | ((with_reducible refine alloc_at _ _ ?_); (simp; done)) | (with_reducible refine alloc_old ?_ _) | (with_reducible refine Below.at hb5 ?_ ?_) | (with_reducible refine Below.at hb6 ?_ ?_) | (simp; done) | (simp; omega) | omega)
                  · repeat' (first | (with_reducible refine drew_at ?_) | (with_reducible refine setRow_off ?_ ?_ _) | (with_reducible exact setRow_at (by assumption) _) | (with_reducible exact alloc_new _) | ((with_reducible refine alloc_at _ _ ?_); (simp; done)) | (with_reducible refine alloc_old ?_ _) | (with_reducible refine Below.at hb5 ?_ ?_) | (with_reducible refine Below.at hb6 ?_ ?_) | (simp; done) | (simp; omega) | omega)
                · refine setRow_at (old := #[.int .i64 0, .bool false, .slice none 0 0, .string ⟨#[]⟩]) ?_ _
                  repeat' (first | (with_reducible refine drew_at ?_) | (with_reducible refine setRow_off ?_ ?_ _) | (with_reducible exact setRow_at (by assumption) _) | (with_reducible exact alloc_new _) | ((with_reducible refine alloc_at _ _ ?_); (simp; done)) | (with_reducible refine alloc_old ?_ _) | (with_reducible refine Below.at hb5 ?_ ?_) | (with_reducible refine Below.at hb6 ?_ ?_) | (simp; done) | (simp; omega) | omega)
                · apply cells_own
                  repeat' (first | (with_reducible exact HO5.out) | (with_reducible apply owns_setRow) | (with_reducible apply World.ownsRow.drew) | (with_reducible apply World.ownsRow.alloc) | (with_reducible apply fun h => owns_aft h hb6) | (intro k hk; have := HLT5.out k hk; first | omega | (simp; omega)))
                · apply cells_own
                  repeat' (first | (with_reducible exact HO6.out) | (with_reducible apply owns_setRow) | (with_reducible apply World.ownsRow.drew) | (with_reducible apply World.ownsRow.alloc) | (intro k hk; have := HLT6.out k hk; first | omega | (simp; omega)))
              exact AllReadyH.nil
            exact AllReadyH.nil
          exact AllReadyH.nil
        refine AllReadyH.cons rfl (fun K hK => ?_) ?_
        · go_simp
          refine hK.out _ _ ?_ (fun hHeld3 => ?_)
          · (try dsimp only); exact HX.out _ (by repeat' (first | (with_reducible assumption) | (with_reducible refine below_setRowN ?_ ?_ _) | (with_reducible refine Below.setCell ?_ ?_ _) | (with_reducible refine below_drewN' ?_ _) | (with_reducible refine Below.drew ?_) | (with_reducible refine Below.alloc ?_ ?_ _) | (with_reducible exact Below.refl _ _) | (with_reducible exact Nat.le_refl _) | (simp; done) | omega | (simp; omega)))
          clear hK K hHeld2
          (try simp only [Act.put, List.setIfInBounds_toArray, List.set_cons_zero, List.set_cons_succ, List.getElem_toArray, List.getElem_cons_zero, List.getElem_cons_succ])
          refine wpAnyH_ready (rs := [3]) (by kernel_rfl) (by simp) ?_
          refine AllReadyH.cons rfl (fun K hK => ?_) ?_
          · (go_simp; go_at_call 43; (with_reducible refine (HBQ.out _ (HB1.out.trans (Below.mono (B := w1.heap.size) (by repeat' (first | (with_reducible assumption) | (with_reducible refine below_setRowN ?_ ?_ _) | (with_reducible refine Below.setCell ?_ ?_ _) | (with_reducible refine below_drewN' ?_ _) | (with_reducible refine Below.drew ?_) | (with_reducible refine Below.alloc ?_ ?_ _) | (with_reducible exact Below.refl _ _) | (with_reducible exact Nat.le_refl _) | (simp; done) | omega | (simp; omega))) HB1.out.size))).mono ?_); rintro e w6 ⟨v6, rfl, hown6, hb6⟩; have hlt6 := hown6.lt; obtain ⟨p6, q6, rfl, -, -, -⟩ := CellsOff.own hown6 [] (by simp); have hcur6 : Below w1.heap.size w1 w6 := (Below.trans (by repeat' (first | (with_reducible assumption) | (with_reducible refine below_setRowN ?_ ?_ _) | (with_reducible refine Below.setCell ?_ ?_ _) | (with_reducible refine below_drewN' ?_ _) | (with_reducible refine Below.drew ?_) | (with_reducible refine Below.alloc ?_ ?_ _) | (with_reducible exact Below.refl _ _) | (with_reducible exact Nat.le_refl _) | (simp; done) | omega | (simp; omega))) (hb6.mono (by first | (simp; done) | omega | (simp; omega)))); have hcs6 := hcur6.size; have hcs6b := hb6.size; (try simp at hcs6b hlt6); have HO6 := Lib.hid hown6; have HLT6 := Lib.hid hlt6; clear hown6 hlt6)
            refine hK.out _ _ ?_ (fun hHeld4 => ?_)
            · (try dsimp only); exact HX.out _ (by repeat' (first | (with_reducible assumption) | (with_reducible refine below_setRowN ?_ ?_ _) | (with_reducible refine Below.setCell ?_ ?_ _) | (with_reducible refine below_drewN' ?_ _) | (with_reducible refine Below.drew ?_) | (with_reducible refine Below.alloc ?_ ?_ _) | (with_reducible exact Below.refl _ _) | (with_reducible exact Nat.le_refl _) | (simp; done) | omega | (simp; omega)))
            clear hK K hHeld3
            (try simp only [Act.put, List.setIfInBounds_toArray, List.set_cons_zero, List.set_cons_succ, List.getElem_toArray, List.getElem_cons_zero, List.getElem_cons_succ])
            refine wpAnyH_ready (rs := [6]) (by kernel_rfl) (by simp) ?_
            refine AllReadyH.cons rfl (fun K hK => ?_) ?_
            · (rw [if_pos (by rfl)]; refine wp_store_row 68 _ _ (by rfl) _ _ (by rfl) (by rfl) 68 #[.int .i64 0, .bool false, .slice none 0 0, .string ⟨#[]⟩] (by repeat' (first | (with_reducible refine drew_at ?_) | (with_reducible refine setRow_off ?_ ?_ _) | (with_reducible exact setRow_at (by assumption) _) | (with_reducible exact alloc_new _) | ((with_reducible refine alloc_at _ _ ?_); (simp; done)) | (with_reducible refine alloc_old ?_ _) | (with_reducible refine Below.at hb5 ?_ ?_) | (with_reducible refine Below.at hb6 ?_ ?_) | (simp; done) | (simp; omega) | omega)) (by kernel_rfl) (by rfl) (by first | (simp; done) | simp [Value.oneCell']) ?_)
              refine hK.out _ _ ?_ (fun hHeld5 => ?_)
              · (try dsimp only); exact HX.out _ (by repeat' (first | (with_reducible assumption) | (with_reducible refine below_setRowN ?_ ?_ _) | (with_reducible refine Below.setCell ?_ ?_ _) | (with_reducible refine below_drewN' ?_ _) | (with_reducible refine Below.drew ?_) | (with_reducible refine Below.alloc ?_ ?_ _) | (with_reducible exact Below.refl _ _) | (with_reducible exact Nat.le_refl _) | (simp; done) | omega | (simp; omega)))
              clear hK K hHeld4
              (try simp only [Act.put, List.setIfInBounds_toArray, List.set_cons_zero, List.set_cons_succ, List.getElem_toArray, List.getElem_cons_zero, List.getElem_cons_succ])
              refine wpAnyH_ready (rs := [7]) (by kernel_rfl) (by simp) ?_
              refine AllReadyH.cons rfl (fun K hK => ?_) ?_
              · (rw [if_pos (by rfl)]; refine wp_store_row 68 _ _ (by rfl) _ _ (by rfl) (by rfl) 68 #[.int .i64 0, .bool false, .slice none 0 0, .string ⟨#[]⟩] (by repeat' (first | (with_reducible refine drew_at ?_) | (with_reducible refine setRow_off ?_ ?_ _) | (with_reducible exact setRow_at (by assumption) _) | (with_reducible exact alloc_new _) | ((with_reducible refine alloc_at _ _ ?_); (simp; done)) | (with_reducible refine alloc_old ?_ _) | (with_reducible refine Below.at hb5 ?_ ?_) | (with_reducible refine Below.at hb6 ?_ ?_) | (simp; done) | (simp; omega) | omega)) (by kernel_rfl) (by rfl) (by first | (simp; done) | simp [Value.oneCell']) ?_)
                refine hK.out _ _ ?_ (fun hHeld6 => ?_)
                · (try dsimp only); exact HX.out _ (by repeat' (first | (with_reducible assumption) | (with_reducible refine below_setRowN ?_ ?_ _) | (with_reducible refine Below.setCell ?_ ?_ _) | (with_reducible refine below_drewN' ?_ _) | (with_reducible refine Below.drew ?_) | (with_reducible refine Below.alloc ?_ ?_ _) | (with_reducible exact Below.refl _ _) | (with_reducible exact Nat.le_refl _) | (simp; done) | omega | (simp; omega)))
                clear hK K hHeld5
                (try simp only [Act.put, List.setIfInBounds_toArray, List.set_cons_zero, List.set_cons_succ, List.getElem_toArray, List.getElem_cons_zero, List.getElem_cons_succ])
                refine wpAnyH_done (by kernel_rfl) ?_ _
                go_wp2
                go_meet
                refine ⟨_, _, p5, q5, p6, q6, rfl, rfl, ?_, ?_, ?_, ?_, by repeat' (first | (with_reducible assumption) | (with_reducible refine below_setRowN ?_ ?_ _) | (with_reducible refine Below.setCell ?_ ?_ _) | (with_reducible refine below_drewN' ?_ _) | (with_reducible refine Below.drew ?_) | (with_reducible refine Below.alloc ?_ ?_ _) | (with_reducible exact Below.refl _ _) | (with_reducible exact Nat.le_refl _) | (simp; done) | omega | (simp; omega))⟩
                · refine setRow_off (setRow_at (old := #[.int .i64 0, .bool false, .slice none 0 0, .string ⟨#[]⟩]) ?_ _) ?_ _
                  · repeat' (first | (with_reducible refine drew_at ?_) | (with_reducible refine setRow_off ?_ ?_ _) | (with_reducible exact setRow_at (by assumption) _) | (with_reducible exact alloc_new _) | ((with_reducible refine alloc_at _ _ ?_); (simp; done)) | (with_reducible refine alloc_old ?_ _) | (with_reducible refine Below.at hb5 ?_ ?_) | (with_reducible refine Below.at hb6 ?_ ?_) | (simp; done) | (simp; omega) | omega)
                  · repeat' (first | (with_reducible refine drew_at ?_) | (with_reducible refine setRow_off ?_ ?_ _) | (with_reducible exact setRow_at (by assumption) _) | (with_reducible exact alloc_new _) | ((with_reducible refine alloc_at _ _ ?_); (simp; done)) | (with_reducible refine alloc_old ?_ _) | (with_reducible refine Below.at hb5 ?_ ?_) | (with_reducible refine Below.at hb6 ?_ ?_) | (simp; done) | (simp; omega) | omega)
                · refine setRow_at (old := #[.int .i64 0, .bool false, .slice none 0 0, .string ⟨#[]⟩]) ?_ _
                  repeat' (first | (with_reducible refine drew_at ?_) | (with_reducible refine setRow_off ?_ ?_ _) | (with_reducible exact setRow_at (by assumption) _) | (with_reducible exact alloc_new _) | ((with_reducible refine alloc_at _ _ ?_); (simp; done)) | (with_reducible refine alloc_old ?_ _) | (with_reducible refine Below.at hb5 ?_ ?_) | (with_reducible refine Below.at hb6 ?_ ?_) | (simp; done) | (simp; omega) | omega)
                · apply cells_own
                  repeat' (first | (with_reducible exact HO5.out) | (with_reducible apply owns_setRow) | (with_reducible apply World.ownsRow.drew) | (with_reducible apply World.ownsRow.alloc) | (with_reducible apply fun h => owns_aft h hb6) | (intro k hk; have := HLT5.out k hk; first | omega | (simp; omega)))
                · apply cells_own
                  repeat' (first | (with_reducible exact HO6.out) | (with_reducible apply owns_setRow) | (with_reducible apply World.ownsRow.drew) | (with_reducible apply World.ownsRow.alloc) | (intro k hk; have := HLT6.out k hk; first | omega | (simp; omega)))
              exact AllReadyH.nil
            exact AllReadyH.nil
          exact AllReadyH.nil
        exact AllReadyH.nil
      refine AllReadyH.cons rfl (fun K hK => ?_) ?_
      · go_simp
        refine hK.out _ _ ?_ (fun hHeld2 => ?_)
        · (try dsimp only); exact HX.out _ (by repeat' (first | (with_reducible assumption) | (with_reducible refine below_setRowN ?_ ?_ _) | (with_reducible refine Below.setCell ?_ ?_ _) | (with_reducible refine below_drewN' ?_ _) | (with_reducible refine Below.drew ?_) | (with_reducible refine Below.alloc ?_ ?_ _) | (with_reducible exact Below.refl _ _) | (with_reducible exact Nat.le_refl _) | (simp; done) | omega | (simp; omega)))
        clear hK K hHeld1
        (try simp only [Act.put, List.setIfInBounds_toArray, List.set_cons_zero, List.set_cons_succ, List.getElem_toArray, List.getElem_cons_zero, List.getElem_cons_succ])
        refine wpAnyH_ready (rs := [1]) (by kernel_rfl) (by simp) ?_
        refine AllReadyH.cons rfl (fun K hK => ?_) ?_
        · (go_simp; go_at_call 43; (with_reducible refine (HBP.out _ (HB1.out.trans (Below.mono (B := w1.heap.size) (by repeat' (first | (with_reducible assumption) | (with_reducible refine below_setRowN ?_ ?_ _) | (with_reducible refine Below.setCell ?_ ?_ _) | (with_reducible refine below_drewN' ?_ _) | (with_reducible refine Below.drew ?_) | (with_reducible refine Below.alloc ?_ ?_ _) | (with_reducible exact Below.refl _ _) | (with_reducible exact Nat.le_refl _) | (simp; done) | omega | (simp; omega))) HB1.out.size))).mono ?_); rintro e w5 ⟨v5, rfl, hown5, hb5⟩; have hlt5 := hown5.lt; obtain ⟨p5, q5, rfl, -, -, -⟩ := CellsOff.own hown5 [] (by simp); have hcur : Below w1.heap.size w1 w5 := (Below.trans (by repeat' (first | (with_reducible assumption) | (with_reducible refine below_setRowN ?_ ?_ _) | (with_reducible refine Below.setCell ?_ ?_ _) | (with_reducible refine below_drewN' ?_ _) | (with_reducible refine Below.drew ?_) | (with_reducible refine Below.alloc ?_ ?_ _) | (with_reducible exact Below.refl _ _) | (with_reducible exact Nat.le_refl _) | (simp; done) | omega | (simp; omega))) (hb5.mono (by first | (simp; done) | omega | (simp; omega)))); have hcs := hcur.size; have hcs5 := hb5.size; (try simp at hcs5 hlt5); have HO5 := Lib.hid hown5; have HLT5 := Lib.hid hlt5; clear hown5 hlt5)
          refine hK.out _ _ ?_ (fun hHeld3 => ?_)
          · (try dsimp only); exact HX.out _ (by repeat' (first | (with_reducible assumption) | (with_reducible refine below_setRowN ?_ ?_ _) | (with_reducible refine Below.setCell ?_ ?_ _) | (with_reducible refine below_drewN' ?_ _) | (with_reducible refine Below.drew ?_) | (with_reducible refine Below.alloc ?_ ?_ _) | (with_reducible exact Below.refl _ _) | (with_reducible exact Nat.le_refl _) | (simp; done) | omega | (simp; omega)))
          clear hK K hHeld2
          (try simp only [Act.put, List.setIfInBounds_toArray, List.set_cons_zero, List.set_cons_succ, List.getElem_toArray, List.getElem_cons_zero, List.getElem_cons_succ])
          refine wpAnyH_ready (rs := [3]) (by kernel_rfl) (by simp) ?_
          refine AllReadyH.cons rfl (fun K hK => ?_) ?_
          · (go_simp; go_at_call 43; (with_reducible refine (HBQ.out _ (HB1.out.trans (Below.mono (B := w1.heap.size) (by repeat' (first | (with_reducible assumption) | (with_reducible refine below_setRowN ?_ ?_ _) | (with_reducible refine Below.setCell ?_ ?_ _) | (with_reducible refine below_drewN' ?_ _) | (with_reducible refine Below.drew ?_) | (with_reducible refine Below.alloc ?_ ?_ _) | (with_reducible exact Below.refl _ _) | (with_reducible exact Nat.le_refl _) | (simp; done) | omega | (simp; omega))) HB1.out.size))).mono ?_); rintro e w6 ⟨v6, rfl, hown6, hb6⟩; have hlt6 := hown6.lt; obtain ⟨p6, q6, rfl, -, -, -⟩ := CellsOff.own hown6 [] (by simp); have hcur6 : Below w1.heap.size w1 w6 := (Below.trans (by repeat' (first | (with_reducible assumption) | (with_reducible refine below_setRowN ?_ ?_ _) | (with_reducible refine Below.setCell ?_ ?_ _) | (with_reducible refine below_drewN' ?_ _) | (with_reducible refine Below.drew ?_) | (with_reducible refine Below.alloc ?_ ?_ _) | (with_reducible exact Below.refl _ _) | (with_reducible exact Nat.le_refl _) | (simp; done) | omega | (simp; omega))) (hb6.mono (by first | (simp; done) | omega | (simp; omega)))); have hcs6 := hcur6.size; have hcs6b := hb6.size; (try simp at hcs6b hlt6); have HO6 := Lib.hid hown6; have HLT6 := Lib.hid hlt6; clear hown6 hlt6)
            refine hK.out _ _ ?_ (fun hHeld4 => ?_)
            · (try dsimp only); exact HX.out _ (by repeat' (first | (with_reducible assumption) | (with_reducible refine below_setRowN ?_ ?_ _) | (with_reducible refine Below.setCell ?_ ?_ _) | (with_reducible refine below_drewN' ?_ _) | (with_reducible refine Below.drew ?_) | (with_reducible refine Below.alloc ?_ ?_ _) | (with_reducible exact Below.refl _ _) | (with_reducible exact Nat.le_refl _) | (simp; done) | omega | (simp; omega)))
            clear hK K hHeld3
            (try simp only [Act.put, List.setIfInBounds_toArray, List.set_cons_zero, List.set_cons_succ, List.getElem_toArray, List.getElem_cons_zero, List.getElem_cons_succ])
            refine wpAnyH_ready (rs := [6]) (by kernel_rfl) (by simp) ?_
            refine AllReadyH.cons rfl (fun K hK => ?_) ?_
            · (rw [if_pos (by rfl)]; refine wp_store_row 68 _ _ (by rfl) _ _ (by rfl) (by rfl) 68 #[.int .i64 0, .bool false, .slice none 0 0, .string ⟨#[]⟩] (by repeat' (first | (with_reducible refine drew_at ?_) | (with_reducible refine setRow_off ?_ ?_ _) | (with_reducible exact setRow_at (by assumption) _) | (with_reducible exact alloc_new _) | ((with_reducible refine alloc_at _ _ ?_); (simp; done)) | (with_reducible refine alloc_old ?_ _) | (with_reducible refine Below.at hb5 ?_ ?_) | (with_reducible refine Below.at hb6 ?_ ?_) | (simp; done) | (simp; omega) | omega)) (by kernel_rfl) (by rfl) (by first | (simp; done) | simp [Value.oneCell']) ?_)
              refine hK.out _ _ ?_ (fun hHeld5 => ?_)
              · (try dsimp only); exact HX.out _ (by repeat' (first | (with_reducible assumption) | (with_reducible refine below_setRowN ?_ ?_ _) | (with_reducible refine Below.setCell ?_ ?_ _) | (with_reducible refine below_drewN' ?_ _) | (with_reducible refine Below.drew ?_) | (with_reducible refine Below.alloc ?_ ?_ _) | (with_reducible exact Below.refl _ _) | (with_reducible exact Nat.le_refl _) | (simp; done) | omega | (simp; omega)))
              clear hK K hHeld4
              (try simp only [Act.put, List.setIfInBounds_toArray, List.set_cons_zero, List.set_cons_succ, List.getElem_toArray, List.getElem_cons_zero, List.getElem_cons_succ])
              refine wpAnyH_ready (rs := [7]) (by kernel_rfl) (by simp) ?_
              refine AllReadyH.cons rfl (fun K hK => ?_) ?_
              · (rw [if_pos (by rfl)]; refine wp_store_row 68 _ _ (by rfl) _ _ (by rfl) (by rfl) 68 #[.int .i64 0, .bool false, .slice none 0 0, .string ⟨#[]⟩] (by repeat' (first | (with_reducible refine drew_at ?_) | (with_reducible refine setRow_off ?_ ?_ _) | (with_reducible exact setRow_at (by assumption) _) | (with_reducible exact alloc_new _) | ((with_reducible refine alloc_at _ _ ?_); (simp; done)) | (with_reducible refine alloc_old ?_ _) | (with_reducible refine Below.at hb5 ?_ ?_) | (with_reducible refine Below.at hb6 ?_ ?_) | (simp; done) | (simp; omega) | omega)) (by kernel_rfl) (by rfl) (by first | (simp; done) | simp [Value.oneCell']) ?_)
                refine hK.out _ _ ?_ (fun hHeld6 => ?_)
                · (try dsimp only); exact HX.out _ (by repeat' (first | (with_reducible assumption) | (with_reducible refine below_setRowN ?_ ?_ _) | (with_reducible refine Below.setCell ?_ ?_ _) | (with_reducible refine below_drewN' ?_ _) | (with_reducible refine Below.drew ?_) | (with_reducible refine Below.alloc ?_ ?_ _) | (with_reducible exact Below.refl _ _) | (with_reducible exact Nat.le_refl _) | (simp; done) | omega | (simp; omega)))
                clear hK K hHeld5
                (try simp only [Act.put, List.setIfInBounds_toArray, List.set_cons_zero, List.set_cons_succ, List.getElem_toArray, List.getElem_cons_zero, List.getElem_cons_succ])
                refine wpAnyH_done (by kernel_rfl) ?_ _
                go_wp2
                go_meet
                refine ⟨_, _, p5, q5, p6, q6, rfl, rfl, ?_, ?_, ?_, ?_, by repeat' (first | (with_reducible assumption) | (with_reducible refine below_setRowN ?_ ?_ _) | (with_reducible refine Below.setCell ?_ ?_ _) | (with_reducible refine below_drewN' ?_ _) | (with_reducible refine Below.drew ?_) | (with_reducible refine Below.alloc ?_ ?_ _) | (with_reducible exact Below.refl _ _) | (with_reducible exact Nat.le_refl _) | (simp; done) | omega | (simp; omega))⟩
                · refine setRow_off (setRow_at (old := #[.int .i64 0, .bool false, .slice none 0 0, .string ⟨#[]⟩]) ?_ _) ?_ _
                  · repeat' (first | (with_reducible refine drew_at ?_) | (with_reducible refine setRow_off ?_ ?_ _) | (with_reducible exact setRow_at (by assumption) _) | (with_reducible exact alloc_new _) | ((with_reducible refine alloc_at _ _ ?_); (simp; done)) | (with_reducible refine alloc_old ?_ _) | (with_reducible refine Below.at hb5 ?_ ?_) | (with_reducible refine Below.at hb6 ?_ ?_) | (simp; done) | (simp; omega) | omega)
                  · repeat' (first | (with_reducible refine drew_at ?_) | (with_reducible refine setRow_off ?_ ?_ _) | (with_reducible exact setRow_at (by assumption) _) | (with_reducible exact alloc_new _) | ((with_reducible refine alloc_at _ _ ?_); (simp; done)) | (with_reducible refine alloc_old ?_ _) | (with_reducible refine Below.at hb5 ?_ ?_) | (with_reducible refine Below.at hb6 ?_ ?_) | (simp; done) | (simp; omega) | omega)
                · refine setRow_at (old := #[.int .i64 0, .bool false, .slice none 0 0, .string ⟨#[]⟩]) ?_ _
                  repeat' (first | (with_reducible refine drew_at ?_) | (with_reducible refine setRow_off ?_ ?_ _) | (with_reducible exact setRow_at (by assumption) _) | (with_reducible exact alloc_new _) | ((with_reducible refine alloc_at _ _ ?_); (simp; done)) | (with_reducible refine alloc_old ?_ _) | (with_reducible refine Below.at hb5 ?_ ?_) | (with_reducible refine Below.at hb6 ?_ ?_) | (simp; done) | (simp; omega) | omega)
                · apply cells_own
                  repeat' (first | (with_reducible exact HO5.out) | (with_reducible apply owns_setRow) | (with_reducible apply World.ownsRow.drew) | (with_reducible apply World.ownsRow.alloc) | (with_reducible apply fun h => owns_aft h hb6) | (intro k hk; have := HLT5.out k hk; first | omega | (simp; omega)))
                · apply cells_own
                  repeat' (first | (with_reducible exact HO6.out) | (with_reducible apply owns_setRow) | (with_reducible apply World.ownsRow.drew) | (with_reducible apply World.ownsRow.alloc) | (intro k hk; have := HLT6.out k hk; first | omega | (simp; omega)))
              exact AllReadyH.nil
            exact AllReadyH.nil
          exact AllReadyH.nil
        exact AllReadyH.nil
      exact AllReadyH.nil
    exact AllReadyH.nil
  case rest =>
  obtain ⟨n, d, px, qx, py, qy, rfl, rfl, hX, hY, hCX, hCY, hb⟩ := hcut
  obtain ⟨w2, rfl⟩ : ∃ x : World, x = wc := ⟨_, rfl⟩
  have hB2 : Below w.heap.size w w2 := HB1.out.trans (hb.mono HB1.out.size)
  have HX2 := Lib.hid hX
  have HY2 := Lib.hid hY
  have HCX := Lib.hid hCX
  have HCY := Lib.hid hCY
  have HB2 := Lib.hid hB2
  have fX := fun j => cell_at hX j
  clear hX hY hCX hCY hb hB2 HX HBP HBQ HP1 HQ1 HB1
  go_upto_region 6 with (first
    | (go_at_call 44; ((with_reducible refine (HWX.out _ _ _ HCX.out).mono ?_); rintro e w3 ⟨v3, rfl, hown3, hb3⟩; obtain ⟨p3, q3, rfl, -, -, hc3⟩ := CellsOff.own hown3 [] (by simp); have hX3 := Below.at hb3 HX2.out (block_lt HX2.out); have fX := fun j => cell_at hX3 j; have HC3 := Lib.hid hc3; have HB3 := Lib.hid hb3; clear hown3 hc3 hb3 hX3))
    | (go_at_call 42; ((with_reducible refine (HAX.out _ _ _ (HCX.out.below HB3.out)).mono ?_); rintro e w4 ⟨v4, rfl, hown4, hb4⟩; obtain ⟨p4, q4, rfl, -, -, hc4⟩ := CellsOff.own hown4 [] (by simp); have HC4 := Lib.hid hc4; have HB4 := Lib.hid hb4; clear hown4 hc4 hb4))
    | (go_at_call 37; ((with_reducible refine (HRW.out _ _ _ HC4.out).mono ?_); rintro e w5 ⟨v5, rfl, hown5, hb5⟩; obtain ⟨p5, q5, rfl, -, -, hc5⟩ := CellsOff.own hown5 [] (by simp); have HC5 := Lib.hid hc5; have HB5 := Lib.hid hb5; clear hown5 hc5 hb5)))
  have h25 : Below w2.heap.size w2 w5 := (HB3.out.trans (HB4.out.mono HB3.out.size)).trans (HB5.out.mono (Nat.le_trans HB3.out.size HB4.out.size))
  have hX5 := Below.at h25 HX2.out (block_lt HX2.out)
  have hY5 := Below.at h25 HY2.out (block_lt HY2.out)
  have HX : Hid (∀ w', Below w5.heap.size w5 w' → ((∀ j, w'.cell? ⟨n, j, none⟩ = (#[.int .i64 xs, .bool xc, .slice px xh.length qx, .string xd] : Array Value)[j]?) ∧ (∀ j, w'.cell? ⟨d, j, none⟩ = (#[.int .i64 ys, .bool yc, .slice py yh.length qy, .string yd] : Array Value)[j]?))) := fun w' hb => ⟨fun j => cell_at (Below.at hb hX5 (block_lt hX5)) j, fun j => cell_at (Below.at hb hY5 (block_lt hY5)) j⟩
  have HCX5 := Lib.hid (HCX.out.below h25)
  have HCY5 := Lib.hid (HCY.out.below h25)
  have HCA5 := Lib.hid ((HC3.out.below HB4.out).below HB5.out)
  have HCB5 := HC5
  have H5 := Lib.hid (HB2.out.trans (h25.mono HB2.out.size))
  clear h25 hX5 hY5 fX HCX HCY HC3 HC4 HC5 HB3 HB4 HB5 HX2 HY2 HB2 HWX HRW
  go_cut [11, 12] (fun v11 v12 wx => ∃ a11 c11 a12 c12, v11 = .slice a11 xh.length c11 ∧ v12 = .slice a12 xh.length c12 ∧ CellsOff wx a11 (flatP pk) [] ∧ CellsOff wx a12 (flatP pk) [] ∧ Below w5.heap.size w5 wx)
  case first =>
    refine wp_region_held_drew (S := (fun w' => ((∀ j, w'.cell? ⟨n, j, none⟩ = (#[.int .i64 xs, .bool xc, .slice px xh.length qx, .string xd] : Array Value)[j]?) ∧ (∀ j, w'.cell? ⟨d, j, none⟩ = (#[.int .i64 ys, .bool yc, .slice py yh.length qy, .string yd] : Array Value)[j]?)))) (by kernel_rfl) ?_ (fun hHeld0 => ?_)
    · (try dsimp only); exact HX.out _ (by repeat' (first | (with_reducible assumption) | (with_reducible refine below_setRowN ?_ ?_ _) | (with_reducible refine Below.setCell ?_ ?_ _) | (with_reducible refine below_drewN' ?_ _) | (with_reducible refine Below.drew ?_) | (with_reducible refine Below.alloc ?_ ?_ _) | (with_reducible exact Below.refl _ _) | (with_reducible exact Nat.le_refl _) | (simp; done) | omega | (simp; omega)))
    refine wpAnyH_take (i := 0) (v := ?_) rfl (by kernel_rfl) (by kernel_rfl) (by kernel_rfl) (fun _ _ _ h => h) (Or.inl ⟨by rfl, ?_⟩) (by assumption) ?_
    rotate_left
    · (intro w hSw; (try dsimp only at hSw); go_simp; try with_reducible rfl)
    (try simp only [Act.put, List.setIfInBounds_toArray, List.set_cons_zero, List.set_cons_succ, List.getElem_toArray, List.getElem_cons_zero, List.getElem_cons_succ])
    refine wpAnyH_take (i := 2) (v := ?_) rfl (by kernel_rfl) (by kernel_rfl) (by kernel_rfl) (fun _ _ _ h => h) (Or.inl ⟨by rfl, ?_⟩) (by assumption) ?_
    rotate_left
    · (intro w hSw; (try dsimp only at hSw); go_simp; try with_reducible rfl)
    (try simp only [Act.put, List.setIfInBounds_toArray, List.set_cons_zero, List.set_cons_succ, List.getElem_toArray, List.getElem_cons_zero, List.getElem_cons_succ])
    refine wpAnyH_ready (rs := [1]) (by kernel_rfl) (by simp) ?_
    refine AllReadyH.cons rfl (fun K hK => ?_) ?_
    · (go_simp; go_at_call 47; (with_reducible refine (HPK.out _ _ _ (HCX5.out.below (by repeat' (first | (with_reducible assumption) | (with_reducible refine below_setRowN ?_ ?_ _) | (with_reducible refine Below.setCell ?_ ?_ _) | (with_reducible refine below_drewN' ?_ _) | (with_reducible refine Below.drew ?_) | (with_reducible refine Below.alloc ?_ ?_ _) | (with_reducible exact Below.refl _ _) | (with_reducible exact Nat.le_refl _) | (simp; done) | omega | (simp; omega))))).mono ?_); rintro e w6 ⟨v6, rfl, hown6, hb6⟩; obtain ⟨p6, q6, rfl, -, -, hc6⟩ := CellsOff.own hown6 [] (by simp); have hcur : Below w5.heap.size w5 w6 := (Below.trans (by repeat' (first | (with_reducible assumption) | (with_reducible refine below_setRowN ?_ ?_ _) | (with_reducible refine Below.setCell ?_ ?_ _) | (with_reducible refine below_drewN' ?_ _) | (with_reducible refine Below.drew ?_) | (with_reducible refine Below.alloc ?_ ?_ _) | (with_reducible exact Below.refl _ _) | (with_reducible exact Nat.le_refl _) | (simp; done) | omega | (simp; omega))) (hb6.mono (by first | (simp; done) | omega | (simp; omega)))); have hcs := hcur.size; have HC6 := Lib.hid hc6; clear hown6 hc6)
      refine hK.out _ _ ?_ (fun hHeld1 => ?_)
      · (try dsimp only); exact HX.out _ (by repeat' (first | (with_reducible assumption) | (with_reducible refine below_setRowN ?_ ?_ _) | (with_reducible refine Below.setCell ?_ ?_ _) | (with_reducible refine below_drewN' ?_ _) | (with_reducible refine Below.drew ?_) | (with_reducible refine Below.alloc ?_ ?_ _) | (with_reducible exact Below.refl _ _) | (with_reducible exact Nat.le_refl _) | (simp; done) | omega | (simp; omega)))
      clear hK K hHeld0
      (try simp only [Act.put, List.setIfInBounds_toArray, List.set_cons_zero, List.set_cons_succ, List.getElem_toArray, List.getElem_cons_zero, List.getElem_cons_succ])
      refine wpAnyH_ready (rs := [3]) (by kernel_rfl) (by simp) ?_
      refine AllReadyH.cons rfl (fun K hK => ?_) ?_
      · (go_simp; go_at_call 42; (with_reducible refine (HAX.out _ _ _ (HCX5.out.below (by repeat' (first | (with_reducible assumption) | (with_reducible refine below_setRowN ?_ ?_ _) | (with_reducible refine Below.setCell ?_ ?_ _) | (with_reducible refine below_drewN' ?_ _) | (with_reducible refine Below.drew ?_) | (with_reducible refine Below.alloc ?_ ?_ _) | (with_reducible exact Below.refl _ _) | (with_reducible exact Nat.le_refl _) | (simp; done) | omega | (simp; omega))))).mono ?_); rintro e w7 ⟨v7, rfl, hown7, hb7⟩; obtain ⟨p7, q7, rfl, -, -, hc7⟩ := CellsOff.own hown7 [] (by simp); have hcur7 : Below w5.heap.size w5 w7 := (Below.trans (by repeat' (first | (with_reducible assumption) | (with_reducible refine below_setRowN ?_ ?_ _) | (with_reducible refine Below.setCell ?_ ?_ _) | (with_reducible refine below_drewN' ?_ _) | (with_reducible refine Below.drew ?_) | (with_reducible refine Below.alloc ?_ ?_ _) | (with_reducible exact Below.refl _ _) | (with_reducible exact Nat.le_refl _) | (simp; done) | omega | (simp; omega))) (hb7.mono (by first | (simp; done) | omega | (simp; omega)))); have hcs7 := hcur7.size; have HC67 := Lib.hid (HC6.out.below hb7); have HC7 := Lib.hid hc7; clear hown7 hc7)
        refine hK.out _ _ ?_ (fun hHeld2 => ?_)
        · (try dsimp only); exact HX.out _ (by repeat' (first | (with_reducible assumption) | (with_reducible refine below_setRowN ?_ ?_ _) | (with_reducible refine Below.setCell ?_ ?_ _) | (with_reducible refine below_drewN' ?_ _) | (with_reducible refine Below.drew ?_) | (with_reducible refine Below.alloc ?_ ?_ _) | (with_reducible exact Below.refl _ _) | (with_reducible exact Nat.le_refl _) | (simp; done) | omega | (simp; omega)))
        clear hK K hHeld1
        (try simp only [Act.put, List.setIfInBounds_toArray, List.set_cons_zero, List.set_cons_succ, List.getElem_toArray, List.getElem_cons_zero, List.getElem_cons_succ])
        refine wpAnyH_ready (rs := [4]) (by kernel_rfl) (by simp) ?_
        refine AllReadyH.cons rfl (fun K hK => ?_) ?_
        · (go_simp; go_at_call 48; (with_reducible refine (HRP.out _ _ _ HC7.out).mono ?_); rintro e w8 ⟨v8, rfl, hown8, hb8⟩; obtain ⟨p8, q8, rfl, -, -, hc8⟩ := CellsOff.own hown8 [] (by simp); have hcur8 : Below w5.heap.size w5 w8 := (Below.trans (by repeat' (first | (with_reducible assumption) | (with_reducible refine below_setRowN ?_ ?_ _) | (with_reducible refine Below.setCell ?_ ?_ _) | (with_reducible refine below_drewN' ?_ _) | (with_reducible refine Below.drew ?_) | (with_reducible refine Below.alloc ?_ ?_ _) | (with_reducible exact Below.refl _ _) | (with_reducible exact Nat.le_refl _) | (simp; done) | omega | (simp; omega))) (hb8.mono (by first | (simp; done) | omega | (simp; omega)))); have hcs8 := hcur8.size; have HC68 := Lib.hid (HC67.out.below hb8); have HC8 := Lib.hid hc8; clear hown8 hc8)
          refine hK.out _ _ ?_ (fun hHeld3 => ?_)
          · (try dsimp only); exact HX.out _ (by repeat' (first | (with_reducible assumption) | (with_reducible refine below_setRowN ?_ ?_ _) | (with_reducible refine Below.setCell ?_ ?_ _) | (with_reducible refine below_drewN' ?_ _) | (with_reducible refine Below.drew ?_) | (with_reducible refine Below.alloc ?_ ?_ _) | (with_reducible exact Below.refl _ _) | (with_reducible exact Nat.le_refl _) | (simp; done) | omega | (simp; omega)))
          clear hK K hHeld2
          (try simp only [Act.put, List.setIfInBounds_toArray, List.set_cons_zero, List.set_cons_succ, List.getElem_toArray, List.getElem_cons_zero, List.getElem_cons_succ])
          refine wpAnyH_take (i := 5) (v := ?_) rfl (by kernel_rfl) (by kernel_rfl) (by kernel_rfl) (fun _ _ _ h => h) (Or.inl ⟨by rfl, ?_⟩) (by assumption) ?_
          rotate_left
          · (intro w hSw; (try dsimp only at hSw); go_simp; try with_reducible rfl)
          (try simp only [Act.put, List.setIfInBounds_toArray, List.set_cons_zero, List.set_cons_succ, List.getElem_toArray, List.getElem_cons_zero, List.getElem_cons_succ])
          refine wpAnyH_take (i := 6) (v := ?_) rfl (by kernel_rfl) (by kernel_rfl) (by kernel_rfl) (fun _ _ _ h => h) (Or.inl ⟨by rfl, ?_⟩) (by assumption) ?_
          rotate_left
          · (intro w hSw; (try dsimp only at hSw); go_simp; try with_reducible rfl)
          (try simp only [Act.put, List.setIfInBounds_toArray, List.set_cons_zero, List.set_cons_succ, List.getElem_toArray, List.getElem_cons_zero, List.getElem_cons_succ])
          refine wpAnyH_done (by kernel_rfl) ?_ _
          go_wp2
          go_meet
          exact ⟨p6, q6, p8, q8, rfl, rfl, HC68.out, HC8.out, hcur8⟩
        exact AllReadyH.nil
      exact AllReadyH.nil
    exact AllReadyH.nil
  case rest =>
  obtain ⟨a11, c11, a12, c12, rfl, rfl, hc11, hc12, hb⟩ := hcut
  obtain ⟨w9, rfl⟩ : ∃ x : World, x = wc := ⟨_, rfl⟩
  have HK1 := Lib.hid (fun i hi => pk_cell (i := i) hc11 hi)
  have HK2 := Lib.hid (fun i hi => pk_cell (i := i) hc12 hi)
  have HB9 := Lib.hid hb
  have hplI : xh.length ≤ pk.length := by have := HPL.out; omega
  clear hc11 hc12 hb HPK HRP
  go_wp2
  go_loopw [13] (fun i wr => ∃ (m k : Nat), m ≤ xh.length ∧ i = .int .i64 (m : Int) ∧ wr = w9.drewN k) (fun i _ => xh.length - (intOf i).toNat)
  case atStart => exact ⟨0, 0, by omega, rfl, rfl⟩
  case round =>
    obtain ⟨m, k, hm, rfl, rfl⟩ := hrel
    by_cases hml : m < xh.length
    · obtain ⟨blk, off, rfl, -, c0, c1, c2, c3⟩ := HK1.out m (by omega)
      obtain ⟨blk2, off2, rfl, -, e0, e1, e2, e3⟩ := HK2.out m (by omega)
      generalize pk.getD m Pk.zero = t at *
      obtain ⟨x0, x1, x2, x3⟩ := t
      dsimp only at *
      have hmI : (m : Int) < (xh.length : Int) := by omega
      go_wp2
      go_quiet (fail)
      go_wp2
      go_roundw
      case rel => exact ⟨m + 1, _, by omega, by go_num, rfl⟩
      case measure => simp [intOf]; omega
    · obtain rfl : m = xh.length := by omega
      clear HK1 HK2
      go_upto_region 14 with (fail)
      have hB9 := HB9.out
      have hs9 := hB9.size
      refine wp_region_held_drew (S := (fun w' => ((∀ j, w'.cell? ⟨n, j, none⟩ = (#[.int .i64 xs, .bool xc, .slice px xh.length qx, .string xd] : Array Value)[j]?) ∧ (∀ j, w'.cell? ⟨d, j, none⟩ = (#[.int .i64 ys, .bool yc, .slice py yh.length qy, .string yd] : Array Value)[j]?)))) (by kernel_rfl) ?_ (fun hHeld0 => ?_)
      · (try dsimp only); exact HX.out _ (by repeat' (first | (with_reducible assumption) | (with_reducible refine below_setRowN ?_ ?_ _) | (with_reducible refine Below.setCell ?_ ?_ _) | (with_reducible refine below_drewN' ?_ _) | (with_reducible refine Below.drew ?_) | (with_reducible refine Below.alloc ?_ ?_ _) | (with_reducible exact Below.refl _ _) | (with_reducible exact Nat.le_refl _) | (simp; done) | omega | (simp; omega)))
      refine wpAnyH_take (i := 0) (v := ?_) rfl (by kernel_rfl) (by kernel_rfl) (by kernel_rfl) (fun _ _ _ h => h) (Or.inl ⟨by rfl, ?_⟩) (by assumption) ?_
      rotate_left
      · (intro w hSw; (try dsimp only at hSw); go_simp; try with_reducible rfl)
      (try simp only [Act.put, List.setIfInBounds_toArray, List.set_cons_zero, List.set_cons_succ, List.getElem_toArray, List.getElem_cons_zero, List.getElem_cons_succ])
      refine wpAnyH_take (i := 2) (v := ?_) rfl (by kernel_rfl) (by kernel_rfl) (by kernel_rfl) (fun _ _ _ h => h) (Or.inl ⟨by rfl, ?_⟩) (by assumption) ?_
      rotate_left
      · (intro w hSw; (try dsimp only at hSw); go_simp; try with_reducible rfl)
      (try simp only [Act.put, List.setIfInBounds_toArray, List.set_cons_zero, List.set_cons_succ, List.getElem_toArray, List.getElem_cons_zero, List.getElem_cons_succ])
      refine wpAnyH_ready (rs := [1]) (by kernel_rfl) (by simp) ?_
      refine AllReadyH.cons rfl (fun K hK => ?_) ?_
      · (go_simp; go_at_call 49; (with_reducible refine (HR1.out _ _ _ (HCX5.out.below (by repeat' (first | (with_reducible assumption) | (with_reducible refine below_setRowN ?_ ?_ _) | (with_reducible refine Below.setCell ?_ ?_ _) | (with_reducible refine below_drewN' ?_ _) | (with_reducible refine Below.drew ?_) | (with_reducible refine Below.alloc ?_ ?_ _) | (with_reducible exact Below.refl _ _) | (with_reducible exact Nat.le_refl _) | (simp; done) | omega | (simp; omega))))).mono ?_); rintro e w10 ⟨rfl, hb10⟩; have hcur10 : Below w5.heap.size w5 w10 := (Below.trans (by repeat' (first | (with_reducible assumption) | (with_reducible refine below_setRowN ?_ ?_ _) | (with_reducible refine Below.setCell ?_ ?_ _) | (with_reducible refine below_drewN' ?_ _) | (with_reducible refine Below.drew ?_) | (with_reducible refine Below.alloc ?_ ?_ _) | (with_reducible exact Below.refl _ _) | (with_reducible exact Nat.le_refl _) | (simp; done) | omega | (simp; omega))) (hb10.mono (by first | (simp; done) | omega | (simp; omega)))); have hcs10 := hcur10.size)
        refine hK.out _ _ ?_ (fun hHeld1 => ?_)
        · (try dsimp only); exact HX.out _ (by repeat' (first | (with_reducible assumption) | (with_reducible refine below_setRowN ?_ ?_ _) | (with_reducible refine Below.setCell ?_ ?_ _) | (with_reducible refine below_drewN' ?_ _) | (with_reducible refine Below.drew ?_) | (with_reducible refine Below.alloc ?_ ?_ _) | (with_reducible exact Below.refl _ _) | (with_reducible exact Nat.le_refl _) | (simp; done) | omega | (simp; omega)))
        clear hK K hHeld0
        (try simp only [Act.put, List.setIfInBounds_toArray, List.set_cons_zero, List.set_cons_succ, List.getElem_toArray, List.getElem_cons_zero, List.getElem_cons_succ])
        refine wpAnyH_ready (rs := [3]) (by kernel_rfl) (by simp) ?_
        refine AllReadyH.cons rfl (fun K hK => ?_) ?_
        · (go_simp; go_at_call 42; (with_reducible refine (HAX.out _ _ _ (HCX5.out.below (by repeat' (first | (with_reducible assumption) | (with_reducible refine below_setRowN ?_ ?_ _) | (with_reducible refine Below.setCell ?_ ?_ _) | (with_reducible refine below_drewN' ?_ _) | (with_reducible refine Below.drew ?_) | (with_reducible refine Below.alloc ?_ ?_ _) | (with_reducible exact Below.refl _ _) | (with_reducible exact Nat.le_refl _) | (simp; done) | omega | (simp; omega))))).mono ?_); rintro e w11 ⟨v11, rfl, hown11, hb11⟩; have hcur11 : Below w5.heap.size w5 w11 := (Below.trans (by repeat' (first | (with_reducible assumption) | (with_reducible refine below_setRowN ?_ ?_ _) | (with_reducible refine Below.setCell ?_ ?_ _) | (with_reducible refine below_drewN' ?_ _) | (with_reducible refine Below.drew ?_) | (with_reducible refine Below.alloc ?_ ?_ _) | (with_reducible exact Below.refl _ _) | (with_reducible exact Nat.le_refl _) | (simp; done) | omega | (simp; omega))) (hb11.mono (by first | (simp; done) | omega | (simp; omega)))); have hcs11 := hcur11.size; obtain ⟨p11, q11, rfl, -, -, hc11⟩ := CellsOff.own hown11 [] (by simp); have HC11 := Lib.hid hc11; clear hown11 hc11)
          refine hK.out _ _ ?_ (fun hHeld2 => ?_)
          · (try dsimp only); exact HX.out _ (by repeat' (first | (with_reducible assumption) | (with_reducible refine below_setRowN ?_ ?_ _) | (with_reducible refine Below.setCell ?_ ?_ _) | (with_reducible refine below_drewN' ?_ _) | (with_reducible refine Below.drew ?_) | (with_reducible refine Below.alloc ?_ ?_ _) | (with_reducible exact Below.refl _ _) | (with_reducible exact Nat.le_refl _) | (simp; done) | omega | (simp; omega)))
          clear hK K hHeld1
          (try simp only [Act.put, List.setIfInBounds_toArray, List.set_cons_zero, List.set_cons_succ, List.getElem_toArray, List.getElem_cons_zero, List.getElem_cons_succ])
          refine wpAnyH_ready (rs := [4]) (by kernel_rfl) (by simp) ?_
          refine AllReadyH.cons rfl (fun K hK => ?_) ?_
          · (go_simp; go_at_call 50; (with_reducible refine (HR2.out _ _ _ HC11.out).mono ?_); rintro e w12 ⟨rfl, hb12⟩; have hcur12 : Below w5.heap.size w5 w12 := (Below.trans (by repeat' (first | (with_reducible assumption) | (with_reducible refine below_setRowN ?_ ?_ _) | (with_reducible refine Below.setCell ?_ ?_ _) | (with_reducible refine below_drewN' ?_ _) | (with_reducible refine Below.drew ?_) | (with_reducible refine Below.alloc ?_ ?_ _) | (with_reducible exact Below.refl _ _) | (with_reducible exact Nat.le_refl _) | (simp; done) | omega | (simp; omega))) (hb12.mono (by first | (simp; done) | omega | (simp; omega)))); have hcs12 := hcur12.size)
            refine hK.out _ _ ?_ (fun hHeld3 => ?_)
            · (try dsimp only); exact HX.out _ (by repeat' (first | (with_reducible assumption) | (with_reducible refine below_setRowN ?_ ?_ _) | (with_reducible refine Below.setCell ?_ ?_ _) | (with_reducible refine below_drewN' ?_ _) | (with_reducible refine Below.drew ?_) | (with_reducible refine Below.alloc ?_ ?_ _) | (with_reducible exact Below.refl _ _) | (with_reducible exact Nat.le_refl _) | (simp; done) | omega | (simp; omega)))
            clear hK K hHeld2
            (try simp only [Act.put, List.setIfInBounds_toArray, List.set_cons_zero, List.set_cons_succ, List.getElem_toArray, List.getElem_cons_zero, List.getElem_cons_succ])
            refine wpAnyH_take (i := 5) (v := ?_) rfl (by kernel_rfl) (by kernel_rfl) (by kernel_rfl) (fun _ _ _ h => h) (Or.inl ⟨by rfl, ?_⟩) (by assumption) ?_
            rotate_left
            · (intro w hSw; (try dsimp only at hSw); go_simp; try with_reducible rfl)
            (try simp only [Act.put, List.setIfInBounds_toArray, List.set_cons_zero, List.set_cons_succ, List.getElem_toArray, List.getElem_cons_zero, List.getElem_cons_succ])
            refine wpAnyH_take (i := 6) (v := ?_) rfl (by kernel_rfl) (by kernel_rfl) (by kernel_rfl) (fun _ _ _ h => h) (Or.inl ⟨by rfl, ?_⟩) (by assumption) ?_
            rotate_left
            · (intro w hSw; (try dsimp only at hSw); go_simp; try with_reducible rfl)
            (try simp only [Act.put, List.setIfInBounds_toArray, List.set_cons_zero, List.set_cons_succ, List.getElem_toArray, List.getElem_cons_zero, List.getElem_cons_succ])
            refine wpAnyH_take (i := 7) (v := ?_) rfl (by kernel_rfl) (by kernel_rfl) (by kernel_rfl) (fun _ _ _ h => h) (Or.inl ⟨by rfl, ?_⟩) (by assumption) ?_
            rotate_left
            · (intro w hSw; (try dsimp only at hSw); go_simp; try with_reducible rfl)
            (try simp only [Act.put, List.setIfInBounds_toArray, List.set_cons_zero, List.set_cons_succ, List.getElem_toArray, List.getElem_cons_zero, List.getElem_cons_succ])
            refine wpAnyH_take (i := 8) (v := ?_) rfl (by kernel_rfl) (by kernel_rfl) (by kernel_rfl) (fun _ _ _ h => h) (Or.inl ⟨by rfl, ?_⟩) (by assumption) ?_
            rotate_left
            · (intro w hSw; (try dsimp only at hSw); go_simp; try with_reducible rfl)
            (try simp only [Act.put, List.setIfInBounds_toArray, List.set_cons_zero, List.set_cons_succ, List.getElem_toArray, List.getElem_cons_zero, List.getElem_cons_succ])
            refine wpAnyH_ready (rs := [9]) (by kernel_rfl) (by simp) ?_
            refine AllReadyH.cons rfl (fun K hK => ?_) ?_
            · (go_simp; go_at_call 46; (with_reducible refine (HSW.out _ _ _ _ _ (HCA5.out.below (by repeat' (first | (with_reducible assumption) | (with_reducible refine below_setRowN ?_ ?_ _) | (with_reducible refine Below.setCell ?_ ?_ _) | (with_reducible refine below_drewN' ?_ _) | (with_reducible refine Below.drew ?_) | (with_reducible refine Below.alloc ?_ ?_ _) | (with_reducible exact Below.refl _ _) | (with_reducible exact Nat.le_refl _) | (simp; done) | omega | (simp; omega)))) (HCB5.out.below (by repeat' (first | (with_reducible assumption) | (with_reducible refine below_setRowN ?_ ?_ _) | (with_reducible refine Below.setCell ?_ ?_ _) | (with_reducible refine below_drewN' ?_ _) | (with_reducible refine Below.drew ?_) | (with_reducible refine Below.alloc ?_ ?_ _) | (with_reducible exact Below.refl _ _) | (with_reducible exact Nat.le_refl _) | (simp; done) | omega | (simp; omega))))).mono ?_); rintro e w13 ⟨rfl, k13, rfl⟩)
              refine hK.out _ _ ?_ (fun hHeld4 => ?_)
              · (try dsimp only); exact HX.out _ (by repeat' (first | (with_reducible assumption) | (with_reducible refine below_setRowN ?_ ?_ _) | (with_reducible refine Below.setCell ?_ ?_ _) | (with_reducible refine below_drewN' ?_ _) | (with_reducible refine Below.drew ?_) | (with_reducible refine Below.alloc ?_ ?_ _) | (with_reducible exact Below.refl _ _) | (with_reducible exact Nat.le_refl _) | (simp; done) | omega | (simp; omega)))
              clear hK K hHeld3
              (try simp only [Act.put, List.setIfInBounds_toArray, List.set_cons_zero, List.set_cons_succ, List.getElem_toArray, List.getElem_cons_zero, List.getElem_cons_succ])
              refine wpAnyH_take (i := 10) (v := ?_) rfl (by kernel_rfl) (by kernel_rfl) (by kernel_rfl) (fun _ _ _ h => h) (Or.inl ⟨by rfl, ?_⟩) (by assumption) ?_
              rotate_left
              · (intro w hSw; (try dsimp only at hSw); go_simp; try with_reducible rfl)
              (try simp only [Act.put, List.setIfInBounds_toArray, List.set_cons_zero, List.set_cons_succ, List.getElem_toArray, List.getElem_cons_zero, List.getElem_cons_succ])
              refine wpAnyH_take (i := 11) (v := ?_) rfl (by kernel_rfl) (by kernel_rfl) (by kernel_rfl) (fun _ _ _ h => h) (Or.inl ⟨by rfl, ?_⟩) (by assumption) ?_
              rotate_left
              · (intro w hSw; (try dsimp only at hSw); go_simp; try with_reducible rfl)
              (try simp only [Act.put, List.setIfInBounds_toArray, List.set_cons_zero, List.set_cons_succ, List.getElem_toArray, List.getElem_cons_zero, List.getElem_cons_succ])
              refine wpAnyH_take (i := 12) (v := ?_) rfl (by kernel_rfl) (by kernel_rfl) (by kernel_rfl) (fun _ _ _ h => h) (Or.inl ⟨by rfl, ?_⟩) (by assumption) ?_
              rotate_left
              · (intro w hSw; (try dsimp only at hSw); go_simp; try with_reducible rfl)
              (try simp only [Act.put, List.setIfInBounds_toArray, List.set_cons_zero, List.set_cons_succ, List.getElem_toArray, List.getElem_cons_zero, List.getElem_cons_succ])
              refine wpAnyH_take (i := 13) (v := ?_) rfl (by kernel_rfl) (by kernel_rfl) (by kernel_rfl) (fun _ _ _ h => h) (Or.inl ⟨by rfl, ?_⟩) (by assumption) ?_
              rotate_left
              · (intro w hSw; (try dsimp only at hSw); go_simp; try with_reducible rfl)
              (try simp only [Act.put, List.setIfInBounds_toArray, List.set_cons_zero, List.set_cons_succ, List.getElem_toArray, List.getElem_cons_zero, List.getElem_cons_succ])
              refine wpAnyH_take (i := 14) (v := ?_) rfl (by kernel_rfl) (by kernel_rfl) (by kernel_rfl) (fun _ _ _ h => h) (Or.inl ⟨by rfl, ?_⟩) (by assumption) ?_
              rotate_left
              · (intro w hSw; (try dsimp only at hSw); go_simp; try with_reducible rfl)
              (try simp only [Act.put, List.setIfInBounds_toArray, List.set_cons_zero, List.set_cons_succ, List.getElem_toArray, List.getElem_cons_zero, List.getElem_cons_succ])
              refine wpAnyH_take (i := 15) (v := ?_) rfl (by kernel_rfl) (by kernel_rfl) (by kernel_rfl) (fun _ _ _ h => h) (Or.inl ⟨by rfl, ?_⟩) (by assumption) ?_
              rotate_left
              · (intro w hSw; (try dsimp only at hSw); go_simp; try with_reducible rfl)
              (try simp only [Act.put, List.setIfInBounds_toArray, List.set_cons_zero, List.set_cons_succ, List.getElem_toArray, List.getElem_cons_zero, List.getElem_cons_succ])
              refine wpAnyH_take (i := 16) (v := ?_) rfl (by kernel_rfl) (by kernel_rfl) (by kernel_rfl) (fun _ _ _ h => h) (Or.inl ⟨by rfl, ?_⟩) (by assumption) ?_
              rotate_left
              · (intro w hSw; (try dsimp only at hSw); go_simp; try with_reducible rfl)
              (try simp only [Act.put, List.setIfInBounds_toArray, List.set_cons_zero, List.set_cons_succ, List.getElem_toArray, List.getElem_cons_zero, List.getElem_cons_succ])
              refine wpAnyH_take (i := 17) (v := ?_) rfl (by kernel_rfl) (by kernel_rfl) (by kernel_rfl) (fun _ _ _ h => h) (Or.inl ⟨by rfl, ?_⟩) (by assumption) ?_
              rotate_left
              · (intro w hSw; (try dsimp only at hSw); go_simp; try with_reducible rfl)
              (try simp only [Act.put, List.setIfInBounds_toArray, List.set_cons_zero, List.set_cons_succ, List.getElem_toArray, List.getElem_cons_zero, List.getElem_cons_succ])
              refine wpAnyH_take (i := 18) (v := ?_) rfl (by kernel_rfl) (by kernel_rfl) (by kernel_rfl) (fun _ _ _ h => h) (Or.inl ⟨by rfl, ?_⟩) (by assumption) ?_
              rotate_left
              · (intro w hSw; (try dsimp only at hSw); go_simp; try with_reducible rfl)
              (try simp only [Act.put, List.setIfInBounds_toArray, List.set_cons_zero, List.set_cons_succ, List.getElem_toArray, List.getElem_cons_zero, List.getElem_cons_succ])
              refine wpAnyH_take (i := 20) (v := ?_) rfl (by kernel_rfl) (by kernel_rfl) (by kernel_rfl) (fun _ _ _ h => h) (Or.inl ⟨by rfl, ?_⟩) (by assumption) ?_
              rotate_left
              · (intro w hSw; (try dsimp only at hSw); go_simp; try with_reducible rfl)
              (try simp only [Act.put, List.setIfInBounds_toArray, List.set_cons_zero, List.set_cons_succ, List.getElem_toArray, List.getElem_cons_zero, List.getElem_cons_succ])
              refine wpAnyH_take (i := 22) (v := ?_) rfl (by kernel_rfl) (by kernel_rfl) (by kernel_rfl) (fun _ _ _ h => h) (Or.inl ⟨by rfl, ?_⟩) (by assumption) ?_
              rotate_left
              · (intro w hSw; (try dsimp only at hSw); go_simp; try with_reducible rfl)
              (try simp only [Act.put, List.setIfInBounds_toArray, List.set_cons_zero, List.set_cons_succ, List.getElem_toArray, List.getElem_cons_zero, List.getElem_cons_succ])
              refine wpAnyH_ready (rs := [19]) (by kernel_rfl) (by simp) ?_
              refine AllReadyH.cons rfl (fun K hK => ?_) ?_
              · (go_simp; go_at_call 51; (with_reducible refine (HSM.out _ _ _ _ _ (HCX5.out.below (by repeat' (first | (with_reducible assumption) | (with_reducible refine below_setRowN ?_ ?_ _) | (with_reducible refine Below.setCell ?_ ?_ _) | (with_reducible refine below_drewN' ?_ _) | (with_reducible refine Below.drew ?_) | (with_reducible refine Below.alloc ?_ ?_ _) | (with_reducible exact Below.refl _ _) | (with_reducible exact Nat.le_refl _) | (simp; done) | omega | (simp; omega)))) (HCY5.out.below (by repeat' (first | (with_reducible assumption) | (with_reducible refine below_setRowN ?_ ?_ _) | (with_reducible refine Below.setCell ?_ ?_ _) | (with_reducible refine below_drewN' ?_ _) | (with_reducible refine Below.drew ?_) | (with_reducible refine Below.alloc ?_ ?_ _) | (with_reducible exact Below.refl _ _) | (with_reducible exact Nat.le_refl _) | (simp; done) | omega | (simp; omega))))).mono ?_); rintro e w14 ⟨rfl, hb14⟩; have hcur14 : Below w5.heap.size w5 w14 := (Below.trans (by repeat' (first | (with_reducible assumption) | (with_reducible refine below_setRowN ?_ ?_ _) | (with_reducible refine Below.setCell ?_ ?_ _) | (with_reducible refine below_drewN' ?_ _) | (with_reducible refine Below.drew ?_) | (with_reducible refine Below.alloc ?_ ?_ _) | (with_reducible exact Below.refl _ _) | (with_reducible exact Nat.le_refl _) | (simp; done) | omega | (simp; omega))) (hb14.mono (by first | (simp; done) | omega | (simp; omega)))); have hcs14 := hcur14.size)
                refine hK.out _ _ ?_ (fun hHeld5 => ?_)
                · (try dsimp only); exact HX.out _ (by repeat' (first | (with_reducible assumption) | (with_reducible refine below_setRowN ?_ ?_ _) | (with_reducible refine Below.setCell ?_ ?_ _) | (with_reducible refine below_drewN' ?_ _) | (with_reducible refine Below.drew ?_) | (with_reducible refine Below.alloc ?_ ?_ _) | (with_reducible exact Below.refl _ _) | (with_reducible exact Nat.le_refl _) | (simp; done) | omega | (simp; omega)))
                clear hK K hHeld4
                (try simp only [Act.put, List.setIfInBounds_toArray, List.set_cons_zero, List.set_cons_succ, List.getElem_toArray, List.getElem_cons_zero, List.getElem_cons_succ])
                refine wpAnyH_ready (rs := [21]) (by kernel_rfl) (by simp) ?_
                refine AllReadyH.cons rfl (fun K hK => ?_) ?_
                · (go_simp; go_at_call 42; (with_reducible refine (HAX.out _ _ _ (HCX5.out.below (by repeat' (first | (with_reducible assumption) | (with_reducible refine below_setRowN ?_ ?_ _) | (with_reducible refine Below.setCell ?_ ?_ _) | (with_reducible refine below_drewN' ?_ _) | (with_reducible refine Below.drew ?_) | (with_reducible refine Below.alloc ?_ ?_ _) | (with_reducible exact Below.refl _ _) | (with_reducible exact Nat.le_refl _) | (simp; done) | omega | (simp; omega))))).mono ?_); rintro e w15 ⟨v15, rfl, hown15, hb15⟩; have hcur15 : Below w5.heap.size w5 w15 := (Below.trans (by repeat' (first | (with_reducible assumption) | (with_reducible refine below_setRowN ?_ ?_ _) | (with_reducible refine Below.setCell ?_ ?_ _) | (with_reducible refine below_drewN' ?_ _) | (with_reducible refine Below.drew ?_) | (with_reducible refine Below.alloc ?_ ?_ _) | (with_reducible exact Below.refl _ _) | (with_reducible exact Nat.le_refl _) | (simp; done) | omega | (simp; omega))) (hb15.mono (by first | (simp; done) | omega | (simp; omega)))); have hcs15 := hcur15.size; obtain ⟨p15, q15, rfl, -, -, hc15⟩ := CellsOff.own hown15 [] (by simp); have HC15 := Lib.hid hc15; clear hown15 hc15)
                  refine hK.out _ _ ?_ (fun hHeld6 => ?_)
                  · (try dsimp only); exact HX.out _ (by repeat' (first | (with_reducible assumption) | (with_reducible refine below_setRowN ?_ ?_ _) | (with_reducible refine Below.setCell ?_ ?_ _) | (with_reducible refine below_drewN' ?_ _) | (with_reducible refine Below.drew ?_) | (with_reducible refine Below.alloc ?_ ?_ _) | (with_reducible exact Below.refl _ _) | (with_reducible exact Nat.le_refl _) | (simp; done) | omega | (simp; omega)))
                  clear hK K hHeld5
                  (try simp only [Act.put, List.setIfInBounds_toArray, List.set_cons_zero, List.set_cons_succ, List.getElem_toArray, List.getElem_cons_zero, List.getElem_cons_succ])
                  refine wpAnyH_ready (rs := [23]) (by kernel_rfl) (by simp) ?_
                  refine AllReadyH.cons rfl (fun K hK => ?_) ?_
                  · (go_simp; go_at_call 42; (with_reducible refine (HAY.out _ _ _ (HCY5.out.below (by repeat' (first | (with_reducible assumption) | (with_reducible refine below_setRowN ?_ ?_ _) | (with_reducible refine Below.setCell ?_ ?_ _) | (with_reducible refine below_drewN' ?_ _) | (with_reducible refine Below.drew ?_) | (with_reducible refine Below.alloc ?_ ?_ _) | (with_reducible exact Below.refl _ _) | (with_reducible exact Nat.le_refl _) | (simp; done) | omega | (simp; omega))))).mono ?_); rintro e w16 ⟨v16, rfl, hown16, hb16⟩; have hcur16 : Below w5.heap.size w5 w16 := (Below.trans (by repeat' (first | (with_reducible assumption) | (with_reducible refine below_setRowN ?_ ?_ _) | (with_reducible refine Below.setCell ?_ ?_ _) | (with_reducible refine below_drewN' ?_ _) | (with_reducible refine Below.drew ?_) | (with_reducible refine Below.alloc ?_ ?_ _) | (with_reducible exact Below.refl _ _) | (with_reducible exact Nat.le_refl _) | (simp; done) | omega | (simp; omega))) (hb16.mono (by first | (simp; done) | omega | (simp; omega)))); have hcs16 := hcur16.size; have HC156 := Lib.hid (HC15.out.below hb16); obtain ⟨p16, q16, rfl, -, -, hc16⟩ := CellsOff.own hown16 [] (by simp); have HC16 := Lib.hid hc16; clear hown16 hc16)
                    refine hK.out _ _ ?_ (fun hHeld7 => ?_)
                    · (try dsimp only); exact HX.out _ (by repeat' (first | (with_reducible assumption) | (with_reducible refine below_setRowN ?_ ?_ _) | (with_reducible refine Below.setCell ?_ ?_ _) | (with_reducible refine below_drewN' ?_ _) | (with_reducible refine Below.drew ?_) | (with_reducible refine Below.alloc ?_ ?_ _) | (with_reducible exact Below.refl _ _) | (with_reducible exact Nat.le_refl _) | (simp; done) | omega | (simp; omega)))
                    clear hK K hHeld6
                    (try simp only [Act.put, List.setIfInBounds_toArray, List.set_cons_zero, List.set_cons_succ, List.getElem_toArray, List.getElem_cons_zero, List.getElem_cons_succ])
                    refine wpAnyH_ready (rs := [24]) (by kernel_rfl) (by simp) ?_
                    refine AllReadyH.cons rfl (fun K hK => ?_) ?_
                    · (go_simp; go_at_call 41; (with_reducible refine (HRS.out _ _ _ _ _ HC156.out HC16.out).mono ?_); rintro e w17 ⟨rfl, hb17⟩; have hcur17 : Below w5.heap.size w5 w17 := (Below.trans (by repeat' (first | (with_reducible assumption) | (with_reducible refine below_setRowN ?_ ?_ _) | (with_reducible refine Below.setCell ?_ ?_ _) | (with_reducible refine below_drewN' ?_ _) | (with_reducible refine Below.drew ?_) | (with_reducible refine Below.alloc ?_ ?_ _) | (with_reducible exact Below.refl _ _) | (with_reducible exact Nat.le_refl _) | (simp; done) | omega | (simp; omega))) (hb17.mono (by first | (simp; done) | omega | (simp; omega)))); have hcs17 := hcur17.size)
                      refine hK.out _ _ ?_ (fun hHeld8 => ?_)
                      · (try dsimp only); exact HX.out _ (by repeat' (first | (with_reducible assumption) | (with_reducible refine below_setRowN ?_ ?_ _) | (with_reducible refine Below.setCell ?_ ?_ _) | (with_reducible refine below_drewN' ?_ _) | (with_reducible refine Below.drew ?_) | (with_reducible refine Below.alloc ?_ ?_ _) | (with_reducible exact Below.refl _ _) | (with_reducible exact Nat.le_refl _) | (simp; done) | omega | (simp; omega)))
                      clear hK K hHeld7
                      (try simp only [Act.put, List.setIfInBounds_toArray, List.set_cons_zero, List.set_cons_succ, List.getElem_toArray, List.getElem_cons_zero, List.getElem_cons_succ])
                      refine wpAnyH_take (i := 25) (v := ?_) rfl (by kernel_rfl) (by kernel_rfl) (by kernel_rfl) (fun _ _ _ h => h) (Or.inl ⟨by rfl, ?_⟩) (by assumption) ?_
                      rotate_left
                      · (intro w hSw; (try dsimp only at hSw); go_simp; try with_reducible rfl)
                      (try simp only [Act.put, List.setIfInBounds_toArray, List.set_cons_zero, List.set_cons_succ, List.getElem_toArray, List.getElem_cons_zero, List.getElem_cons_succ])
                      refine wpAnyH_take (i := 26) (v := ?_) rfl (by kernel_rfl) (by kernel_rfl) (by kernel_rfl) (fun _ _ _ h => h) (Or.inl ⟨by rfl, ?_⟩) (by assumption) ?_
                      rotate_left
                      · (intro w hSw; (try dsimp only at hSw); go_simp; try with_reducible rfl)
                      (try simp only [Act.put, List.setIfInBounds_toArray, List.set_cons_zero, List.set_cons_succ, List.getElem_toArray, List.getElem_cons_zero, List.getElem_cons_succ])
                      refine wpAnyH_take (i := 27) (v := ?_) rfl (by kernel_rfl) (by kernel_rfl) (by kernel_rfl) (fun _ _ _ h => h) (Or.inl ⟨by rfl, ?_⟩) (by assumption) ?_
                      rotate_left
                      · (intro w hSw; (try dsimp only at hSw); go_simp; try with_reducible rfl)
                      (try simp only [Act.put, List.setIfInBounds_toArray, List.set_cons_zero, List.set_cons_succ, List.getElem_toArray, List.getElem_cons_zero, List.getElem_cons_succ])
                      refine wpAnyH_done (by kernel_rfl) ?_ _
                      go_wp2
                      go_ret
                      exact ⟨rfl, H5.out.trans (hcur17.mono H5.out.size)⟩
                    exact AllReadyH.nil
                  exact AllReadyH.nil
                exact AllReadyH.nil
              exact AllReadyH.nil
            exact AllReadyH.nil
          exact AllReadyH.nil
        exact AllReadyH.nil
      exact AllReadyH.nil
end Go.Proofs.Ytmehfflomgldeab
