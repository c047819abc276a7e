/- The walk of CutData. -/
import Derived.Test.YtmehfflomgldeabCutI
namespace Go.Proofs.Ytmehfflomgldeab
set_option linter.unusedVariables false
set_option linter.unusedSimpArgs false
open Go.RowKit BM
theorem drew_at {w : World} {b : Nat} {o : Obj} (hb : w.heap[b]? = some o) : w.drew.heap[b]? = some o := hb
theorem owns_setRow {w : World} {base : Nat} {e : TypeId} {size : Nat} {v : Value} {n : Nat} {xs : List Value} {g : Nat} (h : w.ownsRow base e size v n xs) (hg : ∀ k, v.ownBlock = some k → k ≠ g) (cs : Array Value) : (w.setRow g cs).ownsRow base e size v n xs :=
  owns_off h (S := [g]) (only_setRowN (Only.refl _ _) (.inl (by simp)) cs) (fun k hk => by have := hg k hk; simp [this])
theorem cells_own {w : World} {base : Nat} {e : TypeId} {size : Nat} {a : Option Addr} {n c : Nat} {xs : List Value} (h : w.ownsRow base e size (.slice a n c) n xs) : CellsOff w a xs [] := by
  obtain ⟨_, _, he, -, -, hc⟩ := CellsOff.own h [] (by simp)
  simp only [Value.slice.injEq, true_and] at he
  obtain ⟨rfl, rfl⟩ := he
  exact hc
theorem backP_good (p : Pa) : backP (goodP p) = goodP p := by
  have h1 := good_heads p
  have h2 := good_size p
  generalize goodP p = g at *
  obtain ⟨s, c, h, d⟩ := g
  dsimp only at *
  unfold backP
  dsimp only
  rw [List.take_of_length_le (by omega), Nat.min_eq_left (by omega), ByteArray.extract_zero_size]
theorem drop_heads (p : Pa) : (wordsP p).drop p.heads.length = restWs p.data := by
  unfold wordsP
  rw [← headWs_len p, List.drop_left]
theorem rest_get (d : ByteArray) {i : Nat} (hi : i < nBody d) : (restWs d).getD i 0 = wordF (bodyFl d i) := by
  unfold restWs bodyWs
  rw [List.getD_eq_getElem?_getD, List.getElem?_append_left (by simpa using hi), List.getElem?_map, List.getElem?_range hi, Option.map_some, Option.getD_some]
/-- The parcel of q with the bytes of p may be. -/
theorem mixed_right {p q : Pa} (hp : rightP p = true) (hq : rightP q = true) : rightP { q with data := p.data } = true := by
  unfold rightP at *
  rw [Bool.and_eq_true, decide_eq_true_eq] at *
  exact ⟨hq.1, hq.2.1, hq.2.2.1, hq.2.2.2.1, hq.2.2.2.2.1, hq.2.2.2.2.2.1, hp.2.2.2.2.2.2⟩
theorem body_eq {d e : ByteArray} {i : Nat} (h1 : i < nBody d) (h2 : i < nBody e) : wordF (bodyFl d i) = wordF (bodyFl e i) ↔ d.extract (6 * i) (6 * i + 6) = e.extract (6 * i) (6 * i + 6) := by
  constructor
  · intro h
    have := write_inj (body_right h1) (body_right h2) h
    exact congrArg Fl.data this
  · intro h
    unfold bodyFl
    rw [h]
set_option maxRecDepth 100000 in
set_option maxHeartbeats 8000000 in
theorem cutData_walk (p q : PaM) (w : World) (hp : p.Here w) (hq : q.Here w) :
    Calls Try.prog 12 #[.agg #[.int .i64 p.pa.src, .bool p.pa.cast, .slice p.ha p.pa.heads.length p.hc, .string p.pa.data], .agg #[.int .i64 q.pa.src, .bool q.pa.cast, .slice q.ha q.pa.heads.length q.hc, .string q.pa.data]] w fun e w' => e = .returned (.bool true) ∧ Below w.heap.size w w' := by
  have hGP := fun w' (hb : Below w.heap.size w w') => rgood10 p.pa p.ha p.hc w' (hp.below hb).1 hp.2.1 hp.2.2
  have hGQ := fun w' (hb : Below w.heap.size w w') => rgood10 q.pa q.ha q.hc w' (hq.below hb).1 hq.2.1 hq.2.2
  have hxr := good_right p.pa
  have hyr := good_right q.pa
  have hzr := mixed_right hxr hyr
  have hxl := (good_heads p.pa).1
  have hyl := (good_heads q.pa).1
  have hxd := good_size p.pa
  have hyd := good_size q.pa
  have hBP := fun w' a c h => back10 (goodP p.pa) a c w' h (by unfold maxLen; omega) (by unfold maxLen; omega)
  have hBQ := fun w' a c h => back10 (goodP q.pa) a c w' h (by unfold maxLen; omega) (by unfold maxLen; omega)
  rw [backP_good] at hBP hBQ
  generalize goodP p.pa = xp at *
  generalize goodP q.pa = yp at *
  have hWX := fun w' a c h => cut_words xp a c w' h hxr
  have hWY := fun w' a c h => cut_words yp a c w' h hyr
  have hWZ := fun w' a c h => cut_words { yp with data := xp.data } a c w' h hzr
  have hlx := wordsP_len xp
  have hly := wordsP_len yp
  have hlz := wordsP_len { yp with data := xp.data }
  have hdx := drop_heads xp
  have hdy := drop_heads yp
  have hdz := drop_heads { yp with data := xp.data }
  dsimp only at hlz hdz
  have hBE := fun i (h1 : i < nBody xp.data) (h2 : i < nBody yp.data) => body_eq (i := i) h1 h2
  have hGX : ∀ i, i < nBody xp.data → (restWs xp.data).getD i 0 = wordF (bodyFl xp.data i) := fun i hi => rest_get _ hi
  have hGY : ∀ i, i < nBody yp.data → (restWs yp.data).getD i 0 = wordF (bodyFl yp.data i) := fun i hi => rest_get _ hi
  have hnx : nBody xp.data ≤ 20 := by unfold nBody; omega
  have hny : nBody yp.data ≤ 20 := by unfold nBody; omega
  have hnx6 : ∀ i, i < nBody xp.data → 6 * i + 6 < xp.data.size := fun i hi => by unfold nBody at hi; omega
  have hny6 : ∀ i, i < nBody yp.data → 6 * i + 6 < yp.data.size := fun i hi => by unfold nBody at hi; omega
  have hSW := fun w' a b c d h1 h2 => same_words ((wordsP xp).drop xp.heads.length) ((wordsP { yp with data := xp.data }).drop yp.heads.length) a b c d w' (by rw [List.length_drop]; omega) h1 h2
  rw [decide_eq_true (show (wordsP xp).drop xp.heads.length = (wordsP { yp with data := xp.data }).drop yp.heads.length by rw [hdx, hdz])] at hSW
  rw [List.length_drop, List.length_drop] at hSW
  generalize wordsP { yp with data := xp.data } = lz at *
  generalize wordsP xp = lx at *
  generalize wordsP yp = ly at *
  obtain ⟨xs, xc, xh, xd⟩ := xp
  obtain ⟨ys, yc, yh, yd⟩ := yp
  obtain ⟨⟨s1, k1, h1, d1⟩, a1, c1⟩ := p
  obtain ⟨⟨s2, k2, h2, d2⟩, a2, c2⟩ := q
  dsimp only [Pa.val] at *
  generalize hnbx : nBody xd = nx at *
  generalize hnby : nBody yd = ny at *
  have HGP := Lib.hid hGP
  have HGQ := Lib.hid hGQ
  have HBP := Lib.hid hBP
  have HBQ := Lib.hid hBQ
  have HWX := Lib.hid hWX
  have HWY := Lib.hid hWY
  have HWZ := Lib.hid hWZ
  have HDX := Lib.hid hdx
  have HDY := Lib.hid hdy
  have HBE := Lib.hid hBE
  have HGX := Lib.hid hGX
  have HGY := Lib.hid hGY
  have HNX6 := Lib.hid hnx6
  have HNY6 := Lib.hid hny6
  have HSW := Lib.hid hSW
  have HLX := Lib.hid hlx
  have HLY := Lib.hid hly
  have HLZ := Lib.hid hlz
  have HLV := Lib.hid (fun w => lives10_calls w)
  have lx1 : xh.length < lx.length := by omega
  have ly1 : yh.length < ly.length := by omega
  have lz1 : yh.length < lz.length := by omega
  clear hGP hGQ hBP hBQ hWX hWY hWZ hdx hdy hdz hBE hGX hGY hnx6 hny6 hSW hlx hly hlz hp hq hxr hyr hzr hnbx hnby
  go_enter Try.func12, Try.ntmps12
  go_upto_region 3 with (go_at_call 36; ((with_reducible refine (HLV.out _).mono ?_); rintro e w1 ⟨rfl, hb1⟩; have hP1 := Below.at hb1 (alloc_old (alloc_new _) _) (by simp; omega); have hQ1 := Below.at hb1 (alloc_at _ (w.heap.size + 1) (by simp)) (by simp); have hB1 : Below w.heap.size w w1 := Below.trans (by with_reducible repeat' (first | assumption | refine below_setRowN ?_ ?_ _ | refine Below.drew ?_ | refine Below.alloc ?_ ?_ _ | exact Below.refl _ _ | omega | (simp <;> omega))) (hb1.mono (by simp; omega)); have HP1 := Lib.hid hP1; have HQ1 := Lib.hid hQ1; have HB1 := Lib.hid hB1; clear hb1 hP1 hQ1 hB1))
  have HX : Hid (∀ w', Below w1.heap.size w1 w' → ((∀ j, w'.cell? ⟨w.heap.size, j, none⟩ = (#[.int .i64 s1, .bool k1, .slice a1 h1.length c1, .string d1] : Array Value)[j]?) ∧ (∀ j, w'.cell? ⟨w.heap.size + 1, j, none⟩ = (#[.int .i64 s2, .bool k2, .slice a2 h2.length c2, .string d2] : Array Value)[j]?))) := fun w' hb => ⟨fun j => cell_at (Below.at hb HP1.out (block_lt HP1.out)) j, fun j => cell_at (Below.at hb HQ1.out (block_lt HQ1.out)) j⟩
  go_cut [5, 6] (fun v5 v6 wx => ∃ n d px qx py qy, v5 = .pointer (some ⟨n, 0, none⟩) ∧ v6 = .pointer (some ⟨d, 0, none⟩) ∧ wx.heap[n]? = some (.cells #[.int .i64 xs, .bool xc, .slice px xh.length qx, .string xd] 68 (0, 0)) ∧ wx.heap[d]? = some (.cells #[.int .i64 ys, .bool yc, .slice py yh.length qy, .string yd] 68 (0, 0)) ∧ CellsOff wx px (flatT xh) [] ∧ CellsOff wx py (flatT yh) [] ∧ Below w1.heap.size w1 wx)
  case first =>
    refine wp_region_held_drew (S := (fun w' => ((∀ j, w'.cell? ⟨w.heap.size, j, none⟩ = (#[.int .i64 s1, .bool k1, .slice a1 h1.length c1, .string d1] : Array Value)[j]?) ∧ (∀ j, w'.cell? ⟨w.heap.size + 1, j, none⟩ = (#[.int .i64 s2, .bool k2, .slice a2 h2.length c2, .string d2] : Array Value)[j]?)))) (by kernel_rfl) ?_ (fun hHeld0 => ?_)
    · (try dsimp only); exact HX.out _ (by with_reducible repeat' (first | assumption | refine below_setRowN ?_ ?_ _ | refine Below.drew ?_ | refine Below.alloc ?_ ?_ _ | exact Below.refl _ _ | omega | (simp <;> omega)))
    refine wpAnyH_take (i := 0) (v := ?_) rfl (by kernel_rfl) (by kernel_rfl) (by kernel_rfl) (fun _ _ _ h => h) (Or.inl ⟨by rfl, ?_⟩) (by assumption) ?_
    rotate_left
    · (intro w hSw; (try dsimp only at hSw); go_simp; try with_reducible rfl)
    (try simp only [Act.put, List.setIfInBounds_toArray, List.set_cons_zero, List.set_cons_succ, List.getElem_toArray, List.getElem_cons_zero, List.getElem_cons_succ])
    refine wpAnyH_take (i := 3) (v := ?_) rfl (by kernel_rfl) (by kernel_rfl) (by kernel_rfl) (fun _ _ _ h => h) (Or.inl ⟨by rfl, ?_⟩) (by assumption) ?_
    rotate_left
    · (intro w hSw; (try dsimp only at hSw); go_simp; try with_reducible rfl)
    (try simp only [Act.put, List.setIfInBounds_toArray, List.set_cons_zero, List.set_cons_succ, List.getElem_toArray, List.getElem_cons_zero, List.getElem_cons_succ])
    refine wpAnyH_ready (rs := [1, 6, 7]) (by kernel_rfl) (by simp) ?_
    refine AllReadyH.cons rfl (fun K hK => ?_) ?_
    · (go_simp; go_at_call 38; (with_reducible refine (HGP.out _ (HB1.out.trans (Below.mono (B := w1.heap.size) (by with_reducible repeat' (first | assumption | refine below_setRowN ?_ ?_ _ | refine Below.drew ?_ | refine Below.alloc ?_ ?_ _ | exact Below.refl _ _ | omega | (simp <;> omega))) HB1.out.size))).mono ?_); rintro e w5 ⟨v5, rfl, hown5, hb5⟩; obtain ⟨p5, q5, rfl, -, -, hc5⟩ := CellsOff.own hown5 [] (by simp); have hcur : Below w1.heap.size w1 w5 := (Below.trans (by with_reducible repeat' (first | assumption | refine below_setRowN ?_ ?_ _ | refine Below.drew ?_ | refine Below.alloc ?_ ?_ _ | exact Below.refl _ _ | omega | (simp <;> omega))) (hb5.mono (by first | (simp; done) | omega | (simp; omega)))); have hcs := hcur.size; have hcs5 := hb5.size; (try simp at hcs5); have HC5 := Lib.hid hc5; clear hown5 hc5)
      refine hK.out _ _ ?_ (fun hHeld1 => ?_)
      · (try dsimp only); exact HX.out _ (by with_reducible repeat' (first | assumption | refine below_setRowN ?_ ?_ _ | refine Below.drew ?_ | refine Below.alloc ?_ ?_ _ | exact Below.refl _ _ | omega | (simp <;> omega)))
      clear hK K hHeld0
      (try simp only [Act.put, List.setIfInBounds_toArray, List.set_cons_zero, List.set_cons_succ, List.getElem_toArray, List.getElem_cons_zero, List.getElem_cons_succ])
      refine wpAnyH_ready (rs := [2, 6, 7]) (by kernel_rfl) (by simp) ?_
      refine AllReadyH.cons rfl (fun K hK => ?_) ?_
      · (go_simp; go_at_call 43; (with_reducible refine (HBP.out _ _ _ (HC5.out.below (by with_reducible repeat' (first | assumption | refine below_setRowN ?_ ?_ _ | refine Below.drew ?_ | refine Below.alloc ?_ ?_ _ | exact Below.refl _ _ | omega | (simp <;> omega))))).mono ?_); rintro e w6 ⟨v6, rfl, hown6, hb6⟩; have hlt6 := hown6.lt; obtain ⟨p6, q6, rfl, -, -, -⟩ := CellsOff.own hown6 [] (by simp); have hcur6 : Below w1.heap.size w1 w6 := (Below.trans (by with_reducible repeat' (first | assumption | refine below_setRowN ?_ ?_ _ | refine Below.drew ?_ | refine Below.alloc ?_ ?_ _ | exact Below.refl _ _ | omega | (simp <;> omega))) (hb6.mono (by first | (simp; done) | omega | (simp; omega)))); have hcs6 := hcur6.size; have hcs6b := hb6.size; (try simp at hcs6b hlt6); have HO6 := Lib.hid hown6; have HLT6 := Lib.hid hlt6; clear hown6 hlt6)
        refine hK.out _ _ ?_ (fun hHeld2 => ?_)
        · (try dsimp only); exact HX.out _ (by with_reducible repeat' (first | assumption | refine below_setRowN ?_ ?_ _ | refine Below.drew ?_ | refine Below.alloc ?_ ?_ _ | exact Below.refl _ _ | omega | (simp <;> omega)))
        clear hK K hHeld1
        (try simp only [Act.put, List.setIfInBounds_toArray, List.set_cons_zero, List.set_cons_succ, List.getElem_toArray, List.getElem_cons_zero, List.getElem_cons_succ])
        refine wpAnyH_ready (rs := [4, 6, 7]) (by kernel_rfl) (by simp) ?_
        refine AllReadyH.cons rfl (fun K hK => ?_) ?_
        · (go_simp; go_at_call 38; (with_reducible refine (HGQ.out _ (HB1.out.trans (Below.mono (B := w1.heap.size) (by with_reducible repeat' (first | assumption | refine below_setRowN ?_ ?_ _ | refine Below.drew ?_ | refine Below.alloc ?_ ?_ _ | exact Below.refl _ _ | omega | (simp <;> omega))) HB1.out.size))).mono ?_); rintro e w7 ⟨v7, rfl, hown7, hb7⟩; obtain ⟨p7, q7, rfl, -, -, hc7⟩ := CellsOff.own hown7 [] (by simp); have hcur7 : Below w1.heap.size w1 w7 := (Below.trans (by with_reducible repeat' (first | assumption | refine below_setRowN ?_ ?_ _ | refine Below.drew ?_ | refine Below.alloc ?_ ?_ _ | exact Below.refl _ _ | omega | (simp <;> omega))) (hb7.mono (by first | (simp; done) | omega | (simp; omega)))); have hcs7 := hcur7.size; have hcs7b := hb7.size; (try simp at hcs7b); have HC7 := Lib.hid hc7; clear hown7 hc7)
          refine hK.out _ _ ?_ (fun hHeld3 => ?_)
          · (try dsimp only); exact HX.out _ (by with_reducible repeat' (first | assumption | refine below_setRowN ?_ ?_ _ | refine Below.drew ?_ | refine Below.alloc ?_ ?_ _ | exact Below.refl _ _ | omega | (simp <;> omega)))
          clear hK K hHeld2
          (try simp only [Act.put, List.setIfInBounds_toArray, List.set_cons_zero, List.set_cons_succ, List.getElem_toArray, List.getElem_cons_zero, List.getElem_cons_succ])
          refine wpAnyH_ready (rs := [5, 6, 7]) (by kernel_rfl) (by simp) ?_
          refine AllReadyH.cons rfl (fun K hK => ?_) ?_
          · (go_simp; go_at_call 43; (with_reducible refine (HBQ.out _ _ _ (HC7.out.below (by with_reducible repeat' (first | assumption | refine below_setRowN ?_ ?_ _ | refine Below.drew ?_ | refine Below.alloc ?_ ?_ _ | exact Below.refl _ _ | omega | (simp <;> omega))))).mono ?_); rintro e w8 ⟨v8, rfl, hown8, hb8⟩; have hlt8 := hown8.lt; obtain ⟨p8, q8, rfl, -, -, -⟩ := CellsOff.own hown8 [] (by simp); have hcur8 : Below w1.heap.size w1 w8 := (Below.trans (by with_reducible repeat' (first | assumption | refine below_setRowN ?_ ?_ _ | refine Below.drew ?_ | refine Below.alloc ?_ ?_ _ | exact Below.refl _ _ | omega | (simp <;> omega))) (hb8.mono (by first | (simp; done) | omega | (simp; omega)))); have hcs8 := hcur8.size; have hcs8b := hb8.size; (try simp at hcs8b hlt8); have HO8 := Lib.hid hown8; have HLT8 := Lib.hid hlt8; clear hown8 hlt8)
            refine hK.out _ _ ?_ (fun hHeld4 => ?_)
            · (try dsimp only); exact HX.out _ (by with_reducible repeat' (first | assumption | refine below_setRowN ?_ ?_ _ | refine Below.drew ?_ | refine Below.alloc ?_ ?_ _ | exact Below.refl _ _ | omega | (simp <;> omega)))
            clear hK K hHeld3
            (try simp only [Act.put, List.setIfInBounds_toArray, List.set_cons_zero, List.set_cons_succ, List.getElem_toArray, List.getElem_cons_zero, List.getElem_cons_succ])
            refine wpAnyH_ready (rs := [6, 7]) (by kernel_rfl) (by simp) ?_
            refine AllReadyH.cons rfl (fun K hK => ?_) ?_
            · go_simp
              refine hK.out _ _ ?_ (fun hHeld5 => ?_)
              · (try dsimp only); exact HX.out _ (by with_reducible repeat' (first | assumption | refine below_setRowN ?_ ?_ _ | refine Below.drew ?_ | refine Below.alloc ?_ ?_ _ | exact Below.refl _ _ | omega | (simp <;> omega)))
              clear hK K hHeld4
              (try simp only [Act.put, List.setIfInBounds_toArray, List.set_cons_zero, List.set_cons_succ, List.getElem_toArray, List.getElem_cons_zero, List.getElem_cons_succ])
              refine wpAnyH_ready (rs := [7]) (by kernel_rfl) (by simp) ?_
              refine AllReadyH.cons rfl (fun K hK => ?_) ?_
              · go_simp
                refine hK.out _ _ ?_ (fun hHeld6 => ?_)
                · (try dsimp only); exact HX.out _ (by with_reducible repeat' (first | assumption | refine below_setRowN ?_ ?_ _ | refine Below.drew ?_ | refine Below.alloc ?_ ?_ _ | exact Below.refl _ _ | omega | (simp <;> omega)))
                clear hK K hHeld5
                (try simp only [Act.put, List.setIfInBounds_toArray, List.set_cons_zero, List.set_cons_succ, List.getElem_toArray, List.getElem_cons_zero, List.getElem_cons_succ])
                refine wpAnyH_ready (rs := [8]) (by kernel_rfl) (by simp) ?_
                refine AllReadyH.cons rfl (fun K hK => ?_) ?_
                · (rw [if_pos (by rfl)]; refine wp_store_row 68 _ _ (by rfl) _ _ (by rfl) (by rfl) 68 #[.int .i64 0, .bool false, .slice none 0 0, .string ⟨#[]⟩] (by with_reducible repeat' (first | refine setRow_off ?_ ?_ _ | refine drew_at ?_ | exact alloc_new _ | (refine alloc_at _ _ ?_; (simp; done)) | refine alloc_old ?_ _ | refine Below.at hb5 ?_ ?_ | refine Below.at hb6 ?_ ?_ | refine Below.at hb7 ?_ ?_ | refine Below.at hb8 ?_ ?_ | omega | (simp <;> omega))) (by kernel_rfl) (by rfl) (by first | (simp; done) | simp [Value.oneCell']) ?_)
                  refine hK.out _ _ ?_ (fun hHeld7 => ?_)
                  · (try dsimp only); exact HX.out _ (by with_reducible repeat' (first | assumption | refine below_setRowN ?_ ?_ _ | refine Below.drew ?_ | refine Below.alloc ?_ ?_ _ | exact Below.refl _ _ | omega | (simp <;> omega)))
                  clear hK K hHeld6
                  (try simp only [Act.put, List.setIfInBounds_toArray, List.set_cons_zero, List.set_cons_succ, List.getElem_toArray, List.getElem_cons_zero, List.getElem_cons_succ])
                  refine wpAnyH_ready (rs := [9]) (by kernel_rfl) (by simp) ?_
                  refine AllReadyH.cons rfl (fun K hK => ?_) ?_
                  · (rw [if_pos (by rfl)]; refine wp_store_row 68 _ _ (by rfl) _ _ (by rfl) (by rfl) 68 #[.int .i64 0, .bool false, .slice none 0 0, .string ⟨#[]⟩] (by with_reducible repeat' (first | refine setRow_off ?_ ?_ _ | refine drew_at ?_ | exact alloc_new _ | (refine alloc_at _ _ ?_; (simp; done)) | refine alloc_old ?_ _ | refine Below.at hb5 ?_ ?_ | refine Below.at hb6 ?_ ?_ | refine Below.at hb7 ?_ ?_ | refine Below.at hb8 ?_ ?_ | omega | (simp <;> omega))) (by kernel_rfl) (by rfl) (by first | (simp; done) | simp [Value.oneCell']) ?_)
                    refine hK.out _ _ ?_ (fun hHeld8 => ?_)
                    · (try dsimp only); exact HX.out _ (by with_reducible repeat' (first | assumption | refine below_setRowN ?_ ?_ _ | refine Below.drew ?_ | refine Below.alloc ?_ ?_ _ | exact Below.refl _ _ | omega | (simp <;> omega)))
                    clear hK K hHeld7
                    (try simp only [Act.put, List.setIfInBounds_toArray, List.set_cons_zero, List.set_cons_succ, List.getElem_toArray, List.getElem_cons_zero, List.getElem_cons_succ])
                    refine wpAnyH_done (by kernel_rfl) ?_ _
                    go_wp2
                    go_meet
                    refine ⟨_, _, p6, q6, p8, q8, rfl, rfl, ?_, ?_, ?_, ?_, ?_⟩
                    with_reducible repeat' (first | assumption | refine setRow_at (old := #[.int .i64 0, .bool false, .slice none 0 0, .string ⟨#[]⟩]) ?_ _ | refine setRow_off ?_ ?_ _ | refine drew_at ?_ | exact alloc_new _ | (refine alloc_at _ _ ?_; (simp; done)) | refine alloc_old ?_ _ | refine Below.at hb5 ?_ ?_ | refine Below.at hb6 ?_ ?_ | refine Below.at hb7 ?_ ?_ | refine Below.at hb8 ?_ ?_ | apply cells_own | exact HO6.out | exact HO8.out | apply owns_setRow | apply World.ownsRow.drew | apply World.ownsRow.alloc | apply fun h => owns_aft h hb7 | apply fun h => owns_aft h hb8 | refine below_setRowN ?_ ?_ _ | refine Below.drew ?_ | refine Below.alloc ?_ ?_ _ | (intro k hk; first | (have := HLT6.out k hk; first | omega | (simp <;> omega)) | (have := HLT8.out k hk; first | omega | (simp <;> omega))) | omega | (simp <;> omega))
                  exact AllReadyH.nil
                exact AllReadyH.nil
              exact AllReadyH.nil
            refine AllReadyH.cons rfl (fun K hK => ?_) ?_
            · go_simp
              refine hK.out _ _ ?_ (fun hHeld5 => ?_)
              · (try dsimp only); exact HX.out _ (by with_reducible repeat' (first | assumption | refine below_setRowN ?_ ?_ _ | refine Below.drew ?_ | refine Below.alloc ?_ ?_ _ | exact Below.refl _ _ | omega | (simp <;> omega)))
              clear hK K hHeld4
              (try simp only [Act.put, List.setIfInBounds_toArray, List.set_cons_zero, List.set_cons_succ, List.getElem_toArray, List.getElem_cons_zero, List.getElem_cons_succ])
              refine wpAnyH_ready (rs := [6]) (by kernel_rfl) (by simp) ?_
              refine AllReadyH.cons rfl (fun K hK => ?_) ?_
              · go_simp
                refine hK.out _ _ ?_ (fun hHeld6 => ?_)
                · (try dsimp only); exact HX.out _ (by with_reducible repeat' (first | assumption | refine below_setRowN ?_ ?_ _ | refine Below.drew ?_ | refine Below.alloc ?_ ?_ _ | exact Below.refl _ _ | omega | (simp <;> omega)))
                clear hK K hHeld5
                (try simp only [Act.put, List.setIfInBounds_toArray, List.set_cons_zero, List.set_cons_succ, List.getElem_toArray, List.getElem_cons_zero, List.getElem_cons_succ])
                refine wpAnyH_ready (rs := [8]) (by kernel_rfl) (by simp) ?_
                refine AllReadyH.cons rfl (fun K hK => ?_) ?_
                · (rw [if_pos (by rfl)]; refine wp_store_row 68 _ _ (by rfl) _ _ (by rfl) (by rfl) 68 #[.int .i64 0, .bool false, .slice none 0 0, .string ⟨#[]⟩] (by with_reducible repeat' (first | refine setRow_off ?_ ?_ _ | refine drew_at ?_ | exact alloc_new _ | (refine alloc_at _ _ ?_; (simp; done)) | refine alloc_old ?_ _ | refine Below.at hb5 ?_ ?_ | refine Below.at hb6 ?_ ?_ | refine Below.at hb7 ?_ ?_ | refine Below.at hb8 ?_ ?_ | omega | (simp <;> omega))) (by kernel_rfl) (by rfl) (by first | (simp; done) | simp [Value.oneCell']) ?_)
                  refine hK.out _ _ ?_ (fun hHeld7 => ?_)
                  · (try dsimp only); exact HX.out _ (by with_reducible repeat' (first | assumption | refine below_setRowN ?_ ?_ _ | refine Below.drew ?_ | refine Below.alloc ?_ ?_ _ | exact Below.refl _ _ | omega | (simp <;> omega)))
                  clear hK K hHeld6
                  (try simp only [Act.put, List.setIfInBounds_toArray, List.set_cons_zero, List.set_cons_succ, List.getElem_toArray, List.getElem_cons_zero, List.getElem_cons_succ])
                  refine wpAnyH_ready (rs := [9]) (by kernel_rfl) (by simp) ?_
                  refine AllReadyH.cons rfl (fun K hK => ?_) ?_
                  · (rw [if_pos (by rfl)]; refine wp_store_row 68 _ _ (by rfl) _ _ (by rfl) (by rfl) 68 #[.int .i64 0, .bool false, .slice none 0 0, .string ⟨#[]⟩] (by with_reducible repeat' (first | refine setRow_off ?_ ?_ _ | refine drew_at ?_ | exact alloc_new _ | (refine alloc_at _ _ ?_; (simp; done)) | refine alloc_old ?_ _ | refine Below.at hb5 ?_ ?_ | refine Below.at hb6 ?_ ?_ | refine Below.at hb7 ?_ ?_ | refine Below.at hb8 ?_ ?_ | omega | (simp <;> omega))) (by kernel_rfl) (by rfl) (by first | (simp; done) | simp [Value.oneCell']) ?_)
                    refine hK.out _ _ ?_ (fun hHeld8 => ?_)
                    · (try dsimp only); exact HX.out _ (by with_reducible repeat' (first | assumption | refine below_setRowN ?_ ?_ _ | refine Below.drew ?_ | refine Below.alloc ?_ ?_ _ | exact Below.refl _ _ | omega | (simp <;> omega)))
                    clear hK K hHeld7
                    (try simp only [Act.put, List.setIfInBounds_toArray, List.set_cons_zero, List.set_cons_succ, List.getElem_toArray, List.getElem_cons_zero, List.getElem_cons_succ])
                    refine wpAnyH_done (by kernel_rfl) ?_ _
                    go_wp2
                    go_meet
                    refine ⟨_, _, p6, q6, p8, q8, rfl, rfl, ?_, ?_, ?_, ?_, ?_⟩
                    with_reducible repeat' (first | assumption | refine setRow_at (old := #[.int .i64 0, .bool false, .slice none 0 0, .string ⟨#[]⟩]) ?_ _ | refine setRow_off ?_ ?_ _ | refine drew_at ?_ | exact alloc_new _ | (refine alloc_at _ _ ?_; (simp; done)) | refine alloc_old ?_ _ | refine Below.at hb5 ?_ ?_ | refine Below.at hb6 ?_ ?_ | refine Below.at hb7 ?_ ?_ | refine Below.at hb8 ?_ ?_ | apply cells_own | exact HO6.out | exact HO8.out | apply owns_setRow | apply World.ownsRow.drew | apply World.ownsRow.alloc | apply fun h => owns_aft h hb7 | apply fun h => owns_aft h hb8 | refine below_setRowN ?_ ?_ _ | refine Below.drew ?_ | refine Below.alloc ?_ ?_ _ | (intro k hk; first | (have := HLT6.out k hk; first | omega | (simp <;> omega)) | (have := HLT8.out k hk; first | omega | (simp <;> omega))) | omega | (simp <;> omega))
                  exact AllReadyH.nil
                exact AllReadyH.nil
              exact AllReadyH.nil
            exact AllReadyH.nil
          refine AllReadyH.cons rfl (fun K hK => ?_) ?_
          · go_simp
            refine hK.out _ _ ?_ (fun hHeld4 => ?_)
            · (try dsimp only); exact HX.out _ (by with_reducible repeat' (first | assumption | refine below_setRowN ?_ ?_ _ | refine Below.drew ?_ | refine Below.alloc ?_ ?_ _ | exact Below.refl _ _ | omega | (simp <;> omega)))
            clear hK K hHeld3
            (try simp only [Act.put, List.setIfInBounds_toArray, List.set_cons_zero, List.set_cons_succ, List.getElem_toArray, List.getElem_cons_zero, List.getElem_cons_succ])
            refine wpAnyH_ready (rs := [5, 7]) (by kernel_rfl) (by simp) ?_
            refine AllReadyH.cons rfl (fun K hK => ?_) ?_
            · (go_simp; go_at_call 43; (with_reducible refine (HBQ.out _ _ _ (HC7.out.below (by with_reducible repeat' (first | assumption | refine below_setRowN ?_ ?_ _ | refine Below.drew ?_ | refine Below.alloc ?_ ?_ _ | exact Below.refl _ _ | omega | (simp <;> omega))))).mono ?_); rintro e w8 ⟨v8, rfl, hown8, hb8⟩; have hlt8 := hown8.lt; obtain ⟨p8, q8, rfl, -, -, -⟩ := CellsOff.own hown8 [] (by simp); have hcur8 : Below w1.heap.size w1 w8 := (Below.trans (by with_reducible repeat' (first | assumption | refine below_setRowN ?_ ?_ _ | refine Below.drew ?_ | refine Below.alloc ?_ ?_ _ | exact Below.refl _ _ | omega | (simp <;> omega))) (hb8.mono (by first | (simp; done) | omega | (simp; omega)))); have hcs8 := hcur8.size; have hcs8b := hb8.size; (try simp at hcs8b hlt8); have HO8 := Lib.hid hown8; have HLT8 := Lib.hid hlt8; clear hown8 hlt8)
              refine hK.out _ _ ?_ (fun hHeld5 => ?_)
              · (try dsimp only); exact HX.out _ (by with_reducible repeat' (first | assumption | refine below_setRowN ?_ ?_ _ | refine Below.drew ?_ | refine Below.alloc ?_ ?_ _ | exact Below.refl _ _ | omega | (simp <;> omega)))
              clear hK K hHeld4
              (try simp only [Act.put, List.setIfInBounds_toArray, List.set_cons_zero, List.set_cons_succ, List.getElem_toArray, List.getElem_cons_zero, List.getElem_cons_succ])
              refine wpAnyH_ready (rs := [7]) (by kernel_rfl) (by simp) ?_
              refine AllReadyH.cons rfl (fun K hK => ?_) ?_
              · go_simp
                refine hK.out _ _ ?_ (fun hHeld6 => ?_)
                · (try dsimp only); exact HX.out _ (by with_reducible repeat' (first | assumption | refine below_setRowN ?_ ?_ _ | refine Below.drew ?_ | refine Below.alloc ?_ ?_ _ | exact Below.refl _ _ | omega | (simp <;> omega)))
                clear hK K hHeld5
                (try simp only [Act.put, List.setIfInBounds_toArray, List.set_cons_zero, List.set_cons_succ, List.getElem_toArray, List.getElem_cons_zero, List.getElem_cons_succ])
                refine wpAnyH_ready (rs := [8]) (by kernel_rfl) (by simp) ?_
                refine AllReadyH.cons rfl (fun K hK => ?_) ?_
                · (rw [if_pos (by rfl)]; refine wp_store_row 68 _ _ (by rfl) _ _ (by rfl) (by rfl) 68 #[.int .i64 0, .bool false, .slice none 0 0, .string ⟨#[]⟩] (by with_reducible repeat' (first | refine setRow_off ?_ ?_ _ | refine drew_at ?_ | exact alloc_new _ | (refine alloc_at _ _ ?_; (simp; done)) | refine alloc_old ?_ _ | refine Below.at hb5 ?_ ?_ | refine Below.at hb6 ?_ ?_ | refine Below.at hb7 ?_ ?_ | refine Below.at hb8 ?_ ?_ | omega | (simp <;> omega))) (by kernel_rfl) (by rfl) (by first | (simp; done) | simp [Value.oneCell']) ?_)
                  refine hK.out _ _ ?_ (fun hHeld7 => ?_)
                  · (try dsimp only); exact HX.out _ (by with_reducible repeat' (first | assumption | refine below_setRowN ?_ ?_ _ | refine Below.drew ?_ | refine Below.alloc ?_ ?_ _ | exact Below.refl _ _ | omega | (simp <;> omega)))
                  clear hK K hHeld6
                  (try simp only [Act.put, List.setIfInBounds_toArray, List.set_cons_zero, List.set_cons_succ, List.getElem_toArray, List.getElem_cons_zero, List.getElem_cons_succ])
                  refine wpAnyH_ready (rs := [9]) (by kernel_rfl) (by simp) ?_
                  refine AllReadyH.cons rfl (fun K hK => ?_) ?_
                  · (rw [if_pos (by rfl)]; refine wp_store_row 68 _ _ (by rfl) _ _ (by rfl) (by rfl) 68 #[.int .i64 0, .bool false, .slice none 0 0, .string ⟨#[]⟩] (by with_reducible repeat' (first | refine setRow_off ?_ ?_ _ | refine drew_at ?_ | exact alloc_new _ | (refine alloc_at _ _ ?_; (simp; done)) | refine alloc_old ?_ _ | refine Below.at hb5 ?_ ?_ | refine Below.at hb6 ?_ ?_ | refine Below.at hb7 ?_ ?_ | refine Below.at hb8 ?_ ?_ | omega | (simp <;> omega))) (by kernel_rfl) (by rfl) (by first | (simp; done) | simp [Value.oneCell']) ?_)
                    refine hK.out _ _ ?_ (fun hHeld8 => ?_)
                    · (try dsimp only); exact HX.out _ (by with_reducible repeat' (first | assumption | refine below_setRowN ?_ ?_ _ | refine Below.drew ?_ | refine Below.alloc ?_ ?_ _ | exact Below.refl _ _ | omega | (simp <;> omega)))
                    clear hK K hHeld7
                    (try simp only [Act.put, List.setIfInBounds_toArray, List.set_cons_zero, List.set_cons_succ, List.getElem_toArray, List.getElem_cons_zero, List.getElem_cons_succ])
                    refine wpAnyH_done (by kernel_rfl) ?_ _
                    go_wp2
                    go_meet
                    refine ⟨_, _, p6, q6, p8, q8, rfl, rfl, ?_, ?_, ?_, ?_, ?_⟩
                    with_reducible repeat' (first | assumption | refine setRow_at (old := #[.int .i64 0, .bool false, .slice none 0 0, .string ⟨#[]⟩]) ?_ _ | refine setRow_off ?_ ?_ _ | refine drew_at ?_ | exact alloc_new _ | (refine alloc_at _ _ ?_; (simp; done)) | refine alloc_old ?_ _ | refine Below.at hb5 ?_ ?_ | refine Below.at hb6 ?_ ?_ | refine Below.at hb7 ?_ ?_ | refine Below.at hb8 ?_ ?_ | apply cells_own | exact HO6.out | exact HO8.out | apply owns_setRow | apply World.ownsRow.drew | apply World.ownsRow.alloc | apply fun h => owns_aft h hb7 | apply fun h => owns_aft h hb8 | refine below_setRowN ?_ ?_ _ | refine Below.drew ?_ | refine Below.alloc ?_ ?_ _ | (intro k hk; first | (have := HLT6.out k hk; first | omega | (simp <;> omega)) | (have := HLT8.out k hk; first | omega | (simp <;> omega))) | omega | (simp <;> omega))
                  exact AllReadyH.nil
                exact AllReadyH.nil
              exact AllReadyH.nil
            refine AllReadyH.cons rfl (fun K hK => ?_) ?_
            · go_simp
              refine hK.out _ _ ?_ (fun hHeld5 => ?_)
              · (try dsimp only); exact HX.out _ (by with_reducible repeat' (first | assumption | refine below_setRowN ?_ ?_ _ | refine Below.drew ?_ | refine Below.alloc ?_ ?_ _ | exact Below.refl _ _ | omega | (simp <;> omega)))
              clear hK K hHeld4
              (try simp only [Act.put, List.setIfInBounds_toArray, List.set_cons_zero, List.set_cons_succ, List.getElem_toArray, List.getElem_cons_zero, List.getElem_cons_succ])
              refine wpAnyH_ready (rs := [5]) (by kernel_rfl) (by simp) ?_
              refine AllReadyH.cons rfl (fun K hK => ?_) ?_
              · (go_simp; go_at_call 43; (with_reducible refine (HBQ.out _ _ _ (HC7.out.below (by with_reducible repeat' (first | assumption | refine below_setRowN ?_ ?_ _ | refine Below.drew ?_ | refine Below.alloc ?_ ?_ _ | exact Below.refl _ _ | omega | (simp <;> omega))))).mono ?_); rintro e w8 ⟨v8, rfl, hown8, hb8⟩; have hlt8 := hown8.lt; obtain ⟨p8, q8, rfl, -, -, -⟩ := CellsOff.own hown8 [] (by simp); have hcur8 : Below w1.heap.size w1 w8 := (Below.trans (by with_reducible repeat' (first | assumption | refine below_setRowN ?_ ?_ _ | refine Below.drew ?_ | refine Below.alloc ?_ ?_ _ | exact Below.refl _ _ | omega | (simp <;> omega))) (hb8.mono (by first | (simp; done) | omega | (simp; omega)))); have hcs8 := hcur8.size; have hcs8b := hb8.size; (try simp at hcs8b hlt8); have HO8 := Lib.hid hown8; have HLT8 := Lib.hid hlt8; clear hown8 hlt8)
                refine hK.out _ _ ?_ (fun hHeld6 => ?_)
                · (try dsimp only); exact HX.out _ (by with_reducible repeat' (first | assumption | refine below_setRowN ?_ ?_ _ | refine Below.drew ?_ | refine Below.alloc ?_ ?_ _ | exact Below.refl _ _ | omega | (simp <;> omega)))
                clear hK K hHeld5
                (try simp only [Act.put, List.setIfInBounds_toArray, List.set_cons_zero, List.set_cons_succ, List.getElem_toArray, List.getElem_cons_zero, List.getElem_cons_succ])
                refine wpAnyH_ready (rs := [8]) (by kernel_rfl) (by simp) ?_
                refine AllReadyH.cons rfl (fun K hK => ?_) ?_
                · (rw [if_pos (by rfl)]; refine wp_store_row 68 _ _ (by rfl) _ _ (by rfl) (by rfl) 68 #[.int .i64 0, .bool false, .slice none 0 0, .string ⟨#[]⟩] (by with_reducible repeat' (first | refine setRow_off ?_ ?_ _ | refine drew_at ?_ | exact alloc_new _ | (refine alloc_at _ _ ?_; (simp; done)) | refine alloc_old ?_ _ | refine Below.at hb5 ?_ ?_ | refine Below.at hb6 ?_ ?_ | refine Below.at hb7 ?_ ?_ | refine Below.at hb8 ?_ ?_ | omega | (simp <;> omega))) (by kernel_rfl) (by rfl) (by first | (simp; done) | simp [Value.oneCell']) ?_)
                  refine hK.out _ _ ?_ (fun hHeld7 => ?_)
                  · (try dsimp only); exact HX.out _ (by with_reducible repeat' (first | assumption | refine below_setRowN ?_ ?_ _ | refine Below.drew ?_ | refine Below.alloc ?_ ?_ _ | exact Below.refl _ _ | omega | (simp <;> omega)))
                  clear hK K hHeld6
                  (try simp only [Act.put, List.setIfInBounds_toArray, List.set_cons_zero, List.set_cons_succ, List.getElem_toArray, List.getElem_cons_zero, List.getElem_cons_succ])
                  refine wpAnyH_ready (rs := [9]) (by kernel_rfl) (by simp) ?_
                  refine AllReadyH.cons rfl (fun K hK => ?_) ?_
                  · (rw [if_pos (by rfl)]; refine wp_store_row 68 _ _ (by rfl) _ _ (by rfl) (by rfl) 68 #[.int .i64 0, .bool false, .slice none 0 0, .string ⟨#[]⟩] (by with_reducible repeat' (first | refine setRow_off ?_ ?_ _ | refine drew_at ?_ | exact alloc_new _ | (refine alloc_at _ _ ?_; (simp; done)) | refine alloc_old ?_ _ | refine Below.at hb5 ?_ ?_ | refine Below.at hb6 ?_ ?_ | refine Below.at hb7 ?_ ?_ | refine Below.at hb8 ?_ ?_ | omega | (simp <;> omega))) (by kernel_rfl) (by rfl) (by first | (simp; done) | simp [Value.oneCell']) ?_)
                    refine hK.out _ _ ?_ (fun hHeld8 => ?_)
                    · (try dsimp only); exact HX.out _ (by with_reducible repeat' (first | assumption | refine below_setRowN ?_ ?_ _ | refine Below.drew ?_ | refine Below.alloc ?_ ?_ _ | exact Below.refl _ _ | omega | (simp <;> omega)))
                    clear hK K hHeld7
                    (try simp only [Act.put, List.setIfInBounds_toArray, List.set_cons_zero, List.set_cons_succ, List.getElem_toArray, List.getElem_cons_zero, List.getElem_cons_succ])
                    refine wpAnyH_done (by kernel_rfl) ?_ _
                    go_wp2
                    go_meet
                    refine ⟨_, _, p6, q6, p8, q8, rfl, rfl, ?_, ?_, ?_, ?_, ?_⟩
                    with_reducible repeat' (first | assumption | refine setRow_at (old := #[.int .i64 0, .bool false, .slice none 0 0, .string ⟨#[]⟩]) ?_ _ | refine setRow_off ?_ ?_ _ | refine drew_at ?_ | exact alloc_new _ | (refine alloc_at _ _ ?_; (simp; done)) | refine alloc_old ?_ _ | refine Below.at hb5 ?_ ?_ | refine Below.at hb6 ?_ ?_ | refine Below.at hb7 ?_ ?_ | refine Below.at hb8 ?_ ?_ | apply cells_own | exact HO6.out | exact HO8.out | apply owns_setRow | apply World.ownsRow.drew | apply World.ownsRow.alloc | apply fun h => owns_aft h hb7 | apply fun h => owns_aft h hb8 | refine below_setRowN ?_ ?_ _ | refine Below.drew ?_ | refine Below.alloc ?_ ?_ _ | (intro k hk; first | (have := HLT6.out k hk; first | omega | (simp <;> omega)) | (have := HLT8.out k hk; first | omega | (simp <;> omega))) | omega | (simp <;> omega))
                  exact AllReadyH.nil
                exact AllReadyH.nil
              exact AllReadyH.nil
            exact AllReadyH.nil
          refine AllReadyH.cons rfl (fun K hK => ?_) ?_
          · go_simp
            refine hK.out _ _ ?_ (fun hHeld4 => ?_)
            · (try dsimp only); exact HX.out _ (by with_reducible repeat' (first | assumption | refine below_setRowN ?_ ?_ _ | refine Below.drew ?_ | refine Below.alloc ?_ ?_ _ | exact Below.refl _ _ | omega | (simp <;> omega)))
            clear hK K hHeld3
            (try simp only [Act.put, List.setIfInBounds_toArray, List.set_cons_zero, List.set_cons_succ, List.getElem_toArray, List.getElem_cons_zero, List.getElem_cons_succ])
            refine wpAnyH_ready (rs := [5, 6]) (by kernel_rfl) (by simp) ?_
            refine AllReadyH.cons rfl (fun K hK => ?_) ?_
            · (go_simp; go_at_call 43; (with_reducible refine (HBQ.out _ _ _ (HC7.out.below (by with_reducible repeat' (first | assumption | refine below_setRowN ?_ ?_ _ | refine Below.drew ?_ | refine Below.alloc ?_ ?_ _ | exact Below.refl _ _ | omega | (simp <;> omega))))).mono ?_); rintro e w8 ⟨v8, rfl, hown8, hb8⟩; have hlt8 := hown8.lt; obtain ⟨p8, q8, rfl, -, -, -⟩ := CellsOff.own hown8 [] (by simp); have hcur8 : Below w1.heap.size w1 w8 := (Below.trans (by with_reducible repeat' (first | assumption | refine below_setRowN ?_ ?_ _ | refine Below.drew ?_ | refine Below.alloc ?_ ?_ _ | exact Below.refl _ _ | omega | (simp <;> omega))) (hb8.mono (by first | (simp; done) | omega | (simp; omega)))); have hcs8 := hcur8.size; have hcs8b := hb8.size; (try simp at hcs8b hlt8); have HO8 := Lib.hid hown8; have HLT8 := Lib.hid hlt8; clear hown8 hlt8)
              refine hK.out _ _ ?_ (fun hHeld5 => ?_)
              · (try dsimp only); exact HX.out _ (by with_reducible repeat' (first | assumption | refine below_setRowN ?_ ?_ _ | refine Below.drew ?_ | refine Below.alloc ?_ ?_ _ | exact Below.refl _ _ | omega | (simp <;> omega)))
              clear hK K hHeld4
              (try simp only [Act.put, List.setIfInBounds_toArray, List.set_cons_zero, List.set_cons_succ, List.getElem_toArray, List.getElem_cons_zero, List.getElem_cons_succ])
              refine wpAnyH_ready (rs := [6]) (by kernel_rfl) (by simp) ?_
              refine AllReadyH.cons rfl (fun K hK => ?_) ?_
              · go_simp
                refine hK.out _ _ ?_ (fun hHeld6 => ?_)
                · (try dsimp only); exact HX.out _ (by with_reducible repeat' (first | assumption | refine below_setRowN ?_ ?_ _ | refine Below.drew ?_ | refine Below.alloc ?_ ?_ _ | exact Below.refl _ _ | omega | (simp <;> omega)))
                clear hK K hHeld5
                (try simp only [Act.put, List.setIfInBounds_toArray, List.set_cons_zero, List.set_cons_succ, List.getElem_toArray, List.getElem_cons_zero, List.getElem_cons_succ])
                refine wpAnyH_ready (rs := [8]) (by kernel_rfl) (by simp) ?_
                refine AllReadyH.cons rfl (fun K hK => ?_) ?_
                · (rw [if_pos (by rfl)]; refine wp_store_row 68 _ _ (by rfl) _ _ (by rfl) (by rfl) 68 #[.int .i64 0, .bool false, .slice none 0 0, .string ⟨#[]⟩] (by with_reducible repeat' (first | refine setRow_off ?_ ?_ _ | refine drew_at ?_ | exact alloc_new _ | (refine alloc_at _ _ ?_; (simp; done)) | refine alloc_old ?_ _ | refine Below.at hb5 ?_ ?_ | refine Below.at hb6 ?_ ?_ | refine Below.at hb7 ?_ ?_ | refine Below.at hb8 ?_ ?_ | omega | (simp <;> omega))) (by kernel_rfl) (by rfl) (by first | (simp; done) | simp [Value.oneCell']) ?_)
                  refine hK.out _ _ ?_ (fun hHeld7 => ?_)
                  · (try dsimp only); exact HX.out _ (by with_reducible repeat' (first | assumption | refine below_setRowN ?_ ?_ _ | refine Below.drew ?_ | refine Below.alloc ?_ ?_ _ | exact Below.refl _ _ | omega | (simp <;> omega)))
                  clear hK K hHeld6
                  (try simp only [Act.put, List.setIfInBounds_toArray, List.set_cons_zero, List.set_cons_succ, List.getElem_toArray, List.getElem_cons_zero, List.getElem_cons_succ])
                  refine wpAnyH_ready (rs := [9]) (by kernel_rfl) (by simp) ?_
                  refine AllReadyH.cons rfl (fun K hK => ?_) ?_
                  · (rw [if_pos (by rfl)]; refine wp_store_row 68 _ _ (by rfl) _ _ (by rfl) (by rfl) 68 #[.int .i64 0, .bool false, .slice none 0 0, .string ⟨#[]⟩] (by with_reducible repeat' (first | refine setRow_off ?_ ?_ _ | refine drew_at ?_ | exact alloc_new _ | (refine alloc_at _ _ ?_; (simp; done)) | refine alloc_old ?_ _ | refine Below.at hb5 ?_ ?_ | refine Below.at hb6 ?_ ?_ | refine Below.at hb7 ?_ ?_ | refine Below.at hb8 ?_ ?_ | omega | (simp <;> omega))) (by kernel_rfl) (by rfl) (by first | (simp; done) | simp [Value.oneCell']) ?_)
                    refine hK.out _ _ ?_ (fun hHeld8 => ?_)
                    · (try dsimp only); exact HX.out _ (by with_reducible repeat' (first | assumption | refine below_setRowN ?_ ?_ _ | refine Below.drew ?_ | refine Below.alloc ?_ ?_ _ | exact Below.refl _ _ | omega | (simp <;> omega)))
                    clear hK K hHeld7
                    (try simp only [Act.put, List.setIfInBounds_toArray, List.set_cons_zero, List.set_cons_succ, List.getElem_toArray, List.getElem_cons_zero, List.getElem_cons_succ])
                    refine wpAnyH_done (by kernel_rfl) ?_ _
                    go_wp2
                    go_meet
                    refine ⟨_, _, p6, q6, p8, q8, rfl, rfl, ?_, ?_, ?_, ?_, ?_⟩
                    with_reducible repeat' (first | assumption | refine setRow_at (old := #[.int .i64 0, .bool false, .slice none 0 0, .string ⟨#[]⟩]) ?_ _ | refine setRow_off ?_ ?_ _ | refine drew_at ?_ | exact alloc_new _ | (refine alloc_at _ _ ?_; (simp; done)) | refine alloc_old ?_ _ | refine Below.at hb5 ?_ ?_ | refine Below.at hb6 ?_ ?_ | refine Below.at hb7 ?_ ?_ | refine Below.at hb8 ?_ ?_ | apply cells_own | exact HO6.out | exact HO8.out | apply owns_setRow | apply World.ownsRow.drew | apply World.ownsRow.alloc | apply fun h => owns_aft h hb7 | apply fun h => owns_aft h hb8 | refine below_setRowN ?_ ?_ _ | refine Below.drew ?_ | refine Below.alloc ?_ ?_ _ | (intro k hk; first | (have := HLT6.out k hk; first | omega | (simp <;> omega)) | (have := HLT8.out k hk; first | omega | (simp <;> omega))) | omega | (simp <;> omega))
                  exact AllReadyH.nil
                exact AllReadyH.nil
              exact AllReadyH.nil
            refine AllReadyH.cons rfl (fun K hK => ?_) ?_
            · go_simp
              refine hK.out _ _ ?_ (fun hHeld5 => ?_)
              · (try dsimp only); exact HX.out _ (by with_reducible repeat' (first | assumption | refine below_setRowN ?_ ?_ _ | refine Below.drew ?_ | refine Below.alloc ?_ ?_ _ | exact Below.refl _ _ | omega | (simp <;> omega)))
              clear hK K hHeld4
              (try simp only [Act.put, List.setIfInBounds_toArray, List.set_cons_zero, List.set_cons_succ, List.getElem_toArray, List.getElem_cons_zero, List.getElem_cons_succ])
              refine wpAnyH_ready (rs := [5]) (by kernel_rfl) (by simp) ?_
              refine AllReadyH.cons rfl (fun K hK => ?_) ?_
              · (go_simp; go_at_call 43; (with_reducible refine (HBQ.out _ _ _ (HC7.out.below (by with_reducible repeat' (first | assumption | refine below_setRowN ?_ ?_ _ | refine Below.drew ?_ | refine Below.alloc ?_ ?_ _ | exact Below.refl _ _ | omega | (simp <;> omega))))).mono ?_); rintro e w8 ⟨v8, rfl, hown8, hb8⟩; have hlt8 := hown8.lt; obtain ⟨p8, q8, rfl, -, -, -⟩ := CellsOff.own hown8 [] (by simp); have hcur8 : Below w1.heap.size w1 w8 := (Below.trans (by with_reducible repeat' (first | assumption | refine below_setRowN ?_ ?_ _ | refine Below.drew ?_ | refine Below.alloc ?_ ?_ _ | exact Below.refl _ _ | omega | (simp <;> omega))) (hb8.mono (by first | (simp; done) | omega | (simp; omega)))); have hcs8 := hcur8.size; have hcs8b := hb8.size; (try simp at hcs8b hlt8); have HO8 := Lib.hid hown8; have HLT8 := Lib.hid hlt8; clear hown8 hlt8)
                refine hK.out _ _ ?_ (fun hHeld6 => ?_)
                · (try dsimp only); exact HX.out _ (by with_reducible repeat' (first | assumption | refine below_setRowN ?_ ?_ _ | refine Below.drew ?_ | refine Below.alloc ?_ ?_ _ | exact Below.refl _ _ | omega | (simp <;> omega)))
                clear hK K hHeld5
                (try simp only [Act.put, List.setIfInBounds_toArray, List.set_cons_zero, List.set_cons_succ, List.getElem_toArray, List.getElem_cons_zero, List.getElem_cons_succ])
                refine wpAnyH_ready (rs := [8]) (by kernel_rfl) (by simp) ?_
                refine AllReadyH.cons rfl (fun K hK => ?_) ?_
                · (rw [if_pos (by rfl)]; refine wp_store_row 68 _ _ (by rfl) _ _ (by rfl) (by rfl) 68 #[.int .i64 0, .bool false, .slice none 0 0, .string ⟨#[]⟩] (by with_reducible repeat' (first | refine setRow_off ?_ ?_ _ | refine drew_at ?_ | exact alloc_new _ | (refine alloc_at _ _ ?_; (simp; done)) | refine alloc_old ?_ _ | refine Below.at hb5 ?_ ?_ | refine Below.at hb6 ?_ ?_ | refine Below.at hb7 ?_ ?_ | refine Below.at hb8 ?_ ?_ | omega | (simp <;> omega))) (by kernel_rfl) (by rfl) (by first | (simp; done) | simp [Value.oneCell']) ?_)
                  refine hK.out _ _ ?_ (fun hHeld7 => ?_)
                  · (try dsimp only); exact HX.out _ (by with_reducible repeat' (first | assumption | refine below_setRowN ?_ ?_ _ | refine Below.drew ?_ | refine Below.alloc ?_ ?_ _ | exact Below.refl _ _ | omega | (simp <;> omega)))
                  clear hK K hHeld6
                  (try simp only [Act.put, List.setIfInBounds_toArray, List.set_cons_zero, List.set_cons_succ, List.getElem_toArray, List.getElem_cons_zero, List.getElem_cons_succ])
                  refine wpAnyH_ready (rs := [9]) (by kernel_rfl) (by simp) ?_
                  refine AllReadyH.cons rfl (fun K hK => ?_) ?_
                  · (rw [if_pos (by rfl)]; refine wp_store_row 68 _ _ (by rfl) _ _ (by rfl) (by rfl) 68 #[.int .i64 0, .bool false, .slice none 0 0, .string ⟨#[]⟩] (by with_reducible repeat' (first | refine setRow_off ?_ ?_ _ | refine drew_at ?_ | exact alloc_new _ | (refine alloc_at _ _ ?_; (simp; done)) | refine alloc_old ?_ _ | refine Below.at hb5 ?_ ?_ | refine Below.at hb6 ?_ ?_ | refine Below.at hb7 ?_ ?_ | refine Below.at hb8 ?_ ?_ | omega | (simp <;> omega))) (by kernel_rfl) (by rfl) (by first | (simp; done) | simp [Value.oneCell']) ?_)
                    refine hK.out _ _ ?_ (fun hHeld8 => ?_)
                    · (try dsimp only); exact HX.out _ (by with_reducible repeat' (first | assumption | refine below_setRowN ?_ ?_ _ | refine Below.drew ?_ | refine Below.alloc ?_ ?_ _ | exact Below.refl _ _ | omega | (simp <;> omega)))
                    clear hK K hHeld7
                    (try simp only [Act.put, List.setIfInBounds_toArray, List.set_cons_zero, List.set_cons_succ, List.getElem_toArray, List.getElem_cons_zero, List.getElem_cons_succ])
                    refine wpAnyH_done (by kernel_rfl) ?_ _
                    go_wp2
                    go_meet
                    refine ⟨_, _, p6, q6, p8, q8, rfl, rfl, ?_, ?_, ?_, ?_, ?_⟩
                    with_reducible repeat' (first | assumption | refine setRow_at (old := #[.int .i64 0, .bool false, .slice none 0 0, .string ⟨#[]⟩]) ?_ _ | refine setRow_off ?_ ?_ _ | refine drew_at ?_ | exact alloc_new _ | (refine alloc_at _ _ ?_; (simp; done)) | refine alloc_old ?_ _ | refine Below.at hb5 ?_ ?_ | refine Below.at hb6 ?_ ?_ | refine Below.at hb7 ?_ ?_ | refine Below.at hb8 ?_ ?_ | apply cells_own | exact HO6.out | exact HO8.out | apply owns_setRow | apply World.ownsRow.drew | apply World.ownsRow.alloc | apply fun h => owns_aft h hb7 | apply fun h => owns_aft h hb8 | refine below_setRowN ?_ ?_ _ | refine Below.drew ?_ | refine Below.alloc ?_ ?_ _ | (intro k hk; first | (have := HLT6.out k hk; first | omega | (simp <;> omega)) | (have := HLT8.out k hk; first | omega | (simp <;> omega))) | omega | (simp <;> omega))
                  exact AllReadyH.nil
                exact AllReadyH.nil
              exact AllReadyH.nil
            exact AllReadyH.nil
          exact AllReadyH.nil
        refine AllReadyH.cons rfl (fun K hK => ?_) ?_
        · go_simp
          refine hK.out _ _ ?_ (fun hHeld3 => ?_)
          · (try dsimp only); exact HX.out _ (by with_reducible repeat' (first | assumption | refine below_setRowN ?_ ?_ _ | refine Below.drew ?_ | refine Below.alloc ?_ ?_ _ | exact Below.refl _ _ | omega | (simp <;> omega)))
          clear hK K hHeld2
          (try simp only [Act.put, List.setIfInBounds_toArray, List.set_cons_zero, List.set_cons_succ, List.getElem_toArray, List.getElem_cons_zero, List.getElem_cons_succ])
          refine wpAnyH_ready (rs := [4, 7]) (by kernel_rfl) (by simp) ?_
          refine AllReadyH.cons rfl (fun K hK => ?_) ?_
          · (go_simp; go_at_call 38; (with_reducible refine (HGQ.out _ (HB1.out.trans (Below.mono (B := w1.heap.size) (by with_reducible repeat' (first | assumption | refine below_setRowN ?_ ?_ _ | refine Below.drew ?_ | refine Below.alloc ?_ ?_ _ | exact Below.refl _ _ | omega | (simp <;> omega))) HB1.out.size))).mono ?_); rintro e w7 ⟨v7, rfl, hown7, hb7⟩; obtain ⟨p7, q7, rfl, -, -, hc7⟩ := CellsOff.own hown7 [] (by simp); have hcur7 : Below w1.heap.size w1 w7 := (Below.trans (by with_reducible repeat' (first | assumption | refine below_setRowN ?_ ?_ _ | refine Below.drew ?_ | refine Below.alloc ?_ ?_ _ | exact Below.refl _ _ | omega | (simp <;> omega))) (hb7.mono (by first | (simp; done) | omega | (simp; omega)))); have hcs7 := hcur7.size; have hcs7b := hb7.size; (try simp at hcs7b); have HC7 := Lib.hid hc7; clear hown7 hc7)
            refine hK.out _ _ ?_ (fun hHeld4 => ?_)
            · (try dsimp only); exact HX.out _ (by with_reducible repeat' (first | assumption | refine below_setRowN ?_ ?_ _ | refine Below.drew ?_ | refine Below.alloc ?_ ?_ _ | exact Below.refl _ _ | omega | (simp <;> omega)))
            clear hK K hHeld3
            (try simp only [Act.put, List.setIfInBounds_toArray, List.set_cons_zero, List.set_cons_succ, List.getElem_toArray, List.getElem_cons_zero, List.getElem_cons_succ])
            refine wpAnyH_ready (rs := [5, 7]) (by kernel_rfl) (by simp) ?_
            refine AllReadyH.cons rfl (fun K hK => ?_) ?_
            · (go_simp; go_at_call 43; (with_reducible refine (HBQ.out _ _ _ (HC7.out.below (by with_reducible repeat' (first | assumption | refine below_setRowN ?_ ?_ _ | refine Below.drew ?_ | refine Below.alloc ?_ ?_ _ | exact Below.refl _ _ | omega | (simp <;> omega))))).mono ?_); rintro e w8 ⟨v8, rfl, hown8, hb8⟩; have hlt8 := hown8.lt; obtain ⟨p8, q8, rfl, -, -, -⟩ := CellsOff.own hown8 [] (by simp); have hcur8 : Below w1.heap.size w1 w8 := (Below.trans (by with_reducible repeat' (first | assumption | refine below_setRowN ?_ ?_ _ | refine Below.drew ?_ | refine Below.alloc ?_ ?_ _ | exact Below.refl _ _ | omega | (simp <;> omega))) (hb8.mono (by first | (simp; done) | omega | (simp; omega)))); have hcs8 := hcur8.size; have hcs8b := hb8.size; (try simp at hcs8b hlt8); have HO8 := Lib.hid hown8; have HLT8 := Lib.hid hlt8; clear hown8 hlt8)
              refine hK.out _ _ ?_ (fun hHeld5 => ?_)
              · (try dsimp only); exact HX.out _ (by with_reducible repeat' (first | assumption | refine below_setRowN ?_ ?_ _ | refine Below.drew ?_ | refine Below.alloc ?_ ?_ _ | exact Below.refl _ _ | omega | (simp <;> omega)))
              clear hK K hHeld4
              (try simp only [Act.put, List.setIfInBounds_toArray, List.set_cons_zero, List.set_cons_succ, List.getElem_toArray, List.getElem_cons_zero, List.getElem_cons_succ])
              refine wpAnyH_ready (rs := [7]) (by kernel_rfl) (by simp) ?_
              refine AllReadyH.cons rfl (fun K hK => ?_) ?_
              · go_simp
                refine hK.out _ _ ?_ (fun hHeld6 => ?_)
                · (try dsimp only); exact HX.out _ (by with_reducible repeat' (first | assumption | refine below_setRowN ?_ ?_ _ | refine Below.drew ?_ | refine Below.alloc ?_ ?_ _ | exact Below.refl _ _ | omega | (simp <;> omega)))
                clear hK K hHeld5
                (try simp only [Act.put, List.setIfInBounds_toArray, List.set_cons_zero, List.set_cons_succ, List.getElem_toArray, List.getElem_cons_zero, List.getElem_cons_succ])
                refine wpAnyH_ready (rs := [8]) (by kernel_rfl) (by simp) ?_
                refine AllReadyH.cons rfl (fun K hK => ?_) ?_
                · (rw [if_pos (by rfl)]; refine wp_store_row 68 _ _ (by rfl) _ _ (by rfl) (by rfl) 68 #[.int .i64 0, .bool false, .slice none 0 0, .string ⟨#[]⟩] (by with_reducible repeat' (first | refine setRow_off ?_ ?_ _ | refine drew_at ?_ | exact alloc_new _ | (refine alloc_at _ _ ?_; (simp; done)) | refine alloc_old ?_ _ | refine Below.at hb5 ?_ ?_ | refine Below.at hb6 ?_ ?_ | refine Below.at hb7 ?_ ?_ | refine Below.at hb8 ?_ ?_ | omega | (simp <;> omega))) (by kernel_rfl) (by rfl) (by first | (simp; done) | simp [Value.oneCell']) ?_)
                  refine hK.out _ _ ?_ (fun hHeld7 => ?_)
                  · (try dsimp only); exact HX.out _ (by with_reducible repeat' (first | assumption | refine below_setRowN ?_ ?_ _ | refine Below.drew ?_ | refine Below.alloc ?_ ?_ _ | exact Below.refl _ _ | omega | (simp <;> omega)))
                  clear hK K hHeld6
                  (try simp only [Act.put, List.setIfInBounds_toArray, List.set_cons_zero, List.set_cons_succ, List.getElem_toArray, List.getElem_cons_zero, List.getElem_cons_succ])
                  refine wpAnyH_ready (rs := [9]) (by kernel_rfl) (by simp) ?_
                  refine AllReadyH.cons rfl (fun K hK => ?_) ?_
                  · (rw [if_pos (by rfl)]; refine wp_store_row 68 _ _ (by rfl) _ _ (by rfl) (by rfl) 68 #[.int .i64 0, .bool false, .slice none 0 0, .string ⟨#[]⟩] (by with_reducible repeat' (first | refine setRow_off ?_ ?_ _ | refine drew_at ?_ | exact alloc_new _ | (refine alloc_at _ _ ?_; (simp; done)) | refine alloc_old ?_ _ | refine Below.at hb5 ?_ ?_ | refine Below.at hb6 ?_ ?_ | refine Below.at hb7 ?_ ?_ | refine Below.at hb8 ?_ ?_ | omega | (simp <;> omega))) (by kernel_rfl) (by rfl) (by first | (simp; done) | simp [Value.oneCell']) ?_)
                    refine hK.out _ _ ?_ (fun hHeld8 => ?_)
                    · (try dsimp only); exact HX.out _ (by with_reducible repeat' (first | assumption | refine below_setRowN ?_ ?_ _ | refine Below.drew ?_ | refine Below.alloc ?_ ?_ _ | exact Below.refl _ _ | omega | (simp <;> omega)))
                    clear hK K hHeld7
                    (try simp only [Act.put, List.setIfInBounds_toArray, List.set_cons_zero, List.set_cons_succ, List.getElem_toArray, List.getElem_cons_zero, List.getElem_cons_succ])
                    refine wpAnyH_done (by kernel_rfl) ?_ _
                    go_wp2
                    go_meet
                    refine ⟨_, _, p6, q6, p8, q8, rfl, rfl, ?_, ?_, ?_, ?_, ?_⟩
                    with_reducible repeat' (first | assumption | refine setRow_at (old := #[.int .i64 0, .bool false, .slice none 0 0, .string ⟨#[]⟩]) ?_ _ | refine setRow_off ?_ ?_ _ | refine drew_at ?_ | exact alloc_new _ | (refine alloc_at _ _ ?_; (simp; done)) | refine alloc_old ?_ _ | refine Below.at hb5 ?_ ?_ | refine Below.at hb6 ?_ ?_ | refine Below.at hb7 ?_ ?_ | refine Below.at hb8 ?_ ?_ | apply cells_own | exact HO6.out | exact HO8.out | apply owns_setRow | apply World.ownsRow.drew | apply World.ownsRow.alloc | apply fun h => owns_aft h hb7 | apply fun h => owns_aft h hb8 | refine below_setRowN ?_ ?_ _ | refine Below.drew ?_ | refine Below.alloc ?_ ?_ _ | (intro k hk; first | (have := HLT6.out k hk; first | omega | (simp <;> omega)) | (have := HLT8.out k hk; first | omega | (simp <;> omega))) | omega | (simp <;> omega))
                  exact AllReadyH.nil
                exact AllReadyH.nil
              exact AllReadyH.nil
            refine AllReadyH.cons rfl (fun K hK => ?_) ?_
            · go_simp
              refine hK.out _ _ ?_ (fun hHeld5 => ?_)
              · (try dsimp only); exact HX.out _ (by with_reducible repeat' (first | assumption | refine below_setRowN ?_ ?_ _ | refine Below.drew ?_ | refine Below.alloc ?_ ?_ _ | exact Below.refl _ _ | omega | (simp <;> omega)))
              clear hK K hHeld4
              (try simp only [Act.put, List.setIfInBounds_toArray, List.set_cons_zero, List.set_cons_succ, List.getElem_toArray, List.getElem_cons_zero, List.getElem_cons_succ])
              refine wpAnyH_ready (rs := [5]) (by kernel_rfl) (by simp) ?_
              refine AllReadyH.cons rfl (fun K hK => ?_) ?_
              · (go_simp; go_at_call 43; (with_reducible refine (HBQ.out _ _ _ (HC7.out.below (by with_reducible repeat' (first | assumption | refine below_setRowN ?_ ?_ _ | refine Below.drew ?_ | refine Below.alloc ?_ ?_ _ | exact Below.refl _ _ | omega | (simp <;> omega))))).mono ?_); rintro e w8 ⟨v8, rfl, hown8, hb8⟩; have hlt8 := hown8.lt; obtain ⟨p8, q8, rfl, -, -, -⟩ := CellsOff.own hown8 [] (by simp); have hcur8 : Below w1.heap.size w1 w8 := (Below.trans (by with_reducible repeat' (first | assumption | refine below_setRowN ?_ ?_ _ | refine Below.drew ?_ | refine Below.alloc ?_ ?_ _ | exact Below.refl _ _ | omega | (simp <;> omega))) (hb8.mono (by first | (simp; done) | omega | (simp; omega)))); have hcs8 := hcur8.size; have hcs8b := hb8.size; (try simp at hcs8b hlt8); have HO8 := Lib.hid hown8; have HLT8 := Lib.hid hlt8; clear hown8 hlt8)
                refine hK.out _ _ ?_ (fun hHeld6 => ?_)
                · (try dsimp only); exact HX.out _ (by with_reducible repeat' (first | assumption | refine below_setRowN ?_ ?_ _ | refine Below.drew ?_ | refine Below.alloc ?_ ?_ _ | exact Below.refl _ _ | omega | (simp <;> omega)))
                clear hK K hHeld5
                (try simp only [Act.put, List.setIfInBounds_toArray, List.set_cons_zero, List.set_cons_succ, List.getElem_toArray, List.getElem_cons_zero, List.getElem_cons_succ])
                refine wpAnyH_ready (rs := [8]) (by kernel_rfl) (by simp) ?_
                refine AllReadyH.cons rfl (fun K hK => ?_) ?_
                · (rw [if_pos (by rfl)]; refine wp_store_row 68 _ _ (by rfl) _ _ (by rfl) (by rfl) 68 #[.int .i64 0, .bool false, .slice none 0 0, .string ⟨#[]⟩] (by with_reducible repeat' (first | refine setRow_off ?_ ?_ _ | refine drew_at ?_ | exact alloc_new _ | (refine alloc_at _ _ ?_; (simp; done)) | refine alloc_old ?_ _ | refine Below.at hb5 ?_ ?_ | refine Below.at hb6 ?_ ?_ | refine Below.at hb7 ?_ ?_ | refine Below.at hb8 ?_ ?_ | omega | (simp <;> omega))) (by kernel_rfl) (by rfl) (by first | (simp; done) | simp [Value.oneCell']) ?_)
                  refine hK.out _ _ ?_ (fun hHeld7 => ?_)
                  · (try dsimp only); exact HX.out _ (by with_reducible repeat' (first | assumption | refine below_setRowN ?_ ?_ _ | refine Below.drew ?_ | refine Below.alloc ?_ ?_ _ | exact Below.refl _ _ | omega | (simp <;> omega)))
                  clear hK K hHeld6
                  (try simp only [Act.put, List.setIfInBounds_toArray, List.set_cons_zero, List.set_cons_succ, List.getElem_toArray, List.getElem_cons_zero, List.getElem_cons_succ])
                  refine wpAnyH_ready (rs := [9]) (by kernel_rfl) (by simp) ?_
                  refine AllReadyH.cons rfl (fun K hK => ?_) ?_
                  · (rw [if_pos (by rfl)]; refine wp_store_row 68 _ _ (by rfl) _ _ (by rfl) (by rfl) 68 #[.int .i64 0, .bool false, .slice none 0 0, .string ⟨#[]⟩] (by with_reducible repeat' (first | refine setRow_off ?_ ?_ _ | refine drew_at ?_ | exact alloc_new _ | (refine alloc_at _ _ ?_; (simp; done)) | refine alloc_old ?_ _ | refine Below.at hb5 ?_ ?_ | refine Below.at hb6 ?_ ?_ | refine Below.at hb7 ?_ ?_ | refine Below.at hb8 ?_ ?_ | omega | (simp <;> omega))) (by kernel_rfl) (by rfl) (by first | (simp; done) | simp [Value.oneCell']) ?_)
                    refine hK.out _ _ ?_ (fun hHeld8 => ?_)
                    · (try dsimp only); exact HX.out _ (by with_reducible repeat' (first | assumption | refine below_setRowN ?_ ?_ _ | refine Below.drew ?_ | refine Below.alloc ?_ ?_ _ | exact Below.refl _ _ | omega | (simp <;> omega)))
                    clear hK K hHeld7
                    (try simp only [Act.put, List.setIfInBounds_toArray, List.set_cons_zero, List.set_cons_succ, List.getElem_toArray, List.getElem_cons_zero, List.getElem_cons_succ])
                    refine wpAnyH_done (by kernel_rfl) ?_ _
                    go_wp2
                    go_meet
                    refine ⟨_, _, p6, q6, p8, q8, rfl, rfl, ?_, ?_, ?_, ?_, ?_⟩
                    with_reducible repeat' (first | assumption | refine setRow_at (old := #[.int .i64 0, .bool false, .slice none 0 0, .string ⟨#[]⟩]) ?_ _ | refine setRow_off ?_ ?_ _ | refine drew_at ?_ | exact alloc_new _ | (refine alloc_at _ _ ?_; (simp; done)) | refine alloc_old ?_ _ | refine Below.at hb5 ?_ ?_ | refine Below.at hb6 ?_ ?_ | refine Below.at hb7 ?_ ?_ | refine Below.at hb8 ?_ ?_ | apply cells_own | exact HO6.out | exact HO8.out | apply owns_setRow | apply World.ownsRow.drew | apply World.ownsRow.alloc | apply fun h => owns_aft h hb7 | apply fun h => owns_aft h hb8 | refine below_setRowN ?_ ?_ _ | refine Below.drew ?_ | refine Below.alloc ?_ ?_ _ | (intro k hk; first | (have := HLT6.out k hk; first | omega | (simp <;> omega)) | (have := HLT8.out k hk; first | omega | (simp <;> omega))) | omega | (simp <;> omega))
                  exact AllReadyH.nil
                exact AllReadyH.nil
              exact AllReadyH.nil
            exact AllReadyH.nil
          refine AllReadyH.cons rfl (fun K hK => ?_) ?_
          · go_simp
            refine hK.out _ _ ?_ (fun hHeld4 => ?_)
            · (try dsimp only); exact HX.out _ (by with_reducible repeat' (first | assumption | refine below_setRowN ?_ ?_ _ | refine Below.drew ?_ | refine Below.alloc ?_ ?_ _ | exact Below.refl _ _ | omega | (simp <;> omega)))
            clear hK K hHeld3
            (try simp only [Act.put, List.setIfInBounds_toArray, List.set_cons_zero, List.set_cons_succ, List.getElem_toArray, List.getElem_cons_zero, List.getElem_cons_succ])
            refine wpAnyH_ready (rs := [4]) (by kernel_rfl) (by simp) ?_
            refine AllReadyH.cons rfl (fun K hK => ?_) ?_
            · (go_simp; go_at_call 38; (with_reducible refine (HGQ.out _ (HB1.out.trans (Below.mono (B := w1.heap.size) (by with_reducible repeat' (first | assumption | refine below_setRowN ?_ ?_ _ | refine Below.drew ?_ | refine Below.alloc ?_ ?_ _ | exact Below.refl _ _ | omega | (simp <;> omega))) HB1.out.size))).mono ?_); rintro e w7 ⟨v7, rfl, hown7, hb7⟩; obtain ⟨p7, q7, rfl, -, -, hc7⟩ := CellsOff.own hown7 [] (by simp); have hcur7 : Below w1.heap.size w1 w7 := (Below.trans (by with_reducible repeat' (first | assumption | refine below_setRowN ?_ ?_ _ | refine Below.drew ?_ | refine Below.alloc ?_ ?_ _ | exact Below.refl _ _ | omega | (simp <;> omega))) (hb7.mono (by first | (simp; done) | omega | (simp; omega)))); have hcs7 := hcur7.size; have hcs7b := hb7.size; (try simp at hcs7b); have HC7 := Lib.hid hc7; clear hown7 hc7)
              refine hK.out _ _ ?_ (fun hHeld5 => ?_)
              · (try dsimp only); exact HX.out _ (by with_reducible repeat' (first | assumption | refine below_setRowN ?_ ?_ _ | refine Below.drew ?_ | refine Below.alloc ?_ ?_ _ | exact Below.refl _ _ | omega | (simp <;> omega)))
              clear hK K hHeld4
              (try simp only [Act.put, List.setIfInBounds_toArray, List.set_cons_zero, List.set_cons_succ, List.getElem_toArray, List.getElem_cons_zero, List.getElem_cons_succ])
              refine wpAnyH_ready (rs := [5]) (by kernel_rfl) (by simp) ?_
              refine AllReadyH.cons rfl (fun K hK => ?_) ?_
              · (go_simp; go_at_call 43; (with_reducible refine (HBQ.out _ _ _ (HC7.out.below (by with_reducible repeat' (first | assumption | refine below_setRowN ?_ ?_ _ | refine Below.drew ?_ | refine Below.alloc ?_ ?_ _ | exact Below.refl _ _ | omega | (simp <;> omega))))).mono ?_); rintro e w8 ⟨v8, rfl, hown8, hb8⟩; have hlt8 := hown8.lt; obtain ⟨p8, q8, rfl, -, -, -⟩ := CellsOff.own hown8 [] (by simp); have hcur8 : Below w1.heap.size w1 w8 := (Below.trans (by with_reducible repeat' (first | assumption | refine below_setRowN ?_ ?_ _ | refine Below.drew ?_ | refine Below.alloc ?_ ?_ _ | exact Below.refl _ _ | omega | (simp <;> omega))) (hb8.mono (by first | (simp; done) | omega | (simp; omega)))); have hcs8 := hcur8.size; have hcs8b := hb8.size; (try simp at hcs8b hlt8); have HO8 := Lib.hid hown8; have HLT8 := Lib.hid hlt8; clear hown8 hlt8)
                refine hK.out _ _ ?_ (fun hHeld6 => ?_)
                · (try dsimp only); exact HX.out _ (by with_reducible repeat' (first | assumption | refine below_setRowN ?_ ?_ _ | refine Below.drew ?_ | refine Below.alloc ?_ ?_ _ | exact Below.refl _ _ | omega | (simp <;> omega)))
                clear hK K hHeld5
                (try simp only [Act.put, List.setIfInBounds_toArray, List.set_cons_zero, List.set_cons_succ, List.getElem_toArray, List.getElem_cons_zero, List.getElem_cons_succ])
                refine wpAnyH_ready (rs := [8]) (by kernel_rfl) (by simp) ?_
                refine AllReadyH.cons rfl (fun K hK => ?_) ?_
                · (rw [if_pos (by rfl)]; refine wp_store_row 68 _ _ (by rfl) _ _ (by rfl) (by rfl) 68 #[.int .i64 0, .bool false, .slice none 0 0, .string ⟨#[]⟩] (by with_reducible repeat' (first | refine setRow_off ?_ ?_ _ | refine drew_at ?_ | exact alloc_new _ | (refine alloc_at _ _ ?_; (simp; done)) | refine alloc_old ?_ _ | refine Below.at hb5 ?_ ?_ | refine Below.at hb6 ?_ ?_ | refine Below.at hb7 ?_ ?_ | refine Below.at hb8 ?_ ?_ | omega | (simp <;> omega))) (by kernel_rfl) (by rfl) (by first | (simp; done) | simp [Value.oneCell']) ?_)
                  refine hK.out _ _ ?_ (fun hHeld7 => ?_)
                  · (try dsimp only); exact HX.out _ (by with_reducible repeat' (first | assumption | refine below_setRowN ?_ ?_ _ | refine Below.drew ?_ | refine Below.alloc ?_ ?_ _ | exact Below.refl _ _ | omega | (simp <;> omega)))
                  clear hK K hHeld6
                  (try simp only [Act.put, List.setIfInBounds_toArray, List.set_cons_zero, List.set_cons_succ, List.getElem_toArray, List.getElem_cons_zero, List.getElem_cons_succ])
                  refine wpAnyH_ready (rs := [9]) (by kernel_rfl) (by simp) ?_
                  refine AllReadyH.cons rfl (fun K hK => ?_) ?_
                  · (rw [if_pos (by rfl)]; refine wp_store_row 68 _ _ (by rfl) _ _ (by rfl) (by rfl) 68 #[.int .i64 0, .bool false, .slice none 0 0, .string ⟨#[]⟩] (by with_reducible repeat' (first | refine setRow_off ?_ ?_ _ | refine drew_at ?_ | exact alloc_new _ | (refine alloc_at _ _ ?_; (simp; done)) | refine alloc_old ?_ _ | refine Below.at hb5 ?_ ?_ | refine Below.at hb6 ?_ ?_ | refine Below.at hb7 ?_ ?_ | refine Below.at hb8 ?_ ?_ | omega | (simp <;> omega))) (by kernel_rfl) (by rfl) (by first | (simp; done) | simp [Value.oneCell']) ?_)
                    refine hK.out _ _ ?_ (fun hHeld8 => ?_)
                    · (try dsimp only); exact HX.out _ (by with_reducible repeat' (first | assumption | refine below_setRowN ?_ ?_ _ | refine Below.drew ?_ | refine Below.alloc ?_ ?_ _ | exact Below.refl _ _ | omega | (simp <;> omega)))
                    clear hK K hHeld7
                    (try simp only [Act.put, List.setIfInBounds_toArray, List.set_cons_zero, List.set_cons_succ, List.getElem_toArray, List.getElem_cons_zero, List.getElem_cons_succ])
                    refine wpAnyH_done (by kernel_rfl) ?_ _
                    go_wp2
                    go_meet
                    refine ⟨_, _, p6, q6, p8, q8, rfl, rfl, ?_, ?_, ?_, ?_, ?_⟩
                    with_reducible repeat' (first | assumption | refine setRow_at (old := #[.int .i64 0, .bool false, .slice none 0 0, .string ⟨#[]⟩]) ?_ _ | refine setRow_off ?_ ?_ _ | refine drew_at ?_ | exact alloc_new _ | (refine alloc_at _ _ ?_; (simp; done)) | refine alloc_old ?_ _ | refine Below.at hb5 ?_ ?_ | refine Below.at hb6 ?_ ?_ | refine Below.at hb7 ?_ ?_ | refine Below.at hb8 ?_ ?_ | apply cells_own | exact HO6.out | exact HO8.out | apply owns_setRow | apply World.ownsRow.drew | apply World.ownsRow.alloc | apply fun h => owns_aft h hb7 | apply fun h => owns_aft h hb8 | refine below_setRowN ?_ ?_ _ | refine Below.drew ?_ | refine Below.alloc ?_ ?_ _ | (intro k hk; first | (have := HLT6.out k hk; first | omega | (simp <;> omega)) | (have := HLT8.out k hk; first | omega | (simp <;> omega))) | omega | (simp <;> omega))
                  exact AllReadyH.nil
                exact AllReadyH.nil
              exact AllReadyH.nil
            exact AllReadyH.nil
          exact AllReadyH.nil
        refine AllReadyH.cons rfl (fun K hK => ?_) ?_
        · go_simp
          refine hK.out _ _ ?_ (fun hHeld3 => ?_)
          · (try dsimp only); exact HX.out _ (by with_reducible repeat' (first | assumption | refine below_setRowN ?_ ?_ _ | refine Below.drew ?_ | refine Below.alloc ?_ ?_ _ | exact Below.refl _ _ | omega | (simp <;> omega)))
          clear hK K hHeld2
          (try simp only [Act.put, List.setIfInBounds_toArray, List.set_cons_zero, List.set_cons_succ, List.getElem_toArray, List.getElem_cons_zero, List.getElem_cons_succ])
          refine wpAnyH_ready (rs := [4, 6]) (by kernel_rfl) (by simp) ?_
          refine AllReadyH.cons rfl (fun K hK => ?_) ?_
          · (go_simp; go_at_call 38; (with_reducible refine (HGQ.out _ (HB1.out.trans (Below.mono (B := w1.heap.size) (by with_reducible repeat' (first | assumption | refine below_setRowN ?_ ?_ _ | refine Below.drew ?_ | refine Below.alloc ?_ ?_ _ | exact Below.refl _ _ | omega | (simp <;> omega))) HB1.out.size))).mono ?_); rintro e w7 ⟨v7, rfl, hown7, hb7⟩; obtain ⟨p7, q7, rfl, -, -, hc7⟩ := CellsOff.own hown7 [] (by simp); have hcur7 : Below w1.heap.size w1 w7 := (Below.trans (by with_reducible repeat' (first | assumption | refine below_setRowN ?_ ?_ _ | refine Below.drew ?_ | refine Below.alloc ?_ ?_ _ | exact Below.refl _ _ | omega | (simp <;> omega))) (hb7.mono (by first | (simp; done) | omega | (simp; omega)))); have hcs7 := hcur7.size; have hcs7b := hb7.size; (try simp at hcs7b); have HC7 := Lib.hid hc7; clear hown7 hc7)
            refine hK.out _ _ ?_ (fun hHeld4 => ?_)
            · (try dsimp only); exact HX.out _ (by with_reducible repeat' (first | assumption | refine below_setRowN ?_ ?_ _ | refine Below.drew ?_ | refine Below.alloc ?_ ?_ _ | exact Below.refl _ _ | omega | (simp <;> omega)))
            clear hK K hHeld3
            (try simp only [Act.put, List.setIfInBounds_toArray, List.set_cons_zero, List.set_cons_succ, List.getElem_toArray, List.getElem_cons_zero, List.getElem_cons_succ])
            refine wpAnyH_ready (rs := [5, 6]) (by kernel_rfl) (by simp) ?_
            refine AllReadyH.cons rfl (fun K hK => ?_) ?_
            · (go_simp; go_at_call 43; (with_reducible refine (HBQ.out _ _ _ (HC7.out.below (by with_reducible repeat' (first | assumption | refine below_setRowN ?_ ?_ _ | refine Below.drew ?_ | refine Below.alloc ?_ ?_ _ | exact Below.refl _ _ | omega | (simp <;> omega))))).mono ?_); rintro e w8 ⟨v8, rfl, hown8, hb8⟩; have hlt8 := hown8.lt; obtain ⟨p8, q8, rfl, -, -, -⟩ := CellsOff.own hown8 [] (by simp); have hcur8 : Below w1.heap.size w1 w8 := (Below.trans (by with_reducible repeat' (first | assumption | refine below_setRowN ?_ ?_ _ | refine Below.drew ?_ | refine Below.alloc ?_ ?_ _ | exact Below.refl _ _ | omega | (simp <;> omega))) (hb8.mono (by first | (simp; done) | omega | (simp; omega)))); have hcs8 := hcur8.size; have hcs8b := hb8.size; (try simp at hcs8b hlt8); have HO8 := Lib.hid hown8; have HLT8 := Lib.hid hlt8; clear hown8 hlt8)
              refine hK.out _ _ ?_ (fun hHeld5 => ?_)
              · (try dsimp only); exact HX.out _ (by with_reducible repeat' (first | assumption | refine below_setRowN ?_ ?_ _ | refine Below.drew ?_ | refine Below.alloc ?_ ?_ _ | exact Below.refl _ _ | omega | (simp <;> omega)))
              clear hK K hHeld4
              (try simp only [Act.put, List.setIfInBounds_toArray, List.set_cons_zero, List.set_cons_succ, List.getElem_toArray, List.getElem_cons_zero, List.getElem_cons_succ])
              refine wpAnyH_ready (rs := [6]) (by kernel_rfl) (by simp) ?_
              refine AllReadyH.cons rfl (fun K hK => ?_) ?_
              · go_simp
                refine hK.out _ _ ?_ (fun hHeld6 => ?_)
                · (try dsimp only); exact HX.out _ (by with_reducible repeat' (first | assumption | refine below_setRowN ?_ ?_ _ | refine Below.drew ?_ | refine Below.alloc ?_ ?_ _ | exact Below.refl _ _ | omega | (simp <;> omega)))
                clear hK K hHeld5
                (try simp only [Act.put, List.setIfInBounds_toArray, List.set_cons_zero, List.set_cons_succ, List.getElem_toArray, List.getElem_cons_zero, List.getElem_cons_succ])
                refine wpAnyH_ready (rs := [8]) (by kernel_rfl) (by simp) ?_
                refine AllReadyH.cons rfl (fun K hK => ?_) ?_
                · (rw [if_pos (by rfl)]; refine wp_store_row 68 _ _ (by rfl) _ _ (by rfl) (by rfl) 68 #[.int .i64 0, .bool false, .slice none 0 0, .string ⟨#[]⟩] (by with_reducible repeat' (first | refine setRow_off ?_ ?_ _ | refine drew_at ?_ | exact alloc_new _ | (refine alloc_at _ _ ?_; (simp; done)) | refine alloc_old ?_ _ | refine Below.at hb5 ?_ ?_ | refine Below.at hb6 ?_ ?_ | refine Below.at hb7 ?_ ?_ | refine Below.at hb8 ?_ ?_ | omega | (simp <;> omega))) (by kernel_rfl) (by rfl) (by first | (simp; done) | simp [Value.oneCell']) ?_)
                  refine hK.out _ _ ?_ (fun hHeld7 => ?_)
                  · (try dsimp only); exact HX.out _ (by with_reducible repeat' (first | assumption | refine below_setRowN ?_ ?_ _ | refine Below.drew ?_ | refine Below.alloc ?_ ?_ _ | exact Below.refl _ _ | omega | (simp <;> omega)))
                  clear hK K hHeld6
                  (try simp only [Act.put, List.setIfInBounds_toArray, List.set_cons_zero, List.set_cons_succ, List.getElem_toArray, List.getElem_cons_zero, List.getElem_cons_succ])
                  refine wpAnyH_ready (rs := [9]) (by kernel_rfl) (by simp) ?_
                  refine AllReadyH.cons rfl (fun K hK => ?_) ?_
                  · (rw [if_pos (by rfl)]; refine wp_store_row 68 _ _ (by rfl) _ _ (by rfl) (by rfl) 68 #[.int .i64 0, .bool false, .slice none 0 0, .string ⟨#[]⟩] (by with_reducible repeat' (first | refine setRow_off ?_ ?_ _ | refine drew_at ?_ | exact alloc_new _ | (refine alloc_at _ _ ?_; (simp; done)) | refine alloc_old ?_ _ | refine Below.at hb5 ?_ ?_ | refine Below.at hb6 ?_ ?_ | refine Below.at hb7 ?_ ?_ | refine Below.at hb8 ?_ ?_ | omega | (simp <;> omega))) (by kernel_rfl) (by rfl) (by first | (simp; done) | simp [Value.oneCell']) ?_)
                    refine hK.out _ _ ?_ (fun hHeld8 => ?_)
                    · (try dsimp only); exact HX.out _ (by with_reducible repeat' (first | assumption | refine below_setRowN ?_ ?_ _ | refine Below.drew ?_ | refine Below.alloc ?_ ?_ _ | exact Below.refl _ _ | omega | (simp <;> omega)))
                    clear hK K hHeld7
                    (try simp only [Act.put, List.setIfInBounds_toArray, List.set_cons_zero, List.set_cons_succ, List.getElem_toArray, List.getElem_cons_zero, List.getElem_cons_succ])
                    refine wpAnyH_done (by kernel_rfl) ?_ _
                    go_wp2
                    go_meet
                    refine ⟨_, _, p6, q6, p8, q8, rfl, rfl, ?_, ?_, ?_, ?_, ?_⟩
                    with_reducible repeat' (first | assumption | refine setRow_at (old := #[.int .i64 0, .bool false, .slice none 0 0, .string ⟨#[]⟩]) ?_ _ | refine setRow_off ?_ ?_ _ | refine drew_at ?_ | exact alloc_new _ | (refine alloc_at _ _ ?_; (simp; done)) | refine alloc_old ?_ _ | refine Below.at hb5 ?_ ?_ | refine Below.at hb6 ?_ ?_ | refine Below.at hb7 ?_ ?_ | refine Below.at hb8 ?_ ?_ | apply cells_own | exact HO6.out | exact HO8.out | apply owns_setRow | apply World.ownsRow.drew | apply World.ownsRow.alloc | apply fun h => owns_aft h hb7 | apply fun h => owns_aft h hb8 | refine below_setRowN ?_ ?_ _ | refine Below.drew ?_ | refine Below.alloc ?_ ?_ _ | (intro k hk; first | (have := HLT6.out k hk; first | omega | (simp <;> omega)) | (have := HLT8.out k hk; first | omega | (simp <;> omega))) | omega | (simp <;> omega))
                  exact AllReadyH.nil
                exact AllReadyH.nil
              exact AllReadyH.nil
            refine AllReadyH.cons rfl (fun K hK => ?_) ?_
            · go_simp
              refine hK.out _ _ ?_ (fun hHeld5 => ?_)
              · (try dsimp only); exact HX.out _ (by with_reducible repeat' (first | assumption | refine below_setRowN ?_ ?_ _ | refine Below.drew ?_ | refine Below.alloc ?_ ?_ _ | exact Below.refl _ _ | omega | (simp <;> omega)))
              clear hK K hHeld4
              (try simp only [Act.put, List.setIfInBounds_toArray, List.set_cons_zero, List.set_cons_succ, List.getElem_toArray, List.getElem_cons_zero, List.getElem_cons_succ])
              refine wpAnyH_ready (rs := [5]) (by kernel_rfl) (by simp) ?_
              refine AllReadyH.cons rfl (fun K hK => ?_) ?_
              · (go_simp; go_at_call 43; (with_reducible refine (HBQ.out _ _ _ (HC7.out.below (by with_reducible repeat' (first | assumption | refine below_setRowN ?_ ?_ _ | refine Below.drew ?_ | refine Below.alloc ?_ ?_ _ | exact Below.refl _ _ | omega | (simp <;> omega))))).mono ?_); rintro e w8 ⟨v8, rfl, hown8, hb8⟩; have hlt8 := hown8.lt; obtain ⟨p8, q8, rfl, -, -, -⟩ := CellsOff.own hown8 [] (by simp); have hcur8 : Below w1.heap.size w1 w8 := (Below.trans (by with_reducible repeat' (first | assumption | refine below_setRowN ?_ ?_ _ | refine Below.drew ?_ | refine Below.alloc ?_ ?_ _ | exact Below.refl _ _ | omega | (simp <;> omega))) (hb8.mono (by first | (simp; done) | omega | (simp; omega)))); have hcs8 := hcur8.size; have hcs8b := hb8.size; (try simp at hcs8b hlt8); have HO8 := Lib.hid hown8; have HLT8 := Lib.hid hlt8; clear hown8 hlt8)
                refine hK.out _ _ ?_ (fun hHeld6 => ?_)
                · (try dsimp only); exact HX.out _ (by with_reducible repeat' (first | assumption | refine below_setRowN ?_ ?_ _ | refine Below.drew ?_ | refine Below.alloc ?_ ?_ _ | exact Below.refl _ _ | omega | (simp <;> omega)))
                clear hK K hHeld5
                (try simp only [Act.put, List.setIfInBounds_toArray, List.set_cons_zero, List.set_cons_succ, List.getElem_toArray, List.getElem_cons_zero, List.getElem_cons_succ])
                refine wpAnyH_ready (rs := [8]) (by kernel_rfl) (by simp) ?_
                refine AllReadyH.cons rfl (fun K hK => ?_) ?_
                · (rw [if_pos (by rfl)]; refine wp_store_row 68 _ _ (by rfl) _ _ (by rfl) (by rfl) 68 #[.int .i64 0, .bool false, .slice none 0 0, .string ⟨#[]⟩] (by with_reducible repeat' (first | refine setRow_off ?_ ?_ _ | refine drew_at ?_ | exact alloc_new _ | (refine alloc_at _ _ ?_; (simp; done)) | refine alloc_old ?_ _ | refine Below.at hb5 ?_ ?_ | refine Below.at hb6 ?_ ?_ | refine Below.at hb7 ?_ ?_ | refine Below.at hb8 ?_ ?_ | omega | (simp <;> omega))) (by kernel_rfl) (by rfl) (by first | (simp; done) | simp [Value.oneCell']) ?_)
                  refine hK.out _ _ ?_ (fun hHeld7 => ?_)
                  · (try dsimp only); exact HX.out _ (by with_reducible repeat' (first | assumption | refine below_setRowN ?_ ?_ _ | refine Below.drew ?_ | refine Below.alloc ?_ ?_ _ | exact Below.refl _ _ | omega | (simp <;> omega)))
                  clear hK K hHeld6
                  (try simp only [Act.put, List.setIfInBounds_toArray, List.set_cons_zero, List.set_cons_succ, List.getElem_toArray, List.getElem_cons_zero, List.getElem_cons_succ])
                  refine wpAnyH_ready (rs := [9]) (by kernel_rfl) (by simp) ?_
                  refine AllReadyH.cons rfl (fun K hK => ?_) ?_
                  · (rw [if_pos (by rfl)]; refine wp_store_row 68 _ _ (by rfl) _ _ (by rfl) (by rfl) 68 #[.int .i64 0, .bool false, .slice none 0 0, .string ⟨#[]⟩] (by with_reducible repeat' (first | refine setRow_off ?_ ?_ _ | refine drew_at ?_ | exact alloc_new _ | (refine alloc_at _ _ ?_; (simp; done)) | refine alloc_old ?_ _ | refine Below.at hb5 ?_ ?_ | refine Below.at hb6 ?_ ?_ | refine Below.at hb7 ?_ ?_ | refine Below.at hb8 ?_ ?_ | omega | (simp <;> omega))) (by kernel_rfl) (by rfl) (by first | (simp; done) | simp [Value.oneCell']) ?_)
                    refine hK.out _ _ ?_ (fun hHeld8 => ?_)
                    · (try dsimp only); exact HX.out _ (by with_reducible repeat' (first | assumption | refine below_setRowN ?_ ?_ _ | refine Below.drew ?_ | refine Below.alloc ?_ ?_ _ | exact Below.refl _ _ | omega | (simp <;> omega)))
                    clear hK K hHeld7
                    (try simp only [Act.put, List.setIfInBounds_toArray, List.set_cons_zero, List.set_cons_succ, List.getElem_toArray, List.getElem_cons_zero, List.getElem_cons_succ])
                    refine wpAnyH_done (by kernel_rfl) ?_ _
                    go_wp2
                    go_meet
                    refine ⟨_, _, p6, q6, p8, q8, rfl, rfl, ?_, ?_, ?_, ?_, ?_⟩
                    with_reducible repeat' (first | assumption | refine setRow_at (old := #[.int .i64 0, .bool false, .slice none 0 0, .string ⟨#[]⟩]) ?_ _ | refine setRow_off ?_ ?_ _ | refine drew_at ?_ | exact alloc_new _ | (refine alloc_at _ _ ?_; (simp; done)) | refine alloc_old ?_ _ | refine Below.at hb5 ?_ ?_ | refine Below.at hb6 ?_ ?_ | refine Below.at hb7 ?_ ?_ | refine Below.at hb8 ?_ ?_ | apply cells_own | exact HO6.out | exact HO8.out | apply owns_setRow | apply World.ownsRow.drew | apply World.ownsRow.alloc | apply fun h => owns_aft h hb7 | apply fun h => owns_aft h hb8 | refine below_setRowN ?_ ?_ _ | refine Below.drew ?_ | refine Below.alloc ?_ ?_ _ | (intro k hk; first | (have := HLT6.out k hk; first | omega | (simp <;> omega)) | (have := HLT8.out k hk; first | omega | (simp <;> omega))) | omega | (simp <;> omega))
                  exact AllReadyH.nil
                exact AllReadyH.nil
              exact AllReadyH.nil
            exact AllReadyH.nil
          refine AllReadyH.cons rfl (fun K hK => ?_) ?_
          · go_simp
            refine hK.out _ _ ?_ (fun hHeld4 => ?_)
            · (try dsimp only); exact HX.out _ (by with_reducible repeat' (first | assumption | refine below_setRowN ?_ ?_ _ | refine Below.drew ?_ | refine Below.alloc ?_ ?_ _ | exact Below.refl _ _ | omega | (simp <;> omega)))
            clear hK K hHeld3
            (try simp only [Act.put, List.setIfInBounds_toArray, List.set_cons_zero, List.set_cons_succ, List.getElem_toArray, List.getElem_cons_zero, List.getElem_cons_succ])
            refine wpAnyH_ready (rs := [4]) (by kernel_rfl) (by simp) ?_
            refine AllReadyH.cons rfl (fun K hK => ?_) ?_
            · (go_simp; go_at_call 38; (with_reducible refine (HGQ.out _ (HB1.out.trans (Below.mono (B := w1.heap.size) (by with_reducible repeat' (first | assumption | refine below_setRowN ?_ ?_ _ | refine Below.drew ?_ | refine Below.alloc ?_ ?_ _ | exact Below.refl _ _ | omega | (simp <;> omega))) HB1.out.size))).mono ?_); rintro e w7 ⟨v7, rfl, hown7, hb7⟩; obtain ⟨p7, q7, rfl, -, -, hc7⟩ := CellsOff.own hown7 [] (by simp); have hcur7 : Below w1.heap.size w1 w7 := (Below.trans (by with_reducible repeat' (first | assumption | refine below_setRowN ?_ ?_ _ | refine Below.drew ?_ | refine Below.alloc ?_ ?_ _ | exact Below.refl _ _ | omega | (simp <;> omega))) (hb7.mono (by first | (simp; done) | omega | (simp; omega)))); have hcs7 := hcur7.size; have hcs7b := hb7.size; (try simp at hcs7b); have HC7 := Lib.hid hc7; clear hown7 hc7)
              refine hK.out _ _ ?_ (fun hHeld5 => ?_)
              · (try dsimp only); exact HX.out _ (by with_reducible repeat' (first | assumption | refine below_setRowN ?_ ?_ _ | refine Below.drew ?_ | refine Below.alloc ?_ ?_ _ | exact Below.refl _ _ | omega | (simp <;> omega)))
              clear hK K hHeld4
              (try simp only [Act.put, List.setIfInBounds_toArray, List.set_cons_zero, List.set_cons_succ, List.getElem_toArray, List.getElem_cons_zero, List.getElem_cons_succ])
              refine wpAnyH_ready (rs := [5]) (by kernel_rfl) (by simp) ?_
              refine AllReadyH.cons rfl (fun K hK => ?_) ?_
              · (go_simp; go_at_call 43; (with_reducible refine (HBQ.out _ _ _ (HC7.out.below (by with_reducible repeat' (first | assumption | refine below_setRowN ?_ ?_ _ | refine Below.drew ?_ | refine Below.alloc ?_ ?_ _ | exact Below.refl _ _ | omega | (simp <;> omega))))).mono ?_); rintro e w8 ⟨v8, rfl, hown8, hb8⟩; have hlt8 := hown8.lt; obtain ⟨p8, q8, rfl, -, -, -⟩ := CellsOff.own hown8 [] (by simp); have hcur8 : Below w1.heap.size w1 w8 := (Below.trans (by with_reducible repeat' (first | assumption | refine below_setRowN ?_ ?_ _ | refine Below.drew ?_ | refine Below.alloc ?_ ?_ _ | exact Below.refl _ _ | omega | (simp <;> omega))) (hb8.mono (by first | (simp; done) | omega | (simp; omega)))); have hcs8 := hcur8.size; have hcs8b := hb8.size; (try simp at hcs8b hlt8); have HO8 := Lib.hid hown8; have HLT8 := Lib.hid hlt8; clear hown8 hlt8)
                refine hK.out _ _ ?_ (fun hHeld6 => ?_)
                · (try dsimp only); exact HX.out _ (by with_reducible repeat' (first | assumption | refine below_setRowN ?_ ?_ _ | refine Below.drew ?_ | refine Below.alloc ?_ ?_ _ | exact Below.refl _ _ | omega | (simp <;> omega)))
                clear hK K hHeld5
                (try simp only [Act.put, List.setIfInBounds_toArray, List.set_cons_zero, List.set_cons_succ, List.getElem_toArray, List.getElem_cons_zero, List.getElem_cons_succ])
                refine wpAnyH_ready (rs := [8]) (by kernel_rfl) (by simp) ?_
                refine AllReadyH.cons rfl (fun K hK => ?_) ?_
                · (rw [if_pos (by rfl)]; refine wp_store_row 68 _ _ (by rfl) _ _ (by rfl) (by rfl) 68 #[.int .i64 0, .bool false, .slice none 0 0, .string ⟨#[]⟩] (by with_reducible repeat' (first | refine setRow_off ?_ ?_ _ | refine drew_at ?_ | exact alloc_new _ | (refine alloc_at _ _ ?_; (simp; done)) | refine alloc_old ?_ _ | refine Below.at hb5 ?_ ?_ | refine Below.at hb6 ?_ ?_ | refine Below.at hb7 ?_ ?_ | refine Below.at hb8 ?_ ?_ | omega | (simp <;> omega))) (by kernel_rfl) (by rfl) (by first | (simp; done) | simp [Value.oneCell']) ?_)
                  refine hK.out _ _ ?_ (fun hHeld7 => ?_)
                  · (try dsimp only); exact HX.out _ (by with_reducible repeat' (first | assumption | refine below_setRowN ?_ ?_ _ | refine Below.drew ?_ | refine Below.alloc ?_ ?_ _ | exact Below.refl _ _ | omega | (simp <;> omega)))
                  clear hK K hHeld6
                  (try simp only [Act.put, List.setIfInBounds_toArray, List.set_cons_zero, List.set_cons_succ, List.getElem_toArray, List.getElem_cons_zero, List.getElem_cons_succ])
                  refine wpAnyH_ready (rs := [9]) (by kernel_rfl) (by simp) ?_
                  refine AllReadyH.cons rfl (fun K hK => ?_) ?_
                  · (rw [if_pos (by rfl)]; refine wp_store_row 68 _ _ (by rfl) _ _ (by rfl) (by rfl) 68 #[.int .i64 0, .bool false, .slice none 0 0, .string ⟨#[]⟩] (by with_reducible repeat' (first | refine setRow_off ?_ ?_ _ | refine drew_at ?_ | exact alloc_new _ | (refine alloc_at _ _ ?_; (simp; done)) | refine alloc_old ?_ _ | refine Below.at hb5 ?_ ?_ | refine Below.at hb6 ?_ ?_ | refine Below.at hb7 ?_ ?_ | refine Below.at hb8 ?_ ?_ | omega | (simp <;> omega))) (by kernel_rfl) (by rfl) (by first | (simp; done) | simp [Value.oneCell']) ?_)
                    refine hK.out _ _ ?_ (fun hHeld8 => ?_)
                    · (try dsimp only); exact HX.out _ (by with_reducible repeat' (first | assumption | refine below_setRowN ?_ ?_ _ | refine Below.drew ?_ | refine Below.alloc ?_ ?_ _ | exact Below.refl _ _ | omega | (simp <;> omega)))
                    clear hK K hHeld7
                    (try simp only [Act.put, List.setIfInBounds_toArray, List.set_cons_zero, List.set_cons_succ, List.getElem_toArray, List.getElem_cons_zero, List.getElem_cons_succ])
                    refine wpAnyH_done (by kernel_rfl) ?_ _
                    go_wp2
                    go_meet
                    refine ⟨_, _, p6, q6, p8, q8, rfl, rfl, ?_, ?_, ?_, ?_, ?_⟩
                    with_reducible repeat' (first | assumption | refine setRow_at (old := #[.int .i64 0, .bool false, .slice none 0 0, .string ⟨#[]⟩]) ?_ _ | refine setRow_off ?_ ?_ _ | refine drew_at ?_ | exact alloc_new _ | (refine alloc_at _ _ ?_; (simp; done)) | refine alloc_old ?_ _ | refine Below.at hb5 ?_ ?_ | refine Below.at hb6 ?_ ?_ | refine Below.at hb7 ?_ ?_ | refine Below.at hb8 ?_ ?_ | apply cells_own | exact HO6.out | exact HO8.out | apply owns_setRow | apply World.ownsRow.drew | apply World.ownsRow.alloc | apply fun h => owns_aft h hb7 | apply fun h => owns_aft h hb8 | refine below_setRowN ?_ ?_ _ | refine Below.drew ?_ | refine Below.alloc ?_ ?_ _ | (intro k hk; first | (have := HLT6.out k hk; first | omega | (simp <;> omega)) | (have := HLT8.out k hk; first | omega | (simp <;> omega))) | omega | (simp <;> omega))
                  exact AllReadyH.nil
                exact AllReadyH.nil
              exact AllReadyH.nil
            exact AllReadyH.nil
          exact AllReadyH.nil
        exact AllReadyH.nil
      refine AllReadyH.cons rfl (fun K hK => ?_) ?_
      · go_simp
        refine hK.out _ _ ?_ (fun hHeld2 => ?_)
        · (try dsimp only); exact HX.out _ (by with_reducible repeat' (first | assumption | refine below_setRowN ?_ ?_ _ | refine Below.drew ?_ | refine Below.alloc ?_ ?_ _ | exact Below.refl _ _ | omega | (simp <;> omega)))
        clear hK K hHeld1
        (try simp only [Act.put, List.setIfInBounds_toArray, List.set_cons_zero, List.set_cons_succ, List.getElem_toArray, List.getElem_cons_zero, List.getElem_cons_succ])
        refine wpAnyH_ready (rs := [2, 7]) (by kernel_rfl) (by simp) ?_
        refine AllReadyH.cons rfl (fun K hK => ?_) ?_
        · (go_simp; go_at_call 43; (with_reducible refine (HBP.out _ _ _ (HC5.out.below (by with_reducible repeat' (first | assumption | refine below_setRowN ?_ ?_ _ | refine Below.drew ?_ | refine Below.alloc ?_ ?_ _ | exact Below.refl _ _ | omega | (simp <;> omega))))).mono ?_); rintro e w6 ⟨v6, rfl, hown6, hb6⟩; have hlt6 := hown6.lt; obtain ⟨p6, q6, rfl, -, -, -⟩ := CellsOff.own hown6 [] (by simp); have hcur6 : Below w1.heap.size w1 w6 := (Below.trans (by with_reducible repeat' (first | assumption | refine below_setRowN ?_ ?_ _ | refine Below.drew ?_ | refine Below.alloc ?_ ?_ _ | exact Below.refl _ _ | omega | (simp <;> omega))) (hb6.mono (by first | (simp; done) | omega | (simp; omega)))); have hcs6 := hcur6.size; have hcs6b := hb6.size; (try simp at hcs6b hlt6); have HO6 := Lib.hid hown6; have HLT6 := Lib.hid hlt6; clear hown6 hlt6)
          refine hK.out _ _ ?_ (fun hHeld3 => ?_)
          · (try dsimp only); exact HX.out _ (by with_reducible repeat' (first | assumption | refine below_setRowN ?_ ?_ _ | refine Below.drew ?_ | refine Below.alloc ?_ ?_ _ | exact Below.refl _ _ | omega | (simp <;> omega)))
          clear hK K hHeld2
          (try simp only [Act.put, List.setIfInBounds_toArray, List.set_cons_zero, List.set_cons_succ, List.getElem_toArray, List.getElem_cons_zero, List.getElem_cons_succ])
          refine wpAnyH_ready (rs := [4, 7]) (by kernel_rfl) (by simp) ?_
          refine AllReadyH.cons rfl (fun K hK => ?_) ?_
          · (go_simp; go_at_call 38; (with_reducible refine (HGQ.out _ (HB1.out.trans (Below.mono (B := w1.heap.size) (by with_reducible repeat' (first | assumption | refine below_setRowN ?_ ?_ _ | refine Below.drew ?_ | refine Below.alloc ?_ ?_ _ | exact Below.refl _ _ | omega | (simp <;> omega))) HB1.out.size))).mono ?_); rintro e w7 ⟨v7, rfl, hown7, hb7⟩; obtain ⟨p7, q7, rfl, -, -, hc7⟩ := CellsOff.own hown7 [] (by simp); have hcur7 : Below w1.heap.size w1 w7 := (Below.trans (by with_reducible repeat' (first | assumption | refine below_setRowN ?_ ?_ _ | refine Below.drew ?_ | refine Below.alloc ?_ ?_ _ | exact Below.refl _ _ | omega | (simp <;> omega))) (hb7.mono (by first | (simp; done) | omega | (simp; omega)))); have hcs7 := hcur7.size; have hcs7b := hb7.size; (try simp at hcs7b); have HC7 := Lib.hid hc7; clear hown7 hc7)
            refine hK.out _ _ ?_ (fun hHeld4 => ?_)
            · (try dsimp only); exact HX.out _ (by with_reducible repeat' (first | assumption | refine below_setRowN ?_ ?_ _ | refine Below.drew ?_ | refine Below.alloc ?_ ?_ _ | exact Below.refl _ _ | omega | (simp <;> omega)))
            clear hK K hHeld3
            (try simp only [Act.put, List.setIfInBounds_toArray, List.set_cons_zero, List.set_cons_succ, List.getElem_toArray, List.getElem_cons_zero, List.getElem_cons_succ])
            refine wpAnyH_ready (rs := [5, 7]) (by kernel_rfl) (by simp) ?_
            refine AllReadyH.cons rfl (fun K hK => ?_) ?_
            · (go_simp; go_at_call 43; (with_reducible refine (HBQ.out _ _ _ (HC7.out.below (by with_reducible repeat' (first | assumption | refine below_setRowN ?_ ?_ _ | refine Below.drew ?_ | refine Below.alloc ?_ ?_ _ | exact Below.refl _ _ | omega | (simp <;> omega))))).mono ?_); rintro e w8 ⟨v8, rfl, hown8, hb8⟩; have hlt8 := hown8.lt; obtain ⟨p8, q8, rfl, -, -, -⟩ := CellsOff.own hown8 [] (by simp); have hcur8 : Below w1.heap.size w1 w8 := (Below.trans (by with_reducible repeat' (first | assumption | refine below_setRowN ?_ ?_ _ | refine Below.drew ?_ | refine Below.alloc ?_ ?_ _ | exact Below.refl _ _ | omega | (simp <;> omega))) (hb8.mono (by first | (simp; done) | omega | (simp; omega)))); have hcs8 := hcur8.size; have hcs8b := hb8.size; (try simp at hcs8b hlt8); have HO8 := Lib.hid hown8; have HLT8 := Lib.hid hlt8; clear hown8 hlt8)
              refine hK.out _ _ ?_ (fun hHeld5 => ?_)
              · (try dsimp only); exact HX.out _ (by with_reducible repeat' (first | assumption | refine below_setRowN ?_ ?_ _ | refine Below.drew ?_ | refine Below.alloc ?_ ?_ _ | exact Below.refl _ _ | omega | (simp <;> omega)))
              clear hK K hHeld4
              (try simp only [Act.put, List.setIfInBounds_toArray, List.set_cons_zero, List.set_cons_succ, List.getElem_toArray, List.getElem_cons_zero, List.getElem_cons_succ])
              refine wpAnyH_ready (rs := [7]) (by kernel_rfl) (by simp) ?_
              refine AllReadyH.cons rfl (fun K hK => ?_) ?_
              · go_simp
                refine hK.out _ _ ?_ (fun hHeld6 => ?_)
                · (try dsimp only); exact HX.out _ (by with_reducible repeat' (first | assumption | refine below_setRowN ?_ ?_ _ | refine Below.drew ?_ | refine Below.alloc ?_ ?_ _ | exact Below.refl _ _ | omega | (simp <;> omega)))
                clear hK K hHeld5
                (try simp only [Act.put, List.setIfInBounds_toArray, List.set_cons_zero, List.set_cons_succ, List.getElem_toArray, List.getElem_cons_zero, List.getElem_cons_succ])
                refine wpAnyH_ready (rs := [8]) (by kernel_rfl) (by simp) ?_
                refine AllReadyH.cons rfl (fun K hK => ?_) ?_
                · (rw [if_pos (by rfl)]; refine wp_store_row 68 _ _ (by rfl) _ _ (by rfl) (by rfl) 68 #[.int .i64 0, .bool false, .slice none 0 0, .string ⟨#[]⟩] (by with_reducible repeat' (first | refine setRow_off ?_ ?_ _ | refine drew_at ?_ | exact alloc_new _ | (refine alloc_at _ _ ?_; (simp; done)) | refine alloc_old ?_ _ | refine Below.at hb5 ?_ ?_ | refine Below.at hb6 ?_ ?_ | refine Below.at hb7 ?_ ?_ | refine Below.at hb8 ?_ ?_ | omega | (simp <;> omega))) (by kernel_rfl) (by rfl) (by first | (simp; done) | simp [Value.oneCell']) ?_)
                  refine hK.out _ _ ?_ (fun hHeld7 => ?_)
                  · (try dsimp only); exact HX.out _ (by with_reducible repeat' (first | assumption | refine below_setRowN ?_ ?_ _ | refine Below.drew ?_ | refine Below.alloc ?_ ?_ _ | exact Below.refl _ _ | omega | (simp <;> omega)))
                  clear hK K hHeld6
                  (try simp only [Act.put, List.setIfInBounds_toArray, List.set_cons_zero, List.set_cons_succ, List.getElem_toArray, List.getElem_cons_zero, List.getElem_cons_succ])
                  refine wpAnyH_ready (rs := [9]) (by kernel_rfl) (by simp) ?_
                  refine AllReadyH.cons rfl (fun K hK => ?_) ?_
                  · (rw [if_pos (by rfl)]; refine wp_store_row 68 _ _ (by rfl) _ _ (by rfl) (by rfl) 68 #[.int .i64 0, .bool false, .slice none 0 0, .string ⟨#[]⟩] (by with_reducible repeat' (first | refine setRow_off ?_ ?_ _ | refine drew_at ?_ | exact alloc_new _ | (refine alloc_at _ _ ?_; (simp; done)) | refine alloc_old ?_ _ | refine Below.at hb5 ?_ ?_ | refine Below.at hb6 ?_ ?_ | refine Below.at hb7 ?_ ?_ | refine Below.at hb8 ?_ ?_ | omega | (simp <;> omega))) (by kernel_rfl) (by rfl) (by first | (simp; done) | simp [Value.oneCell']) ?_)
                    refine hK.out _ _ ?_ (fun hHeld8 => ?_)
                    · (try dsimp only); exact HX.out _ (by with_reducible repeat' (first | assumption | refine below_setRowN ?_ ?_ _ | refine Below.drew ?_ | refine Below.alloc ?_ ?_ _ | exact Below.refl _ _ | omega | (simp <;> omega)))
                    clear hK K hHeld7
                    (try simp only [Act.put, List.setIfInBounds_toArray, List.set_cons_zero, List.set_cons_succ, List.getElem_toArray, List.getElem_cons_zero, List.getElem_cons_succ])
                    refine wpAnyH_done (by kernel_rfl) ?_ _
                    go_wp2
                    go_meet
                    refine ⟨_, _, p6, q6, p8, q8, rfl, rfl, ?_, ?_, ?_, ?_, ?_⟩
                    with_reducible repeat' (first | assumption | refine setRow_at (old := #[.int .i64 0, .bool false, .slice none 0 0, .string ⟨#[]⟩]) ?_ _ | refine setRow_off ?_ ?_ _ | refine drew_at ?_ | exact alloc_new _ | (refine alloc_at _ _ ?_; (simp; done)) | refine alloc_old ?_ _ | refine Below.at hb5 ?_ ?_ | refine Below.at hb6 ?_ ?_ | refine Below.at hb7 ?_ ?_ | refine Below.at hb8 ?_ ?_ | apply cells_own | exact HO6.out | exact HO8.out | apply owns_setRow | apply World.ownsRow.drew | apply World.ownsRow.alloc | apply fun h => owns_aft h hb7 | apply fun h => owns_aft h hb8 | refine below_setRowN ?_ ?_ _ | refine Below.drew ?_ | refine Below.alloc ?_ ?_ _ | (intro k hk; first | (have := HLT6.out k hk; first | omega | (simp <;> omega)) | (have := HLT8.out k hk; first | omega | (simp <;> omega))) | omega | (simp <;> omega))
                  exact AllReadyH.nil
                exact AllReadyH.nil
              exact AllReadyH.nil
            refine AllReadyH.cons rfl (fun K hK => ?_) ?_
            · go_simp
              refine hK.out _ _ ?_ (fun hHeld5 => ?_)
              · (try dsimp only); exact HX.out _ (by with_reducible repeat' (first | assumption | refine below_setRowN ?_ ?_ _ | refine Below.drew ?_ | refine Below.alloc ?_ ?_ _ | exact Below.refl _ _ | omega | (simp <;> omega)))
              clear hK K hHeld4
              (try simp only [Act.put, List.setIfInBounds_toArray, List.set_cons_zero, List.set_cons_succ, List.getElem_toArray, List.getElem_cons_zero, List.getElem_cons_succ])
              refine wpAnyH_ready (rs := [5]) (by kernel_rfl) (by simp) ?_
              refine AllReadyH.cons rfl (fun K hK => ?_) ?_
              · (go_simp; go_at_call 43; (with_reducible refine (HBQ.out _ _ _ (HC7.out.below (by with_reducible repeat' (first | assumption | refine below_setRowN ?_ ?_ _ | refine Below.drew ?_ | refine Below.alloc ?_ ?_ _ | exact Below.refl _ _ | omega | (simp <;> omega))))).mono ?_); rintro e w8 ⟨v8, rfl, hown8, hb8⟩; have hlt8 := hown8.lt; obtain ⟨p8, q8, rfl, -, -, -⟩ := CellsOff.own hown8 [] (by simp); have hcur8 : Below w1.heap.size w1 w8 := (Below.trans (by with_reducible repeat' (first | assumption | refine below_setRowN ?_ ?_ _ | refine Below.drew ?_ | refine Below.alloc ?_ ?_ _ | exact Below.refl _ _ | omega | (simp <;> omega))) (hb8.mono (by first | (simp; done) | omega | (simp; omega)))); have hcs8 := hcur8.size; have hcs8b := hb8.size; (try simp at hcs8b hlt8); have HO8 := Lib.hid hown8; have HLT8 := Lib.hid hlt8; clear hown8 hlt8)
                refine hK.out _ _ ?_ (fun hHeld6 => ?_)
                · (try dsimp only); exact HX.out _ (by with_reducible repeat' (first | assumption | refine below_setRowN ?_ ?_ _ | refine Below.drew ?_ | refine Below.alloc ?_ ?_ _ | exact Below.refl _ _ | omega | (simp <;> omega)))
                clear hK K hHeld5
                (try simp only [Act.put, List.setIfInBounds_toArray, List.set_cons_zero, List.set_cons_succ, List.getElem_toArray, List.getElem_cons_zero, List.getElem_cons_succ])
                refine wpAnyH_ready (rs := [8]) (by kernel_rfl) (by simp) ?_
                refine AllReadyH.cons rfl (fun K hK => ?_) ?_
                · (rw [if_pos (by rfl)]; refine wp_store_row 68 _ _ (by rfl) _ _ (by rfl) (by rfl) 68 #[.int .i64 0, .bool false, .slice none 0 0, .string ⟨#[]⟩] (by with_reducible repeat' (first | refine setRow_off ?_ ?_ _ | refine drew_at ?_ | exact alloc_new _ | (refine alloc_at _ _ ?_; (simp; done)) | refine alloc_old ?_ _ | refine Below.at hb5 ?_ ?_ | refine Below.at hb6 ?_ ?_ | refine Below.at hb7 ?_ ?_ | refine Below.at hb8 ?_ ?_ | omega | (simp <;> omega))) (by kernel_rfl) (by rfl) (by first | (simp; done) | simp [Value.oneCell']) ?_)
                  refine hK.out _ _ ?_ (fun hHeld7 => ?_)
                  · (try dsimp only); exact HX.out _ (by with_reducible repeat' (first | assumption | refine below_setRowN ?_ ?_ _ | refine Below.drew ?_ | refine Below.alloc ?_ ?_ _ | exact Below.refl _ _ | omega | (simp <;> omega)))
                  clear hK K hHeld6
                  (try simp only [Act.put, List.setIfInBounds_toArray, List.set_cons_zero, List.set_cons_succ, List.getElem_toArray, List.getElem_cons_zero, List.getElem_cons_succ])
                  refine wpAnyH_ready (rs := [9]) (by kernel_rfl) (by simp) ?_
                  refine AllReadyH.cons rfl (fun K hK => ?_) ?_
                  · (rw [if_pos (by rfl)]; refine wp_store_row 68 _ _ (by rfl) _ _ (by rfl) (by rfl) 68 #[.int .i64 0, .bool false, .slice none 0 0, .string ⟨#[]⟩] (by with_reducible repeat' (first | refine setRow_off ?_ ?_ _ | refine drew_at ?_ | exact alloc_new _ | (refine alloc_at _ _ ?_; (simp; done)) | refine alloc_old ?_ _ | refine Below.at hb5 ?_ ?_ | refine Below.at hb6 ?_ ?_ | refine Below.at hb7 ?_ ?_ | refine Below.at hb8 ?_ ?_ | omega | (simp <;> omega))) (by kernel_rfl) (by rfl) (by first | (simp; done) | simp [Value.oneCell']) ?_)
                    refine hK.out _ _ ?_ (fun hHeld8 => ?_)
                    · (try dsimp only); exact HX.out _ (by with_reducible repeat' (first | assumption | refine below_setRowN ?_ ?_ _ | refine Below.drew ?_ | refine Below.alloc ?_ ?_ _ | exact Below.refl _ _ | omega | (simp <;> omega)))
                    clear hK K hHeld7
                    (try simp only [Act.put, List.setIfInBounds_toArray, List.set_cons_zero, List.set_cons_succ, List.getElem_toArray, List.getElem_cons_zero, List.getElem_cons_succ])
                    refine wpAnyH_done (by kernel_rfl) ?_ _
                    go_wp2
                    go_meet
                    refine ⟨_, _, p6, q6, p8, q8, rfl, rfl, ?_, ?_, ?_, ?_, ?_⟩
                    with_reducible repeat' (first | assumption | refine setRow_at (old := #[.int .i64 0, .bool false, .slice none 0 0, .string ⟨#[]⟩]) ?_ _ | refine setRow_off ?_ ?_ _ | refine drew_at ?_ | exact alloc_new _ | (refine alloc_at _ _ ?_; (simp; done)) | refine alloc_old ?_ _ | refine Below.at hb5 ?_ ?_ | refine Below.at hb6 ?_ ?_ | refine Below.at hb7 ?_ ?_ | refine Below.at hb8 ?_ ?_ | apply cells_own | exact HO6.out | exact HO8.out | apply owns_setRow | apply World.ownsRow.drew | apply World.ownsRow.alloc | apply fun h => owns_aft h hb7 | apply fun h => owns_aft h hb8 | refine below_setRowN ?_ ?_ _ | refine Below.drew ?_ | refine Below.alloc ?_ ?_ _ | (intro k hk; first | (have := HLT6.out k hk; first | omega | (simp <;> omega)) | (have := HLT8.out k hk; first | omega | (simp <;> omega))) | omega | (simp <;> omega))
                  exact AllReadyH.nil
                exact AllReadyH.nil
              exact AllReadyH.nil
            exact AllReadyH.nil
          refine AllReadyH.cons rfl (fun K hK => ?_) ?_
          · go_simp
            refine hK.out _ _ ?_ (fun hHeld4 => ?_)
            · (try dsimp only); exact HX.out _ (by with_reducible repeat' (first | assumption | refine below_setRowN ?_ ?_ _ | refine Below.drew ?_ | refine Below.alloc ?_ ?_ _ | exact Below.refl _ _ | omega | (simp <;> omega)))
            clear hK K hHeld3
            (try simp only [Act.put, List.setIfInBounds_toArray, List.set_cons_zero, List.set_cons_succ, List.getElem_toArray, List.getElem_cons_zero, List.getElem_cons_succ])
            refine wpAnyH_ready (rs := [4]) (by kernel_rfl) (by simp) ?_
            refine AllReadyH.cons rfl (fun K hK => ?_) ?_
            · (go_simp; go_at_call 38; (with_reducible refine (HGQ.out _ (HB1.out.trans (Below.mono (B := w1.heap.size) (by with_reducible repeat' (first | assumption | refine below_setRowN ?_ ?_ _ | refine Below.drew ?_ | refine Below.alloc ?_ ?_ _ | exact Below.refl _ _ | omega | (simp <;> omega))) HB1.out.size))).mono ?_); rintro e w7 ⟨v7, rfl, hown7, hb7⟩; obtain ⟨p7, q7, rfl, -, -, hc7⟩ := CellsOff.own hown7 [] (by simp); have hcur7 : Below w1.heap.size w1 w7 := (Below.trans (by with_reducible repeat' (first | assumption | refine below_setRowN ?_ ?_ _ | refine Below.drew ?_ | refine Below.alloc ?_ ?_ _ | exact Below.refl _ _ | omega | (simp <;> omega))) (hb7.mono (by first | (simp; done) | omega | (simp; omega)))); have hcs7 := hcur7.size; have hcs7b := hb7.size; (try simp at hcs7b); have HC7 := Lib.hid hc7; clear hown7 hc7)
              refine hK.out _ _ ?_ (fun hHeld5 => ?_)
              · (try dsimp only); exact HX.out _ (by with_reducible repeat' (first | assumption | refine below_setRowN ?_ ?_ _ | refine Below.drew ?_ | refine Below.alloc ?_ ?_ _ | exact Below.refl _ _ | omega | (simp <;> omega)))
              clear hK K hHeld4
              (try simp only [Act.put, List.setIfInBounds_toArray, List.set_cons_zero, List.set_cons_succ, List.getElem_toArray, List.getElem_cons_zero, List.getElem_cons_succ])
              refine wpAnyH_ready (rs := [5]) (by kernel_rfl) (by simp) ?_
              refine AllReadyH.cons rfl (fun K hK => ?_) ?_
              · (go_simp; go_at_call 43; (with_reducible refine (HBQ.out _ _ _ (HC7.out.below (by with_reducible repeat' (first | assumption | refine below_setRowN ?_ ?_ _ | refine Below.drew ?_ | refine Below.alloc ?_ ?_ _ | exact Below.refl _ _ | omega | (simp <;> omega))))).mono ?_); rintro e w8 ⟨v8, rfl, hown8, hb8⟩; have hlt8 := hown8.lt; obtain ⟨p8, q8, rfl, -, -, -⟩ := CellsOff.own hown8 [] (by simp); have hcur8 : Below w1.heap.size w1 w8 := (Below.trans (by with_reducible repeat' (first | assumption | refine below_setRowN ?_ ?_ _ | refine Below.drew ?_ | refine Below.alloc ?_ ?_ _ | exact Below.refl _ _ | omega | (simp <;> omega))) (hb8.mono (by first | (simp; done) | omega | (simp; omega)))); have hcs8 := hcur8.size; have hcs8b := hb8.size; (try simp at hcs8b hlt8); have HO8 := Lib.hid hown8; have HLT8 := Lib.hid hlt8; clear hown8 hlt8)
                refine hK.out _ _ ?_ (fun hHeld6 => ?_)
                · (try dsimp only); exact HX.out _ (by with_reducible repeat' (first | assumption | refine below_setRowN ?_ ?_ _ | refine Below.drew ?_ | refine Below.alloc ?_ ?_ _ | exact Below.refl _ _ | omega | (simp <;> omega)))
                clear hK K hHeld5
                (try simp only [Act.put, List.setIfInBounds_toArray, List.set_cons_zero, List.set_cons_succ, List.getElem_toArray, List.getElem_cons_zero, List.getElem_cons_succ])
                refine wpAnyH_ready (rs := [8]) (by kernel_rfl) (by simp) ?_
                refine AllReadyH.cons rfl (fun K hK => ?_) ?_
                · (rw [if_pos (by rfl)]; refine wp_store_row 68 _ _ (by rfl) _ _ (by rfl) (by rfl) 68 #[.int .i64 0, .bool false, .slice none 0 0, .string ⟨#[]⟩] (by with_reducible repeat' (first | refine setRow_off ?_ ?_ _ | refine drew_at ?_ | exact alloc_new _ | (refine alloc_at _ _ ?_; (simp; done)) | refine alloc_old ?_ _ | refine Below.at hb5 ?_ ?_ | refine Below.at hb6 ?_ ?_ | refine Below.at hb7 ?_ ?_ | refine Below.at hb8 ?_ ?_ | omega | (simp <;> omega))) (by kernel_rfl) (by rfl) (by first | (simp; done) | simp [Value.oneCell']) ?_)
                  refine hK.out _ _ ?_ (fun hHeld7 => ?_)
                  · (try dsimp only); exact HX.out _ (by with_reducible repeat' (first | assumption | refine below_setRowN ?_ ?_ _ | refine Below.drew ?_ | refine Below.alloc ?_ ?_ _ | exact Below.refl _ _ | omega | (simp <;> omega)))
                  clear hK K hHeld6
                  (try simp only [Act.put, List.setIfInBounds_toArray, List.set_cons_zero, List.set_cons_succ, List.getElem_toArray, List.getElem_cons_zero, List.getElem_cons_succ])
                  refine wpAnyH_ready (rs := [9]) (by kernel_rfl) (by simp) ?_
                  refine AllReadyH.cons rfl (fun K hK => ?_) ?_
                  · (rw [if_pos (by rfl)]; refine wp_store_row 68 _ _ (by rfl) _ _ (by rfl) (by rfl) 68 #[.int .i64 0, .bool false, .slice none 0 0, .string ⟨#[]⟩] (by with_reducible repeat' (first | refine setRow_off ?_ ?_ _ | refine drew_at ?_ | exact alloc_new _ | (refine alloc_at _ _ ?_; (simp; done)) | refine alloc_old ?_ _ | refine Below.at hb5 ?_ ?_ | refine Below.at hb6 ?_ ?_ | refine Below.at hb7 ?_ ?_ | refine Below.at hb8 ?_ ?_ | omega | (simp <;> omega))) (by kernel_rfl) (by rfl) (by first | (simp; done) | simp [Value.oneCell']) ?_)
                    refine hK.out _ _ ?_ (fun hHeld8 => ?_)
                    · (try dsimp only); exact HX.out _ (by with_reducible repeat' (first | assumption | refine below_setRowN ?_ ?_ _ | refine Below.drew ?_ | refine Below.alloc ?_ ?_ _ | exact Below.refl _ _ | omega | (simp <;> omega)))
                    clear hK K hHeld7
                    (try simp only [Act.put, List.setIfInBounds_toArray, List.set_cons_zero, List.set_cons_succ, List.getElem_toArray, List.getElem_cons_zero, List.getElem_cons_succ])
                    refine wpAnyH_done (by kernel_rfl) ?_ _
                    go_wp2
                    go_meet
                    refine ⟨_, _, p6, q6, p8, q8, rfl, rfl, ?_, ?_, ?_, ?_, ?_⟩
                    with_reducible repeat' (first | assumption | refine setRow_at (old := #[.int .i64 0, .bool false, .slice none 0 0, .string ⟨#[]⟩]) ?_ _ | refine setRow_off ?_ ?_ _ | refine drew_at ?_ | exact alloc_new _ | (refine alloc_at _ _ ?_; (simp; done)) | refine alloc_old ?_ _ | refine Below.at hb5 ?_ ?_ | refine Below.at hb6 ?_ ?_ | refine Below.at hb7 ?_ ?_ | refine Below.at hb8 ?_ ?_ | apply cells_own | exact HO6.out | exact HO8.out | apply owns_setRow | apply World.ownsRow.drew | apply World.ownsRow.alloc | apply fun h => owns_aft h hb7 | apply fun h => owns_aft h hb8 | refine below_setRowN ?_ ?_ _ | refine Below.drew ?_ | refine Below.alloc ?_ ?_ _ | (intro k hk; first | (have := HLT6.out k hk; first | omega | (simp <;> omega)) | (have := HLT8.out k hk; first | omega | (simp <;> omega))) | omega | (simp <;> omega))
                  exact AllReadyH.nil
                exact AllReadyH.nil
              exact AllReadyH.nil
            exact AllReadyH.nil
          exact AllReadyH.nil
        refine AllReadyH.cons rfl (fun K hK => ?_) ?_
        · go_simp
          refine hK.out _ _ ?_ (fun hHeld3 => ?_)
          · (try dsimp only); exact HX.out _ (by with_reducible repeat' (first | assumption | refine below_setRowN ?_ ?_ _ | refine Below.drew ?_ | refine Below.alloc ?_ ?_ _ | exact Below.refl _ _ | omega | (simp <;> omega)))
          clear hK K hHeld2
          (try simp only [Act.put, List.setIfInBounds_toArray, List.set_cons_zero, List.set_cons_succ, List.getElem_toArray, List.getElem_cons_zero, List.getElem_cons_succ])
          refine wpAnyH_ready (rs := [2]) (by kernel_rfl) (by simp) ?_
          refine AllReadyH.cons rfl (fun K hK => ?_) ?_
          · (go_simp; go_at_call 43; (with_reducible refine (HBP.out _ _ _ (HC5.out.below (by with_reducible repeat' (first | assumption | refine below_setRowN ?_ ?_ _ | refine Below.drew ?_ | refine Below.alloc ?_ ?_ _ | exact Below.refl _ _ | omega | (simp <;> omega))))).mono ?_); rintro e w6 ⟨v6, rfl, hown6, hb6⟩; have hlt6 := hown6.lt; obtain ⟨p6, q6, rfl, -, -, -⟩ := CellsOff.own hown6 [] (by simp); have hcur6 : Below w1.heap.size w1 w6 := (Below.trans (by with_reducible repeat' (first | assumption | refine below_setRowN ?_ ?_ _ | refine Below.drew ?_ | refine Below.alloc ?_ ?_ _ | exact Below.refl _ _ | omega | (simp <;> omega))) (hb6.mono (by first | (simp; done) | omega | (simp; omega)))); have hcs6 := hcur6.size; have hcs6b := hb6.size; (try simp at hcs6b hlt6); have HO6 := Lib.hid hown6; have HLT6 := Lib.hid hlt6; clear hown6 hlt6)
            refine hK.out _ _ ?_ (fun hHeld4 => ?_)
            · (try dsimp only); exact HX.out _ (by with_reducible repeat' (first | assumption | refine below_setRowN ?_ ?_ _ | refine Below.drew ?_ | refine Below.alloc ?_ ?_ _ | exact Below.refl _ _ | omega | (simp <;> omega)))
            clear hK K hHeld3
            (try simp only [Act.put, List.setIfInBounds_toArray, List.set_cons_zero, List.set_cons_succ, List.getElem_toArray, List.getElem_cons_zero, List.getElem_cons_succ])
            refine wpAnyH_ready (rs := [4]) (by kernel_rfl) (by simp) ?_
            refine AllReadyH.cons rfl (fun K hK => ?_) ?_
            · (go_simp; go_at_call 38; (with_reducible refine (HGQ.out _ (HB1.out.trans (Below.mono (B := w1.heap.size) (by with_reducible repeat' (first | assumption | refine below_setRowN ?_ ?_ _ | refine Below.drew ?_ | refine Below.alloc ?_ ?_ _ | exact Below.refl _ _ | omega | (simp <;> omega))) HB1.out.size))).mono ?_); rintro e w7 ⟨v7, rfl, hown7, hb7⟩; obtain ⟨p7, q7, rfl, -, -, hc7⟩ := CellsOff.own hown7 [] (by simp); have hcur7 : Below w1.heap.size w1 w7 := (Below.trans (by with_reducible repeat' (first | assumption | refine below_setRowN ?_ ?_ _ | refine Below.drew ?_ | refine Below.alloc ?_ ?_ _ | exact Below.refl _ _ | omega | (simp <;> omega))) (hb7.mono (by first | (simp; done) | omega | (simp; omega)))); have hcs7 := hcur7.size; have hcs7b := hb7.size; (try simp at hcs7b); have HC7 := Lib.hid hc7; clear hown7 hc7)
              refine hK.out _ _ ?_ (fun hHeld5 => ?_)
              · (try dsimp only); exact HX.out _ (by with_reducible repeat' (first | assumption | refine below_setRowN ?_ ?_ _ | refine Below.drew ?_ | refine Below.alloc ?_ ?_ _ | exact Below.refl _ _ | omega | (simp <;> omega)))
              clear hK K hHeld4
              (try simp only [Act.put, List.setIfInBounds_toArray, List.set_cons_zero, List.set_cons_succ, List.getElem_toArray, List.getElem_cons_zero, List.getElem_cons_succ])
              refine wpAnyH_ready (rs := [5]) (by kernel_rfl) (by simp) ?_
              refine AllReadyH.cons rfl (fun K hK => ?_) ?_
              · (go_simp; go_at_call 43; (with_reducible refine (HBQ.out _ _ _ (HC7.out.below (by with_reducible repeat' (first | assumption | refine below_setRowN ?_ ?_ _ | refine Below.drew ?_ | refine Below.alloc ?_ ?_ _ | exact Below.refl _ _ | omega | (simp <;> omega))))).mono ?_); rintro e w8 ⟨v8, rfl, hown8, hb8⟩; have hlt8 := hown8.lt; obtain ⟨p8, q8, rfl, -, -, -⟩ := CellsOff.own hown8 [] (by simp); have hcur8 : Below w1.heap.size w1 w8 := (Below.trans (by with_reducible repeat' (first | assumption | refine below_setRowN ?_ ?_ _ | refine Below.drew ?_ | refine Below.alloc ?_ ?_ _ | exact Below.refl _ _ | omega | (simp <;> omega))) (hb8.mono (by first | (simp; done) | omega | (simp; omega)))); have hcs8 := hcur8.size; have hcs8b := hb8.size; (try simp at hcs8b hlt8); have HO8 := Lib.hid hown8; have HLT8 := Lib.hid hlt8; clear hown8 hlt8)
                refine hK.out _ _ ?_ (fun hHeld6 => ?_)
                · (try dsimp only); exact HX.out _ (by with_reducible repeat' (first | assumption | refine below_setRowN ?_ ?_ _ | refine Below.drew ?_ | refine Below.alloc ?_ ?_ _ | exact Below.refl _ _ | omega | (simp <;> omega)))
                clear hK K hHeld5
                (try simp only [Act.put, List.setIfInBounds_toArray, List.set_cons_zero, List.set_cons_succ, List.getElem_toArray, List.getElem_cons_zero, List.getElem_cons_succ])
                refine wpAnyH_ready (rs := [8]) (by kernel_rfl) (by simp) ?_
                refine AllReadyH.cons rfl (fun K hK => ?_) ?_
                · (rw [if_pos (by rfl)]; refine wp_store_row 68 _ _ (by rfl) _ _ (by rfl) (by rfl) 68 #[.int .i64 0, .bool false, .slice none 0 0, .string ⟨#[]⟩] (by with_reducible repeat' (first | refine setRow_off ?_ ?_ _ | refine drew_at ?_ | exact alloc_new _ | (refine alloc_at _ _ ?_; (simp; done)) | refine alloc_old ?_ _ | refine Below.at hb5 ?_ ?_ | refine Below.at hb6 ?_ ?_ | refine Below.at hb7 ?_ ?_ | refine Below.at hb8 ?_ ?_ | omega | (simp <;> omega))) (by kernel_rfl) (by rfl) (by first | (simp; done) | simp [Value.oneCell']) ?_)
                  refine hK.out _ _ ?_ (fun hHeld7 => ?_)
                  · (try dsimp only); exact HX.out _ (by with_reducible repeat' (first | assumption | refine below_setRowN ?_ ?_ _ | refine Below.drew ?_ | refine Below.alloc ?_ ?_ _ | exact Below.refl _ _ | omega | (simp <;> omega)))
                  clear hK K hHeld6
                  (try simp only [Act.put, List.setIfInBounds_toArray, List.set_cons_zero, List.set_cons_succ, List.getElem_toArray, List.getElem_cons_zero, List.getElem_cons_succ])
                  refine wpAnyH_ready (rs := [9]) (by kernel_rfl) (by simp) ?_
                  refine AllReadyH.cons rfl (fun K hK => ?_) ?_
                  · (rw [if_pos (by rfl)]; refine wp_store_row 68 _ _ (by rfl) _ _ (by rfl) (by rfl) 68 #[.int .i64 0, .bool false, .slice none 0 0, .string ⟨#[]⟩] (by with_reducible repeat' (first | refine setRow_off ?_ ?_ _ | refine drew_at ?_ | exact alloc_new _ | (refine alloc_at _ _ ?_; (simp; done)) | refine alloc_old ?_ _ | refine Below.at hb5 ?_ ?_ | refine Below.at hb6 ?_ ?_ | refine Below.at hb7 ?_ ?_ | refine Below.at hb8 ?_ ?_ | omega | (simp <;> omega))) (by kernel_rfl) (by rfl) (by first | (simp; done) | simp [Value.oneCell']) ?_)
                    refine hK.out _ _ ?_ (fun hHeld8 => ?_)
                    · (try dsimp only); exact HX.out _ (by with_reducible repeat' (first | assumption | refine below_setRowN ?_ ?_ _ | refine Below.drew ?_ | refine Below.alloc ?_ ?_ _ | exact Below.refl _ _ | omega | (simp <;> omega)))
                    clear hK K hHeld7
                    (try simp only [Act.put, List.setIfInBounds_toArray, List.set_cons_zero, List.set_cons_succ, List.getElem_toArray, List.getElem_cons_zero, List.getElem_cons_succ])
                    refine wpAnyH_done (by kernel_rfl) ?_ _
                    go_wp2
                    go_meet
                    refine ⟨_, _, p6, q6, p8, q8, rfl, rfl, ?_, ?_, ?_, ?_, ?_⟩
                    with_reducible repeat' (first | assumption | refine setRow_at (old := #[.int .i64 0, .bool false, .slice none 0 0, .string ⟨#[]⟩]) ?_ _ | refine setRow_off ?_ ?_ _ | refine drew_at ?_ | exact alloc_new _ | (refine alloc_at _ _ ?_; (simp; done)) | refine alloc_old ?_ _ | refine Below.at hb5 ?_ ?_ | refine Below.at hb6 ?_ ?_ | refine Below.at hb7 ?_ ?_ | refine Below.at hb8 ?_ ?_ | apply cells_own | exact HO6.out | exact HO8.out | apply owns_setRow | apply World.ownsRow.drew | apply World.ownsRow.alloc | apply fun h => owns_aft h hb7 | apply fun h => owns_aft h hb8 | refine below_setRowN ?_ ?_ _ | refine Below.drew ?_ | refine Below.alloc ?_ ?_ _ | (intro k hk; first | (have := HLT6.out k hk; first | omega | (simp <;> omega)) | (have := HLT8.out k hk; first | omega | (simp <;> omega))) | omega | (simp <;> omega))
                  exact AllReadyH.nil
                exact AllReadyH.nil
              exact AllReadyH.nil
            exact AllReadyH.nil
          exact AllReadyH.nil
        exact AllReadyH.nil
      refine AllReadyH.cons rfl (fun K hK => ?_) ?_
      · go_simp
        refine hK.out _ _ ?_ (fun hHeld2 => ?_)
        · (try dsimp only); exact HX.out _ (by with_reducible repeat' (first | assumption | refine below_setRowN ?_ ?_ _ | refine Below.drew ?_ | refine Below.alloc ?_ ?_ _ | exact Below.refl _ _ | omega | (simp <;> omega)))
        clear hK K hHeld1
        (try simp only [Act.put, List.setIfInBounds_toArray, List.set_cons_zero, List.set_cons_succ, List.getElem_toArray, List.getElem_cons_zero, List.getElem_cons_succ])
        refine wpAnyH_ready (rs := [2, 6]) (by kernel_rfl) (by simp) ?_
        refine AllReadyH.cons rfl (fun K hK => ?_) ?_
        · (go_simp; go_at_call 43; (with_reducible refine (HBP.out _ _ _ (HC5.out.below (by with_reducible repeat' (first | assumption | refine below_setRowN ?_ ?_ _ | refine Below.drew ?_ | refine Below.alloc ?_ ?_ _ | exact Below.refl _ _ | omega | (simp <;> omega))))).mono ?_); rintro e w6 ⟨v6, rfl, hown6, hb6⟩; have hlt6 := hown6.lt; obtain ⟨p6, q6, rfl, -, -, -⟩ := CellsOff.own hown6 [] (by simp); have hcur6 : Below w1.heap.size w1 w6 := (Below.trans (by with_reducible repeat' (first | assumption | refine below_setRowN ?_ ?_ _ | refine Below.drew ?_ | refine Below.alloc ?_ ?_ _ | exact Below.refl _ _ | omega | (simp <;> omega))) (hb6.mono (by first | (simp; done) | omega | (simp; omega)))); have hcs6 := hcur6.size; have hcs6b := hb6.size; (try simp at hcs6b hlt6); have HO6 := Lib.hid hown6; have HLT6 := Lib.hid hlt6; clear hown6 hlt6)
          refine hK.out _ _ ?_ (fun hHeld3 => ?_)
          · (try dsimp only); exact HX.out _ (by with_reducible repeat' (first | assumption | refine below_setRowN ?_ ?_ _ | refine Below.drew ?_ | refine Below.alloc ?_ ?_ _ | exact Below.refl _ _ | omega | (simp <;> omega)))
          clear hK K hHeld2
          (try simp only [Act.put, List.setIfInBounds_toArray, List.set_cons_zero, List.set_cons_succ, List.getElem_toArray, List.getElem_cons_zero, List.getElem_cons_succ])
          refine wpAnyH_ready (rs := [4, 6]) (by kernel_rfl) (by simp) ?_
          refine AllReadyH.cons rfl (fun K hK => ?_) ?_
          · (go_simp; go_at_call 38; (with_reducible refine (HGQ.out _ (HB1.out.trans (Below.mono (B := w1.heap.size) (by with_reducible repeat' (first | assumption | refine below_setRowN ?_ ?_ _ | refine Below.drew ?_ | refine Below.alloc ?_ ?_ _ | exact Below.refl _ _ | omega | (simp <;> omega))) HB1.out.size))).mono ?_); rintro e w7 ⟨v7, rfl, hown7, hb7⟩; obtain ⟨p7, q7, rfl, -, -, hc7⟩ := CellsOff.own hown7 [] (by simp); have hcur7 : Below w1.heap.size w1 w7 := (Below.trans (by with_reducible repeat' (first | assumption | refine below_setRowN ?_ ?_ _ | refine Below.drew ?_ | refine Below.alloc ?_ ?_ _ | exact Below.refl _ _ | omega | (simp <;> omega))) (hb7.mono (by first | (simp; done) | omega | (simp; omega)))); have hcs7 := hcur7.size; have hcs7b := hb7.size; (try simp at hcs7b); have HC7 := Lib.hid hc7; clear hown7 hc7)
            refine hK.out _ _ ?_ (fun hHeld4 => ?_)
            · (try dsimp only); exact HX.out _ (by with_reducible repeat' (first | assumption | refine below_setRowN ?_ ?_ _ | refine Below.drew ?_ | refine Below.alloc ?_ ?_ _ | exact Below.refl _ _ | omega | (simp <;> omega)))
            clear hK K hHeld3
            (try simp only [Act.put, List.setIfInBounds_toArray, List.set_cons_zero, List.set_cons_succ, List.getElem_toArray, List.getElem_cons_zero, List.getElem_cons_succ])
            refine wpAnyH_ready (rs := [5, 6]) (by kernel_rfl) (by simp) ?_
            refine AllReadyH.cons rfl (fun K hK => ?_) ?_
            · (go_simp; go_at_call 43; (with_reducible refine (HBQ.out _ _ _ (HC7.out.below (by with_reducible repeat' (first | assumption | refine below_setRowN ?_ ?_ _ | refine Below.drew ?_ | refine Below.alloc ?_ ?_ _ | exact Below.refl _ _ | omega | (simp <;> omega))))).mono ?_); rintro e w8 ⟨v8, rfl, hown8, hb8⟩; have hlt8 := hown8.lt; obtain ⟨p8, q8, rfl, -, -, -⟩ := CellsOff.own hown8 [] (by simp); have hcur8 : Below w1.heap.size w1 w8 := (Below.trans (by with_reducible repeat' (first | assumption | refine below_setRowN ?_ ?_ _ | refine Below.drew ?_ | refine Below.alloc ?_ ?_ _ | exact Below.refl _ _ | omega | (simp <;> omega))) (hb8.mono (by first | (simp; done) | omega | (simp; omega)))); have hcs8 := hcur8.size; have hcs8b := hb8.size; (try simp at hcs8b hlt8); have HO8 := Lib.hid hown8; have HLT8 := Lib.hid hlt8; clear hown8 hlt8)
              refine hK.out _ _ ?_ (fun hHeld5 => ?_)
              · (try dsimp only); exact HX.out _ (by with_reducible repeat' (first | assumption | refine below_setRowN ?_ ?_ _ | refine Below.drew ?_ | refine Below.alloc ?_ ?_ _ | exact Below.refl _ _ | omega | (simp <;> omega)))
              clear hK K hHeld4
              (try simp only [Act.put, List.setIfInBounds_toArray, List.set_cons_zero, List.set_cons_succ, List.getElem_toArray, List.getElem_cons_zero, List.getElem_cons_succ])
              refine wpAnyH_ready (rs := [6]) (by kernel_rfl) (by simp) ?_
              refine AllReadyH.cons rfl (fun K hK => ?_) ?_
              · go_simp
                refine hK.out _ _ ?_ (fun hHeld6 => ?_)
                · (try dsimp only); exact HX.out _ (by with_reducible repeat' (first | assumption | refine below_setRowN ?_ ?_ _ | refine Below.drew ?_ | refine Below.alloc ?_ ?_ _ | exact Below.refl _ _ | omega | (simp <;> omega)))
                clear hK K hHeld5
                (try simp only [Act.put, List.setIfInBounds_toArray, List.set_cons_zero, List.set_cons_succ, List.getElem_toArray, List.getElem_cons_zero, List.getElem_cons_succ])
                refine wpAnyH_ready (rs := [8]) (by kernel_rfl) (by simp) ?_
                refine AllReadyH.cons rfl (fun K hK => ?_) ?_
                · (rw [if_pos (by rfl)]; refine wp_store_row 68 _ _ (by rfl) _ _ (by rfl) (by rfl) 68 #[.int .i64 0, .bool false, .slice none 0 0, .string ⟨#[]⟩] (by with_reducible repeat' (first | refine setRow_off ?_ ?_ _ | refine drew_at ?_ | exact alloc_new _ | (refine alloc_at _ _ ?_; (simp; done)) | refine alloc_old ?_ _ | refine Below.at hb5 ?_ ?_ | refine Below.at hb6 ?_ ?_ | refine Below.at hb7 ?_ ?_ | refine Below.at hb8 ?_ ?_ | omega | (simp <;> omega))) (by kernel_rfl) (by rfl) (by first | (simp; done) | simp [Value.oneCell']) ?_)
                  refine hK.out _ _ ?_ (fun hHeld7 => ?_)
                  · (try dsimp only); exact HX.out _ (by with_reducible repeat' (first | assumption | refine below_setRowN ?_ ?_ _ | refine Below.drew ?_ | refine Below.alloc ?_ ?_ _ | exact Below.refl _ _ | omega | (simp <;> omega)))
                  clear hK K hHeld6
                  (try simp only [Act.put, List.setIfInBounds_toArray, List.set_cons_zero, List.set_cons_succ, List.getElem_toArray, List.getElem_cons_zero, List.getElem_cons_succ])
                  refine wpAnyH_ready (rs := [9]) (by kernel_rfl) (by simp) ?_
                  refine AllReadyH.cons rfl (fun K hK => ?_) ?_
                  · (rw [if_pos (by rfl)]; refine wp_store_row 68 _ _ (by rfl) _ _ (by rfl) (by rfl) 68 #[.int .i64 0, .bool false, .slice none 0 0, .string ⟨#[]⟩] (by with_reducible repeat' (first | refine setRow_off ?_ ?_ _ | refine drew_at ?_ | exact alloc_new _ | (refine alloc_at _ _ ?_; (simp; done)) | refine alloc_old ?_ _ | refine Below.at hb5 ?_ ?_ | refine Below.at hb6 ?_ ?_ | refine Below.at hb7 ?_ ?_ | refine Below.at hb8 ?_ ?_ | omega | (simp <;> omega))) (by kernel_rfl) (by rfl) (by first | (simp; done) | simp [Value.oneCell']) ?_)
                    refine hK.out _ _ ?_ (fun hHeld8 => ?_)
                    · (try dsimp only); exact HX.out _ (by with_reducible repeat' (first | assumption | refine below_setRowN ?_ ?_ _ | refine Below.drew ?_ | refine Below.alloc ?_ ?_ _ | exact Below.refl _ _ | omega | (simp <;> omega)))
                    clear hK K hHeld7
                    (try simp only [Act.put, List.setIfInBounds_toArray, List.set_cons_zero, List.set_cons_succ, List.getElem_toArray, List.getElem_cons_zero, List.getElem_cons_succ])
                    refine wpAnyH_done (by kernel_rfl) ?_ _
                    go_wp2
                    go_meet
                    refine ⟨_, _, p6, q6, p8, q8, rfl, rfl, ?_, ?_, ?_, ?_, ?_⟩
                    with_reducible repeat' (first | assumption | refine setRow_at (old := #[.int .i64 0, .bool false, .slice none 0 0, .string ⟨#[]⟩]) ?_ _ | refine setRow_off ?_ ?_ _ | refine drew_at ?_ | exact alloc_new _ | (refine alloc_at _ _ ?_; (simp; done)) | refine alloc_old ?_ _ | refine Below.at hb5 ?_ ?_ | refine Below.at hb6 ?_ ?_ | refine Below.at hb7 ?_ ?_ | refine Below.at hb8 ?_ ?_ | apply cells_own | exact HO6.out | exact HO8.out | apply owns_setRow | apply World.ownsRow.drew | apply World.ownsRow.alloc | apply fun h => owns_aft h hb7 | apply fun h => owns_aft h hb8 | refine below_setRowN ?_ ?_ _ | refine Below.drew ?_ | refine Below.alloc ?_ ?_ _ | (intro k hk; first | (have := HLT6.out k hk; first | omega | (simp <;> omega)) | (have := HLT8.out k hk; first | omega | (simp <;> omega))) | omega | (simp <;> omega))
                  exact AllReadyH.nil
                exact AllReadyH.nil
              exact AllReadyH.nil
            refine AllReadyH.cons rfl (fun K hK => ?_) ?_
            · go_simp
              refine hK.out _ _ ?_ (fun hHeld5 => ?_)
              · (try dsimp only); exact HX.out _ (by with_reducible repeat' (first | assumption | refine below_setRowN ?_ ?_ _ | refine Below.drew ?_ | refine Below.alloc ?_ ?_ _ | exact Below.refl _ _ | omega | (simp <;> omega)))
              clear hK K hHeld4
              (try simp only [Act.put, List.setIfInBounds_toArray, List.set_cons_zero, List.set_cons_succ, List.getElem_toArray, List.getElem_cons_zero, List.getElem_cons_succ])
              refine wpAnyH_ready (rs := [5]) (by kernel_rfl) (by simp) ?_
              refine AllReadyH.cons rfl (fun K hK => ?_) ?_
              · (go_simp; go_at_call 43; (with_reducible refine (HBQ.out _ _ _ (HC7.out.below (by with_reducible repeat' (first | assumption | refine below_setRowN ?_ ?_ _ | refine Below.drew ?_ | refine Below.alloc ?_ ?_ _ | exact Below.refl _ _ | omega | (simp <;> omega))))).mono ?_); rintro e w8 ⟨v8, rfl, hown8, hb8⟩; have hlt8 := hown8.lt; obtain ⟨p8, q8, rfl, -, -, -⟩ := CellsOff.own hown8 [] (by simp); have hcur8 : Below w1.heap.size w1 w8 := (Below.trans (by with_reducible repeat' (first | assumption | refine below_setRowN ?_ ?_ _ | refine Below.drew ?_ | refine Below.alloc ?_ ?_ _ | exact Below.refl _ _ | omega | (simp <;> omega))) (hb8.mono (by first | (simp; done) | omega | (simp; omega)))); have hcs8 := hcur8.size; have hcs8b := hb8.size; (try simp at hcs8b hlt8); have HO8 := Lib.hid hown8; have HLT8 := Lib.hid hlt8; clear hown8 hlt8)
                refine hK.out _ _ ?_ (fun hHeld6 => ?_)
                · (try dsimp only); exact HX.out _ (by with_reducible repeat' (first | assumption | refine below_setRowN ?_ ?_ _ | refine Below.drew ?_ | refine Below.alloc ?_ ?_ _ | exact Below.refl _ _ | omega | (simp <;> omega)))
                clear hK K hHeld5
                (try simp only [Act.put, List.setIfInBounds_toArray, List.set_cons_zero, List.set_cons_succ, List.getElem_toArray, List.getElem_cons_zero, List.getElem_cons_succ])
                refine wpAnyH_ready (rs := [8]) (by kernel_rfl) (by simp) ?_
                refine AllReadyH.cons rfl (fun K hK => ?_) ?_
                · (rw [if_pos (by rfl)]; refine wp_store_row 68 _ _ (by rfl) _ _ (by rfl) (by rfl) 68 #[.int .i64 0, .bool false, .slice none 0 0, .string ⟨#[]⟩] (by with_reducible repeat' (first | refine setRow_off ?_ ?_ _ | refine drew_at ?_ | exact alloc_new _ | (refine alloc_at _ _ ?_; (simp; done)) | refine alloc_old ?_ _ | refine Below.at hb5 ?_ ?_ | refine Below.at hb6 ?_ ?_ | refine Below.at hb7 ?_ ?_ | refine Below.at hb8 ?_ ?_ | omega | (simp <;> omega))) (by kernel_rfl) (by rfl) (by first | (simp; done) | simp [Value.oneCell']) ?_)
                  refine hK.out _ _ ?_ (fun hHeld7 => ?_)
                  · (try dsimp only); exact HX.out _ (by with_reducible repeat' (first | assumption | refine below_setRowN ?_ ?_ _ | refine Below.drew ?_ | refine Below.alloc ?_ ?_ _ | exact Below.refl _ _ | omega | (simp <;> omega)))
                  clear hK K hHeld6
                  (try simp only [Act.put, List.setIfInBounds_toArray, List.set_cons_zero, List.set_cons_succ, List.getElem_toArray, List.getElem_cons_zero, List.getElem_cons_succ])
                  refine wpAnyH_ready (rs := [9]) (by kernel_rfl) (by simp) ?_
                  refine AllReadyH.cons rfl (fun K hK => ?_) ?_
                  · (rw [if_pos (by rfl)]; refine wp_store_row 68 _ _ (by rfl) _ _ (by rfl) (by rfl) 68 #[.int .i64 0, .bool false, .slice none 0 0, .string ⟨#[]⟩] (by with_reducible repeat' (first | refine setRow_off ?_ ?_ _ | refine drew_at ?_ | exact alloc_new _ | (refine alloc_at _ _ ?_; (simp; done)) | refine alloc_old ?_ _ | refine Below.at hb5 ?_ ?_ | refine Below.at hb6 ?_ ?_ | refine Below.at hb7 ?_ ?_ | refine Below.at hb8 ?_ ?_ | omega | (simp <;> omega))) (by kernel_rfl) (by rfl) (by first | (simp; done) | simp [Value.oneCell']) ?_)
                    refine hK.out _ _ ?_ (fun hHeld8 => ?_)
                    · (try dsimp only); exact HX.out _ (by with_reducible repeat' (first | assumption | refine below_setRowN ?_ ?_ _ | refine Below.drew ?_ | refine Below.alloc ?_ ?_ _ | exact Below.refl _ _ | omega | (simp <;> omega)))
                    clear hK K hHeld7
                    (try simp only [Act.put, List.setIfInBounds_toArray, List.set_cons_zero, List.set_cons_succ, List.getElem_toArray, List.getElem_cons_zero, List.getElem_cons_succ])
                    refine wpAnyH_done (by kernel_rfl) ?_ _
                    go_wp2
                    go_meet
                    refine ⟨_, _, p6, q6, p8, q8, rfl, rfl, ?_, ?_, ?_, ?_, ?_⟩
                    with_reducible repeat' (first | assumption | refine setRow_at (old := #[.int .i64 0, .bool false, .slice none 0 0, .string ⟨#[]⟩]) ?_ _ | refine setRow_off ?_ ?_ _ | refine drew_at ?_ | exact alloc_new _ | (refine alloc_at _ _ ?_; (simp; done)) | refine alloc_old ?_ _ | refine Below.at hb5 ?_ ?_ | refine Below.at hb6 ?_ ?_ | refine Below.at hb7 ?_ ?_ | refine Below.at hb8 ?_ ?_ | apply cells_own | exact HO6.out | exact HO8.out | apply owns_setRow | apply World.ownsRow.drew | apply World.ownsRow.alloc | apply fun h => owns_aft h hb7 | apply fun h => owns_aft h hb8 | refine below_setRowN ?_ ?_ _ | refine Below.drew ?_ | refine Below.alloc ?_ ?_ _ | (intro k hk; first | (have := HLT6.out k hk; first | omega | (simp <;> omega)) | (have := HLT8.out k hk; first | omega | (simp <;> omega))) | omega | (simp <;> omega))
                  exact AllReadyH.nil
                exact AllReadyH.nil
              exact AllReadyH.nil
            exact AllReadyH.nil
          refine AllReadyH.cons rfl (fun K hK => ?_) ?_
          · go_simp
            refine hK.out _ _ ?_ (fun hHeld4 => ?_)
            · (try dsimp only); exact HX.out _ (by with_reducible repeat' (first | assumption | refine below_setRowN ?_ ?_ _ | refine Below.drew ?_ | refine Below.alloc ?_ ?_ _ | exact Below.refl _ _ | omega | (simp <;> omega)))
            clear hK K hHeld3
            (try simp only [Act.put, List.setIfInBounds_toArray, List.set_cons_zero, List.set_cons_succ, List.getElem_toArray, List.getElem_cons_zero, List.getElem_cons_succ])
            refine wpAnyH_ready (rs := [4]) (by kernel_rfl) (by simp) ?_
            refine AllReadyH.cons rfl (fun K hK => ?_) ?_
            · (go_simp; go_at_call 38; (with_reducible refine (HGQ.out _ (HB1.out.trans (Below.mono (B := w1.heap.size) (by with_reducible repeat' (first | assumption | refine below_setRowN ?_ ?_ _ | refine Below.drew ?_ | refine Below.alloc ?_ ?_ _ | exact Below.refl _ _ | omega | (simp <;> omega))) HB1.out.size))).mono ?_); rintro e w7 ⟨v7, rfl, hown7, hb7⟩; obtain ⟨p7, q7, rfl, -, -, hc7⟩ := CellsOff.own hown7 [] (by simp); have hcur7 : Below w1.heap.size w1 w7 := (Below.trans (by with_reducible repeat' (first | assumption | refine below_setRowN ?_ ?_ _ | refine Below.drew ?_ | refine Below.alloc ?_ ?_ _ | exact Below.refl _ _ | omega | (simp <;> omega))) (hb7.mono (by first | (simp; done) | omega | (simp; omega)))); have hcs7 := hcur7.size; have hcs7b := hb7.size; (try simp at hcs7b); have HC7 := Lib.hid hc7; clear hown7 hc7)
              refine hK.out _ _ ?_ (fun hHeld5 => ?_)
              · (try dsimp only); exact HX.out _ (by with_reducible repeat' (first | assumption | refine below_setRowN ?_ ?_ _ | refine Below.drew ?_ | refine Below.alloc ?_ ?_ _ | exact Below.refl _ _ | omega | (simp <;> omega)))
              clear hK K hHeld4
              (try simp only [Act.put, List.setIfInBounds_toArray, List.set_cons_zero, List.set_cons_succ, List.getElem_toArray, List.getElem_cons_zero, List.getElem_cons_succ])
              refine wpAnyH_ready (rs := [5]) (by kernel_rfl) (by simp) ?_
              refine AllReadyH.cons rfl (fun K hK => ?_) ?_
              · (go_simp; go_at_call 43; (with_reducible refine (HBQ.out _ _ _ (HC7.out.below (by with_reducible repeat' (first | assumption | refine below_setRowN ?_ ?_ _ | refine Below.drew ?_ | refine Below.alloc ?_ ?_ _ | exact Below.refl _ _ | omega | (simp <;> omega))))).mono ?_); rintro e w8 ⟨v8, rfl, hown8, hb8⟩; have hlt8 := hown8.lt; obtain ⟨p8, q8, rfl, -, -, -⟩ := CellsOff.own hown8 [] (by simp); have hcur8 : Below w1.heap.size w1 w8 := (Below.trans (by with_reducible repeat' (first | assumption | refine below_setRowN ?_ ?_ _ | refine Below.drew ?_ | refine Below.alloc ?_ ?_ _ | exact Below.refl _ _ | omega | (simp <;> omega))) (hb8.mono (by first | (simp; done) | omega | (simp; omega)))); have hcs8 := hcur8.size; have hcs8b := hb8.size; (try simp at hcs8b hlt8); have HO8 := Lib.hid hown8; have HLT8 := Lib.hid hlt8; clear hown8 hlt8)
                refine hK.out _ _ ?_ (fun hHeld6 => ?_)
                · (try dsimp only); exact HX.out _ (by with_reducible repeat' (first | assumption | refine below_setRowN ?_ ?_ _ | refine Below.drew ?_ | refine Below.alloc ?_ ?_ _ | exact Below.refl _ _ | omega | (simp <;> omega)))
                clear hK K hHeld5
                (try simp only [Act.put, List.setIfInBounds_toArray, List.set_cons_zero, List.set_cons_succ, List.getElem_toArray, List.getElem_cons_zero, List.getElem_cons_succ])
                refine wpAnyH_ready (rs := [8]) (by kernel_rfl) (by simp) ?_
                refine AllReadyH.cons rfl (fun K hK => ?_) ?_
                · (rw [if_pos (by rfl)]; refine wp_store_row 68 _ _ (by rfl) _ _ (by rfl) (by rfl) 68 #[.int .i64 0, .bool false, .slice none 0 0, .string ⟨#[]⟩] (by with_reducible repeat' (first | refine setRow_off ?_ ?_ _ | refine drew_at ?_ | exact alloc_new _ | (refine alloc_at _ _ ?_; (simp; done)) | refine alloc_old ?_ _ | refine Below.at hb5 ?_ ?_ | refine Below.at hb6 ?_ ?_ | refine Below.at hb7 ?_ ?_ | refine Below.at hb8 ?_ ?_ | omega | (simp <;> omega))) (by kernel_rfl) (by rfl) (by first | (simp; done) | simp [Value.oneCell']) ?_)
                  refine hK.out _ _ ?_ (fun hHeld7 => ?_)
                  · (try dsimp only); exact HX.out _ (by with_reducible repeat' (first | assumption | refine below_setRowN ?_ ?_ _ | refine Below.drew ?_ | refine Below.alloc ?_ ?_ _ | exact Below.refl _ _ | omega | (simp <;> omega)))
                  clear hK K hHeld6
                  (try simp only [Act.put, List.setIfInBounds_toArray, List.set_cons_zero, List.set_cons_succ, List.getElem_toArray, List.getElem_cons_zero, List.getElem_cons_succ])
                  refine wpAnyH_ready (rs := [9]) (by kernel_rfl) (by simp) ?_
                  refine AllReadyH.cons rfl (fun K hK => ?_) ?_
                  · (rw [if_pos (by rfl)]; refine wp_store_row 68 _ _ (by rfl) _ _ (by rfl) (by rfl) 68 #[.int .i64 0, .bool false, .slice none 0 0, .string ⟨#[]⟩] (by with_reducible repeat' (first | refine setRow_off ?_ ?_ _ | refine drew_at ?_ | exact alloc_new _ | (refine alloc_at _ _ ?_; (simp; done)) | refine alloc_old ?_ _ | refine Below.at hb5 ?_ ?_ | refine Below.at hb6 ?_ ?_ | refine Below.at hb7 ?_ ?_ | refine Below.at hb8 ?_ ?_ | omega | (simp <;> omega))) (by kernel_rfl) (by rfl) (by first | (simp; done) | simp [Value.oneCell']) ?_)
                    refine hK.out _ _ ?_ (fun hHeld8 => ?_)
                    · (try dsimp only); exact HX.out _ (by with_reducible repeat' (first | assumption | refine below_setRowN ?_ ?_ _ | refine Below.drew ?_ | refine Below.alloc ?_ ?_ _ | exact Below.refl _ _ | omega | (simp <;> omega)))
                    clear hK K hHeld7
                    (try simp only [Act.put, List.setIfInBounds_toArray, List.set_cons_zero, List.set_cons_succ, List.getElem_toArray, List.getElem_cons_zero, List.getElem_cons_succ])
                    refine wpAnyH_done (by kernel_rfl) ?_ _
                    go_wp2
                    go_meet
                    refine ⟨_, _, p6, q6, p8, q8, rfl, rfl, ?_, ?_, ?_, ?_, ?_⟩
                    with_reducible repeat' (first | assumption | refine setRow_at (old := #[.int .i64 0, .bool false, .slice none 0 0, .string ⟨#[]⟩]) ?_ _ | refine setRow_off ?_ ?_ _ | refine drew_at ?_ | exact alloc_new _ | (refine alloc_at _ _ ?_; (simp; done)) | refine alloc_old ?_ _ | refine Below.at hb5 ?_ ?_ | refine Below.at hb6 ?_ ?_ | refine Below.at hb7 ?_ ?_ | refine Below.at hb8 ?_ ?_ | apply cells_own | exact HO6.out | exact HO8.out | apply owns_setRow | apply World.ownsRow.drew | apply World.ownsRow.alloc | apply fun h => owns_aft h hb7 | apply fun h => owns_aft h hb8 | refine below_setRowN ?_ ?_ _ | refine Below.drew ?_ | refine Below.alloc ?_ ?_ _ | (intro k hk; first | (have := HLT6.out k hk; first | omega | (simp <;> omega)) | (have := HLT8.out k hk; first | omega | (simp <;> omega))) | omega | (simp <;> omega))
                  exact AllReadyH.nil
                exact AllReadyH.nil
              exact AllReadyH.nil
            exact AllReadyH.nil
          exact AllReadyH.nil
        refine AllReadyH.cons rfl (fun K hK => ?_) ?_
        · go_simp
          refine hK.out _ _ ?_ (fun hHeld3 => ?_)
          · (try dsimp only); exact HX.out _ (by with_reducible repeat' (first | assumption | refine below_setRowN ?_ ?_ _ | refine Below.drew ?_ | refine Below.alloc ?_ ?_ _ | exact Below.refl _ _ | omega | (simp <;> omega)))
          clear hK K hHeld2
          (try simp only [Act.put, List.setIfInBounds_toArray, List.set_cons_zero, List.set_cons_succ, List.getElem_toArray, List.getElem_cons_zero, List.getElem_cons_succ])
          refine wpAnyH_ready (rs := [2]) (by kernel_rfl) (by simp) ?_
          refine AllReadyH.cons rfl (fun K hK => ?_) ?_
          · (go_simp; go_at_call 43; (with_reducible refine (HBP.out _ _ _ (HC5.out.below (by with_reducible repeat' (first | assumption | refine below_setRowN ?_ ?_ _ | refine Below.drew ?_ | refine Below.alloc ?_ ?_ _ | exact Below.refl _ _ | omega | (simp <;> omega))))).mono ?_); rintro e w6 ⟨v6, rfl, hown6, hb6⟩; have hlt6 := hown6.lt; obtain ⟨p6, q6, rfl, -, -, -⟩ := CellsOff.own hown6 [] (by simp); have hcur6 : Below w1.heap.size w1 w6 := (Below.trans (by with_reducible repeat' (first | assumption | refine below_setRowN ?_ ?_ _ | refine Below.drew ?_ | refine Below.alloc ?_ ?_ _ | exact Below.refl _ _ | omega | (simp <;> omega))) (hb6.mono (by first | (simp; done) | omega | (simp; omega)))); have hcs6 := hcur6.size; have hcs6b := hb6.size; (try simp at hcs6b hlt6); have HO6 := Lib.hid hown6; have HLT6 := Lib.hid hlt6; clear hown6 hlt6)
            refine hK.out _ _ ?_ (fun hHeld4 => ?_)
            · (try dsimp only); exact HX.out _ (by with_reducible repeat' (first | assumption | refine below_setRowN ?_ ?_ _ | refine Below.drew ?_ | refine Below.alloc ?_ ?_ _ | exact Below.refl _ _ | omega | (simp <;> omega)))
            clear hK K hHeld3
            (try simp only [Act.put, List.setIfInBounds_toArray, List.set_cons_zero, List.set_cons_succ, List.getElem_toArray, List.getElem_cons_zero, List.getElem_cons_succ])
            refine wpAnyH_ready (rs := [4]) (by kernel_rfl) (by simp) ?_
            refine AllReadyH.cons rfl (fun K hK => ?_) ?_
            · (go_simp; go_at_call 38; (with_reducible refine (HGQ.out _ (HB1.out.trans (Below.mono (B := w1.heap.size) (by with_reducible repeat' (first | assumption | refine below_setRowN ?_ ?_ _ | refine Below.drew ?_ | refine Below.alloc ?_ ?_ _ | exact Below.refl _ _ | omega | (simp <;> omega))) HB1.out.size))).mono ?_); rintro e w7 ⟨v7, rfl, hown7, hb7⟩; obtain ⟨p7, q7, rfl, -, -, hc7⟩ := CellsOff.own hown7 [] (by simp); have hcur7 : Below w1.heap.size w1 w7 := (Below.trans (by with_reducible repeat' (first | assumption | refine below_setRowN ?_ ?_ _ | refine Below.drew ?_ | refine Below.alloc ?_ ?_ _ | exact Below.refl _ _ | omega | (simp <;> omega))) (hb7.mono (by first | (simp; done) | omega | (simp; omega)))); have hcs7 := hcur7.size; have hcs7b := hb7.size; (try simp at hcs7b); have HC7 := Lib.hid hc7; clear hown7 hc7)
              refine hK.out _ _ ?_ (fun hHeld5 => ?_)
              · (try dsimp only); exact HX.out _ (by with_reducible repeat' (first | assumption | refine below_setRowN ?_ ?_ _ | refine Below.drew ?_ | refine Below.alloc ?_ ?_ _ | exact Below.refl _ _ | omega | (simp <;> omega)))
              clear hK K hHeld4
              (try simp only [Act.put, List.setIfInBounds_toArray, List.set_cons_zero, List.set_cons_succ, List.getElem_toArray, List.getElem_cons_zero, List.getElem_cons_succ])
              refine wpAnyH_ready (rs := [5]) (by kernel_rfl) (by simp) ?_
              refine AllReadyH.cons rfl (fun K hK => ?_) ?_
              · (go_simp; go_at_call 43; (with_reducible refine (HBQ.out _ _ _ (HC7.out.below (by with_reducible repeat' (first | assumption | refine below_setRowN ?_ ?_ _ | refine Below.drew ?_ | refine Below.alloc ?_ ?_ _ | exact Below.refl _ _ | omega | (simp <;> omega))))).mono ?_); rintro e w8 ⟨v8, rfl, hown8, hb8⟩; have hlt8 := hown8.lt; obtain ⟨p8, q8, rfl, -, -, -⟩ := CellsOff.own hown8 [] (by simp); have hcur8 : Below w1.heap.size w1 w8 := (Below.trans (by with_reducible repeat' (first | assumption | refine below_setRowN ?_ ?_ _ | refine Below.drew ?_ | refine Below.alloc ?_ ?_ _ | exact Below.refl _ _ | omega | (simp <;> omega))) (hb8.mono (by first | (simp; done) | omega | (simp; omega)))); have hcs8 := hcur8.size; have hcs8b := hb8.size; (try simp at hcs8b hlt8); have HO8 := Lib.hid hown8; have HLT8 := Lib.hid hlt8; clear hown8 hlt8)
                refine hK.out _ _ ?_ (fun hHeld6 => ?_)
                · (try dsimp only); exact HX.out _ (by with_reducible repeat' (first | assumption | refine below_setRowN ?_ ?_ _ | refine Below.drew ?_ | refine Below.alloc ?_ ?_ _ | exact Below.refl _ _ | omega | (simp <;> omega)))
                clear hK K hHeld5
                (try simp only [Act.put, List.setIfInBounds_toArray, List.set_cons_zero, List.set_cons_succ, List.getElem_toArray, List.getElem_cons_zero, List.getElem_cons_succ])
                refine wpAnyH_ready (rs := [8]) (by kernel_rfl) (by simp) ?_
                refine AllReadyH.cons rfl (fun K hK => ?_) ?_
                · (rw [if_pos (by rfl)]; refine wp_store_row 68 _ _ (by rfl) _ _ (by rfl) (by rfl) 68 #[.int .i64 0, .bool false, .slice none 0 0, .string ⟨#[]⟩] (by with_reducible repeat' (first | refine setRow_off ?_ ?_ _ | refine drew_at ?_ | exact alloc_new _ | (refine alloc_at _ _ ?_; (simp; done)) | refine alloc_old ?_ _ | refine Below.at hb5 ?_ ?_ | refine Below.at hb6 ?_ ?_ | refine Below.at hb7 ?_ ?_ | refine Below.at hb8 ?_ ?_ | omega | (simp <;> omega))) (by kernel_rfl) (by rfl) (by first | (simp; done) | simp [Value.oneCell']) ?_)
                  refine hK.out _ _ ?_ (fun hHeld7 => ?_)
                  · (try dsimp only); exact HX.out _ (by with_reducible repeat' (first | assumption | refine below_setRowN ?_ ?_ _ | refine Below.drew ?_ | refine Below.alloc ?_ ?_ _ | exact Below.refl _ _ | omega | (simp <;> omega)))
                  clear hK K hHeld6
                  (try simp only [Act.put, List.setIfInBounds_toArray, List.set_cons_zero, List.set_cons_succ, List.getElem_toArray, List.getElem_cons_zero, List.getElem_cons_succ])
                  refine wpAnyH_ready (rs := [9]) (by kernel_rfl) (by simp) ?_
                  refine AllReadyH.cons rfl (fun K hK => ?_) ?_
                  · (rw [if_pos (by rfl)]; refine wp_store_row 68 _ _ (by rfl) _ _ (by rfl) (by rfl) 68 #[.int .i64 0, .bool false, .slice none 0 0, .string ⟨#[]⟩] (by with_reducible repeat' (first | refine setRow_off ?_ ?_ _ | refine drew_at ?_ | exact alloc_new _ | (refine alloc_at _ _ ?_; (simp; done)) | refine alloc_old ?_ _ | refine Below.at hb5 ?_ ?_ | refine Below.at hb6 ?_ ?_ | refine Below.at hb7 ?_ ?_ | refine Below.at hb8 ?_ ?_ | omega | (simp <;> omega))) (by kernel_rfl) (by rfl) (by first | (simp; done) | simp [Value.oneCell']) ?_)
                    refine hK.out _ _ ?_ (fun hHeld8 => ?_)
                    · (try dsimp only); exact HX.out _ (by with_reducible repeat' (first | assumption | refine below_setRowN ?_ ?_ _ | refine Below.drew ?_ | refine Below.alloc ?_ ?_ _ | exact Below.refl _ _ | omega | (simp <;> omega)))
                    clear hK K hHeld7
                    (try simp only [Act.put, List.setIfInBounds_toArray, List.set_cons_zero, List.set_cons_succ, List.getElem_toArray, List.getElem_cons_zero, List.getElem_cons_succ])
                    refine wpAnyH_done (by kernel_rfl) ?_ _
                    go_wp2
                    go_meet
                    refine ⟨_, _, p6, q6, p8, q8, rfl, rfl, ?_, ?_, ?_, ?_, ?_⟩
                    with_reducible repeat' (first | assumption | refine setRow_at (old := #[.int .i64 0, .bool false, .slice none 0 0, .string ⟨#[]⟩]) ?_ _ | refine setRow_off ?_ ?_ _ | refine drew_at ?_ | exact alloc_new _ | (refine alloc_at _ _ ?_; (simp; done)) | refine alloc_old ?_ _ | refine Below.at hb5 ?_ ?_ | refine Below.at hb6 ?_ ?_ | refine Below.at hb7 ?_ ?_ | refine Below.at hb8 ?_ ?_ | apply cells_own | exact HO6.out | exact HO8.out | apply owns_setRow | apply World.ownsRow.drew | apply World.ownsRow.alloc | apply fun h => owns_aft h hb7 | apply fun h => owns_aft h hb8 | refine below_setRowN ?_ ?_ _ | refine Below.drew ?_ | refine Below.alloc ?_ ?_ _ | (intro k hk; first | (have := HLT6.out k hk; first | omega | (simp <;> omega)) | (have := HLT8.out k hk; first | omega | (simp <;> omega))) | omega | (simp <;> omega))
                  exact AllReadyH.nil
                exact AllReadyH.nil
              exact AllReadyH.nil
            exact AllReadyH.nil
          exact AllReadyH.nil
        exact AllReadyH.nil
      exact AllReadyH.nil
    refine AllReadyH.cons rfl (fun K hK => ?_) ?_
    · go_simp
      refine hK.out _ _ ?_ (fun hHeld1 => ?_)
      · (try dsimp only); exact HX.out _ (by with_reducible repeat' (first | assumption | refine below_setRowN ?_ ?_ _ | refine Below.drew ?_ | refine Below.alloc ?_ ?_ _ | exact Below.refl _ _ | omega | (simp <;> omega)))
      clear hK K hHeld0
      (try simp only [Act.put, List.setIfInBounds_toArray, List.set_cons_zero, List.set_cons_succ, List.getElem_toArray, List.getElem_cons_zero, List.getElem_cons_succ])
      refine wpAnyH_ready (rs := [1, 7]) (by kernel_rfl) (by simp) ?_
      refine AllReadyH.cons rfl (fun K hK => ?_) ?_
      · (go_simp; go_at_call 38; (with_reducible refine (HGP.out _ (HB1.out.trans (Below.mono (B := w1.heap.size) (by with_reducible repeat' (first | assumption | refine below_setRowN ?_ ?_ _ | refine Below.drew ?_ | refine Below.alloc ?_ ?_ _ | exact Below.refl _ _ | omega | (simp <;> omega))) HB1.out.size))).mono ?_); rintro e w5 ⟨v5, rfl, hown5, hb5⟩; obtain ⟨p5, q5, rfl, -, -, hc5⟩ := CellsOff.own hown5 [] (by simp); have hcur : Below w1.heap.size w1 w5 := (Below.trans (by with_reducible repeat' (first | assumption | refine below_setRowN ?_ ?_ _ | refine Below.drew ?_ | refine Below.alloc ?_ ?_ _ | exact Below.refl _ _ | omega | (simp <;> omega))) (hb5.mono (by first | (simp; done) | omega | (simp; omega)))); have hcs := hcur.size; have hcs5 := hb5.size; (try simp at hcs5); have HC5 := Lib.hid hc5; clear hown5 hc5)
        refine hK.out _ _ ?_ (fun hHeld2 => ?_)
        · (try dsimp only); exact HX.out _ (by with_reducible repeat' (first | assumption | refine below_setRowN ?_ ?_ _ | refine Below.drew ?_ | refine Below.alloc ?_ ?_ _ | exact Below.refl _ _ | omega | (simp <;> omega)))
        clear hK K hHeld1
        (try simp only [Act.put, List.setIfInBounds_toArray, List.set_cons_zero, List.set_cons_succ, List.getElem_toArray, List.getElem_cons_zero, List.getElem_cons_succ])
        refine wpAnyH_ready (rs := [2, 7]) (by kernel_rfl) (by simp) ?_
        refine AllReadyH.cons rfl (fun K hK => ?_) ?_
        · (go_simp; go_at_call 43; (with_reducible refine (HBP.out _ _ _ (HC5.out.below (by with_reducible repeat' (first | assumption | refine below_setRowN ?_ ?_ _ | refine Below.drew ?_ | refine Below.alloc ?_ ?_ _ | exact Below.refl _ _ | omega | (simp <;> omega))))).mono ?_); rintro e w6 ⟨v6, rfl, hown6, hb6⟩; have hlt6 := hown6.lt; obtain ⟨p6, q6, rfl, -, -, -⟩ := CellsOff.own hown6 [] (by simp); have hcur6 : Below w1.heap.size w1 w6 := (Below.trans (by with_reducible repeat' (first | assumption | refine below_setRowN ?_ ?_ _ | refine Below.drew ?_ | refine Below.alloc ?_ ?_ _ | exact Below.refl _ _ | omega | (simp <;> omega))) (hb6.mono (by first | (simp; done) | omega | (simp; omega)))); have hcs6 := hcur6.size; have hcs6b := hb6.size; (try simp at hcs6b hlt6); have HO6 := Lib.hid hown6; have HLT6 := Lib.hid hlt6; clear hown6 hlt6)
          refine hK.out _ _ ?_ (fun hHeld3 => ?_)
          · (try dsimp only); exact HX.out _ (by with_reducible repeat' (first | assumption | refine below_setRowN ?_ ?_ _ | refine Below.drew ?_ | refine Below.alloc ?_ ?_ _ | exact Below.refl _ _ | omega | (simp <;> omega)))
          clear hK K hHeld2
          (try simp only [Act.put, List.setIfInBounds_toArray, List.set_cons_zero, List.set_cons_succ, List.getElem_toArray, List.getElem_cons_zero, List.getElem_cons_succ])
          refine wpAnyH_ready (rs := [4, 7]) (by kernel_rfl) (by simp) ?_
          refine AllReadyH.cons rfl (fun K hK => ?_) ?_
          · (go_simp; go_at_call 38; (with_reducible refine (HGQ.out _ (HB1.out.trans (Below.mono (B := w1.heap.size) (by with_reducible repeat' (first | assumption | refine below_setRowN ?_ ?_ _ | refine Below.drew ?_ | refine Below.alloc ?_ ?_ _ | exact Below.refl _ _ | omega | (simp <;> omega))) HB1.out.size))).mono ?_); rintro e w7 ⟨v7, rfl, hown7, hb7⟩; obtain ⟨p7, q7, rfl, -, -, hc7⟩ := CellsOff.own hown7 [] (by simp); have hcur7 : Below w1.heap.size w1 w7 := (Below.trans (by with_reducible repeat' (first | assumption | refine below_setRowN ?_ ?_ _ | refine Below.drew ?_ | refine Below.alloc ?_ ?_ _ | exact Below.refl _ _ | omega | (simp <;> omega))) (hb7.mono (by first | (simp; done) | omega | (simp; omega)))); have hcs7 := hcur7.size; have hcs7b := hb7.size; (try simp at hcs7b); have HC7 := Lib.hid hc7; clear hown7 hc7)
            refine hK.out _ _ ?_ (fun hHeld4 => ?_)
            · (try dsimp only); exact HX.out _ (by with_reducible repeat' (first | assumption | refine below_setRowN ?_ ?_ _ | refine Below.drew ?_ | refine Below.alloc ?_ ?_ _ | exact Below.refl _ _ | omega | (simp <;> omega)))
            clear hK K hHeld3
            (try simp only [Act.put, List.setIfInBounds_toArray, List.set_cons_zero, List.set_cons_succ, List.getElem_toArray, List.getElem_cons_zero, List.getElem_cons_succ])
            refine wpAnyH_ready (rs := [5, 7]) (by kernel_rfl) (by simp) ?_
            refine AllReadyH.cons rfl (fun K hK => ?_) ?_
            · (go_simp; go_at_call 43; (with_reducible refine (HBQ.out _ _ _ (HC7.out.below (by with_reducible repeat' (first | assumption | refine below_setRowN ?_ ?_ _ | refine Below.drew ?_ | refine Below.alloc ?_ ?_ _ | exact Below.refl _ _ | omega | (simp <;> omega))))).mono ?_); rintro e w8 ⟨v8, rfl, hown8, hb8⟩; have hlt8 := hown8.lt; obtain ⟨p8, q8, rfl, -, -, -⟩ := CellsOff.own hown8 [] (by simp); have hcur8 : Below w1.heap.size w1 w8 := (Below.trans (by with_reducible repeat' (first | assumption | refine below_setRowN ?_ ?_ _ | refine Below.drew ?_ | refine Below.alloc ?_ ?_ _ | exact Below.refl _ _ | omega | (simp <;> omega))) (hb8.mono (by first | (simp; done) | omega | (simp; omega)))); have hcs8 := hcur8.size; have hcs8b := hb8.size; (try simp at hcs8b hlt8); have HO8 := Lib.hid hown8; have HLT8 := Lib.hid hlt8; clear hown8 hlt8)
              refine hK.out _ _ ?_ (fun hHeld5 => ?_)
              · (try dsimp only); exact HX.out _ (by with_reducible repeat' (first | assumption | refine below_setRowN ?_ ?_ _ | refine Below.drew ?_ | refine Below.alloc ?_ ?_ _ | exact Below.refl _ _ | omega | (simp <;> omega)))
              clear hK K hHeld4
              (try simp only [Act.put, List.setIfInBounds_toArray, List.set_cons_zero, List.set_cons_succ, List.getElem_toArray, List.getElem_cons_zero, List.getElem_cons_succ])
              refine wpAnyH_ready (rs := [7]) (by kernel_rfl) (by simp) ?_
              refine AllReadyH.cons rfl (fun K hK => ?_) ?_
              · go_simp
                refine hK.out _ _ ?_ (fun hHeld6 => ?_)
                · (try dsimp only); exact HX.out _ (by with_reducible repeat' (first | assumption | refine below_setRowN ?_ ?_ _ | refine Below.drew ?_ | refine Below.alloc ?_ ?_ _ | exact Below.refl _ _ | omega | (simp <;> omega)))
                clear hK K hHeld5
                (try simp only [Act.put, List.setIfInBounds_toArray, List.set_cons_zero, List.set_cons_succ, List.getElem_toArray, List.getElem_cons_zero, List.getElem_cons_succ])
                refine wpAnyH_ready (rs := [8]) (by kernel_rfl) (by simp) ?_
                refine AllReadyH.cons rfl (fun K hK => ?_) ?_
                · (rw [if_pos (by rfl)]; refine wp_store_row 68 _ _ (by rfl) _ _ (by rfl) (by rfl) 68 #[.int .i64 0, .bool false, .slice none 0 0, .string ⟨#[]⟩] (by with_reducible repeat' (first | refine setRow_off ?_ ?_ _ | refine drew_at ?_ | exact alloc_new _ | (refine alloc_at _ _ ?_; (simp; done)) | refine alloc_old ?_ _ | refine Below.at hb5 ?_ ?_ | refine Below.at hb6 ?_ ?_ | refine Below.at hb7 ?_ ?_ | refine Below.at hb8 ?_ ?_ | omega | (simp <;> omega))) (by kernel_rfl) (by rfl) (by first | (simp; done) | simp [Value.oneCell']) ?_)
                  refine hK.out _ _ ?_ (fun hHeld7 => ?_)
                  · (try dsimp only); exact HX.out _ (by with_reducible repeat' (first | assumption | refine below_setRowN ?_ ?_ _ | refine Below.drew ?_ | refine Below.alloc ?_ ?_ _ | exact Below.refl _ _ | omega | (simp <;> omega)))
                  clear hK K hHeld6
                  (try simp only [Act.put, List.setIfInBounds_toArray, List.set_cons_zero, List.set_cons_succ, List.getElem_toArray, List.getElem_cons_zero, List.getElem_cons_succ])
                  refine wpAnyH_ready (rs := [9]) (by kernel_rfl) (by simp) ?_
                  refine AllReadyH.cons rfl (fun K hK => ?_) ?_
                  · (rw [if_pos (by rfl)]; refine wp_store_row 68 _ _ (by rfl) _ _ (by rfl) (by rfl) 68 #[.int .i64 0, .bool false, .slice none 0 0, .string ⟨#[]⟩] (by with_reducible repeat' (first | refine setRow_off ?_ ?_ _ | refine drew_at ?_ | exact alloc_new _ | (refine alloc_at _ _ ?_; (simp; done)) | refine alloc_old ?_ _ | refine Below.at hb5 ?_ ?_ | refine Below.at hb6 ?_ ?_ | refine Below.at hb7 ?_ ?_ | refine Below.at hb8 ?_ ?_ | omega | (simp <;> omega))) (by kernel_rfl) (by rfl) (by first | (simp; done) | simp [Value.oneCell']) ?_)
                    refine hK.out _ _ ?_ (fun hHeld8 => ?_)
                    · (try dsimp only); exact HX.out _ (by with_reducible repeat' (first | assumption | refine below_setRowN ?_ ?_ _ | refine Below.drew ?_ | refine Below.alloc ?_ ?_ _ | exact Below.refl _ _ | omega | (simp <;> omega)))
                    clear hK K hHeld7
                    (try simp only [Act.put, List.setIfInBounds_toArray, List.set_cons_zero, List.set_cons_succ, List.getElem_toArray, List.getElem_cons_zero, List.getElem_cons_succ])
                    refine wpAnyH_done (by kernel_rfl) ?_ _
                    go_wp2
                    go_meet
                    refine ⟨_, _, p6, q6, p8, q8, rfl, rfl, ?_, ?_, ?_, ?_, ?_⟩
                    with_reducible repeat' (first | assumption | refine setRow_at (old := #[.int .i64 0, .bool false, .slice none 0 0, .string ⟨#[]⟩]) ?_ _ | refine setRow_off ?_ ?_ _ | refine drew_at ?_ | exact alloc_new _ | (refine alloc_at _ _ ?_; (simp; done)) | refine alloc_old ?_ _ | refine Below.at hb5 ?_ ?_ | refine Below.at hb6 ?_ ?_ | refine Below.at hb7 ?_ ?_ | refine Below.at hb8 ?_ ?_ | apply cells_own | exact HO6.out | exact HO8.out | apply owns_setRow | apply World.ownsRow.drew | apply World.ownsRow.alloc | apply fun h => owns_aft h hb7 | apply fun h => owns_aft h hb8 | refine below_setRowN ?_ ?_ _ | refine Below.drew ?_ | refine Below.alloc ?_ ?_ _ | (intro k hk; first | (have := HLT6.out k hk; first | omega | (simp <;> omega)) | (have := HLT8.out k hk; first | omega | (simp <;> omega))) | omega | (simp <;> omega))
                  exact AllReadyH.nil
                exact AllReadyH.nil
              exact AllReadyH.nil
            refine AllReadyH.cons rfl (fun K hK => ?_) ?_
            · go_simp
              refine hK.out _ _ ?_ (fun hHeld5 => ?_)
              · (try dsimp only); exact HX.out _ (by with_reducible repeat' (first | assumption | refine below_setRowN ?_ ?_ _ | refine Below.drew ?_ | refine Below.alloc ?_ ?_ _ | exact Below.refl _ _ | omega | (simp <;> omega)))
              clear hK K hHeld4
              (try simp only [Act.put, List.setIfInBounds_toArray, List.set_cons_zero, List.set_cons_succ, List.getElem_toArray, List.getElem_cons_zero, List.getElem_cons_succ])
              refine wpAnyH_ready (rs := [5]) (by kernel_rfl) (by simp) ?_
              refine AllReadyH.cons rfl (fun K hK => ?_) ?_
              · (go_simp; go_at_call 43; (with_reducible refine (HBQ.out _ _ _ (HC7.out.below (by with_reducible repeat' (first | assumption | refine below_setRowN ?_ ?_ _ | refine Below.drew ?_ | refine Below.alloc ?_ ?_ _ | exact Below.refl _ _ | omega | (simp <;> omega))))).mono ?_); rintro e w8 ⟨v8, rfl, hown8, hb8⟩; have hlt8 := hown8.lt; obtain ⟨p8, q8, rfl, -, -, -⟩ := CellsOff.own hown8 [] (by simp); have hcur8 : Below w1.heap.size w1 w8 := (Below.trans (by with_reducible repeat' (first | assumption | refine below_setRowN ?_ ?_ _ | refine Below.drew ?_ | refine Below.alloc ?_ ?_ _ | exact Below.refl _ _ | omega | (simp <;> omega))) (hb8.mono (by first | (simp; done) | omega | (simp; omega)))); have hcs8 := hcur8.size; have hcs8b := hb8.size; (try simp at hcs8b hlt8); have HO8 := Lib.hid hown8; have HLT8 := Lib.hid hlt8; clear hown8 hlt8)
                refine hK.out _ _ ?_ (fun hHeld6 => ?_)
                · (try dsimp only); exact HX.out _ (by with_reducible repeat' (first | assumption | refine below_setRowN ?_ ?_ _ | refine Below.drew ?_ | refine Below.alloc ?_ ?_ _ | exact Below.refl _ _ | omega | (simp <;> omega)))
                clear hK K hHeld5
                (try simp only [Act.put, List.setIfInBounds_toArray, List.set_cons_zero, List.set_cons_succ, List.getElem_toArray, List.getElem_cons_zero, List.getElem_cons_succ])
                refine wpAnyH_ready (rs := [8]) (by kernel_rfl) (by simp) ?_
                refine AllReadyH.cons rfl (fun K hK => ?_) ?_
                · (rw [if_pos (by rfl)]; refine wp_store_row 68 _ _ (by rfl) _ _ (by rfl) (by rfl) 68 #[.int .i64 0, .bool false, .slice none 0 0, .string ⟨#[]⟩] (by with_reducible repeat' (first | refine setRow_off ?_ ?_ _ | refine drew_at ?_ | exact alloc_new _ | (refine alloc_at _ _ ?_; (simp; done)) | refine alloc_old ?_ _ | refine Below.at hb5 ?_ ?_ | refine Below.at hb6 ?_ ?_ | refine Below.at hb7 ?_ ?_ | refine Below.at hb8 ?_ ?_ | omega | (simp <;> omega))) (by kernel_rfl) (by rfl) (by first | (simp; done) | simp [Value.oneCell']) ?_)
                  refine hK.out _ _ ?_ (fun hHeld7 => ?_)
                  · (try dsimp only); exact HX.out _ (by with_reducible repeat' (first | assumption | refine below_setRowN ?_ ?_ _ | refine Below.drew ?_ | refine Below.alloc ?_ ?_ _ | exact Below.refl _ _ | omega | (simp <;> omega)))
                  clear hK K hHeld6
                  (try simp only [Act.put, List.setIfInBounds_toArray, List.set_cons_zero, List.set_cons_succ, List.getElem_toArray, List.getElem_cons_zero, List.getElem_cons_succ])
                  refine wpAnyH_ready (rs := [9]) (by kernel_rfl) (by simp) ?_
                  refine AllReadyH.cons rfl (fun K hK => ?_) ?_
                  · (rw [if_pos (by rfl)]; refine wp_store_row 68 _ _ (by rfl) _ _ (by rfl) (by rfl) 68 #[.int .i64 0, .bool false, .slice none 0 0, .string ⟨#[]⟩] (by with_reducible repeat' (first | refine setRow_off ?_ ?_ _ | refine drew_at ?_ | exact alloc_new _ | (refine alloc_at _ _ ?_; (simp; done)) | refine alloc_old ?_ _ | refine Below.at hb5 ?_ ?_ | refine Below.at hb6 ?_ ?_ | refine Below.at hb7 ?_ ?_ | refine Below.at hb8 ?_ ?_ | omega | (simp <;> omega))) (by kernel_rfl) (by rfl) (by first | (simp; done) | simp [Value.oneCell']) ?_)
                    refine hK.out _ _ ?_ (fun hHeld8 => ?_)
                    · (try dsimp only); exact HX.out _ (by with_reducible repeat' (first | assumption | refine below_setRowN ?_ ?_ _ | refine Below.drew ?_ | refine Below.alloc ?_ ?_ _ | exact Below.refl _ _ | omega | (simp <;> omega)))
                    clear hK K hHeld7
                    (try simp only [Act.put, List.setIfInBounds_toArray, List.set_cons_zero, List.set_cons_succ, List.getElem_toArray, List.getElem_cons_zero, List.getElem_cons_succ])
                    refine wpAnyH_done (by kernel_rfl) ?_ _
                    go_wp2
                    go_meet
                    refine ⟨_, _, p6, q6, p8, q8, rfl, rfl, ?_, ?_, ?_, ?_, ?_⟩
                    with_reducible repeat' (first | assumption | refine setRow_at (old := #[.int .i64 0, .bool false, .slice none 0 0, .string ⟨#[]⟩]) ?_ _ | refine setRow_off ?_ ?_ _ | refine drew_at ?_ | exact alloc_new _ | (refine alloc_at _ _ ?_; (simp; done)) | refine alloc_old ?_ _ | refine Below.at hb5 ?_ ?_ | refine Below.at hb6 ?_ ?_ | refine Below.at hb7 ?_ ?_ | refine Below.at hb8 ?_ ?_ | apply cells_own | exact HO6.out | exact HO8.out | apply owns_setRow | apply World.ownsRow.drew | apply World.ownsRow.alloc | apply fun h => owns_aft h hb7 | apply fun h => owns_aft h hb8 | refine below_setRowN ?_ ?_ _ | refine Below.drew ?_ | refine Below.alloc ?_ ?_ _ | (intro k hk; first | (have := HLT6.out k hk; first | omega | (simp <;> omega)) | (have := HLT8.out k hk; first | omega | (simp <;> omega))) | omega | (simp <;> omega))
                  exact AllReadyH.nil
                exact AllReadyH.nil
              exact AllReadyH.nil
            exact AllReadyH.nil
          refine AllReadyH.cons rfl (fun K hK => ?_) ?_
          · go_simp
            refine hK.out _ _ ?_ (fun hHeld4 => ?_)
            · (try dsimp only); exact HX.out _ (by with_reducible repeat' (first | assumption | refine below_setRowN ?_ ?_ _ | refine Below.drew ?_ | refine Below.alloc ?_ ?_ _ | exact Below.refl _ _ | omega | (simp <;> omega)))
            clear hK K hHeld3
            (try simp only [Act.put, List.setIfInBounds_toArray, List.set_cons_zero, List.set_cons_succ, List.getElem_toArray, List.getElem_cons_zero, List.getElem_cons_succ])
            refine wpAnyH_ready (rs := [4]) (by kernel_rfl) (by simp) ?_
            refine AllReadyH.cons rfl (fun K hK => ?_) ?_
            · (go_simp; go_at_call 38; (with_reducible refine (HGQ.out _ (HB1.out.trans (Below.mono (B := w1.heap.size) (by with_reducible repeat' (first | assumption | refine below_setRowN ?_ ?_ _ | refine Below.drew ?_ | refine Below.alloc ?_ ?_ _ | exact Below.refl _ _ | omega | (simp <;> omega))) HB1.out.size))).mono ?_); rintro e w7 ⟨v7, rfl, hown7, hb7⟩; obtain ⟨p7, q7, rfl, -, -, hc7⟩ := CellsOff.own hown7 [] (by simp); have hcur7 : Below w1.heap.size w1 w7 := (Below.trans (by with_reducible repeat' (first | assumption | refine below_setRowN ?_ ?_ _ | refine Below.drew ?_ | refine Below.alloc ?_ ?_ _ | exact Below.refl _ _ | omega | (simp <;> omega))) (hb7.mono (by first | (simp; done) | omega | (simp; omega)))); have hcs7 := hcur7.size; have hcs7b := hb7.size; (try simp at hcs7b); have HC7 := Lib.hid hc7; clear hown7 hc7)
              refine hK.out _ _ ?_ (fun hHeld5 => ?_)
              · (try dsimp only); exact HX.out _ (by with_reducible repeat' (first | assumption | refine below_setRowN ?_ ?_ _ | refine Below.drew ?_ | refine Below.alloc ?_ ?_ _ | exact Below.refl _ _ | omega | (simp <;> omega)))
              clear hK K hHeld4
              (try simp only [Act.put, List.setIfInBounds_toArray, List.set_cons_zero, List.set_cons_succ, List.getElem_toArray, List.getElem_cons_zero, List.getElem_cons_succ])
              refine wpAnyH_ready (rs := [5]) (by kernel_rfl) (by simp) ?_
              refine AllReadyH.cons rfl (fun K hK => ?_) ?_
              · (go_simp; go_at_call 43; (with_reducible refine (HBQ.out _ _ _ (HC7.out.below (by with_reducible repeat' (first | assumption | refine below_setRowN ?_ ?_ _ | refine Below.drew ?_ | refine Below.alloc ?_ ?_ _ | exact Below.refl _ _ | omega | (simp <;> omega))))).mono ?_); rintro e w8 ⟨v8, rfl, hown8, hb8⟩; have hlt8 := hown8.lt; obtain ⟨p8, q8, rfl, -, -, -⟩ := CellsOff.own hown8 [] (by simp); have hcur8 : Below w1.heap.size w1 w8 := (Below.trans (by with_reducible repeat' (first | assumption | refine below_setRowN ?_ ?_ _ | refine Below.drew ?_ | refine Below.alloc ?_ ?_ _ | exact Below.refl _ _ | omega | (simp <;> omega))) (hb8.mono (by first | (simp; done) | omega | (simp; omega)))); have hcs8 := hcur8.size; have hcs8b := hb8.size; (try simp at hcs8b hlt8); have HO8 := Lib.hid hown8; have HLT8 := Lib.hid hlt8; clear hown8 hlt8)
                refine hK.out _ _ ?_ (fun hHeld6 => ?_)
                · (try dsimp only); exact HX.out _ (by with_reducible repeat' (first | assumption | refine below_setRowN ?_ ?_ _ | refine Below.drew ?_ | refine Below.alloc ?_ ?_ _ | exact Below.refl _ _ | omega | (simp <;> omega)))
                clear hK K hHeld5
                (try simp only [Act.put, List.setIfInBounds_toArray, List.set_cons_zero, List.set_cons_succ, List.getElem_toArray, List.getElem_cons_zero, List.getElem_cons_succ])
                refine wpAnyH_ready (rs := [8]) (by kernel_rfl) (by simp) ?_
                refine AllReadyH.cons rfl (fun K hK => ?_) ?_
                · (rw [if_pos (by rfl)]; refine wp_store_row 68 _ _ (by rfl) _ _ (by rfl) (by rfl) 68 #[.int .i64 0, .bool false, .slice none 0 0, .string ⟨#[]⟩] (by with_reducible repeat' (first | refine setRow_off ?_ ?_ _ | refine drew_at ?_ | exact alloc_new _ | (refine alloc_at _ _ ?_; (simp; done)) | refine alloc_old ?_ _ | refine Below.at hb5 ?_ ?_ | refine Below.at hb6 ?_ ?_ | refine Below.at hb7 ?_ ?_ | refine Below.at hb8 ?_ ?_ | omega | (simp <;> omega))) (by kernel_rfl) (by rfl) (by first | (simp; done) | simp [Value.oneCell']) ?_)
                  refine hK.out _ _ ?_ (fun hHeld7 => ?_)
                  · (try dsimp only); exact HX.out _ (by with_reducible repeat' (first | assumption | refine below_setRowN ?_ ?_ _ | refine Below.drew ?_ | refine Below.alloc ?_ ?_ _ | exact Below.refl _ _ | omega | (simp <;> omega)))
                  clear hK K hHeld6
                  (try simp only [Act.put, List.setIfInBounds_toArray, List.set_cons_zero, List.set_cons_succ, List.getElem_toArray, List.getElem_cons_zero, List.getElem_cons_succ])
                  refine wpAnyH_ready (rs := [9]) (by kernel_rfl) (by simp) ?_
                  refine AllReadyH.cons rfl (fun K hK => ?_) ?_
                  · (rw [if_pos (by rfl)]; refine wp_store_row 68 _ _ (by rfl) _ _ (by rfl) (by rfl) 68 #[.int .i64 0, .bool false, .slice none 0 0, .string ⟨#[]⟩] (by with_reducible repeat' (first | refine setRow_off ?_ ?_ _ | refine drew_at ?_ | exact alloc_new _ | (refine alloc_at _ _ ?_; (simp; done)) | refine alloc_old ?_ _ | refine Below.at hb5 ?_ ?_ | refine Below.at hb6 ?_ ?_ | refine Below.at hb7 ?_ ?_ | refine Below.at hb8 ?_ ?_ | omega | (simp <;> omega))) (by kernel_rfl) (by rfl) (by first | (simp; done) | simp [Value.oneCell']) ?_)
                    refine hK.out _ _ ?_ (fun hHeld8 => ?_)
                    · (try dsimp only); exact HX.out _ (by with_reducible repeat' (first | assumption | refine below_setRowN ?_ ?_ _ | refine Below.drew ?_ | refine Below.alloc ?_ ?_ _ | exact Below.refl _ _ | omega | (simp <;> omega)))
                    clear hK K hHeld7
                    (try simp only [Act.put, List.setIfInBounds_toArray, List.set_cons_zero, List.set_cons_succ, List.getElem_toArray, List.getElem_cons_zero, List.getElem_cons_succ])
                    refine wpAnyH_done (by kernel_rfl) ?_ _
                    go_wp2
                    go_meet
                    refine ⟨_, _, p6, q6, p8, q8, rfl, rfl, ?_, ?_, ?_, ?_, ?_⟩
                    with_reducible repeat' (first | assumption | refine setRow_at (old := #[.int .i64 0, .bool false, .slice none 0 0, .string ⟨#[]⟩]) ?_ _ | refine setRow_off ?_ ?_ _ | refine drew_at ?_ | exact alloc_new _ | (refine alloc_at _ _ ?_; (simp; done)) | refine alloc_old ?_ _ | refine Below.at hb5 ?_ ?_ | refine Below.at hb6 ?_ ?_ | refine Below.at hb7 ?_ ?_ | refine Below.at hb8 ?_ ?_ | apply cells_own | exact HO6.out | exact HO8.out | apply owns_setRow | apply World.ownsRow.drew | apply World.ownsRow.alloc | apply fun h => owns_aft h hb7 | apply fun h => owns_aft h hb8 | refine below_setRowN ?_ ?_ _ | refine Below.drew ?_ | refine Below.alloc ?_ ?_ _ | (intro k hk; first | (have := HLT6.out k hk; first | omega | (simp <;> omega)) | (have := HLT8.out k hk; first | omega | (simp <;> omega))) | omega | (simp <;> omega))
                  exact AllReadyH.nil
                exact AllReadyH.nil
              exact AllReadyH.nil
            exact AllReadyH.nil
          exact AllReadyH.nil
        refine AllReadyH.cons rfl (fun K hK => ?_) ?_
        · go_simp
          refine hK.out _ _ ?_ (fun hHeld3 => ?_)
          · (try dsimp only); exact HX.out _ (by with_reducible repeat' (first | assumption | refine below_setRowN ?_ ?_ _ | refine Below.drew ?_ | refine Below.alloc ?_ ?_ _ | exact Below.refl _ _ | omega | (simp <;> omega)))
          clear hK K hHeld2
          (try simp only [Act.put, List.setIfInBounds_toArray, List.set_cons_zero, List.set_cons_succ, List.getElem_toArray, List.getElem_cons_zero, List.getElem_cons_succ])
          refine wpAnyH_ready (rs := [2]) (by kernel_rfl) (by simp) ?_
          refine AllReadyH.cons rfl (fun K hK => ?_) ?_
          · (go_simp; go_at_call 43; (with_reducible refine (HBP.out _ _ _ (HC5.out.below (by with_reducible repeat' (first | assumption | refine below_setRowN ?_ ?_ _ | refine Below.drew ?_ | refine Below.alloc ?_ ?_ _ | exact Below.refl _ _ | omega | (simp <;> omega))))).mono ?_); rintro e w6 ⟨v6, rfl, hown6, hb6⟩; have hlt6 := hown6.lt; obtain ⟨p6, q6, rfl, -, -, -⟩ := CellsOff.own hown6 [] (by simp); have hcur6 : Below w1.heap.size w1 w6 := (Below.trans (by with_reducible repeat' (first | assumption | refine below_setRowN ?_ ?_ _ | refine Below.drew ?_ | refine Below.alloc ?_ ?_ _ | exact Below.refl _ _ | omega | (simp <;> omega))) (hb6.mono (by first | (simp; done) | omega | (simp; omega)))); have hcs6 := hcur6.size; have hcs6b := hb6.size; (try simp at hcs6b hlt6); have HO6 := Lib.hid hown6; have HLT6 := Lib.hid hlt6; clear hown6 hlt6)
            refine hK.out _ _ ?_ (fun hHeld4 => ?_)
            · (try dsimp only); exact HX.out _ (by with_reducible repeat' (first | assumption | refine below_setRowN ?_ ?_ _ | refine Below.drew ?_ | refine Below.alloc ?_ ?_ _ | exact Below.refl _ _ | omega | (simp <;> omega)))
            clear hK K hHeld3
            (try simp only [Act.put, List.setIfInBounds_toArray, List.set_cons_zero, List.set_cons_succ, List.getElem_toArray, List.getElem_cons_zero, List.getElem_cons_succ])
            refine wpAnyH_ready (rs := [4]) (by kernel_rfl) (by simp) ?_
            refine AllReadyH.cons rfl (fun K hK => ?_) ?_
            · (go_simp; go_at_call 38; (with_reducible refine (HGQ.out _ (HB1.out.trans (Below.mono (B := w1.heap.size) (by with_reducible repeat' (first | assumption | refine below_setRowN ?_ ?_ _ | refine Below.drew ?_ | refine Below.alloc ?_ ?_ _ | exact Below.refl _ _ | omega | (simp <;> omega))) HB1.out.size))).mono ?_); rintro e w7 ⟨v7, rfl, hown7, hb7⟩; obtain ⟨p7, q7, rfl, -, -, hc7⟩ := CellsOff.own hown7 [] (by simp); have hcur7 : Below w1.heap.size w1 w7 := (Below.trans (by with_reducible repeat' (first | assumption | refine below_setRowN ?_ ?_ _ | refine Below.drew ?_ | refine Below.alloc ?_ ?_ _ | exact Below.refl _ _ | omega | (simp <;> omega))) (hb7.mono (by first | (simp; done) | omega | (simp; omega)))); have hcs7 := hcur7.size; have hcs7b := hb7.size; (try simp at hcs7b); have HC7 := Lib.hid hc7; clear hown7 hc7)
              refine hK.out _ _ ?_ (fun hHeld5 => ?_)
              · (try dsimp only); exact HX.out _ (by with_reducible repeat' (first | assumption | refine below_setRowN ?_ ?_ _ | refine Below.drew ?_ | refine Below.alloc ?_ ?_ _ | exact Below.refl _ _ | omega | (simp <;> omega)))
              clear hK K hHeld4
              (try simp only [Act.put, List.setIfInBounds_toArray, List.set_cons_zero, List.set_cons_succ, List.getElem_toArray, List.getElem_cons_zero, List.getElem_cons_succ])
              refine wpAnyH_ready (rs := [5]) (by kernel_rfl) (by simp) ?_
              refine AllReadyH.cons rfl (fun K hK => ?_) ?_
              · (go_simp; go_at_call 43; (with_reducible refine (HBQ.out _ _ _ (HC7.out.below (by with_reducible repeat' (first | assumption | refine below_setRowN ?_ ?_ _ | refine Below.drew ?_ | refine Below.alloc ?_ ?_ _ | exact Below.refl _ _ | omega | (simp <;> omega))))).mono ?_); rintro e w8 ⟨v8, rfl, hown8, hb8⟩; have hlt8 := hown8.lt; obtain ⟨p8, q8, rfl, -, -, -⟩ := CellsOff.own hown8 [] (by simp); have hcur8 : Below w1.heap.size w1 w8 := (Below.trans (by with_reducible repeat' (first | assumption | refine below_setRowN ?_ ?_ _ | refine Below.drew ?_ | refine Below.alloc ?_ ?_ _ | exact Below.refl _ _ | omega | (simp <;> omega))) (hb8.mono (by first | (simp; done) | omega | (simp; omega)))); have hcs8 := hcur8.size; have hcs8b := hb8.size; (try simp at hcs8b hlt8); have HO8 := Lib.hid hown8; have HLT8 := Lib.hid hlt8; clear hown8 hlt8)
                refine hK.out _ _ ?_ (fun hHeld6 => ?_)
                · (try dsimp only); exact HX.out _ (by with_reducible repeat' (first | assumption | refine below_setRowN ?_ ?_ _ | refine Below.drew ?_ | refine Below.alloc ?_ ?_ _ | exact Below.refl _ _ | omega | (simp <;> omega)))
                clear hK K hHeld5
                (try simp only [Act.put, List.setIfInBounds_toArray, List.set_cons_zero, List.set_cons_succ, List.getElem_toArray, List.getElem_cons_zero, List.getElem_cons_succ])
                refine wpAnyH_ready (rs := [8]) (by kernel_rfl) (by simp) ?_
                refine AllReadyH.cons rfl (fun K hK => ?_) ?_
                · (rw [if_pos (by rfl)]; refine wp_store_row 68 _ _ (by rfl) _ _ (by rfl) (by rfl) 68 #[.int .i64 0, .bool false, .slice none 0 0, .string ⟨#[]⟩] (by with_reducible repeat' (first | refine setRow_off ?_ ?_ _ | refine drew_at ?_ | exact alloc_new _ | (refine alloc_at _ _ ?_; (simp; done)) | refine alloc_old ?_ _ | refine Below.at hb5 ?_ ?_ | refine Below.at hb6 ?_ ?_ | refine Below.at hb7 ?_ ?_ | refine Below.at hb8 ?_ ?_ | omega | (simp <;> omega))) (by kernel_rfl) (by rfl) (by first | (simp; done) | simp [Value.oneCell']) ?_)
                  refine hK.out _ _ ?_ (fun hHeld7 => ?_)
                  · (try dsimp only); exact HX.out _ (by with_reducible repeat' (first | assumption | refine below_setRowN ?_ ?_ _ | refine Below.drew ?_ | refine Below.alloc ?_ ?_ _ | exact Below.refl _ _ | omega | (simp <;> omega)))
                  clear hK K hHeld6
                  (try simp only [Act.put, List.setIfInBounds_toArray, List.set_cons_zero, List.set_cons_succ, List.getElem_toArray, List.getElem_cons_zero, List.getElem_cons_succ])
                  refine wpAnyH_ready (rs := [9]) (by kernel_rfl) (by simp) ?_
                  refine AllReadyH.cons rfl (fun K hK => ?_) ?_
                  · (rw [if_pos (by rfl)]; refine wp_store_row 68 _ _ (by rfl) _ _ (by rfl) (by rfl) 68 #[.int .i64 0, .bool false, .slice none 0 0, .string ⟨#[]⟩] (by with_reducible repeat' (first | refine setRow_off ?_ ?_ _ | refine drew_at ?_ | exact alloc_new _ | (refine alloc_at _ _ ?_; (simp; done)) | refine alloc_old ?_ _ | refine Below.at hb5 ?_ ?_ | refine Below.at hb6 ?_ ?_ | refine Below.at hb7 ?_ ?_ | refine Below.at hb8 ?_ ?_ | omega | (simp <;> omega))) (by kernel_rfl) (by rfl) (by first | (simp; done) | simp [Value.oneCell']) ?_)
                    refine hK.out _ _ ?_ (fun hHeld8 => ?_)
                    · (try dsimp only); exact HX.out _ (by with_reducible repeat' (first | assumption | refine below_setRowN ?_ ?_ _ | refine Below.drew ?_ | refine Below.alloc ?_ ?_ _ | exact Below.refl _ _ | omega | (simp <;> omega)))
                    clear hK K hHeld7
                    (try simp only [Act.put, List.setIfInBounds_toArray, List.set_cons_zero, List.set_cons_succ, List.getElem_toArray, List.getElem_cons_zero, List.getElem_cons_succ])
                    refine wpAnyH_done (by kernel_rfl) ?_ _
                    go_wp2
                    go_meet
                    refine ⟨_, _, p6, q6, p8, q8, rfl, rfl, ?_, ?_, ?_, ?_, ?_⟩
                    with_reducible repeat' (first | assumption | refine setRow_at (old := #[.int .i64 0, .bool false, .slice none 0 0, .string ⟨#[]⟩]) ?_ _ | refine setRow_off ?_ ?_ _ | refine drew_at ?_ | exact alloc_new _ | (refine alloc_at _ _ ?_; (simp; done)) | refine alloc_old ?_ _ | refine Below.at hb5 ?_ ?_ | refine Below.at hb6 ?_ ?_ | refine Below.at hb7 ?_ ?_ | refine Below.at hb8 ?_ ?_ | apply cells_own | exact HO6.out | exact HO8.out | apply owns_setRow | apply World.ownsRow.drew | apply World.ownsRow.alloc | apply fun h => owns_aft h hb7 | apply fun h => owns_aft h hb8 | refine below_setRowN ?_ ?_ _ | refine Below.drew ?_ | refine Below.alloc ?_ ?_ _ | (intro k hk; first | (have := HLT6.out k hk; first | omega | (simp <;> omega)) | (have := HLT8.out k hk; first | omega | (simp <;> omega))) | omega | (simp <;> omega))
                  exact AllReadyH.nil
                exact AllReadyH.nil
              exact AllReadyH.nil
            exact AllReadyH.nil
          exact AllReadyH.nil
        exact AllReadyH.nil
      refine AllReadyH.cons rfl (fun K hK => ?_) ?_
      · go_simp
        refine hK.out _ _ ?_ (fun hHeld2 => ?_)
        · (try dsimp only); exact HX.out _ (by with_reducible repeat' (first | assumption | refine below_setRowN ?_ ?_ _ | refine Below.drew ?_ | refine Below.alloc ?_ ?_ _ | exact Below.refl _ _ | omega | (simp <;> omega)))
        clear hK K hHeld1
        (try simp only [Act.put, List.setIfInBounds_toArray, List.set_cons_zero, List.set_cons_succ, List.getElem_toArray, List.getElem_cons_zero, List.getElem_cons_succ])
        refine wpAnyH_ready (rs := [1]) (by kernel_rfl) (by simp) ?_
        refine AllReadyH.cons rfl (fun K hK => ?_) ?_
        · (go_simp; go_at_call 38; (with_reducible refine (HGP.out _ (HB1.out.trans (Below.mono (B := w1.heap.size) (by with_reducible repeat' (first | assumption | refine below_setRowN ?_ ?_ _ | refine Below.drew ?_ | refine Below.alloc ?_ ?_ _ | exact Below.refl _ _ | omega | (simp <;> omega))) HB1.out.size))).mono ?_); rintro e w5 ⟨v5, rfl, hown5, hb5⟩; obtain ⟨p5, q5, rfl, -, -, hc5⟩ := CellsOff.own hown5 [] (by simp); have hcur : Below w1.heap.size w1 w5 := (Below.trans (by with_reducible repeat' (first | assumption | refine below_setRowN ?_ ?_ _ | refine Below.drew ?_ | refine Below.alloc ?_ ?_ _ | exact Below.refl _ _ | omega | (simp <;> omega))) (hb5.mono (by first | (simp; done) | omega | (simp; omega)))); have hcs := hcur.size; have hcs5 := hb5.size; (try simp at hcs5); have HC5 := Lib.hid hc5; clear hown5 hc5)
          refine hK.out _ _ ?_ (fun hHeld3 => ?_)
          · (try dsimp only); exact HX.out _ (by with_reducible repeat' (first | assumption | refine below_setRowN ?_ ?_ _ | refine Below.drew ?_ | refine Below.alloc ?_ ?_ _ | exact Below.refl _ _ | omega | (simp <;> omega)))
          clear hK K hHeld2
          (try simp only [Act.put, List.setIfInBounds_toArray, List.set_cons_zero, List.set_cons_succ, List.getElem_toArray, List.getElem_cons_zero, List.getElem_cons_succ])
          refine wpAnyH_ready (rs := [2]) (by kernel_rfl) (by simp) ?_
          refine AllReadyH.cons rfl (fun K hK => ?_) ?_
          · (go_simp; go_at_call 43; (with_reducible refine (HBP.out _ _ _ (HC5.out.below (by with_reducible repeat' (first | assumption | refine below_setRowN ?_ ?_ _ | refine Below.drew ?_ | refine Below.alloc ?_ ?_ _ | exact Below.refl _ _ | omega | (simp <;> omega))))).mono ?_); rintro e w6 ⟨v6, rfl, hown6, hb6⟩; have hlt6 := hown6.lt; obtain ⟨p6, q6, rfl, -, -, -⟩ := CellsOff.own hown6 [] (by simp); have hcur6 : Below w1.heap.size w1 w6 := (Below.trans (by with_reducible repeat' (first | assumption | refine below_setRowN ?_ ?_ _ | refine Below.drew ?_ | refine Below.alloc ?_ ?_ _ | exact Below.refl _ _ | omega | (simp <;> omega))) (hb6.mono (by first | (simp; done) | omega | (simp; omega)))); have hcs6 := hcur6.size; have hcs6b := hb6.size; (try simp at hcs6b hlt6); have HO6 := Lib.hid hown6; have HLT6 := Lib.hid hlt6; clear hown6 hlt6)
            refine hK.out _ _ ?_ (fun hHeld4 => ?_)
            · (try dsimp only); exact HX.out _ (by with_reducible repeat' (first | assumption | refine below_setRowN ?_ ?_ _ | refine Below.drew ?_ | refine Below.alloc ?_ ?_ _ | exact Below.refl _ _ | omega | (simp <;> omega)))
            clear hK K hHeld3
            (try simp only [Act.put, List.setIfInBounds_toArray, List.set_cons_zero, List.set_cons_succ, List.getElem_toArray, List.getElem_cons_zero, List.getElem_cons_succ])
            refine wpAnyH_ready (rs := [4]) (by kernel_rfl) (by simp) ?_
            refine AllReadyH.cons rfl (fun K hK => ?_) ?_
            · (go_simp; go_at_call 38; (with_reducible refine (HGQ.out _ (HB1.out.trans (Below.mono (B := w1.heap.size) (by with_reducible repeat' (first | assumption | refine below_setRowN ?_ ?_ _ | refine Below.drew ?_ | refine Below.alloc ?_ ?_ _ | exact Below.refl _ _ | omega | (simp <;> omega))) HB1.out.size))).mono ?_); rintro e w7 ⟨v7, rfl, hown7, hb7⟩; obtain ⟨p7, q7, rfl, -, -, hc7⟩ := CellsOff.own hown7 [] (by simp); have hcur7 : Below w1.heap.size w1 w7 := (Below.trans (by with_reducible repeat' (first | assumption | refine below_setRowN ?_ ?_ _ | refine Below.drew ?_ | refine Below.alloc ?_ ?_ _ | exact Below.refl _ _ | omega | (simp <;> omega))) (hb7.mono (by first | (simp; done) | omega | (simp; omega)))); have hcs7 := hcur7.size; have hcs7b := hb7.size; (try simp at hcs7b); have HC7 := Lib.hid hc7; clear hown7 hc7)
              refine hK.out _ _ ?_ (fun hHeld5 => ?_)
              · (try dsimp only); exact HX.out _ (by with_reducible repeat' (first | assumption | refine below_setRowN ?_ ?_ _ | refine Below.drew ?_ | refine Below.alloc ?_ ?_ _ | exact Below.refl _ _ | omega | (simp <;> omega)))
              clear hK K hHeld4
              (try simp only [Act.put, List.setIfInBounds_toArray, List.set_cons_zero, List.set_cons_succ, List.getElem_toArray, List.getElem_cons_zero, List.getElem_cons_succ])
              refine wpAnyH_ready (rs := [5]) (by kernel_rfl) (by simp) ?_
              refine AllReadyH.cons rfl (fun K hK => ?_) ?_
              · (go_simp; go_at_call 43; (with_reducible refine (HBQ.out _ _ _ (HC7.out.below (by with_reducible repeat' (first | assumption | refine below_setRowN ?_ ?_ _ | refine Below.drew ?_ | refine Below.alloc ?_ ?_ _ | exact Below.refl _ _ | omega | (simp <;> omega))))).mono ?_); rintro e w8 ⟨v8, rfl, hown8, hb8⟩; have hlt8 := hown8.lt; obtain ⟨p8, q8, rfl, -, -, -⟩ := CellsOff.own hown8 [] (by simp); have hcur8 : Below w1.heap.size w1 w8 := (Below.trans (by with_reducible repeat' (first | assumption | refine below_setRowN ?_ ?_ _ | refine Below.drew ?_ | refine Below.alloc ?_ ?_ _ | exact Below.refl _ _ | omega | (simp <;> omega))) (hb8.mono (by first | (simp; done) | omega | (simp; omega)))); have hcs8 := hcur8.size; have hcs8b := hb8.size; (try simp at hcs8b hlt8); have HO8 := Lib.hid hown8; have HLT8 := Lib.hid hlt8; clear hown8 hlt8)
                refine hK.out _ _ ?_ (fun hHeld6 => ?_)
                · (try dsimp only); exact HX.out _ (by with_reducible repeat' (first | assumption | refine below_setRowN ?_ ?_ _ | refine Below.drew ?_ | refine Below.alloc ?_ ?_ _ | exact Below.refl _ _ | omega | (simp <;> omega)))
                clear hK K hHeld5
                (try simp only [Act.put, List.setIfInBounds_toArray, List.set_cons_zero, List.set_cons_succ, List.getElem_toArray, List.getElem_cons_zero, List.getElem_cons_succ])
                refine wpAnyH_ready (rs := [8]) (by kernel_rfl) (by simp) ?_
                refine AllReadyH.cons rfl (fun K hK => ?_) ?_
                · (rw [if_pos (by rfl)]; refine wp_store_row 68 _ _ (by rfl) _ _ (by rfl) (by rfl) 68 #[.int .i64 0, .bool false, .slice none 0 0, .string ⟨#[]⟩] (by with_reducible repeat' (first | refine setRow_off ?_ ?_ _ | refine drew_at ?_ | exact alloc_new _ | (refine alloc_at _ _ ?_; (simp; done)) | refine alloc_old ?_ _ | refine Below.at hb5 ?_ ?_ | refine Below.at hb6 ?_ ?_ | refine Below.at hb7 ?_ ?_ | refine Below.at hb8 ?_ ?_ | omega | (simp <;> omega))) (by kernel_rfl) (by rfl) (by first | (simp; done) | simp [Value.oneCell']) ?_)
                  refine hK.out _ _ ?_ (fun hHeld7 => ?_)
                  · (try dsimp only); exact HX.out _ (by with_reducible repeat' (first | assumption | refine below_setRowN ?_ ?_ _ | refine Below.drew ?_ | refine Below.alloc ?_ ?_ _ | exact Below.refl _ _ | omega | (simp <;> omega)))
                  clear hK K hHeld6
                  (try simp only [Act.put, List.setIfInBounds_toArray, List.set_cons_zero, List.set_cons_succ, List.getElem_toArray, List.getElem_cons_zero, List.getElem_cons_succ])
                  refine wpAnyH_ready (rs := [9]) (by kernel_rfl) (by simp) ?_
                  refine AllReadyH.cons rfl (fun K hK => ?_) ?_
                  · (rw [if_pos (by rfl)]; refine wp_store_row 68 _ _ (by rfl) _ _ (by rfl) (by rfl) 68 #[.int .i64 0, .bool false, .slice none 0 0, .string ⟨#[]⟩] (by with_reducible repeat' (first | refine setRow_off ?_ ?_ _ | refine drew_at ?_ | exact alloc_new _ | (refine alloc_at _ _ ?_; (simp; done)) | refine alloc_old ?_ _ | refine Below.at hb5 ?_ ?_ | refine Below.at hb6 ?_ ?_ | refine Below.at hb7 ?_ ?_ | refine Below.at hb8 ?_ ?_ | omega | (simp <;> omega))) (by kernel_rfl) (by rfl) (by first | (simp; done) | simp [Value.oneCell']) ?_)
                    refine hK.out _ _ ?_ (fun hHeld8 => ?_)
                    · (try dsimp only); exact HX.out _ (by with_reducible repeat' (first | assumption | refine below_setRowN ?_ ?_ _ | refine Below.drew ?_ | refine Below.alloc ?_ ?_ _ | exact Below.refl _ _ | omega | (simp <;> omega)))
                    clear hK K hHeld7
                    (try simp only [Act.put, List.setIfInBounds_toArray, List.set_cons_zero, List.set_cons_succ, List.getElem_toArray, List.getElem_cons_zero, List.getElem_cons_succ])
                    refine wpAnyH_done (by kernel_rfl) ?_ _
                    go_wp2
                    go_meet
                    refine ⟨_, _, p6, q6, p8, q8, rfl, rfl, ?_, ?_, ?_, ?_, ?_⟩
                    with_reducible repeat' (first | assumption | refine setRow_at (old := #[.int .i64 0, .bool false, .slice none 0 0, .string ⟨#[]⟩]) ?_ _ | refine setRow_off ?_ ?_ _ | refine drew_at ?_ | exact alloc_new _ | (refine alloc_at _ _ ?_; (simp; done)) | refine alloc_old ?_ _ | refine Below.at hb5 ?_ ?_ | refine Below.at hb6 ?_ ?_ | refine Below.at hb7 ?_ ?_ | refine Below.at hb8 ?_ ?_ | apply cells_own | exact HO6.out | exact HO8.out | apply owns_setRow | apply World.ownsRow.drew | apply World.ownsRow.alloc | apply fun h => owns_aft h hb7 | apply fun h => owns_aft h hb8 | refine below_setRowN ?_ ?_ _ | refine Below.drew ?_ | refine Below.alloc ?_ ?_ _ | (intro k hk; first | (have := HLT6.out k hk; first | omega | (simp <;> omega)) | (have := HLT8.out k hk; first | omega | (simp <;> omega))) | omega | (simp <;> omega))
                  exact AllReadyH.nil
                exact AllReadyH.nil
              exact AllReadyH.nil
            exact AllReadyH.nil
          exact AllReadyH.nil
        exact AllReadyH.nil
      exact AllReadyH.nil
    refine AllReadyH.cons rfl (fun K hK => ?_) ?_
    · go_simp
      refine hK.out _ _ ?_ (fun hHeld1 => ?_)
      · (try dsimp only); exact HX.out _ (by with_reducible repeat' (first | assumption | refine below_setRowN ?_ ?_ _ | refine Below.drew ?_ | refine Below.alloc ?_ ?_ _ | exact Below.refl _ _ | omega | (simp <;> omega)))
      clear hK K hHeld0
      (try simp only [Act.put, List.setIfInBounds_toArray, List.set_cons_zero, List.set_cons_succ, List.getElem_toArray, List.getElem_cons_zero, List.getElem_cons_succ])
      refine wpAnyH_ready (rs := [1, 6]) (by kernel_rfl) (by simp) ?_
      refine AllReadyH.cons rfl (fun K hK => ?_) ?_
      · (go_simp; go_at_call 38; (with_reducible refine (HGP.out _ (HB1.out.trans (Below.mono (B := w1.heap.size) (by with_reducible repeat' (first | assumption | refine below_setRowN ?_ ?_ _ | refine Below.drew ?_ | refine Below.alloc ?_ ?_ _ | exact Below.refl _ _ | omega | (simp <;> omega))) HB1.out.size))).mono ?_); rintro e w5 ⟨v5, rfl, hown5, hb5⟩; obtain ⟨p5, q5, rfl, -, -, hc5⟩ := CellsOff.own hown5 [] (by simp); have hcur : Below w1.heap.size w1 w5 := (Below.trans (by with_reducible repeat' (first | assumption | refine below_setRowN ?_ ?_ _ | refine Below.drew ?_ | refine Below.alloc ?_ ?_ _ | exact Below.refl _ _ | omega | (simp <;> omega))) (hb5.mono (by first | (simp; done) | omega | (simp; omega)))); have hcs := hcur.size; have hcs5 := hb5.size; (try simp at hcs5); have HC5 := Lib.hid hc5; clear hown5 hc5)
        refine hK.out _ _ ?_ (fun hHeld2 => ?_)
        · (try dsimp only); exact HX.out _ (by with_reducible repeat' (first | assumption | refine below_setRowN ?_ ?_ _ | refine Below.drew ?_ | refine Below.alloc ?_ ?_ _ | exact Below.refl _ _ | omega | (simp <;> omega)))
        clear hK K hHeld1
        (try simp only [Act.put, List.setIfInBounds_toArray, List.set_cons_zero, List.set_cons_succ, List.getElem_toArray, List.getElem_cons_zero, List.getElem_cons_succ])
        refine wpAnyH_ready (rs := [2, 6]) (by kernel_rfl) (by simp) ?_
        refine AllReadyH.cons rfl (fun K hK => ?_) ?_
        · (go_simp; go_at_call 43; (with_reducible refine (HBP.out _ _ _ (HC5.out.below (by with_reducible repeat' (first | assumption | refine below_setRowN ?_ ?_ _ | refine Below.drew ?_ | refine Below.alloc ?_ ?_ _ | exact Below.refl _ _ | omega | (simp <;> omega))))).mono ?_); rintro e w6 ⟨v6, rfl, hown6, hb6⟩; have hlt6 := hown6.lt; obtain ⟨p6, q6, rfl, -, -, -⟩ := CellsOff.own hown6 [] (by simp); have hcur6 : Below w1.heap.size w1 w6 := (Below.trans (by with_reducible repeat' (first | assumption | refine below_setRowN ?_ ?_ _ | refine Below.drew ?_ | refine Below.alloc ?_ ?_ _ | exact Below.refl _ _ | omega | (simp <;> omega))) (hb6.mono (by first | (simp; done) | omega | (simp; omega)))); have hcs6 := hcur6.size; have hcs6b := hb6.size; (try simp at hcs6b hlt6); have HO6 := Lib.hid hown6; have HLT6 := Lib.hid hlt6; clear hown6 hlt6)
          refine hK.out _ _ ?_ (fun hHeld3 => ?_)
          · (try dsimp only); exact HX.out _ (by with_reducible repeat' (first | assumption | refine below_setRowN ?_ ?_ _ | refine Below.drew ?_ | refine Below.alloc ?_ ?_ _ | exact Below.refl _ _ | omega | (simp <;> omega)))
          clear hK K hHeld2
          (try simp only [Act.put, List.setIfInBounds_toArray, List.set_cons_zero, List.set_cons_succ, List.getElem_toArray, List.getElem_cons_zero, List.getElem_cons_succ])
          refine wpAnyH_ready (rs := [4, 6]) (by kernel_rfl) (by simp) ?_
          refine AllReadyH.cons rfl (fun K hK => ?_) ?_
          · (go_simp; go_at_call 38; (with_reducible refine (HGQ.out _ (HB1.out.trans (Below.mono (B := w1.heap.size) (by with_reducible repeat' (first | assumption | refine below_setRowN ?_ ?_ _ | refine Below.drew ?_ | refine Below.alloc ?_ ?_ _ | exact Below.refl _ _ | omega | (simp <;> omega))) HB1.out.size))).mono ?_); rintro e w7 ⟨v7, rfl, hown7, hb7⟩; obtain ⟨p7, q7, rfl, -, -, hc7⟩ := CellsOff.own hown7 [] (by simp); have hcur7 : Below w1.heap.size w1 w7 := (Below.trans (by with_reducible repeat' (first | assumption | refine below_setRowN ?_ ?_ _ | refine Below.drew ?_ | refine Below.alloc ?_ ?_ _ | exact Below.refl _ _ | omega | (simp <;> omega))) (hb7.mono (by first | (simp; done) | omega | (simp; omega)))); have hcs7 := hcur7.size; have hcs7b := hb7.size; (try simp at hcs7b); have HC7 := Lib.hid hc7; clear hown7 hc7)
            refine hK.out _ _ ?_ (fun hHeld4 => ?_)
            · (try dsimp only); exact HX.out _ (by with_reducible repeat' (first | assumption | refine below_setRowN ?_ ?_ _ | refine Below.drew ?_ | refine Below.alloc ?_ ?_ _ | exact Below.refl _ _ | omega | (simp <;> omega)))
            clear hK K hHeld3
            (try simp only [Act.put, List.setIfInBounds_toArray, List.set_cons_zero, List.set_cons_succ, List.getElem_toArray, List.getElem_cons_zero, List.getElem_cons_succ])
            refine wpAnyH_ready (rs := [5, 6]) (by kernel_rfl) (by simp) ?_
            refine AllReadyH.cons rfl (fun K hK => ?_) ?_
            · (go_simp; go_at_call 43; (with_reducible refine (HBQ.out _ _ _ (HC7.out.below (by with_reducible repeat' (first | assumption | refine below_setRowN ?_ ?_ _ | refine Below.drew ?_ | refine Below.alloc ?_ ?_ _ | exact Below.refl _ _ | omega | (simp <;> omega))))).mono ?_); rintro e w8 ⟨v8, rfl, hown8, hb8⟩; have hlt8 := hown8.lt; obtain ⟨p8, q8, rfl, -, -, -⟩ := CellsOff.own hown8 [] (by simp); have hcur8 : Below w1.heap.size w1 w8 := (Below.trans (by with_reducible repeat' (first | assumption | refine below_setRowN ?_ ?_ _ | refine Below.drew ?_ | refine Below.alloc ?_ ?_ _ | exact Below.refl _ _ | omega | (simp <;> omega))) (hb8.mono (by first | (simp; done) | omega | (simp; omega)))); have hcs8 := hcur8.size; have hcs8b := hb8.size; (try simp at hcs8b hlt8); have HO8 := Lib.hid hown8; have HLT8 := Lib.hid hlt8; clear hown8 hlt8)
              refine hK.out _ _ ?_ (fun hHeld5 => ?_)
              · (try dsimp only); exact HX.out _ (by with_reducible repeat' (first | assumption | refine below_setRowN ?_ ?_ _ | refine Below.drew ?_ | refine Below.alloc ?_ ?_ _ | exact Below.refl _ _ | omega | (simp <;> omega)))
              clear hK K hHeld4
              (try simp only [Act.put, List.setIfInBounds_toArray, List.set_cons_zero, List.set_cons_succ, List.getElem_toArray, List.getElem_cons_zero, List.getElem_cons_succ])
              refine wpAnyH_ready (rs := [6]) (by kernel_rfl) (by simp) ?_
              refine AllReadyH.cons rfl (fun K hK => ?_) ?_
              · go_simp
                refine hK.out _ _ ?_ (fun hHeld6 => ?_)
                · (try dsimp only); exact HX.out _ (by with_reducible repeat' (first | assumption | refine below_setRowN ?_ ?_ _ | refine Below.drew ?_ | refine Below.alloc ?_ ?_ _ | exact Below.refl _ _ | omega | (simp <;> omega)))
                clear hK K hHeld5
                (try simp only [Act.put, List.setIfInBounds_toArray, List.set_cons_zero, List.set_cons_succ, List.getElem_toArray, List.getElem_cons_zero, List.getElem_cons_succ])
                refine wpAnyH_ready (rs := [8]) (by kernel_rfl) (by simp) ?_
                refine AllReadyH.cons rfl (fun K hK => ?_) ?_
                · (rw [if_pos (by rfl)]; refine wp_store_row 68 _ _ (by rfl) _ _ (by rfl) (by rfl) 68 #[.int .i64 0, .bool false, .slice none 0 0, .string ⟨#[]⟩] (by with_reducible repeat' (first | refine setRow_off ?_ ?_ _ | refine drew_at ?_ | exact alloc_new _ | (refine alloc_at _ _ ?_; (simp; done)) | refine alloc_old ?_ _ | refine Below.at hb5 ?_ ?_ | refine Below.at hb6 ?_ ?_ | refine Below.at hb7 ?_ ?_ | refine Below.at hb8 ?_ ?_ | omega | (simp <;> omega))) (by kernel_rfl) (by rfl) (by first | (simp; done) | simp [Value.oneCell']) ?_)
                  refine hK.out _ _ ?_ (fun hHeld7 => ?_)
                  · (try dsimp only); exact HX.out _ (by with_reducible repeat' (first | assumption | refine below_setRowN ?_ ?_ _ | refine Below.drew ?_ | refine Below.alloc ?_ ?_ _ | exact Below.refl _ _ | omega | (simp <;> omega)))
                  clear hK K hHeld6
                  (try simp only [Act.put, List.setIfInBounds_toArray, List.set_cons_zero, List.set_cons_succ, List.getElem_toArray, List.getElem_cons_zero, List.getElem_cons_succ])
                  refine wpAnyH_ready (rs := [9]) (by kernel_rfl) (by simp) ?_
                  refine AllReadyH.cons rfl (fun K hK => ?_) ?_
                  · (rw [if_pos (by rfl)]; refine wp_store_row 68 _ _ (by rfl) _ _ (by rfl) (by rfl) 68 #[.int .i64 0, .bool false, .slice none 0 0, .string ⟨#[]⟩] (by with_reducible repeat' (first | refine setRow_off ?_ ?_ _ | refine drew_at ?_ | exact alloc_new _ | (refine alloc_at _ _ ?_; (simp; done)) | refine alloc_old ?_ _ | refine Below.at hb5 ?_ ?_ | refine Below.at hb6 ?_ ?_ | refine Below.at hb7 ?_ ?_ | refine Below.at hb8 ?_ ?_ | omega | (simp <;> omega))) (by kernel_rfl) (by rfl) (by first | (simp; done) | simp [Value.oneCell']) ?_)
                    refine hK.out _ _ ?_ (fun hHeld8 => ?_)
                    · (try dsimp only); exact HX.out _ (by with_reducible repeat' (first | assumption | refine below_setRowN ?_ ?_ _ | refine Below.drew ?_ | refine Below.alloc ?_ ?_ _ | exact Below.refl _ _ | omega | (simp <;> omega)))
                    clear hK K hHeld7
                    (try simp only [Act.put, List.setIfInBounds_toArray, List.set_cons_zero, List.set_cons_succ, List.getElem_toArray, List.getElem_cons_zero, List.getElem_cons_succ])
                    refine wpAnyH_done (by kernel_rfl) ?_ _
                    go_wp2
                    go_meet
                    refine ⟨_, _, p6, q6, p8, q8, rfl, rfl, ?_, ?_, ?_, ?_, ?_⟩
                    with_reducible repeat' (first | assumption | refine setRow_at (old := #[.int .i64 0, .bool false, .slice none 0 0, .string ⟨#[]⟩]) ?_ _ | refine setRow_off ?_ ?_ _ | refine drew_at ?_ | exact alloc_new _ | (refine alloc_at _ _ ?_; (simp; done)) | refine alloc_old ?_ _ | refine Below.at hb5 ?_ ?_ | refine Below.at hb6 ?_ ?_ | refine Below.at hb7 ?_ ?_ | refine Below.at hb8 ?_ ?_ | apply cells_own | exact HO6.out | exact HO8.out | apply owns_setRow | apply World.ownsRow.drew | apply World.ownsRow.alloc | apply fun h => owns_aft h hb7 | apply fun h => owns_aft h hb8 | refine below_setRowN ?_ ?_ _ | refine Below.drew ?_ | refine Below.alloc ?_ ?_ _ | (intro k hk; first | (have := HLT6.out k hk; first | omega | (simp <;> omega)) | (have := HLT8.out k hk; first | omega | (simp <;> omega))) | omega | (simp <;> omega))
                  exact AllReadyH.nil
                exact AllReadyH.nil
              exact AllReadyH.nil
            refine AllReadyH.cons rfl (fun K hK => ?_) ?_
            · go_simp
              refine hK.out _ _ ?_ (fun hHeld5 => ?_)
              · (try dsimp only); exact HX.out _ (by with_reducible repeat' (first | assumption | refine below_setRowN ?_ ?_ _ | refine Below.drew ?_ | refine Below.alloc ?_ ?_ _ | exact Below.refl _ _ | omega | (simp <;> omega)))
              clear hK K hHeld4
              (try simp only [Act.put, List.setIfInBounds_toArray, List.set_cons_zero, List.set_cons_succ, List.getElem_toArray, List.getElem_cons_zero, List.getElem_cons_succ])
              refine wpAnyH_ready (rs := [5]) (by kernel_rfl) (by simp) ?_
              refine AllReadyH.cons rfl (fun K hK => ?_) ?_
              · (go_simp; go_at_call 43; (with_reducible refine (HBQ.out _ _ _ (HC7.out.below (by with_reducible repeat' (first | assumption | refine below_setRowN ?_ ?_ _ | refine Below.drew ?_ | refine Below.alloc ?_ ?_ _ | exact Below.refl _ _ | omega | (simp <;> omega))))).mono ?_); rintro e w8 ⟨v8, rfl, hown8, hb8⟩; have hlt8 := hown8.lt; obtain ⟨p8, q8, rfl, -, -, -⟩ := CellsOff.own hown8 [] (by simp); have hcur8 : Below w1.heap.size w1 w8 := (Below.trans (by with_reducible repeat' (first | assumption | refine below_setRowN ?_ ?_ _ | refine Below.drew ?_ | refine Below.alloc ?_ ?_ _ | exact Below.refl _ _ | omega | (simp <;> omega))) (hb8.mono (by first | (simp; done) | omega | (simp; omega)))); have hcs8 := hcur8.size; have hcs8b := hb8.size; (try simp at hcs8b hlt8); have HO8 := Lib.hid hown8; have HLT8 := Lib.hid hlt8; clear hown8 hlt8)
                refine hK.out _ _ ?_ (fun hHeld6 => ?_)
                · (try dsimp only); exact HX.out _ (by with_reducible repeat' (first | assumption | refine below_setRowN ?_ ?_ _ | refine Below.drew ?_ | refine Below.alloc ?_ ?_ _ | exact Below.refl _ _ | omega | (simp <;> omega)))
                clear hK K hHeld5
                (try simp only [Act.put, List.setIfInBounds_toArray, List.set_cons_zero, List.set_cons_succ, List.getElem_toArray, List.getElem_cons_zero, List.getElem_cons_succ])
                refine wpAnyH_ready (rs := [8]) (by kernel_rfl) (by simp) ?_
                refine AllReadyH.cons rfl (fun K hK => ?_) ?_
                · (rw [if_pos (by rfl)]; refine wp_store_row 68 _ _ (by rfl) _ _ (by rfl) (by rfl) 68 #[.int .i64 0, .bool false, .slice none 0 0, .string ⟨#[]⟩] (by with_reducible repeat' (first | refine setRow_off ?_ ?_ _ | refine drew_at ?_ | exact alloc_new _ | (refine alloc_at _ _ ?_; (simp; done)) | refine alloc_old ?_ _ | refine Below.at hb5 ?_ ?_ | refine Below.at hb6 ?_ ?_ | refine Below.at hb7 ?_ ?_ | refine Below.at hb8 ?_ ?_ | omega | (simp <;> omega))) (by kernel_rfl) (by rfl) (by first | (simp; done) | simp [Value.oneCell']) ?_)
                  refine hK.out _ _ ?_ (fun hHeld7 => ?_)
                  · (try dsimp only); exact HX.out _ (by with_reducible repeat' (first | assumption | refine below_setRowN ?_ ?_ _ | refine Below.drew ?_ | refine Below.alloc ?_ ?_ _ | exact Below.refl _ _ | omega | (simp <;> omega)))
                  clear hK K hHeld6
                  (try simp only [Act.put, List.setIfInBounds_toArray, List.set_cons_zero, List.set_cons_succ, List.getElem_toArray, List.getElem_cons_zero, List.getElem_cons_succ])
                  refine wpAnyH_ready (rs := [9]) (by kernel_rfl) (by simp) ?_
                  refine AllReadyH.cons rfl (fun K hK => ?_) ?_
                  · (rw [if_pos (by rfl)]; refine wp_store_row 68 _ _ (by rfl) _ _ (by rfl) (by rfl) 68 #[.int .i64 0, .bool false, .slice none 0 0, .string ⟨#[]⟩] (by with_reducible repeat' (first | refine setRow_off ?_ ?_ _ | refine drew_at ?_ | exact alloc_new _ | (refine alloc_at _ _ ?_; (simp; done)) | refine alloc_old ?_ _ | refine Below.at hb5 ?_ ?_ | refine Below.at hb6 ?_ ?_ | refine Below.at hb7 ?_ ?_ | refine Below.at hb8 ?_ ?_ | omega | (simp <;> omega))) (by kernel_rfl) (by rfl) (by first | (simp; done) | simp [Value.oneCell']) ?_)
                    refine hK.out _ _ ?_ (fun hHeld8 => ?_)
                    · (try dsimp only); exact HX.out _ (by with_reducible repeat' (first | assumption | refine below_setRowN ?_ ?_ _ | refine Below.drew ?_ | refine Below.alloc ?_ ?_ _ | exact Below.refl _ _ | omega | (simp <;> omega)))
                    clear hK K hHeld7
                    (try simp only [Act.put, List.setIfInBounds_toArray, List.set_cons_zero, List.set_cons_succ, List.getElem_toArray, List.getElem_cons_zero, List.getElem_cons_succ])
                    refine wpAnyH_done (by kernel_rfl) ?_ _
                    go_wp2
                    go_meet
                    refine ⟨_, _, p6, q6, p8, q8, rfl, rfl, ?_, ?_, ?_, ?_, ?_⟩
                    with_reducible repeat' (first | assumption | refine setRow_at (old := #[.int .i64 0, .bool false, .slice none 0 0, .string ⟨#[]⟩]) ?_ _ | refine setRow_off ?_ ?_ _ | refine drew_at ?_ | exact alloc_new _ | (refine alloc_at _ _ ?_; (simp; done)) | refine alloc_old ?_ _ | refine Below.at hb5 ?_ ?_ | refine Below.at hb6 ?_ ?_ | refine Below.at hb7 ?_ ?_ | refine Below.at hb8 ?_ ?_ | apply cells_own | exact HO6.out | exact HO8.out | apply owns_setRow | apply World.ownsRow.drew | apply World.ownsRow.alloc | apply fun h => owns_aft h hb7 | apply fun h => owns_aft h hb8 | refine below_setRowN ?_ ?_ _ | refine Below.drew ?_ | refine Below.alloc ?_ ?_ _ | (intro k hk; first | (have := HLT6.out k hk; first | omega | (simp <;> omega)) | (have := HLT8.out k hk; first | omega | (simp <;> omega))) | omega | (simp <;> omega))
                  exact AllReadyH.nil
                exact AllReadyH.nil
              exact AllReadyH.nil
            exact AllReadyH.nil
          refine AllReadyH.cons rfl (fun K hK => ?_) ?_
          · go_simp
            refine hK.out _ _ ?_ (fun hHeld4 => ?_)
            · (try dsimp only); exact HX.out _ (by with_reducible repeat' (first | assumption | refine below_setRowN ?_ ?_ _ | refine Below.drew ?_ | refine Below.alloc ?_ ?_ _ | exact Below.refl _ _ | omega | (simp <;> omega)))
            clear hK K hHeld3
            (try simp only [Act.put, List.setIfInBounds_toArray, List.set_cons_zero, List.set_cons_succ, List.getElem_toArray, List.getElem_cons_zero, List.getElem_cons_succ])
            refine wpAnyH_ready (rs := [4]) (by kernel_rfl) (by simp) ?_
            refine AllReadyH.cons rfl (fun K hK => ?_) ?_
            · (go_simp; go_at_call 38; (with_reducible refine (HGQ.out _ (HB1.out.trans (Below.mono (B := w1.heap.size) (by with_reducible repeat' (first | assumption | refine below_setRowN ?_ ?_ _ | refine Below.drew ?_ | refine Below.alloc ?_ ?_ _ | exact Below.refl _ _ | omega | (simp <;> omega))) HB1.out.size))).mono ?_); rintro e w7 ⟨v7, rfl, hown7, hb7⟩; obtain ⟨p7, q7, rfl, -, -, hc7⟩ := CellsOff.own hown7 [] (by simp); have hcur7 : Below w1.heap.size w1 w7 := (Below.trans (by with_reducible repeat' (first | assumption | refine below_setRowN ?_ ?_ _ | refine Below.drew ?_ | refine Below.alloc ?_ ?_ _ | exact Below.refl _ _ | omega | (simp <;> omega))) (hb7.mono (by first | (simp; done) | omega | (simp; omega)))); have hcs7 := hcur7.size; have hcs7b := hb7.size; (try simp at hcs7b); have HC7 := Lib.hid hc7; clear hown7 hc7)
              refine hK.out _ _ ?_ (fun hHeld5 => ?_)
              · (try dsimp only); exact HX.out _ (by with_reducible repeat' (first | assumption | refine below_setRowN ?_ ?_ _ | refine Below.drew ?_ | refine Below.alloc ?_ ?_ _ | exact Below.refl _ _ | omega | (simp <;> omega)))
              clear hK K hHeld4
              (try simp only [Act.put, List.setIfInBounds_toArray, List.set_cons_zero, List.set_cons_succ, List.getElem_toArray, List.getElem_cons_zero, List.getElem_cons_succ])
              refine wpAnyH_ready (rs := [5]) (by kernel_rfl) (by simp) ?_
              refine AllReadyH.cons rfl (fun K hK => ?_) ?_
              · (go_simp; go_at_call 43; (with_reducible refine (HBQ.out _ _ _ (HC7.out.below (by with_reducible repeat' (first | assumption | refine below_setRowN ?_ ?_ _ | refine Below.drew ?_ | refine Below.alloc ?_ ?_ _ | exact Below.refl _ _ | omega | (simp <;> omega))))).mono ?_); rintro e w8 ⟨v8, rfl, hown8, hb8⟩; have hlt8 := hown8.lt; obtain ⟨p8, q8, rfl, -, -, -⟩ := CellsOff.own hown8 [] (by simp); have hcur8 : Below w1.heap.size w1 w8 := (Below.trans (by with_reducible repeat' (first | assumption | refine below_setRowN ?_ ?_ _ | refine Below.drew ?_ | refine Below.alloc ?_ ?_ _ | exact Below.refl _ _ | omega | (simp <;> omega))) (hb8.mono (by first | (simp; done) | omega | (simp; omega)))); have hcs8 := hcur8.size; have hcs8b := hb8.size; (try simp at hcs8b hlt8); have HO8 := Lib.hid hown8; have HLT8 := Lib.hid hlt8; clear hown8 hlt8)
                refine hK.out _ _ ?_ (fun hHeld6 => ?_)
                · (try dsimp only); exact HX.out _ (by with_reducible repeat' (first | assumption | refine below_setRowN ?_ ?_ _ | refine Below.drew ?_ | refine Below.alloc ?_ ?_ _ | exact Below.refl _ _ | omega | (simp <;> omega)))
                clear hK K hHeld5
                (try simp only [Act.put, List.setIfInBounds_toArray, List.set_cons_zero, List.set_cons_succ, List.getElem_toArray, List.getElem_cons_zero, List.getElem_cons_succ])
                refine wpAnyH_ready (rs := [8]) (by kernel_rfl) (by simp) ?_
                refine AllReadyH.cons rfl (fun K hK => ?_) ?_
                · (rw [if_pos (by rfl)]; refine wp_store_row 68 _ _ (by rfl) _ _ (by rfl) (by rfl) 68 #[.int .i64 0, .bool false, .slice none 0 0, .string ⟨#[]⟩] (by with_reducible repeat' (first | refine setRow_off ?_ ?_ _ | refine drew_at ?_ | exact alloc_new _ | (refine alloc_at _ _ ?_; (simp; done)) | refine alloc_old ?_ _ | refine Below.at hb5 ?_ ?_ | refine Below.at hb6 ?_ ?_ | refine Below.at hb7 ?_ ?_ | refine Below.at hb8 ?_ ?_ | omega | (simp <;> omega))) (by kernel_rfl) (by rfl) (by first | (simp; done) | simp [Value.oneCell']) ?_)
                  refine hK.out _ _ ?_ (fun hHeld7 => ?_)
                  · (try dsimp only); exact HX.out _ (by with_reducible repeat' (first | assumption | refine below_setRowN ?_ ?_ _ | refine Below.drew ?_ | refine Below.alloc ?_ ?_ _ | exact Below.refl _ _ | omega | (simp <;> omega)))
                  clear hK K hHeld6
                  (try simp only [Act.put, List.setIfInBounds_toArray, List.set_cons_zero, List.set_cons_succ, List.getElem_toArray, List.getElem_cons_zero, List.getElem_cons_succ])
                  refine wpAnyH_ready (rs := [9]) (by kernel_rfl) (by simp) ?_
                  refine AllReadyH.cons rfl (fun K hK => ?_) ?_
                  · (rw [if_pos (by rfl)]; refine wp_store_row 68 _ _ (by rfl) _ _ (by rfl) (by rfl) 68 #[.int .i64 0, .bool false, .slice none 0 0, .string ⟨#[]⟩] (by with_reducible repeat' (first | refine setRow_off ?_ ?_ _ | refine drew_at ?_ | exact alloc_new _ | (refine alloc_at _ _ ?_; (simp; done)) | refine alloc_old ?_ _ | refine Below.at hb5 ?_ ?_ | refine Below.at hb6 ?_ ?_ | refine Below.at hb7 ?_ ?_ | refine Below.at hb8 ?_ ?_ | omega | (simp <;> omega))) (by kernel_rfl) (by rfl) (by first | (simp; done) | simp [Value.oneCell']) ?_)
                    refine hK.out _ _ ?_ (fun hHeld8 => ?_)
                    · (try dsimp only); exact HX.out _ (by with_reducible repeat' (first | assumption | refine below_setRowN ?_ ?_ _ | refine Below.drew ?_ | refine Below.alloc ?_ ?_ _ | exact Below.refl _ _ | omega | (simp <;> omega)))
                    clear hK K hHeld7
                    (try simp only [Act.put, List.setIfInBounds_toArray, List.set_cons_zero, List.set_cons_succ, List.getElem_toArray, List.getElem_cons_zero, List.getElem_cons_succ])
                    refine wpAnyH_done (by kernel_rfl) ?_ _
                    go_wp2
                    go_meet
                    refine ⟨_, _, p6, q6, p8, q8, rfl, rfl, ?_, ?_, ?_, ?_, ?_⟩
                    with_reducible repeat' (first | assumption | refine setRow_at (old := #[.int .i64 0, .bool false, .slice none 0 0, .string ⟨#[]⟩]) ?_ _ | refine setRow_off ?_ ?_ _ | refine drew_at ?_ | exact alloc_new _ | (refine alloc_at _ _ ?_; (simp; done)) | refine alloc_old ?_ _ | refine Below.at hb5 ?_ ?_ | refine Below.at hb6 ?_ ?_ | refine Below.at hb7 ?_ ?_ | refine Below.at hb8 ?_ ?_ | apply cells_own | exact HO6.out | exact HO8.out | apply owns_setRow | apply World.ownsRow.drew | apply World.ownsRow.alloc | apply fun h => owns_aft h hb7 | apply fun h => owns_aft h hb8 | refine below_setRowN ?_ ?_ _ | refine Below.drew ?_ | refine Below.alloc ?_ ?_ _ | (intro k hk; first | (have := HLT6.out k hk; first | omega | (simp <;> omega)) | (have := HLT8.out k hk; first | omega | (simp <;> omega))) | omega | (simp <;> omega))
                  exact AllReadyH.nil
                exact AllReadyH.nil
              exact AllReadyH.nil
            exact AllReadyH.nil
          exact AllReadyH.nil
        refine AllReadyH.cons rfl (fun K hK => ?_) ?_
        · go_simp
          refine hK.out _ _ ?_ (fun hHeld3 => ?_)
          · (try dsimp only); exact HX.out _ (by with_reducible repeat' (first | assumption | refine below_setRowN ?_ ?_ _ | refine Below.drew ?_ | refine Below.alloc ?_ ?_ _ | exact Below.refl _ _ | omega | (simp <;> omega)))
          clear hK K hHeld2
          (try simp only [Act.put, List.setIfInBounds_toArray, List.set_cons_zero, List.set_cons_succ, List.getElem_toArray, List.getElem_cons_zero, List.getElem_cons_succ])
          refine wpAnyH_ready (rs := [2]) (by kernel_rfl) (by simp) ?_
          refine AllReadyH.cons rfl (fun K hK => ?_) ?_
          · (go_simp; go_at_call 43; (with_reducible refine (HBP.out _ _ _ (HC5.out.below (by with_reducible repeat' (first | assumption | refine below_setRowN ?_ ?_ _ | refine Below.drew ?_ | refine Below.alloc ?_ ?_ _ | exact Below.refl _ _ | omega | (simp <;> omega))))).mono ?_); rintro e w6 ⟨v6, rfl, hown6, hb6⟩; have hlt6 := hown6.lt; obtain ⟨p6, q6, rfl, -, -, -⟩ := CellsOff.own hown6 [] (by simp); have hcur6 : Below w1.heap.size w1 w6 := (Below.trans (by with_reducible repeat' (first | assumption | refine below_setRowN ?_ ?_ _ | refine Below.drew ?_ | refine Below.alloc ?_ ?_ _ | exact Below.refl _ _ | omega | (simp <;> omega))) (hb6.mono (by first | (simp; done) | omega | (simp; omega)))); have hcs6 := hcur6.size; have hcs6b := hb6.size; (try simp at hcs6b hlt6); have HO6 := Lib.hid hown6; have HLT6 := Lib.hid hlt6; clear hown6 hlt6)
            refine hK.out _ _ ?_ (fun hHeld4 => ?_)
            · (try dsimp only); exact HX.out _ (by with_reducible repeat' (first | assumption | refine below_setRowN ?_ ?_ _ | refine Below.drew ?_ | refine Below.alloc ?_ ?_ _ | exact Below.refl _ _ | omega | (simp <;> omega)))
            clear hK K hHeld3
            (try simp only [Act.put, List.setIfInBounds_toArray, List.set_cons_zero, List.set_cons_succ, List.getElem_toArray, List.getElem_cons_zero, List.getElem_cons_succ])
            refine wpAnyH_ready (rs := [4]) (by kernel_rfl) (by simp) ?_
            refine AllReadyH.cons rfl (fun K hK => ?_) ?_
            · (go_simp; go_at_call 38; (with_reducible refine (HGQ.out _ (HB1.out.trans (Below.mono (B := w1.heap.size) (by with_reducible repeat' (first | assumption | refine below_setRowN ?_ ?_ _ | refine Below.drew ?_ | refine Below.alloc ?_ ?_ _ | exact Below.refl _ _ | omega | (simp <;> omega))) HB1.out.size))).mono ?_); rintro e w7 ⟨v7, rfl, hown7, hb7⟩; obtain ⟨p7, q7, rfl, -, -, hc7⟩ := CellsOff.own hown7 [] (by simp); have hcur7 : Below w1.heap.size w1 w7 := (Below.trans (by with_reducible repeat' (first | assumption | refine below_setRowN ?_ ?_ _ | refine Below.drew ?_ | refine Below.alloc ?_ ?_ _ | exact Below.refl _ _ | omega | (simp <;> omega))) (hb7.mono (by first | (simp; done) | omega | (simp; omega)))); have hcs7 := hcur7.size; have hcs7b := hb7.size; (try simp at hcs7b); have HC7 := Lib.hid hc7; clear hown7 hc7)
              refine hK.out _ _ ?_ (fun hHeld5 => ?_)
              · (try dsimp only); exact HX.out _ (by with_reducible repeat' (first | assumption | refine below_setRowN ?_ ?_ _ | refine Below.drew ?_ | refine Below.alloc ?_ ?_ _ | exact Below.refl _ _ | omega | (simp <;> omega)))
              clear hK K hHeld4
              (try simp only [Act.put, List.setIfInBounds_toArray, List.set_cons_zero, List.set_cons_succ, List.getElem_toArray, List.getElem_cons_zero, List.getElem_cons_succ])
              refine wpAnyH_ready (rs := [5]) (by kernel_rfl) (by simp) ?_
              refine AllReadyH.cons rfl (fun K hK => ?_) ?_
              · (go_simp; go_at_call 43; (with_reducible refine (HBQ.out _ _ _ (HC7.out.below (by with_reducible repeat' (first | assumption | refine below_setRowN ?_ ?_ _ | refine Below.drew ?_ | refine Below.alloc ?_ ?_ _ | exact Below.refl _ _ | omega | (simp <;> omega))))).mono ?_); rintro e w8 ⟨v8, rfl, hown8, hb8⟩; have hlt8 := hown8.lt; obtain ⟨p8, q8, rfl, -, -, -⟩ := CellsOff.own hown8 [] (by simp); have hcur8 : Below w1.heap.size w1 w8 := (Below.trans (by with_reducible repeat' (first | assumption | refine below_setRowN ?_ ?_ _ | refine Below.drew ?_ | refine Below.alloc ?_ ?_ _ | exact Below.refl _ _ | omega | (simp <;> omega))) (hb8.mono (by first | (simp; done) | omega | (simp; omega)))); have hcs8 := hcur8.size; have hcs8b := hb8.size; (try simp at hcs8b hlt8); have HO8 := Lib.hid hown8; have HLT8 := Lib.hid hlt8; clear hown8 hlt8)
                refine hK.out _ _ ?_ (fun hHeld6 => ?_)
                · (try dsimp only); exact HX.out _ (by with_reducible repeat' (first | assumption | refine below_setRowN ?_ ?_ _ | refine Below.drew ?_ | refine Below.alloc ?_ ?_ _ | exact Below.refl _ _ | omega | (simp <;> omega)))
                clear hK K hHeld5
                (try simp only [Act.put, List.setIfInBounds_toArray, List.set_cons_zero, List.set_cons_succ, List.getElem_toArray, List.getElem_cons_zero, List.getElem_cons_succ])
                refine wpAnyH_ready (rs := [8]) (by kernel_rfl) (by simp) ?_
                refine AllReadyH.cons rfl (fun K hK => ?_) ?_
                · (rw [if_pos (by rfl)]; refine wp_store_row 68 _ _ (by rfl) _ _ (by rfl) (by rfl) 68 #[.int .i64 0, .bool false, .slice none 0 0, .string ⟨#[]⟩] (by with_reducible repeat' (first | refine setRow_off ?_ ?_ _ | refine drew_at ?_ | exact alloc_new _ | (refine alloc_at _ _ ?_; (simp; done)) | refine alloc_old ?_ _ | refine Below.at hb5 ?_ ?_ | refine Below.at hb6 ?_ ?_ | refine Below.at hb7 ?_ ?_ | refine Below.at hb8 ?_ ?_ | omega | (simp <;> omega))) (by kernel_rfl) (by rfl) (by first | (simp; done) | simp [Value.oneCell']) ?_)
                  refine hK.out _ _ ?_ (fun hHeld7 => ?_)
                  · (try dsimp only); exact HX.out _ (by with_reducible repeat' (first | assumption | refine below_setRowN ?_ ?_ _ | refine Below.drew ?_ | refine Below.alloc ?_ ?_ _ | exact Below.refl _ _ | omega | (simp <;> omega)))
                  clear hK K hHeld6
                  (try simp only [Act.put, List.setIfInBounds_toArray, List.set_cons_zero, List.set_cons_succ, List.getElem_toArray, List.getElem_cons_zero, List.getElem_cons_succ])
                  refine wpAnyH_ready (rs := [9]) (by kernel_rfl) (by simp) ?_
                  refine AllReadyH.cons rfl (fun K hK => ?_) ?_
                  · (rw [if_pos (by rfl)]; refine wp_store_row 68 _ _ (by rfl) _ _ (by rfl) (by rfl) 68 #[.int .i64 0, .bool false, .slice none 0 0, .string ⟨#[]⟩] (by with_reducible repeat' (first | refine setRow_off ?_ ?_ _ | refine drew_at ?_ | exact alloc_new _ | (refine alloc_at _ _ ?_; (simp; done)) | refine alloc_old ?_ _ | refine Below.at hb5 ?_ ?_ | refine Below.at hb6 ?_ ?_ | refine Below.at hb7 ?_ ?_ | refine Below.at hb8 ?_ ?_ | omega | (simp <;> omega))) (by kernel_rfl) (by rfl) (by first | (simp; done) | simp [Value.oneCell']) ?_)
                    refine hK.out _ _ ?_ (fun hHeld8 => ?_)
                    · (try dsimp only); exact HX.out _ (by with_reducible repeat' (first | assumption | refine below_setRowN ?_ ?_ _ | refine Below.drew ?_ | refine Below.alloc ?_ ?_ _ | exact Below.refl _ _ | omega | (simp <;> omega)))
                    clear hK K hHeld7
                    (try simp only [Act.put, List.setIfInBounds_toArray, List.set_cons_zero, List.set_cons_succ, List.getElem_toArray, List.getElem_cons_zero, List.getElem_cons_succ])
                    refine wpAnyH_done (by kernel_rfl) ?_ _
                    go_wp2
                    go_meet
                    refine ⟨_, _, p6, q6, p8, q8, rfl, rfl, ?_, ?_, ?_, ?_, ?_⟩
                    with_reducible repeat' (first | assumption | refine setRow_at (old := #[.int .i64 0, .bool false, .slice none 0 0, .string ⟨#[]⟩]) ?_ _ | refine setRow_off ?_ ?_ _ | refine drew_at ?_ | exact alloc_new _ | (refine alloc_at _ _ ?_; (simp; done)) | refine alloc_old ?_ _ | refine Below.at hb5 ?_ ?_ | refine Below.at hb6 ?_ ?_ | refine Below.at hb7 ?_ ?_ | refine Below.at hb8 ?_ ?_ | apply cells_own | exact HO6.out | exact HO8.out | apply owns_setRow | apply World.ownsRow.drew | apply World.ownsRow.alloc | apply fun h => owns_aft h hb7 | apply fun h => owns_aft h hb8 | refine below_setRowN ?_ ?_ _ | refine Below.drew ?_ | refine Below.alloc ?_ ?_ _ | (intro k hk; first | (have := HLT6.out k hk; first | omega | (simp <;> omega)) | (have := HLT8.out k hk; first | omega | (simp <;> omega))) | omega | (simp <;> omega))
                  exact AllReadyH.nil
                exact AllReadyH.nil
              exact AllReadyH.nil
            exact AllReadyH.nil
          exact AllReadyH.nil
        exact AllReadyH.nil
      refine AllReadyH.cons rfl (fun K hK => ?_) ?_
      · go_simp
        refine hK.out _ _ ?_ (fun hHeld2 => ?_)
        · (try dsimp only); exact HX.out _ (by with_reducible repeat' (first | assumption | refine below_setRowN ?_ ?_ _ | refine Below.drew ?_ | refine Below.alloc ?_ ?_ _ | exact Below.refl _ _ | omega | (simp <;> omega)))
        clear hK K hHeld1
        (try simp only [Act.put, List.setIfInBounds_toArray, List.set_cons_zero, List.set_cons_succ, List.getElem_toArray, List.getElem_cons_zero, List.getElem_cons_succ])
        refine wpAnyH_ready (rs := [1]) (by kernel_rfl) (by simp) ?_
        refine AllReadyH.cons rfl (fun K hK => ?_) ?_
        · (go_simp; go_at_call 38; (with_reducible refine (HGP.out _ (HB1.out.trans (Below.mono (B := w1.heap.size) (by with_reducible repeat' (first | assumption | refine below_setRowN ?_ ?_ _ | refine Below.drew ?_ | refine Below.alloc ?_ ?_ _ | exact Below.refl _ _ | omega | (simp <;> omega))) HB1.out.size))).mono ?_); rintro e w5 ⟨v5, rfl, hown5, hb5⟩; obtain ⟨p5, q5, rfl, -, -, hc5⟩ := CellsOff.own hown5 [] (by simp); have hcur : Below w1.heap.size w1 w5 := (Below.trans (by with_reducible repeat' (first | assumption | refine below_setRowN ?_ ?_ _ | refine Below.drew ?_ | refine Below.alloc ?_ ?_ _ | exact Below.refl _ _ | omega | (simp <;> omega))) (hb5.mono (by first | (simp; done) | omega | (simp; omega)))); have hcs := hcur.size; have hcs5 := hb5.size; (try simp at hcs5); have HC5 := Lib.hid hc5; clear hown5 hc5)
          refine hK.out _ _ ?_ (fun hHeld3 => ?_)
          · (try dsimp only); exact HX.out _ (by with_reducible repeat' (first | assumption | refine below_setRowN ?_ ?_ _ | refine Below.drew ?_ | refine Below.alloc ?_ ?_ _ | exact Below.refl _ _ | omega | (simp <;> omega)))
          clear hK K hHeld2
          (try simp only [Act.put, List.setIfInBounds_toArray, List.set_cons_zero, List.set_cons_succ, List.getElem_toArray, List.getElem_cons_zero, List.getElem_cons_succ])
          refine wpAnyH_ready (rs := [2]) (by kernel_rfl) (by simp) ?_
          refine AllReadyH.cons rfl (fun K hK => ?_) ?_
          · (go_simp; go_at_call 43; (with_reducible refine (HBP.out _ _ _ (HC5.out.below (by with_reducible repeat' (first | assumption | refine below_setRowN ?_ ?_ _ | refine Below.drew ?_ | refine Below.alloc ?_ ?_ _ | exact Below.refl _ _ | omega | (simp <;> omega))))).mono ?_); rintro e w6 ⟨v6, rfl, hown6, hb6⟩; have hlt6 := hown6.lt; obtain ⟨p6, q6, rfl, -, -, -⟩ := CellsOff.own hown6 [] (by simp); have hcur6 : Below w1.heap.size w1 w6 := (Below.trans (by with_reducible repeat' (first | assumption | refine below_setRowN ?_ ?_ _ | refine Below.drew ?_ | refine Below.alloc ?_ ?_ _ | exact Below.refl _ _ | omega | (simp <;> omega))) (hb6.mono (by first | (simp; done) | omega | (simp; omega)))); have hcs6 := hcur6.size; have hcs6b := hb6.size; (try simp at hcs6b hlt6); have HO6 := Lib.hid hown6; have HLT6 := Lib.hid hlt6; clear hown6 hlt6)
            refine hK.out _ _ ?_ (fun hHeld4 => ?_)
            · (try dsimp only); exact HX.out _ (by with_reducible repeat' (first | assumption | refine below_setRowN ?_ ?_ _ | refine Below.drew ?_ | refine Below.alloc ?_ ?_ _ | exact Below.refl _ _ | omega | (simp <;> omega)))
            clear hK K hHeld3
            (try simp only [Act.put, List.setIfInBounds_toArray, List.set_cons_zero, List.set_cons_succ, List.getElem_toArray, List.getElem_cons_zero, List.getElem_cons_succ])
            refine wpAnyH_ready (rs := [4]) (by kernel_rfl) (by simp) ?_
            refine AllReadyH.cons rfl (fun K hK => ?_) ?_
            · (go_simp; go_at_call 38; (with_reducible refine (HGQ.out _ (HB1.out.trans (Below.mono (B := w1.heap.size) (by with_reducible repeat' (first | assumption | refine below_setRowN ?_ ?_ _ | refine Below.drew ?_ | refine Below.alloc ?_ ?_ _ | exact Below.refl _ _ | omega | (simp <;> omega))) HB1.out.size))).mono ?_); rintro e w7 ⟨v7, rfl, hown7, hb7⟩; obtain ⟨p7, q7, rfl, -, -, hc7⟩ := CellsOff.own hown7 [] (by simp); have hcur7 : Below w1.heap.size w1 w7 := (Below.trans (by with_reducible repeat' (first | assumption | refine below_setRowN ?_ ?_ _ | refine Below.drew ?_ | refine Below.alloc ?_ ?_ _ | exact Below.refl _ _ | omega | (simp <;> omega))) (hb7.mono (by first | (simp; done) | omega | (simp; omega)))); have hcs7 := hcur7.size; have hcs7b := hb7.size; (try simp at hcs7b); have HC7 := Lib.hid hc7; clear hown7 hc7)
              refine hK.out _ _ ?_ (fun hHeld5 => ?_)
              · (try dsimp only); exact HX.out _ (by with_reducible repeat' (first | assumption | refine below_setRowN ?_ ?_ _ | refine Below.drew ?_ | refine Below.alloc ?_ ?_ _ | exact Below.refl _ _ | omega | (simp <;> omega)))
              clear hK K hHeld4
              (try simp only [Act.put, List.setIfInBounds_toArray, List.set_cons_zero, List.set_cons_succ, List.getElem_toArray, List.getElem_cons_zero, List.getElem_cons_succ])
              refine wpAnyH_ready (rs := [5]) (by kernel_rfl) (by simp) ?_
              refine AllReadyH.cons rfl (fun K hK => ?_) ?_
              · (go_simp; go_at_call 43; (with_reducible refine (HBQ.out _ _ _ (HC7.out.below (by with_reducible repeat' (first | assumption | refine below_setRowN ?_ ?_ _ | refine Below.drew ?_ | refine Below.alloc ?_ ?_ _ | exact Below.refl _ _ | omega | (simp <;> omega))))).mono ?_); rintro e w8 ⟨v8, rfl, hown8, hb8⟩; have hlt8 := hown8.lt; obtain ⟨p8, q8, rfl, -, -, -⟩ := CellsOff.own hown8 [] (by simp); have hcur8 : Below w1.heap.size w1 w8 := (Below.trans (by with_reducible repeat' (first | assumption | refine below_setRowN ?_ ?_ _ | refine Below.drew ?_ | refine Below.alloc ?_ ?_ _ | exact Below.refl _ _ | omega | (simp <;> omega))) (hb8.mono (by first | (simp; done) | omega | (simp; omega)))); have hcs8 := hcur8.size; have hcs8b := hb8.size; (try simp at hcs8b hlt8); have HO8 := Lib.hid hown8; have HLT8 := Lib.hid hlt8; clear hown8 hlt8)
                refine hK.out _ _ ?_ (fun hHeld6 => ?_)
                · (try dsimp only); exact HX.out _ (by with_reducible repeat' (first | assumption | refine below_setRowN ?_ ?_ _ | refine Below.drew ?_ | refine Below.alloc ?_ ?_ _ | exact Below.refl _ _ | omega | (simp <;> omega)))
                clear hK K hHeld5
                (try simp only [Act.put, List.setIfInBounds_toArray, List.set_cons_zero, List.set_cons_succ, List.getElem_toArray, List.getElem_cons_zero, List.getElem_cons_succ])
                refine wpAnyH_ready (rs := [8]) (by kernel_rfl) (by simp) ?_
                refine AllReadyH.cons rfl (fun K hK => ?_) ?_
                · (rw [if_pos (by rfl)]; refine wp_store_row 68 _ _ (by rfl) _ _ (by rfl) (by rfl) 68 #[.int .i64 0, .bool false, .slice none 0 0, .string ⟨#[]⟩] (by with_reducible repeat' (first | refine setRow_off ?_ ?_ _ | refine drew_at ?_ | exact alloc_new _ | (refine alloc_at _ _ ?_; (simp; done)) | refine alloc_old ?_ _ | refine Below.at hb5 ?_ ?_ | refine Below.at hb6 ?_ ?_ | refine Below.at hb7 ?_ ?_ | refine Below.at hb8 ?_ ?_ | omega | (simp <;> omega))) (by kernel_rfl) (by rfl) (by first | (simp; done) | simp [Value.oneCell']) ?_)
                  refine hK.out _ _ ?_ (fun hHeld7 => ?_)
                  · (try dsimp only); exact HX.out _ (by with_reducible repeat' (first | assumption | refine below_setRowN ?_ ?_ _ | refine Below.drew ?_ | refine Below.alloc ?_ ?_ _ | exact Below.refl _ _ | omega | (simp <;> omega)))
                  clear hK K hHeld6
                  (try simp only [Act.put, List.setIfInBounds_toArray, List.set_cons_zero, List.set_cons_succ, List.getElem_toArray, List.getElem_cons_zero, List.getElem_cons_succ])
                  refine wpAnyH_ready (rs := [9]) (by kernel_rfl) (by simp) ?_
                  refine AllReadyH.cons rfl (fun K hK => ?_) ?_
                  · (rw [if_pos (by rfl)]; refine wp_store_row 68 _ _ (by rfl) _ _ (by rfl) (by rfl) 68 #[.int .i64 0, .bool false, .slice none 0 0, .string ⟨#[]⟩] (by with_reducible repeat' (first | refine setRow_off ?_ ?_ _ | refine drew_at ?_ | exact alloc_new _ | (refine alloc_at _ _ ?_; (simp; done)) | refine alloc_old ?_ _ | refine Below.at hb5 ?_ ?_ | refine Below.at hb6 ?_ ?_ | refine Below.at hb7 ?_ ?_ | refine Below.at hb8 ?_ ?_ | omega | (simp <;> omega))) (by kernel_rfl) (by rfl) (by first | (simp; done) | simp [Value.oneCell']) ?_)
                    refine hK.out _ _ ?_ (fun hHeld8 => ?_)
                    · (try dsimp only); exact HX.out _ (by with_reducible repeat' (first | assumption | refine below_setRowN ?_ ?_ _ | refine Below.drew ?_ | refine Below.alloc ?_ ?_ _ | exact Below.refl _ _ | omega | (simp <;> omega)))
                    clear hK K hHeld7
                    (try simp only [Act.put, List.setIfInBounds_toArray, List.set_cons_zero, List.set_cons_succ, List.getElem_toArray, List.getElem_cons_zero, List.getElem_cons_succ])
                    refine wpAnyH_done (by kernel_rfl) ?_ _
                    go_wp2
                    go_meet
                    refine ⟨_, _, p6, q6, p8, q8, rfl, rfl, ?_, ?_, ?_, ?_, ?_⟩
                    with_reducible repeat' (first | assumption | refine setRow_at (old := #[.int .i64 0, .bool false, .slice none 0 0, .string ⟨#[]⟩]) ?_ _ | refine setRow_off ?_ ?_ _ | refine drew_at ?_ | exact alloc_new _ | (refine alloc_at _ _ ?_; (simp; done)) | refine alloc_old ?_ _ | refine Below.at hb5 ?_ ?_ | refine Below.at hb6 ?_ ?_ | refine Below.at hb7 ?_ ?_ | refine Below.at hb8 ?_ ?_ | apply cells_own | exact HO6.out | exact HO8.out | apply owns_setRow | apply World.ownsRow.drew | apply World.ownsRow.alloc | apply fun h => owns_aft h hb7 | apply fun h => owns_aft h hb8 | refine below_setRowN ?_ ?_ _ | refine Below.drew ?_ | refine Below.alloc ?_ ?_ _ | (intro k hk; first | (have := HLT6.out k hk; first | omega | (simp <;> omega)) | (have := HLT8.out k hk; first | omega | (simp <;> omega))) | omega | (simp <;> omega))
                  exact AllReadyH.nil
                exact AllReadyH.nil
              exact AllReadyH.nil
            exact AllReadyH.nil
          exact AllReadyH.nil
        exact AllReadyH.nil
      exact AllReadyH.nil
    exact AllReadyH.nil
  case rest =>
  obtain ⟨n, d, px, qx, py, qy, rfl, rfl, hX, hY, hCX, hCY, hb⟩ := hcut
  obtain ⟨w2, rfl⟩ : ∃ x : World, x = wc := ⟨_, rfl⟩
  have hB2 : Below w.heap.size w w2 := HB1.out.trans (hb.mono HB1.out.size)
  have hX2 := alloc_old hX (.cells #[.int .i64 ys, .bool yc, .slice py yh.length qy, .string yd] 68)
  have fX := fun j => cell_at hX j
  have fY := fun j => cell_at hY j
  have hln := block_lt hX
  have hld := block_lt hY
  have HX2 := Lib.hid hX
  have HY2 := Lib.hid hY
  have HCX := Lib.hid hCX
  have HCY := Lib.hid hCY
  have HB2 := Lib.hid hB2
  clear hX hY hCX hCY hb hB2 HX HBP HBQ HP1 HQ1 HB1 hX2 HGP HGQ
  go_upto_region 6 with (fail)
  have h3 : Below w2.heap.size w2 (w2.alloc (.cells #[.int .i64 ys, .bool yc, .slice py yh.length qy, .string xd] 68)) := (Below.refl _ _).alloc (Nat.le_refl _) _
  have hX3 := alloc_old HX2.out (.cells #[.int .i64 ys, .bool yc, .slice py yh.length qy, .string xd] 68)
  have hY3 := alloc_old HY2.out (.cells #[.int .i64 ys, .bool yc, .slice py yh.length qy, .string xd] 68)
  have hZ3 := alloc_new (w := w2) (.cells #[.int .i64 ys, .bool yc, .slice py yh.length qy, .string xd] 68)
  have hb3 : Below w.heap.size w (w2.alloc (.cells #[.int .i64 ys, .bool yc, .slice py yh.length qy, .string xd] 68)) := HB2.out.alloc HB2.out.size _
  have hcx3 := HCX.out.below h3
  have hcy3 := HCY.out.below h3
  clear fX fY hln hld HX2 HY2 HCX HCY HB2 h3
  generalize w2.alloc (.cells #[.int .i64 ys, .bool yc, .slice py yh.length qy, .string xd] 68) = w3 at *
  have HX := Lib.hid (fun w' (hb : Below w3.heap.size w3 w') j => cell_at (Below.at hb hX3 (block_lt hX3)) j)
  have HY := Lib.hid (fun w' (hb : Below w3.heap.size w3 w') j => cell_at (Below.at hb hY3 (block_lt hY3)) j)
  have HZ := Lib.hid (fun w' (hb : Below w3.heap.size w3 w') j => cell_at (Below.at hb hZ3 (block_lt hZ3)) j)
  have fX := fun j => cell_at hX3 j
  have HC3 := Lib.hid hcx3
  have HD3 := Lib.hid hcy3
  have HB3 := Lib.hid hb3
  clear hX3 hY3 hZ3 hb3 hcx3 hcy3
  go_upto_region 7 with (go_at_call 44; ((with_reducible refine (HWX.out _ _ _ HC3.out).mono ?_); rintro e w4 ⟨v4, rfl, hown4, hb4⟩; obtain ⟨p4, q4, rfl, hq4, -, hc4⟩ := CellsOff.own hown4 [] (by simp); have HC4 := Lib.hid hc4; have HB4 := Lib.hid hb4; clear hown4 hc4 hb4))
  have fY := HY.out _ HB4.out
  clear fX
  go_upto_region 8 with (go_at_call 44; ((with_reducible refine (HWY.out _ _ _ (HD3.out.below HB4.out)).mono ?_); rintro e w5 ⟨v5, rfl, hown5, hb5⟩; obtain ⟨p5, q5, rfl, hq5, -, hc5⟩ := CellsOff.own hown5 [] (by simp); have HC5 := Lib.hid hc5; have HB5 := Lib.hid hb5; clear hown5 hc5 hb5))
  have h35 : Below w3.heap.size w3 w5 := HB4.out.trans (HB5.out.mono HB4.out.size)
  have fZ := HZ.out _ h35
  clear fY
  go_upto_region 9 with (go_at_call 44; ((with_reducible refine (HWZ.out _ _ _ (HD3.out.below h35)).mono ?_); rintro e w6 ⟨v6, rfl, hown6, hb6⟩; obtain ⟨p6, q6, rfl, hq6, -, hc6⟩ := CellsOff.own hown6 [] (by simp); have HC6 := Lib.hid hc6; have HB6 := Lib.hid hb6; clear hown6 hc6 hb6))
  have h36 : Below w3.heap.size w3 w6 := h35.trans (HB6.out.mono h35.size)
  have fX := HX.out _ h36
  have fY := HY.out _ h36
  have HA := Lib.hid ((HC4.out.below HB5.out).below HB6.out)
  have HBv := Lib.hid (HC5.out.below HB6.out)
  have HCz := HC6
  have H6 := Lib.hid (HB3.out.trans (h36.mono HB3.out.size))
  obtain ⟨ba, oa, rfl, -, -⟩ := u_cell HA.out (show 0 < lx.length by omega)
  obtain ⟨bb, ob, rfl, -, -⟩ := u_cell HBv.out (show 0 < ly.length by omega)
  obtain ⟨bc, oc, rfl, -, -⟩ := u_cell HCz.out (show 0 < lz.length by omega)
  clear fZ h35 h36 HC4 HC5 HB4 HB5 HB6 HC3 HD3 HB3 HX HY HZ
  have g1 : ¬ ((lx.length : Int) < (xh.length : Int)) := by omega
  have g2 : ¬ ((ly.length : Int) < (yh.length : Int)) := by omega
  have g3 : ¬ ((lz.length : Int) < (yh.length : Int)) := by omega
  have k1' : ¬ (q4 = xh.length) := by omega
  have k2' : ¬ (q5 = yh.length) := by omega
  have k3' : ¬ (q6 = yh.length) := by omega
  have s1' : (xh.length : Int) ≤ (lx.length : Int) := by omega
  have s2' : (yh.length : Int) ≤ (ly.length : Int) := by omega
  have s3' : (yh.length : Int) ≤ (lz.length : Int) := by omega
  have t1 : ¬ (q4 - xh.length = 0) := by omega
  have t2 : ¬ (q5 - yh.length = 0) := by omega
  have t3 : ¬ (q6 - yh.length = 0) := by omega
  go_upto_region 11 with (fail)
  go_quiet (first | (go_at_call 46; refine (HSW.out _ _ _ _ _ (by have := HA.out.dropAt xh.length; rw [← List.map_drop] at this; exact this) (by have := HCz.out.dropAt yh.length; rw [← List.map_drop] at this; exact this)).mono ?_; rintro e w7 ⟨rfl, k7, rfl⟩; exact ⟨rfl, by first | exact drew_close2 | exact drew_close0 | exact drew_close⟩))
  go_wp2
  go_quiet (fail)
  have hU : CellsOff w6 (some ⟨ba, oa + xh.length, none⟩) ((restWs xd).map UV) [] := by
    have := HA.out.dropAt xh.length
    rwa [← List.map_drop, HDX.out] at this
  have hV : CellsOff w6 (some ⟨bb, ob + yh.length, none⟩) ((restWs yd).map UV) [] := by
    have := HBv.out.dropAt yh.length
    rwa [← List.map_drop, HDY.out] at this
  have hul : nx + 1 = lx.length - xh.length := by have := HLX.out; omega
  have hvl : ny + 1 = ly.length - yh.length := by have := HLY.out; omega
  have hru : (restWs xd).length = lx.length - xh.length := by rw [← HDX.out, List.length_drop]
  have hrv : (restWs yd).length = ly.length - yh.length := by rw [← HDY.out, List.length_drop]
  have HUC : Hid (∀ i, i < nx → w6.cell? ⟨ba, oa + xh.length + i, none⟩ = some (.int .u64 ((wordF (bodyFl xd i) : Nat) : Int))) := fun i hi => by
    obtain ⟨b1, o1, e1, -, hc⟩ := u_cell hU (show i < (restWs xd).length by omega)
    simp only [Option.some.injEq, Addr.mk.injEq, and_true] at e1
    obtain ⟨rfl, rfl⟩ := e1
    rw [← HGX.out i hi]; exact hc
  have HVC : Hid (∀ i, i < ny → w6.cell? ⟨bb, ob + yh.length + i, none⟩ = some (.int .u64 ((wordF (bodyFl yd i) : Nat) : Int))) := fun i hi => by
    obtain ⟨b1, o1, e1, -, hc⟩ := u_cell hV (show i < (restWs yd).length by omega)
    simp only [Option.some.injEq, Addr.mk.injEq, and_true] at e1
    obtain ⟨rfl, rfl⟩ := e1
    rw [← HGY.out i hi]; exact hc
  have HUL := Lib.hid hul
  have HVL := Lib.hid hvl
  clear hU hV hul hvl hru hrv HA HBv HCz
  go_wp2
  go_loopw [16] (fun i wr => ∃ (m k : Nat), m ≤ nx ∧ i = .int .i64 (m : Int) ∧ wr = w6.drewN k) (fun i _ => nx - (intOf i).toNat)
  case atStart => exact ⟨0, _, by omega, rfl, by first | rfl | exact World.drewN_drewN ..⟩
  case round =>
    obtain ⟨m, k, hm, rfl, rfl⟩ := hrel
    have hul := HUL.out
    have hvl := HVL.out
    by_cases hmx : m < nx
    · have e1 : (m : Int) + 1 < ((lx.length - xh.length : Nat) : Int) := by omega
      by_cases hmy : m < ny
      · have e2 : (m : Int) + 1 < ((ly.length - yh.length : Nat) : Int) := by omega
        have c0 := HUC.out m hmx
        have c1 := HVC.out m hmy
        have hbe := HBE.out m hmx hmy
        have z1 := HNX6.out m hmx
        have z2 := HNY6.out m hmy
        have z1I : 6 * (m : Int) + 6 ≤ (xd.size : Int) := by omega
        have z2I : 6 * (m : Int) + 6 ≤ (yd.size : Int) := by omega
        have l1 : (0 : Int) ≤ 6 * (m : Int) := by omega
        have l2 : 6 * (m : Int) ≤ 6 * (m : Int) + 6 := by omega
        have i1 : (m : Int) < ((lx.length - xh.length : Nat) : Int) := by omega
        have i2 : (m : Int) < ((ly.length - yh.length : Nat) : Int) := by omega
        clear hul hvl
        by_cases he : xd.extract (6 * m) (6 * m + 6) = yd.extract (6 * m) (6 * m + 6)
        · have hw := hbe.2 he
          rw [← hw] at c1
          clear hbe hw
          generalize wordF (bodyFl xd m) = x at *
          go_wp2
          go_quiet (fail)
          go_wp2
          go_roundw
          case rel => exact ⟨m + 1, _, by omega, by go_num, by first | rfl | exact World.drewN_drewN ..⟩
          case measure => simp [intOf]; omega
        · have hw : ((wordF (bodyFl xd m) : Int) == (wordF (bodyFl yd m) : Int)) = false := beq_eq_false_iff_ne.2 (fun e => he (hbe.1 (by omega)))
          have hne := toList_ne he
          clear hbe he
          generalize wordF (bodyFl xd m) = x at *
          generalize wordF (bodyFl yd m) = y at *
          go_wp2
          go_quiet (fail)
          go_wp2
          go_roundw
          case rel => exact ⟨m + 1, _, by omega, by go_num, by first | rfl | exact World.drewN_drewN ..⟩
          case measure => simp [intOf]; omega
      · have e2 : ¬ ((m : Int) + 1 < ((ly.length - yh.length : Nat) : Int)) := by omega
        clear hul hvl
        go_wp2
        go_ret
        exact ⟨rfl, below_drewN' H6.out _⟩
    · have e1 : ¬ ((m : Int) + 1 < ((lx.length - xh.length : Nat) : Int)) := by omega
      clear hul hvl
      go_wp2
      go_ret
      exact ⟨rfl, below_drewN' H6.out _⟩
end Go.Proofs.Ytmehfflomgldeab
