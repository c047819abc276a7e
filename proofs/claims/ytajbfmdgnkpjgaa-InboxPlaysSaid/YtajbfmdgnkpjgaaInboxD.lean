/- An inbox's Come. -/
import Derived.Test.YtajbfmdgnkpjgaaInboxC
import Derived.Test.YtajbfmdgnkpjgaaInC
namespace Go.Proofs.Ytajbfmdgnkpjgaa
set_option linter.unusedVariables false
set_option linter.unusedSimpArgs false
open Go.RowKit Go.ChangeMaps Go.WideShapes Go.WideMaps
theorem WaitsAt.put {w : World} {b : Nat} {l : List Pk} (h : WaitsAt w b l) (p : Pk) (h1 : (Lit.int .i64 p.src).wf = true) (h2 : (Lit.int .i64 p.seq).wf = true) (hn : l.any (keyEq p) = false) :
    ∃ o, (Instr.mapUpdate 103 (.map (some b)) (.agg #[.int .i64 p.src, .int .i64 p.seq]) p.val).run Try.prog w = .ok () (setBlock w b o) ∧ WaitsAt (setBlock w b o) b (l ++ [p]) := by
  obtain ⟨es, c, h3, h4⟩ := h
  have hno : ∀ a ∈ l, keyV a ≠ .agg #[.int .i64 p.src, .int .i64 p.seq] := fun a ha e => by
    unfold keyV at e
    simp at e
    rw [Bool.eq_false_iff] at hn
    exact hn (IS.any_key.2 ⟨a, ha, e⟩)
  obtain ⟨es', c', hr, hm, he⟩ := put_new (val := p.val) lawK Try.underlying103 h3 h4 (keyK h1 h2) hno
  exact ⟨_, hr, es', c', hm, by rw [he, h4, List.map_append]; rfl⟩
theorem nodup_same {α β : Type} {f : α → β} : ∀ {l : List α}, (l.map f).Nodup → ∀ {a b : α}, a ∈ l → b ∈ l → f a = f b → a = b
  | [], _, a, b, ha, _, _ => by simp at ha
  | x :: l, h, a, b, ha, hb, e => by
    rw [List.map_cons, List.nodup_cons] at h
    rcases List.mem_cons.1 ha with rfl | ha' <;> rcases List.mem_cons.1 hb with rfl | hb'
    · rfl
    · exact absurd (List.mem_map.2 ⟨b, hb', e.symm⟩) h.1
    · exact absurd (List.mem_map.2 ⟨a, ha', e⟩) h.1
    · exact nodup_same h.2 ha' hb' e
/-- The look-up answers the same in all worlds that leave the map alone. -/
theorem WaitsAt.look' {w : World} {b : Nat} {l : List Pk} (h : WaitsAt w b l) (p : Pk) (h1 : (Lit.int .i64 p.src).wf = true) (h2 : (Lit.int .i64 p.seq).wf = true) :
    ∃ q : Pk, ∀ w' S, Only S w w' → b ∉ S → (Instr.lookup 103 (.map (some b)) (.agg #[.int .i64 p.src, .int .i64 p.seq]) true).run Try.prog w' = .ok (.tuple #[q.val, .bool (l.any (keyEq p))]) w' := by
  obtain ⟨es, c, h3, h4⟩ := h
  have hnd := ents_keys h4 h3.st
  cases ha : l.any (keyEq p) with
  | true =>
    obtain ⟨a, hal, ha1, ha2⟩ := IS.any_key.1 ha
    refine ⟨a, fun w' S ho hb => ?_⟩
    rcases look_raw true lawK Try.underlying103 (zeroK w') (h3.only ho hb) h4 (keyK h1 h2) with ⟨hr, hno⟩ | ⟨a', ha', hk, hr⟩
    · exact absurd (by unfold keyV; rw [ha1, ha2]) (hno a hal)
    · have e : a' = a := nodup_same hnd ha' hal (by rw [hk]; unfold keyV; rw [ha1, ha2])
      rw [hr, e]; rfl
  | false =>
    refine ⟨Pk.zero, fun w' S ho hb => ?_⟩
    rcases look_raw true lawK Try.underlying103 (zeroK w') (h3.only ho hb) h4 (keyK h1 h2) with ⟨hr, hno⟩ | ⟨a', ha', hk, hr⟩
    · rw [hr]; rfl
    · unfold keyV at hk
      simp at hk
      rw [IS.any_key.2 ⟨a', ha', hk.1, hk.2⟩] at ha
      simp at ha
theorem put_op {P : Program} {o : Oper} {a : Act} {w : World} {K : Act → World → Prop} {Q : Exit → Act → World → Prop} (m x v : Operand) (t : TypeId) (hop : o.op = Op.mapUpdate t m x v) (b : Nat) (hm : a.eval m = .map (some b)) (key val : Value) (hx : a.eval x = key) (hv : a.eval v = val) (w' : World)
    (hrun : (Instr.mapUpdate t (.map (some b)) key val).run P w = .ok () w') (h : K (a.put o.dst undef) w') : o.wp P a w K Q := by
  unfold Oper.wp
  simp [execOp, hop, hm, hx, hv, hrun, Result.andThen]
  exact h
set_option maxRecDepth 100000 in
set_option maxHeartbeats 2000000 in
theorem box_come (p : Pk) (w : World) (b : Nat) (B : List Nat) (s : IS) (hp1 : (Lit.int .i64 p.src).wf = true) (hp2 : (Lit.int .i64 p.seq).wf = true) (h : BoxAt w b B s) :
    Calls Try.prog 13 #[.pointer (some ⟨b, 0, none⟩), p.val] w fun e w' => e = .returned (.int .i64 (s.come p).2) ∧ BoxAt w' b B (s.come p).1 ∧ Only B w w' := by
  have hok2 := h.ok.come p
  have hlts := h.lt
  obtain ⟨qb, qg, wb, nb, rs, rfl, hr⟩ := h
  obtain ⟨p0, p1, p2, p3⟩ := p
  have hbl := block_lt hr.obj
  have hO1 : Only [] w ((w.alloc (.cells #[.int .i64 p0, .int .i64 p1, .int .i64 p2, .string p3] 30)).alloc (.cells #[.int .i64 p0, .int .i64 p2] 107)) := ((Only.refl _ _).alloc _).alloc _
  have hB1 := hr.only hO1 (by simp)
  have hF1 : ((w.alloc (.cells #[.int .i64 p0, .int .i64 p1, .int .i64 p2, .string p3] 30)).alloc (.cells #[.int .i64 p0, .int .i64 p2] 107)).heap[w.heap.size]? = some (.cells #[.int .i64 p0, .int .i64 p1, .int .i64 p2, .string p3] 30 (0, 0)) := alloc_old (alloc_new _) _
  have hK1 : ((w.alloc (.cells #[.int .i64 p0, .int .i64 p1, .int .i64 p2, .string p3] 30)).alloc (.cells #[.int .i64 p0, .int .i64 p2] 107)).heap[w.heap.size + 1]? = some (.cells #[.int .i64 p0, .int .i64 p2] 107 (0, 0)) := alloc_atK _ _ (by simp)
  have hput := fun w' (hw : WaitsAt w' wb s.ws) hn => hw.put ⟨p0, p1, p2, p3⟩ hp1 hp2 hn
  obtain ⟨c0, c1, c2⟩ := hB1.cells
  have f0 := fun j => cell_at hF1 j
  have k0 := fun j => cell_at hK1 j
  have HR := Lib.hid hr
  have HB1 := Lib.hid hB1
  have HF1 := Lib.hid hF1
  have HK1 := Lib.hid hK1
  have HO1 := Lib.hid hO1
  have HPUT := Lib.hid hput
  unfold IS.come inR at hok2 ⊢
  dsimp only at hok2 ⊢
  clear hr hB1 hF1 hK1 hO1 hput
  by_cases ha : s.ws.any (keyEq ⟨p0, p1, p2, p3⟩) = true
  · rw [if_pos ha] at hok2 ⊢
    have HA := Lib.hid ha
    clear ha
    go_enter Try.func13, Try.ntmps13
    go_upto_region 4 with (fail)
    generalize ((w.alloc (.cells #[.int .i64 p0, .int .i64 p1, .int .i64 p2, .string p3] 30)).alloc (.cells #[.int .i64 p0, .int .i64 p2] 107)) = w1 at *
    obtain ⟨⟨q0, q1, q2, q3⟩, hlk⟩ := HB1.out.wa.look' ⟨p0, p1, p2, p3⟩ hp1 hp2
    rw [HA.out] at hlk
    dsimp only [Pk.val] at hlk
    have hS : ∀ w', Only [] w1 w' → (fun w' => (∀ j, w'.cell? ⟨b, j, none⟩ = (#[.pointer (some ⟨qb, 0, none⟩), .map (some wb), .map (some nb)] : Array Value)[j]?) ∧ (∀ j, w'.cell? ⟨w.heap.size, j, none⟩ = (#[.int .i64 p0, .int .i64 p1, .int .i64 p2, .string p3] : Array Value)[j]?) ∧ (∀ j, w'.cell? ⟨w.heap.size + 1, j, none⟩ = (#[.int .i64 p0, .int .i64 p2] : Array Value)[j]?) ∧ (Instr.lookup 103 (.map (some wb)) (.agg #[.int .i64 p0, .int .i64 p2]) true).run Try.prog w' = .ok (.tuple #[.agg #[.int .i64 q0, .int .i64 q1, .int .i64 q2, .string q3], .bool true]) w') w' := fun w' ho => ⟨fun j => cell_at (ho.at HB1.out.obj (by simp)) j, fun j => cell_at (ho.at HF1.out (by simp)) j, fun j => cell_at (ho.at HK1.out (by simp)) j, hlk w' [] ho (by simp)⟩
    clear hlk
    have HS := Lib.hid hS
    clear hS c0 c1 c2 f0 k0
    go_cut [7] (fun v7 wx => v7 = .bool true ∧ Only [] w1 wx)
    case first =>
      refine wp_region_held_drew (S := (fun w' => (∀ j, w'.cell? ⟨b, j, none⟩ = (#[.pointer (some ⟨qb, 0, none⟩), .map (some wb), .map (some nb)] : Array Value)[j]?) ∧ (∀ j, w'.cell? ⟨w.heap.size, j, none⟩ = (#[.int .i64 p0, .int .i64 p1, .int .i64 p2, .string p3] : Array Value)[j]?) ∧ (∀ j, w'.cell? ⟨w.heap.size + 1, j, none⟩ = (#[.int .i64 p0, .int .i64 p2] : Array Value)[j]?) ∧ (Instr.lookup 103 (.map (some wb)) (.agg #[.int .i64 p0, .int .i64 p2]) true).run Try.prog w' = .ok (.tuple #[.agg #[.int .i64 q0, .int .i64 q1, .int .i64 q2, .string q3], .bool true]) w')) (by kernel_rfl) ?_ (fun hHeld0 => ?_)
      · (try dsimp only); (refine HS.out _ ?_; with_reducible repeat' (first | exact Only.refl _ _ | exact Or.inr (Nat.le_refl _) | refine only_setRowN ?_ ?_ _ | refine Only.drew ?_ | refine Only.drewN ?_ _ | refine Only.alloc ?_ _))
      refine wpAnyH_take (i := 0) (v := ?_) rfl (by kernel_rfl) (by kernel_rfl) (by kernel_rfl) (fun _ _ _ h => h) (Or.inl ⟨by rfl, ?_⟩) (by assumption) ?_
      rotate_left
      · (intro w hSw; (try dsimp only at hSw); go_simp; try with_reducible rfl)
      (try simp only [Act.put, List.setIfInBounds_toArray, List.set_cons_zero, List.set_cons_succ, List.getElem_toArray, List.getElem_cons_zero, List.getElem_cons_succ])
      refine wpAnyH_take (i := 1) (v := ?_) rfl (by kernel_rfl) (by kernel_rfl) (by kernel_rfl) (fun _ _ _ h => h) (Or.inl ⟨by rfl, ?_⟩) (by assumption) ?_
      rotate_left
      · (intro w hSw; (try dsimp only at hSw); go_simp; try with_reducible rfl)
      (try simp only [Act.put, List.setIfInBounds_toArray, List.set_cons_zero, List.set_cons_succ, List.getElem_toArray, List.getElem_cons_zero, List.getElem_cons_succ])
      refine wpAnyH_take (i := 2) (v := ?_) rfl (by kernel_rfl) (by kernel_rfl) (by kernel_rfl) (fun _ _ _ h => h) (Or.inl ⟨by rfl, ?_⟩) (by assumption) ?_
      rotate_left
      · (intro w hSw; (try dsimp only at hSw); go_simp; try with_reducible rfl)
      (try simp only [Act.put, List.setIfInBounds_toArray, List.set_cons_zero, List.set_cons_succ, List.getElem_toArray, List.getElem_cons_zero, List.getElem_cons_succ])
      refine wpAnyH_take (i := 3) (v := ?_) rfl (by kernel_rfl) (by kernel_rfl) (by kernel_rfl) (fun _ _ _ h => h) (Or.inl ⟨by rfl, ?_⟩) (by assumption) ?_
      rotate_left
      · (intro w hSw; (try dsimp only at hSw); go_simp; try with_reducible rfl)
      (try simp only [Act.put, List.setIfInBounds_toArray, List.set_cons_zero, List.set_cons_succ, List.getElem_toArray, List.getElem_cons_zero, List.getElem_cons_succ])
      refine wpAnyH_take (i := 4) (v := ?_) rfl (by kernel_rfl) (by kernel_rfl) (by kernel_rfl) (fun _ _ _ h => h) (Or.inl ⟨by rfl, ?_⟩) (by assumption) ?_
      rotate_left
      · (intro w hSw; (try dsimp only at hSw); go_simp; try with_reducible rfl)
      (try simp only [Act.put, List.setIfInBounds_toArray, List.set_cons_zero, List.set_cons_succ, List.getElem_toArray, List.getElem_cons_zero, List.getElem_cons_succ])
      refine wpAnyH_take (i := 5) (v := ?_) rfl (by kernel_rfl) (by kernel_rfl) (by kernel_rfl) (fun _ _ _ h => h) (Or.inl ⟨by rfl, ?_⟩) (by assumption) ?_
      rotate_left
      · (intro w hSw; (try dsimp only at hSw); go_simp; try with_reducible rfl)
      (try simp only [Act.put, List.setIfInBounds_toArray, List.set_cons_zero, List.set_cons_succ, List.getElem_toArray, List.getElem_cons_zero, List.getElem_cons_succ])
      refine wpAnyH_take (i := 6) (v := ?_) rfl (by kernel_rfl) (by kernel_rfl) (by kernel_rfl) (fun _ _ _ h => h) (Or.inl ⟨by rfl, ?_⟩) (by assumption) ?_
      rotate_left
      · (intro w hSw; (try dsimp only at hSw); go_simp; try with_reducible rfl)
      (try simp only [Act.put, List.setIfInBounds_toArray, List.set_cons_zero, List.set_cons_succ, List.getElem_toArray, List.getElem_cons_zero, List.getElem_cons_succ])
      refine wpAnyH_take (i := 7) (v := ?_) rfl (by kernel_rfl) (by kernel_rfl) (by kernel_rfl) (fun _ _ _ h => h) (Or.inl ⟨by rfl, ?_⟩) (by assumption) ?_
      rotate_left
      · (intro w hSw; (try dsimp only at hSw); go_simp; try with_reducible rfl)
      (try simp only [Act.put, List.setIfInBounds_toArray, List.set_cons_zero, List.set_cons_succ, List.getElem_toArray, List.getElem_cons_zero, List.getElem_cons_succ])
      refine wpAnyH_take (i := 8) (v := ?_) rfl (by kernel_rfl) (by kernel_rfl) (by kernel_rfl) (fun _ _ _ h => h) (Or.inl ⟨by rfl, ?_⟩) (by assumption) ?_
      rotate_left
      · (intro w hSw; (try dsimp only at hSw); go_simp; try with_reducible rfl)
      (try simp only [Act.put, List.setIfInBounds_toArray, List.set_cons_zero, List.set_cons_succ, List.getElem_toArray, List.getElem_cons_zero, List.getElem_cons_succ])
      refine wpAnyH_ready (rs := [9]) (by kernel_rfl) (by simp) ?_
      refine AllReadyH.cons rfl (fun K hK => ?_) ?_
      · go_simp
        refine hK.out _ _ ?_ (fun hHeld1 => ?_)
        · (try dsimp only); (refine HS.out _ ?_; with_reducible repeat' (first | exact Only.refl _ _ | exact Or.inr (Nat.le_refl _) | refine only_setRowN ?_ ?_ _ | refine Only.drew ?_ | refine Only.drewN ?_ _ | refine Only.alloc ?_ _))
        clear hK K hHeld0
        (try simp only [Act.put, List.setIfInBounds_toArray, List.set_cons_zero, List.set_cons_succ, List.getElem_toArray, List.getElem_cons_zero, List.getElem_cons_succ])
        refine wpAnyH_ready (rs := [10]) (by kernel_rfl) (by simp) ?_
        refine AllReadyH.cons rfl (fun K hK => ?_) ?_
        · (rw [if_pos (by rfl)]; refine wp_store_row 30 _ _ (by rfl) _ _ (by rfl) (by rfl) 30 #[.int .i64 0, .int .i64 0, .int .i64 0, .string ⟨#[]⟩] (by exact alloc_new _) (by kernel_rfl) (by rfl) (by first | (simp; done) | simp [Value.oneCell']) ?_)
          refine hK.out _ _ ?_ (fun hHeld2 => ?_)
          · (try dsimp only); (refine HS.out _ ?_; with_reducible repeat' (first | exact Only.refl _ _ | exact Or.inr (Nat.le_refl _) | refine only_setRowN ?_ ?_ _ | refine Only.drew ?_ | refine Only.drewN ?_ _ | refine Only.alloc ?_ _))
          clear hK K hHeld1
          (try simp only [Act.put, List.setIfInBounds_toArray, List.set_cons_zero, List.set_cons_succ, List.getElem_toArray, List.getElem_cons_zero, List.getElem_cons_succ])
          refine wpAnyH_take (i := 11) (v := ?_) rfl (by kernel_rfl) (by kernel_rfl) (by kernel_rfl) (fun _ _ _ h => h) (Or.inl ⟨by rfl, ?_⟩) (by assumption) ?_
          rotate_left
          · (intro w hSw; (try dsimp only at hSw); go_simp; try with_reducible rfl)
          (try simp only [Act.put, List.setIfInBounds_toArray, List.set_cons_zero, List.set_cons_succ, List.getElem_toArray, List.getElem_cons_zero, List.getElem_cons_succ])
          refine wpAnyH_done (by kernel_rfl) ?_ _
          go_wp2
          go_meet
          refine ⟨rfl, by with_reducible repeat' (first | exact Only.refl _ _ | exact Or.inr (Nat.le_refl _) | refine only_setRowN ?_ ?_ _ | refine Only.drew ?_ | refine Only.drewN ?_ _ | refine Only.alloc ?_ _)⟩
        exact AllReadyH.nil
      exact AllReadyH.nil
    case rest =>
    obtain ⟨rfl, hO2⟩ := hcut
    obtain ⟨w2, rfl⟩ : ∃ x : World, x = wc := ⟨_, rfl⟩
    have hB2 := HB1.out.only hO2 (by simp)
    have hF2 : w2.heap[w.heap.size]? = some (.cells #[.int .i64 p0, .int .i64 p1, .int .i64 p2, .string p3] 30 (0, 0)) := hO2.at HF1.out (by simp)
    have hK2 : w2.heap[w.heap.size + 1]? = some (.cells #[.int .i64 p0, .int .i64 p2] 107 (0, 0)) := hO2.at HK1.out (by simp)
    have HO2 := Lib.hid (HO1.out.trans hO2)
    clear HB1 HF1 HK1 HO1 HS hO2
    obtain ⟨c0, c1, c2⟩ := hB2.cells
    have f0 := fun j => cell_at hF2 j
    have k0 := fun j => cell_at hK2 j
    have HB2 := Lib.hid hB2
    have HF2 := Lib.hid hF2
    have HK2 := Lib.hid hK2
    clear hB2 hF2 hK2
    go_wp2
    go_ret
    exact ⟨rfl, ⟨qb, qg, wb, nb, rs, rfl, HB2.out.only (S := []) (by with_reducible repeat' (first | exact Only.refl _ _ | exact Or.inr (Nat.le_refl _) | refine only_setRowN ?_ ?_ _ | refine Only.drew ?_ | refine Only.drewN ?_ _ | refine Only.alloc ?_ _)) (by simp)⟩, by (refine Only.mono (S := []) ?_ (by simp)); repeat' (first | exact HO2.out | with_reducible refine only_setRowN ?_ ?_ _ | with_reducible refine Only.drew ?_ | with_reducible refine Only.drewN ?_ _ | with_reducible refine Only.alloc ?_ _)⟩
  rw [if_neg ha] at hok2 ⊢
  rw [Bool.not_eq_true] at ha
  have HA := Lib.hid ha
  clear ha
  simp only [decide_eq_true_eq] at hok2 ⊢
  by_cases i1 : p0 < 0
  · rw [if_neg (by omega)]
    clear hok2
    go_enter Try.func13, Try.ntmps13
    go_upto_region 4 with (fail)
    generalize ((w.alloc (.cells #[.int .i64 p0, .int .i64 p1, .int .i64 p2, .string p3] 30)).alloc (.cells #[.int .i64 p0, .int .i64 p2] 107)) = w1 at *
    obtain ⟨⟨q0, q1, q2, q3⟩, hlk⟩ := HB1.out.wa.look' ⟨p0, p1, p2, p3⟩ hp1 hp2
    rw [HA.out] at hlk
    dsimp only [Pk.val] at hlk
    have hS : ∀ w', Only [] w1 w' → (fun w' => (∀ j, w'.cell? ⟨b, j, none⟩ = (#[.pointer (some ⟨qb, 0, none⟩), .map (some wb), .map (some nb)] : Array Value)[j]?) ∧ (∀ j, w'.cell? ⟨w.heap.size, j, none⟩ = (#[.int .i64 p0, .int .i64 p1, .int .i64 p2, .string p3] : Array Value)[j]?) ∧ (∀ j, w'.cell? ⟨w.heap.size + 1, j, none⟩ = (#[.int .i64 p0, .int .i64 p2] : Array Value)[j]?) ∧ (Instr.lookup 103 (.map (some wb)) (.agg #[.int .i64 p0, .int .i64 p2]) true).run Try.prog w' = .ok (.tuple #[.agg #[.int .i64 q0, .int .i64 q1, .int .i64 q2, .string q3], .bool false]) w') w' := fun w' ho => ⟨fun j => cell_at (ho.at HB1.out.obj (by simp)) j, fun j => cell_at (ho.at HF1.out (by simp)) j, fun j => cell_at (ho.at HK1.out (by simp)) j, hlk w' [] ho (by simp)⟩
    clear hlk
    have HS := Lib.hid hS
    clear hS c0 c1 c2 f0 k0
    go_cut [7] (fun v7 wx => v7 = .bool false ∧ Only [] w1 wx)
    case first =>
      refine wp_region_held_drew (S := (fun w' => (∀ j, w'.cell? ⟨b, j, none⟩ = (#[.pointer (some ⟨qb, 0, none⟩), .map (some wb), .map (some nb)] : Array Value)[j]?) ∧ (∀ j, w'.cell? ⟨w.heap.size, j, none⟩ = (#[.int .i64 p0, .int .i64 p1, .int .i64 p2, .string p3] : Array Value)[j]?) ∧ (∀ j, w'.cell? ⟨w.heap.size + 1, j, none⟩ = (#[.int .i64 p0, .int .i64 p2] : Array Value)[j]?) ∧ (Instr.lookup 103 (.map (some wb)) (.agg #[.int .i64 p0, .int .i64 p2]) true).run Try.prog w' = .ok (.tuple #[.agg #[.int .i64 q0, .int .i64 q1, .int .i64 q2, .string q3], .bool false]) w')) (by kernel_rfl) ?_ (fun hHeld0 => ?_)
      · (try dsimp only); (refine HS.out _ ?_; with_reducible repeat' (first | exact Only.refl _ _ | exact Or.inr (Nat.le_refl _) | refine only_setRowN ?_ ?_ _ | refine Only.drew ?_ | refine Only.drewN ?_ _ | refine Only.alloc ?_ _))
      refine wpAnyH_take (i := 0) (v := ?_) rfl (by kernel_rfl) (by kernel_rfl) (by kernel_rfl) (fun _ _ _ h => h) (Or.inl ⟨by rfl, ?_⟩) (by assumption) ?_
      rotate_left
      · (intro w hSw; (try dsimp only at hSw); go_simp; try with_reducible rfl)
      (try simp only [Act.put, List.setIfInBounds_toArray, List.set_cons_zero, List.set_cons_succ, List.getElem_toArray, List.getElem_cons_zero, List.getElem_cons_succ])
      refine wpAnyH_take (i := 1) (v := ?_) rfl (by kernel_rfl) (by kernel_rfl) (by kernel_rfl) (fun _ _ _ h => h) (Or.inl ⟨by rfl, ?_⟩) (by assumption) ?_
      rotate_left
      · (intro w hSw; (try dsimp only at hSw); go_simp; try with_reducible rfl)
      (try simp only [Act.put, List.setIfInBounds_toArray, List.set_cons_zero, List.set_cons_succ, List.getElem_toArray, List.getElem_cons_zero, List.getElem_cons_succ])
      refine wpAnyH_take (i := 2) (v := ?_) rfl (by kernel_rfl) (by kernel_rfl) (by kernel_rfl) (fun _ _ _ h => h) (Or.inl ⟨by rfl, ?_⟩) (by assumption) ?_
      rotate_left
      · (intro w hSw; (try dsimp only at hSw); go_simp; try with_reducible rfl)
      (try simp only [Act.put, List.setIfInBounds_toArray, List.set_cons_zero, List.set_cons_succ, List.getElem_toArray, List.getElem_cons_zero, List.getElem_cons_succ])
      refine wpAnyH_take (i := 3) (v := ?_) rfl (by kernel_rfl) (by kernel_rfl) (by kernel_rfl) (fun _ _ _ h => h) (Or.inl ⟨by rfl, ?_⟩) (by assumption) ?_
      rotate_left
      · (intro w hSw; (try dsimp only at hSw); go_simp; try with_reducible rfl)
      (try simp only [Act.put, List.setIfInBounds_toArray, List.set_cons_zero, List.set_cons_succ, List.getElem_toArray, List.getElem_cons_zero, List.getElem_cons_succ])
      refine wpAnyH_take (i := 4) (v := ?_) rfl (by kernel_rfl) (by kernel_rfl) (by kernel_rfl) (fun _ _ _ h => h) (Or.inl ⟨by rfl, ?_⟩) (by assumption) ?_
      rotate_left
      · (intro w hSw; (try dsimp only at hSw); go_simp; try with_reducible rfl)
      (try simp only [Act.put, List.setIfInBounds_toArray, List.set_cons_zero, List.set_cons_succ, List.getElem_toArray, List.getElem_cons_zero, List.getElem_cons_succ])
      refine wpAnyH_take (i := 5) (v := ?_) rfl (by kernel_rfl) (by kernel_rfl) (by kernel_rfl) (fun _ _ _ h => h) (Or.inl ⟨by rfl, ?_⟩) (by assumption) ?_
      rotate_left
      · (intro w hSw; (try dsimp only at hSw); go_simp; try with_reducible rfl)
      (try simp only [Act.put, List.setIfInBounds_toArray, List.set_cons_zero, List.set_cons_succ, List.getElem_toArray, List.getElem_cons_zero, List.getElem_cons_succ])
      refine wpAnyH_take (i := 6) (v := ?_) rfl (by kernel_rfl) (by kernel_rfl) (by kernel_rfl) (fun _ _ _ h => h) (Or.inl ⟨by rfl, ?_⟩) (by assumption) ?_
      rotate_left
      · (intro w hSw; (try dsimp only at hSw); go_simp; try with_reducible rfl)
      (try simp only [Act.put, List.setIfInBounds_toArray, List.set_cons_zero, List.set_cons_succ, List.getElem_toArray, List.getElem_cons_zero, List.getElem_cons_succ])
      refine wpAnyH_take (i := 7) (v := ?_) rfl (by kernel_rfl) (by kernel_rfl) (by kernel_rfl) (fun _ _ _ h => h) (Or.inl ⟨by rfl, ?_⟩) (by assumption) ?_
      rotate_left
      · (intro w hSw; (try dsimp only at hSw); go_simp; try with_reducible rfl)
      (try simp only [Act.put, List.setIfInBounds_toArray, List.set_cons_zero, List.set_cons_succ, List.getElem_toArray, List.getElem_cons_zero, List.getElem_cons_succ])
      refine wpAnyH_take (i := 8) (v := ?_) rfl (by kernel_rfl) (by kernel_rfl) (by kernel_rfl) (fun _ _ _ h => h) (Or.inl ⟨by rfl, ?_⟩) (by assumption) ?_
      rotate_left
      · (intro w hSw; (try dsimp only at hSw); go_simp; try with_reducible rfl)
      (try simp only [Act.put, List.setIfInBounds_toArray, List.set_cons_zero, List.set_cons_succ, List.getElem_toArray, List.getElem_cons_zero, List.getElem_cons_succ])
      refine wpAnyH_ready (rs := [9]) (by kernel_rfl) (by simp) ?_
      refine AllReadyH.cons rfl (fun K hK => ?_) ?_
      · go_simp
        refine hK.out _ _ ?_ (fun hHeld1 => ?_)
        · (try dsimp only); (refine HS.out _ ?_; with_reducible repeat' (first | exact Only.refl _ _ | exact Or.inr (Nat.le_refl _) | refine only_setRowN ?_ ?_ _ | refine Only.drew ?_ | refine Only.drewN ?_ _ | refine Only.alloc ?_ _))
        clear hK K hHeld0
        (try simp only [Act.put, List.setIfInBounds_toArray, List.set_cons_zero, List.set_cons_succ, List.getElem_toArray, List.getElem_cons_zero, List.getElem_cons_succ])
        refine wpAnyH_ready (rs := [10]) (by kernel_rfl) (by simp) ?_
        refine AllReadyH.cons rfl (fun K hK => ?_) ?_
        · (rw [if_pos (by rfl)]; refine wp_store_row 30 _ _ (by rfl) _ _ (by rfl) (by rfl) 30 #[.int .i64 0, .int .i64 0, .int .i64 0, .string ⟨#[]⟩] (by exact alloc_new _) (by kernel_rfl) (by rfl) (by first | (simp; done) | simp [Value.oneCell']) ?_)
          refine hK.out _ _ ?_ (fun hHeld2 => ?_)
          · (try dsimp only); (refine HS.out _ ?_; with_reducible repeat' (first | exact Only.refl _ _ | exact Or.inr (Nat.le_refl _) | refine only_setRowN ?_ ?_ _ | refine Only.drew ?_ | refine Only.drewN ?_ _ | refine Only.alloc ?_ _))
          clear hK K hHeld1
          (try simp only [Act.put, List.setIfInBounds_toArray, List.set_cons_zero, List.set_cons_succ, List.getElem_toArray, List.getElem_cons_zero, List.getElem_cons_succ])
          refine wpAnyH_take (i := 11) (v := ?_) rfl (by kernel_rfl) (by kernel_rfl) (by kernel_rfl) (fun _ _ _ h => h) (Or.inl ⟨by rfl, ?_⟩) (by assumption) ?_
          rotate_left
          · (intro w hSw; (try dsimp only at hSw); go_simp; try with_reducible rfl)
          (try simp only [Act.put, List.setIfInBounds_toArray, List.set_cons_zero, List.set_cons_succ, List.getElem_toArray, List.getElem_cons_zero, List.getElem_cons_succ])
          refine wpAnyH_done (by kernel_rfl) ?_ _
          go_wp2
          go_meet
          refine ⟨rfl, by with_reducible repeat' (first | exact Only.refl _ _ | exact Or.inr (Nat.le_refl _) | refine only_setRowN ?_ ?_ _ | refine Only.drew ?_ | refine Only.drewN ?_ _ | refine Only.alloc ?_ _)⟩
        exact AllReadyH.nil
      exact AllReadyH.nil
    case rest =>
    obtain ⟨rfl, hO2⟩ := hcut
    obtain ⟨w2, rfl⟩ : ∃ x : World, x = wc := ⟨_, rfl⟩
    have hB2 := HB1.out.only hO2 (by simp)
    have hF2 : w2.heap[w.heap.size]? = some (.cells #[.int .i64 p0, .int .i64 p1, .int .i64 p2, .string p3] 30 (0, 0)) := hO2.at HF1.out (by simp)
    have hK2 : w2.heap[w.heap.size + 1]? = some (.cells #[.int .i64 p0, .int .i64 p2] 107 (0, 0)) := hO2.at HK1.out (by simp)
    have HO2 := Lib.hid (HO1.out.trans hO2)
    clear HB1 HF1 HK1 HO1 HS hO2
    obtain ⟨c0, c1, c2⟩ := hB2.cells
    have f0 := fun j => cell_at hF2 j
    have k0 := fun j => cell_at hK2 j
    have HB2 := Lib.hid hB2
    have HF2 := Lib.hid hF2
    have HK2 := Lib.hid hK2
    clear hB2 hF2 hK2
    go_wp2
    go_ret
    exact ⟨rfl, ⟨qb, qg, wb, nb, rs, rfl, HB2.out.only (S := []) (by with_reducible repeat' (first | exact Only.refl _ _ | exact Or.inr (Nat.le_refl _) | refine only_setRowN ?_ ?_ _ | refine Only.drew ?_ | refine Only.drewN ?_ _ | refine Only.alloc ?_ _)) (by simp)⟩, by (refine Only.mono (S := []) ?_ (by simp)); repeat' (first | exact HO2.out | with_reducible refine only_setRowN ?_ ?_ _ | with_reducible refine Only.drew ?_ | with_reducible refine Only.drewN ?_ _ | with_reducible refine Only.alloc ?_ _)⟩
  by_cases i2 : 4096 ≤ p0
  · rw [if_neg (by omega)]
    clear hok2
    go_enter Try.func13, Try.ntmps13
    go_upto_region 4 with (fail)
    generalize ((w.alloc (.cells #[.int .i64 p0, .int .i64 p1, .int .i64 p2, .string p3] 30)).alloc (.cells #[.int .i64 p0, .int .i64 p2] 107)) = w1 at *
    obtain ⟨⟨q0, q1, q2, q3⟩, hlk⟩ := HB1.out.wa.look' ⟨p0, p1, p2, p3⟩ hp1 hp2
    rw [HA.out] at hlk
    dsimp only [Pk.val] at hlk
    have hS : ∀ w', Only [] w1 w' → (fun w' => (∀ j, w'.cell? ⟨b, j, none⟩ = (#[.pointer (some ⟨qb, 0, none⟩), .map (some wb), .map (some nb)] : Array Value)[j]?) ∧ (∀ j, w'.cell? ⟨w.heap.size, j, none⟩ = (#[.int .i64 p0, .int .i64 p1, .int .i64 p2, .string p3] : Array Value)[j]?) ∧ (∀ j, w'.cell? ⟨w.heap.size + 1, j, none⟩ = (#[.int .i64 p0, .int .i64 p2] : Array Value)[j]?) ∧ (Instr.lookup 103 (.map (some wb)) (.agg #[.int .i64 p0, .int .i64 p2]) true).run Try.prog w' = .ok (.tuple #[.agg #[.int .i64 q0, .int .i64 q1, .int .i64 q2, .string q3], .bool false]) w') w' := fun w' ho => ⟨fun j => cell_at (ho.at HB1.out.obj (by simp)) j, fun j => cell_at (ho.at HF1.out (by simp)) j, fun j => cell_at (ho.at HK1.out (by simp)) j, hlk w' [] ho (by simp)⟩
    clear hlk
    have HS := Lib.hid hS
    clear hS c0 c1 c2 f0 k0
    go_cut [7] (fun v7 wx => v7 = .bool false ∧ Only [] w1 wx)
    case first =>
      refine wp_region_held_drew (S := (fun w' => (∀ j, w'.cell? ⟨b, j, none⟩ = (#[.pointer (some ⟨qb, 0, none⟩), .map (some wb), .map (some nb)] : Array Value)[j]?) ∧ (∀ j, w'.cell? ⟨w.heap.size, j, none⟩ = (#[.int .i64 p0, .int .i64 p1, .int .i64 p2, .string p3] : Array Value)[j]?) ∧ (∀ j, w'.cell? ⟨w.heap.size + 1, j, none⟩ = (#[.int .i64 p0, .int .i64 p2] : Array Value)[j]?) ∧ (Instr.lookup 103 (.map (some wb)) (.agg #[.int .i64 p0, .int .i64 p2]) true).run Try.prog w' = .ok (.tuple #[.agg #[.int .i64 q0, .int .i64 q1, .int .i64 q2, .string q3], .bool false]) w')) (by kernel_rfl) ?_ (fun hHeld0 => ?_)
      · (try dsimp only); (refine HS.out _ ?_; with_reducible repeat' (first | exact Only.refl _ _ | exact Or.inr (Nat.le_refl _) | refine only_setRowN ?_ ?_ _ | refine Only.drew ?_ | refine Only.drewN ?_ _ | refine Only.alloc ?_ _))
      refine wpAnyH_take (i := 0) (v := ?_) rfl (by kernel_rfl) (by kernel_rfl) (by kernel_rfl) (fun _ _ _ h => h) (Or.inl ⟨by rfl, ?_⟩) (by assumption) ?_
      rotate_left
      · (intro w hSw; (try dsimp only at hSw); go_simp; try with_reducible rfl)
      (try simp only [Act.put, List.setIfInBounds_toArray, List.set_cons_zero, List.set_cons_succ, List.getElem_toArray, List.getElem_cons_zero, List.getElem_cons_succ])
      refine wpAnyH_take (i := 1) (v := ?_) rfl (by kernel_rfl) (by kernel_rfl) (by kernel_rfl) (fun _ _ _ h => h) (Or.inl ⟨by rfl, ?_⟩) (by assumption) ?_
      rotate_left
      · (intro w hSw; (try dsimp only at hSw); go_simp; try with_reducible rfl)
      (try simp only [Act.put, List.setIfInBounds_toArray, List.set_cons_zero, List.set_cons_succ, List.getElem_toArray, List.getElem_cons_zero, List.getElem_cons_succ])
      refine wpAnyH_take (i := 2) (v := ?_) rfl (by kernel_rfl) (by kernel_rfl) (by kernel_rfl) (fun _ _ _ h => h) (Or.inl ⟨by rfl, ?_⟩) (by assumption) ?_
      rotate_left
      · (intro w hSw; (try dsimp only at hSw); go_simp; try with_reducible rfl)
      (try simp only [Act.put, List.setIfInBounds_toArray, List.set_cons_zero, List.set_cons_succ, List.getElem_toArray, List.getElem_cons_zero, List.getElem_cons_succ])
      refine wpAnyH_take (i := 3) (v := ?_) rfl (by kernel_rfl) (by kernel_rfl) (by kernel_rfl) (fun _ _ _ h => h) (Or.inl ⟨by rfl, ?_⟩) (by assumption) ?_
      rotate_left
      · (intro w hSw; (try dsimp only at hSw); go_simp; try with_reducible rfl)
      (try simp only [Act.put, List.setIfInBounds_toArray, List.set_cons_zero, List.set_cons_succ, List.getElem_toArray, List.getElem_cons_zero, List.getElem_cons_succ])
      refine wpAnyH_take (i := 4) (v := ?_) rfl (by kernel_rfl) (by kernel_rfl) (by kernel_rfl) (fun _ _ _ h => h) (Or.inl ⟨by rfl, ?_⟩) (by assumption) ?_
      rotate_left
      · (intro w hSw; (try dsimp only at hSw); go_simp; try with_reducible rfl)
      (try simp only [Act.put, List.setIfInBounds_toArray, List.set_cons_zero, List.set_cons_succ, List.getElem_toArray, List.getElem_cons_zero, List.getElem_cons_succ])
      refine wpAnyH_take (i := 5) (v := ?_) rfl (by kernel_rfl) (by kernel_rfl) (by kernel_rfl) (fun _ _ _ h => h) (Or.inl ⟨by rfl, ?_⟩) (by assumption) ?_
      rotate_left
      · (intro w hSw; (try dsimp only at hSw); go_simp; try with_reducible rfl)
      (try simp only [Act.put, List.setIfInBounds_toArray, List.set_cons_zero, List.set_cons_succ, List.getElem_toArray, List.getElem_cons_zero, List.getElem_cons_succ])
      refine wpAnyH_take (i := 6) (v := ?_) rfl (by kernel_rfl) (by kernel_rfl) (by kernel_rfl) (fun _ _ _ h => h) (Or.inl ⟨by rfl, ?_⟩) (by assumption) ?_
      rotate_left
      · (intro w hSw; (try dsimp only at hSw); go_simp; try with_reducible rfl)
      (try simp only [Act.put, List.setIfInBounds_toArray, List.set_cons_zero, List.set_cons_succ, List.getElem_toArray, List.getElem_cons_zero, List.getElem_cons_succ])
      refine wpAnyH_take (i := 7) (v := ?_) rfl (by kernel_rfl) (by kernel_rfl) (by kernel_rfl) (fun _ _ _ h => h) (Or.inl ⟨by rfl, ?_⟩) (by assumption) ?_
      rotate_left
      · (intro w hSw; (try dsimp only at hSw); go_simp; try with_reducible rfl)
      (try simp only [Act.put, List.setIfInBounds_toArray, List.set_cons_zero, List.set_cons_succ, List.getElem_toArray, List.getElem_cons_zero, List.getElem_cons_succ])
      refine wpAnyH_take (i := 8) (v := ?_) rfl (by kernel_rfl) (by kernel_rfl) (by kernel_rfl) (fun _ _ _ h => h) (Or.inl ⟨by rfl, ?_⟩) (by assumption) ?_
      rotate_left
      · (intro w hSw; (try dsimp only at hSw); go_simp; try with_reducible rfl)
      (try simp only [Act.put, List.setIfInBounds_toArray, List.set_cons_zero, List.set_cons_succ, List.getElem_toArray, List.getElem_cons_zero, List.getElem_cons_succ])
      refine wpAnyH_ready (rs := [9]) (by kernel_rfl) (by simp) ?_
      refine AllReadyH.cons rfl (fun K hK => ?_) ?_
      · go_simp
        refine hK.out _ _ ?_ (fun hHeld1 => ?_)
        · (try dsimp only); (refine HS.out _ ?_; with_reducible repeat' (first | exact Only.refl _ _ | exact Or.inr (Nat.le_refl _) | refine only_setRowN ?_ ?_ _ | refine Only.drew ?_ | refine Only.drewN ?_ _ | refine Only.alloc ?_ _))
        clear hK K hHeld0
        (try simp only [Act.put, List.setIfInBounds_toArray, List.set_cons_zero, List.set_cons_succ, List.getElem_toArray, List.getElem_cons_zero, List.getElem_cons_succ])
        refine wpAnyH_ready (rs := [10]) (by kernel_rfl) (by simp) ?_
        refine AllReadyH.cons rfl (fun K hK => ?_) ?_
        · (rw [if_pos (by rfl)]; refine wp_store_row 30 _ _ (by rfl) _ _ (by rfl) (by rfl) 30 #[.int .i64 0, .int .i64 0, .int .i64 0, .string ⟨#[]⟩] (by exact alloc_new _) (by kernel_rfl) (by rfl) (by first | (simp; done) | simp [Value.oneCell']) ?_)
          refine hK.out _ _ ?_ (fun hHeld2 => ?_)
          · (try dsimp only); (refine HS.out _ ?_; with_reducible repeat' (first | exact Only.refl _ _ | exact Or.inr (Nat.le_refl _) | refine only_setRowN ?_ ?_ _ | refine Only.drew ?_ | refine Only.drewN ?_ _ | refine Only.alloc ?_ _))
          clear hK K hHeld1
          (try simp only [Act.put, List.setIfInBounds_toArray, List.set_cons_zero, List.set_cons_succ, List.getElem_toArray, List.getElem_cons_zero, List.getElem_cons_succ])
          refine wpAnyH_take (i := 11) (v := ?_) rfl (by kernel_rfl) (by kernel_rfl) (by kernel_rfl) (fun _ _ _ h => h) (Or.inl ⟨by rfl, ?_⟩) (by assumption) ?_
          rotate_left
          · (intro w hSw; (try dsimp only at hSw); go_simp; try with_reducible rfl)
          (try simp only [Act.put, List.setIfInBounds_toArray, List.set_cons_zero, List.set_cons_succ, List.getElem_toArray, List.getElem_cons_zero, List.getElem_cons_succ])
          refine wpAnyH_done (by kernel_rfl) ?_ _
          go_wp2
          go_meet
          refine ⟨rfl, by with_reducible repeat' (first | exact Only.refl _ _ | exact Or.inr (Nat.le_refl _) | refine only_setRowN ?_ ?_ _ | refine Only.drew ?_ | refine Only.drewN ?_ _ | refine Only.alloc ?_ _)⟩
        exact AllReadyH.nil
      exact AllReadyH.nil
    case rest =>
    obtain ⟨rfl, hO2⟩ := hcut
    obtain ⟨w2, rfl⟩ : ∃ x : World, x = wc := ⟨_, rfl⟩
    have hB2 := HB1.out.only hO2 (by simp)
    have hF2 : w2.heap[w.heap.size]? = some (.cells #[.int .i64 p0, .int .i64 p1, .int .i64 p2, .string p3] 30 (0, 0)) := hO2.at HF1.out (by simp)
    have hK2 : w2.heap[w.heap.size + 1]? = some (.cells #[.int .i64 p0, .int .i64 p2] 107 (0, 0)) := hO2.at HK1.out (by simp)
    have HO2 := Lib.hid (HO1.out.trans hO2)
    clear HB1 HF1 HK1 HO1 HS hO2
    obtain ⟨c0, c1, c2⟩ := hB2.cells
    have f0 := fun j => cell_at hF2 j
    have k0 := fun j => cell_at hK2 j
    have HB2 := Lib.hid hB2
    have HF2 := Lib.hid hF2
    have HK2 := Lib.hid hK2
    clear hB2 hF2 hK2
    go_wp2
    go_ret
    exact ⟨rfl, ⟨qb, qg, wb, nb, rs, rfl, HB2.out.only (S := []) (by with_reducible repeat' (first | exact Only.refl _ _ | exact Or.inr (Nat.le_refl _) | refine only_setRowN ?_ ?_ _ | refine Only.drew ?_ | refine Only.drewN ?_ _ | refine Only.alloc ?_ _)) (by simp)⟩, by (refine Only.mono (S := []) ?_ (by simp)); repeat' (first | exact HO2.out | with_reducible refine only_setRowN ?_ ?_ _ | with_reducible refine Only.drew ?_ | with_reducible refine Only.drewN ?_ _ | with_reducible refine Only.alloc ?_ _)⟩
  by_cases i3 : p2 < 0
  · rw [if_neg (by omega)]
    clear hok2
    go_enter Try.func13, Try.ntmps13
    go_upto_region 4 with (fail)
    generalize ((w.alloc (.cells #[.int .i64 p0, .int .i64 p1, .int .i64 p2, .string p3] 30)).alloc (.cells #[.int .i64 p0, .int .i64 p2] 107)) = w1 at *
    obtain ⟨⟨q0, q1, q2, q3⟩, hlk⟩ := HB1.out.wa.look' ⟨p0, p1, p2, p3⟩ hp1 hp2
    rw [HA.out] at hlk
    dsimp only [Pk.val] at hlk
    have hS : ∀ w', Only [] w1 w' → (fun w' => (∀ j, w'.cell? ⟨b, j, none⟩ = (#[.pointer (some ⟨qb, 0, none⟩), .map (some wb), .map (some nb)] : Array Value)[j]?) ∧ (∀ j, w'.cell? ⟨w.heap.size, j, none⟩ = (#[.int .i64 p0, .int .i64 p1, .int .i64 p2, .string p3] : Array Value)[j]?) ∧ (∀ j, w'.cell? ⟨w.heap.size + 1, j, none⟩ = (#[.int .i64 p0, .int .i64 p2] : Array Value)[j]?) ∧ (Instr.lookup 103 (.map (some wb)) (.agg #[.int .i64 p0, .int .i64 p2]) true).run Try.prog w' = .ok (.tuple #[.agg #[.int .i64 q0, .int .i64 q1, .int .i64 q2, .string q3], .bool false]) w') w' := fun w' ho => ⟨fun j => cell_at (ho.at HB1.out.obj (by simp)) j, fun j => cell_at (ho.at HF1.out (by simp)) j, fun j => cell_at (ho.at HK1.out (by simp)) j, hlk w' [] ho (by simp)⟩
    clear hlk
    have HS := Lib.hid hS
    clear hS c0 c1 c2 f0 k0
    go_cut [7] (fun v7 wx => v7 = .bool false ∧ Only [] w1 wx)
    case first =>
      refine wp_region_held_drew (S := (fun w' => (∀ j, w'.cell? ⟨b, j, none⟩ = (#[.pointer (some ⟨qb, 0, none⟩), .map (some wb), .map (some nb)] : Array Value)[j]?) ∧ (∀ j, w'.cell? ⟨w.heap.size, j, none⟩ = (#[.int .i64 p0, .int .i64 p1, .int .i64 p2, .string p3] : Array Value)[j]?) ∧ (∀ j, w'.cell? ⟨w.heap.size + 1, j, none⟩ = (#[.int .i64 p0, .int .i64 p2] : Array Value)[j]?) ∧ (Instr.lookup 103 (.map (some wb)) (.agg #[.int .i64 p0, .int .i64 p2]) true).run Try.prog w' = .ok (.tuple #[.agg #[.int .i64 q0, .int .i64 q1, .int .i64 q2, .string q3], .bool false]) w')) (by kernel_rfl) ?_ (fun hHeld0 => ?_)
      · (try dsimp only); (refine HS.out _ ?_; with_reducible repeat' (first | exact Only.refl _ _ | exact Or.inr (Nat.le_refl _) | refine only_setRowN ?_ ?_ _ | refine Only.drew ?_ | refine Only.drewN ?_ _ | refine Only.alloc ?_ _))
      refine wpAnyH_take (i := 0) (v := ?_) rfl (by kernel_rfl) (by kernel_rfl) (by kernel_rfl) (fun _ _ _ h => h) (Or.inl ⟨by rfl, ?_⟩) (by assumption) ?_
      rotate_left
      · (intro w hSw; (try dsimp only at hSw); go_simp; try with_reducible rfl)
      (try simp only [Act.put, List.setIfInBounds_toArray, List.set_cons_zero, List.set_cons_succ, List.getElem_toArray, List.getElem_cons_zero, List.getElem_cons_succ])
      refine wpAnyH_take (i := 1) (v := ?_) rfl (by kernel_rfl) (by kernel_rfl) (by kernel_rfl) (fun _ _ _ h => h) (Or.inl ⟨by rfl, ?_⟩) (by assumption) ?_
      rotate_left
      · (intro w hSw; (try dsimp only at hSw); go_simp; try with_reducible rfl)
      (try simp only [Act.put, List.setIfInBounds_toArray, List.set_cons_zero, List.set_cons_succ, List.getElem_toArray, List.getElem_cons_zero, List.getElem_cons_succ])
      refine wpAnyH_take (i := 2) (v := ?_) rfl (by kernel_rfl) (by kernel_rfl) (by kernel_rfl) (fun _ _ _ h => h) (Or.inl ⟨by rfl, ?_⟩) (by assumption) ?_
      rotate_left
      · (intro w hSw; (try dsimp only at hSw); go_simp; try with_reducible rfl)
      (try simp only [Act.put, List.setIfInBounds_toArray, List.set_cons_zero, List.set_cons_succ, List.getElem_toArray, List.getElem_cons_zero, List.getElem_cons_succ])
      refine wpAnyH_take (i := 3) (v := ?_) rfl (by kernel_rfl) (by kernel_rfl) (by kernel_rfl) (fun _ _ _ h => h) (Or.inl ⟨by rfl, ?_⟩) (by assumption) ?_
      rotate_left
      · (intro w hSw; (try dsimp only at hSw); go_simp; try with_reducible rfl)
      (try simp only [Act.put, List.setIfInBounds_toArray, List.set_cons_zero, List.set_cons_succ, List.getElem_toArray, List.getElem_cons_zero, List.getElem_cons_succ])
      refine wpAnyH_take (i := 4) (v := ?_) rfl (by kernel_rfl) (by kernel_rfl) (by kernel_rfl) (fun _ _ _ h => h) (Or.inl ⟨by rfl, ?_⟩) (by assumption) ?_
      rotate_left
      · (intro w hSw; (try dsimp only at hSw); go_simp; try with_reducible rfl)
      (try simp only [Act.put, List.setIfInBounds_toArray, List.set_cons_zero, List.set_cons_succ, List.getElem_toArray, List.getElem_cons_zero, List.getElem_cons_succ])
      refine wpAnyH_take (i := 5) (v := ?_) rfl (by kernel_rfl) (by kernel_rfl) (by kernel_rfl) (fun _ _ _ h => h) (Or.inl ⟨by rfl, ?_⟩) (by assumption) ?_
      rotate_left
      · (intro w hSw; (try dsimp only at hSw); go_simp; try with_reducible rfl)
      (try simp only [Act.put, List.setIfInBounds_toArray, List.set_cons_zero, List.set_cons_succ, List.getElem_toArray, List.getElem_cons_zero, List.getElem_cons_succ])
      refine wpAnyH_take (i := 6) (v := ?_) rfl (by kernel_rfl) (by kernel_rfl) (by kernel_rfl) (fun _ _ _ h => h) (Or.inl ⟨by rfl, ?_⟩) (by assumption) ?_
      rotate_left
      · (intro w hSw; (try dsimp only at hSw); go_simp; try with_reducible rfl)
      (try simp only [Act.put, List.setIfInBounds_toArray, List.set_cons_zero, List.set_cons_succ, List.getElem_toArray, List.getElem_cons_zero, List.getElem_cons_succ])
      refine wpAnyH_take (i := 7) (v := ?_) rfl (by kernel_rfl) (by kernel_rfl) (by kernel_rfl) (fun _ _ _ h => h) (Or.inl ⟨by rfl, ?_⟩) (by assumption) ?_
      rotate_left
      · (intro w hSw; (try dsimp only at hSw); go_simp; try with_reducible rfl)
      (try simp only [Act.put, List.setIfInBounds_toArray, List.set_cons_zero, List.set_cons_succ, List.getElem_toArray, List.getElem_cons_zero, List.getElem_cons_succ])
      refine wpAnyH_take (i := 8) (v := ?_) rfl (by kernel_rfl) (by kernel_rfl) (by kernel_rfl) (fun _ _ _ h => h) (Or.inl ⟨by rfl, ?_⟩) (by assumption) ?_
      rotate_left
      · (intro w hSw; (try dsimp only at hSw); go_simp; try with_reducible rfl)
      (try simp only [Act.put, List.setIfInBounds_toArray, List.set_cons_zero, List.set_cons_succ, List.getElem_toArray, List.getElem_cons_zero, List.getElem_cons_succ])
      refine wpAnyH_ready (rs := [9]) (by kernel_rfl) (by simp) ?_
      refine AllReadyH.cons rfl (fun K hK => ?_) ?_
      · go_simp
        refine hK.out _ _ ?_ (fun hHeld1 => ?_)
        · (try dsimp only); (refine HS.out _ ?_; with_reducible repeat' (first | exact Only.refl _ _ | exact Or.inr (Nat.le_refl _) | refine only_setRowN ?_ ?_ _ | refine Only.drew ?_ | refine Only.drewN ?_ _ | refine Only.alloc ?_ _))
        clear hK K hHeld0
        (try simp only [Act.put, List.setIfInBounds_toArray, List.set_cons_zero, List.set_cons_succ, List.getElem_toArray, List.getElem_cons_zero, List.getElem_cons_succ])
        refine wpAnyH_ready (rs := [10]) (by kernel_rfl) (by simp) ?_
        refine AllReadyH.cons rfl (fun K hK => ?_) ?_
        · (rw [if_pos (by rfl)]; refine wp_store_row 30 _ _ (by rfl) _ _ (by rfl) (by rfl) 30 #[.int .i64 0, .int .i64 0, .int .i64 0, .string ⟨#[]⟩] (by exact alloc_new _) (by kernel_rfl) (by rfl) (by first | (simp; done) | simp [Value.oneCell']) ?_)
          refine hK.out _ _ ?_ (fun hHeld2 => ?_)
          · (try dsimp only); (refine HS.out _ ?_; with_reducible repeat' (first | exact Only.refl _ _ | exact Or.inr (Nat.le_refl _) | refine only_setRowN ?_ ?_ _ | refine Only.drew ?_ | refine Only.drewN ?_ _ | refine Only.alloc ?_ _))
          clear hK K hHeld1
          (try simp only [Act.put, List.setIfInBounds_toArray, List.set_cons_zero, List.set_cons_succ, List.getElem_toArray, List.getElem_cons_zero, List.getElem_cons_succ])
          refine wpAnyH_take (i := 11) (v := ?_) rfl (by kernel_rfl) (by kernel_rfl) (by kernel_rfl) (fun _ _ _ h => h) (Or.inl ⟨by rfl, ?_⟩) (by assumption) ?_
          rotate_left
          · (intro w hSw; (try dsimp only at hSw); go_simp; try with_reducible rfl)
          (try simp only [Act.put, List.setIfInBounds_toArray, List.set_cons_zero, List.set_cons_succ, List.getElem_toArray, List.getElem_cons_zero, List.getElem_cons_succ])
          refine wpAnyH_done (by kernel_rfl) ?_ _
          go_wp2
          go_meet
          refine ⟨rfl, by with_reducible repeat' (first | exact Only.refl _ _ | exact Or.inr (Nat.le_refl _) | refine only_setRowN ?_ ?_ _ | refine Only.drew ?_ | refine Only.drewN ?_ _ | refine Only.alloc ?_ _)⟩
        exact AllReadyH.nil
      exact AllReadyH.nil
    case rest =>
    obtain ⟨rfl, hO2⟩ := hcut
    obtain ⟨w2, rfl⟩ : ∃ x : World, x = wc := ⟨_, rfl⟩
    have hB2 := HB1.out.only hO2 (by simp)
    have hF2 : w2.heap[w.heap.size]? = some (.cells #[.int .i64 p0, .int .i64 p1, .int .i64 p2, .string p3] 30 (0, 0)) := hO2.at HF1.out (by simp)
    have hK2 : w2.heap[w.heap.size + 1]? = some (.cells #[.int .i64 p0, .int .i64 p2] 107 (0, 0)) := hO2.at HK1.out (by simp)
    have HO2 := Lib.hid (HO1.out.trans hO2)
    clear HB1 HF1 HK1 HO1 HS hO2
    obtain ⟨c0, c1, c2⟩ := hB2.cells
    have f0 := fun j => cell_at hF2 j
    have k0 := fun j => cell_at hK2 j
    have HB2 := Lib.hid hB2
    have HF2 := Lib.hid hF2
    have HK2 := Lib.hid hK2
    clear hB2 hF2 hK2
    go_wp2
    go_ret
    exact ⟨rfl, ⟨qb, qg, wb, nb, rs, rfl, HB2.out.only (S := []) (by with_reducible repeat' (first | exact Only.refl _ _ | exact Or.inr (Nat.le_refl _) | refine only_setRowN ?_ ?_ _ | refine Only.drew ?_ | refine Only.drewN ?_ _ | refine Only.alloc ?_ _)) (by simp)⟩, by (refine Only.mono (S := []) ?_ (by simp)); repeat' (first | exact HO2.out | with_reducible refine only_setRowN ?_ ?_ _ | with_reducible refine Only.drew ?_ | with_reducible refine Only.drewN ?_ _ | with_reducible refine Only.alloc ?_ _)⟩
  by_cases i4 : 65536 ≤ p2
  · rw [if_neg (by omega)]
    clear hok2
    go_enter Try.func13, Try.ntmps13
    go_upto_region 4 with (fail)
    generalize ((w.alloc (.cells #[.int .i64 p0, .int .i64 p1, .int .i64 p2, .string p3] 30)).alloc (.cells #[.int .i64 p0, .int .i64 p2] 107)) = w1 at *
    obtain ⟨⟨q0, q1, q2, q3⟩, hlk⟩ := HB1.out.wa.look' ⟨p0, p1, p2, p3⟩ hp1 hp2
    rw [HA.out] at hlk
    dsimp only [Pk.val] at hlk
    have hS : ∀ w', Only [] w1 w' → (fun w' => (∀ j, w'.cell? ⟨b, j, none⟩ = (#[.pointer (some ⟨qb, 0, none⟩), .map (some wb), .map (some nb)] : Array Value)[j]?) ∧ (∀ j, w'.cell? ⟨w.heap.size, j, none⟩ = (#[.int .i64 p0, .int .i64 p1, .int .i64 p2, .string p3] : Array Value)[j]?) ∧ (∀ j, w'.cell? ⟨w.heap.size + 1, j, none⟩ = (#[.int .i64 p0, .int .i64 p2] : Array Value)[j]?) ∧ (Instr.lookup 103 (.map (some wb)) (.agg #[.int .i64 p0, .int .i64 p2]) true).run Try.prog w' = .ok (.tuple #[.agg #[.int .i64 q0, .int .i64 q1, .int .i64 q2, .string q3], .bool false]) w') w' := fun w' ho => ⟨fun j => cell_at (ho.at HB1.out.obj (by simp)) j, fun j => cell_at (ho.at HF1.out (by simp)) j, fun j => cell_at (ho.at HK1.out (by simp)) j, hlk w' [] ho (by simp)⟩
    clear hlk
    have HS := Lib.hid hS
    clear hS c0 c1 c2 f0 k0
    go_cut [7] (fun v7 wx => v7 = .bool false ∧ Only [] w1 wx)
    case first =>
      refine wp_region_held_drew (S := (fun w' => (∀ j, w'.cell? ⟨b, j, none⟩ = (#[.pointer (some ⟨qb, 0, none⟩), .map (some wb), .map (some nb)] : Array Value)[j]?) ∧ (∀ j, w'.cell? ⟨w.heap.size, j, none⟩ = (#[.int .i64 p0, .int .i64 p1, .int .i64 p2, .string p3] : Array Value)[j]?) ∧ (∀ j, w'.cell? ⟨w.heap.size + 1, j, none⟩ = (#[.int .i64 p0, .int .i64 p2] : Array Value)[j]?) ∧ (Instr.lookup 103 (.map (some wb)) (.agg #[.int .i64 p0, .int .i64 p2]) true).run Try.prog w' = .ok (.tuple #[.agg #[.int .i64 q0, .int .i64 q1, .int .i64 q2, .string q3], .bool false]) w')) (by kernel_rfl) ?_ (fun hHeld0 => ?_)
      · (try dsimp only); (refine HS.out _ ?_; with_reducible repeat' (first | exact Only.refl _ _ | exact Or.inr (Nat.le_refl _) | refine only_setRowN ?_ ?_ _ | refine Only.drew ?_ | refine Only.drewN ?_ _ | refine Only.alloc ?_ _))
      refine wpAnyH_take (i := 0) (v := ?_) rfl (by kernel_rfl) (by kernel_rfl) (by kernel_rfl) (fun _ _ _ h => h) (Or.inl ⟨by rfl, ?_⟩) (by assumption) ?_
      rotate_left
      · (intro w hSw; (try dsimp only at hSw); go_simp; try with_reducible rfl)
      (try simp only [Act.put, List.setIfInBounds_toArray, List.set_cons_zero, List.set_cons_succ, List.getElem_toArray, List.getElem_cons_zero, List.getElem_cons_succ])
      refine wpAnyH_take (i := 1) (v := ?_) rfl (by kernel_rfl) (by kernel_rfl) (by kernel_rfl) (fun _ _ _ h => h) (Or.inl ⟨by rfl, ?_⟩) (by assumption) ?_
      rotate_left
      · (intro w hSw; (try dsimp only at hSw); go_simp; try with_reducible rfl)
      (try simp only [Act.put, List.setIfInBounds_toArray, List.set_cons_zero, List.set_cons_succ, List.getElem_toArray, List.getElem_cons_zero, List.getElem_cons_succ])
      refine wpAnyH_take (i := 2) (v := ?_) rfl (by kernel_rfl) (by kernel_rfl) (by kernel_rfl) (fun _ _ _ h => h) (Or.inl ⟨by rfl, ?_⟩) (by assumption) ?_
      rotate_left
      · (intro w hSw; (try dsimp only at hSw); go_simp; try with_reducible rfl)
      (try simp only [Act.put, List.setIfInBounds_toArray, List.set_cons_zero, List.set_cons_succ, List.getElem_toArray, List.getElem_cons_zero, List.getElem_cons_succ])
      refine wpAnyH_take (i := 3) (v := ?_) rfl (by kernel_rfl) (by kernel_rfl) (by kernel_rfl) (fun _ _ _ h => h) (Or.inl ⟨by rfl, ?_⟩) (by assumption) ?_
      rotate_left
      · (intro w hSw; (try dsimp only at hSw); go_simp; try with_reducible rfl)
      (try simp only [Act.put, List.setIfInBounds_toArray, List.set_cons_zero, List.set_cons_succ, List.getElem_toArray, List.getElem_cons_zero, List.getElem_cons_succ])
      refine wpAnyH_take (i := 4) (v := ?_) rfl (by kernel_rfl) (by kernel_rfl) (by kernel_rfl) (fun _ _ _ h => h) (Or.inl ⟨by rfl, ?_⟩) (by assumption) ?_
      rotate_left
      · (intro w hSw; (try dsimp only at hSw); go_simp; try with_reducible rfl)
      (try simp only [Act.put, List.setIfInBounds_toArray, List.set_cons_zero, List.set_cons_succ, List.getElem_toArray, List.getElem_cons_zero, List.getElem_cons_succ])
      refine wpAnyH_take (i := 5) (v := ?_) rfl (by kernel_rfl) (by kernel_rfl) (by kernel_rfl) (fun _ _ _ h => h) (Or.inl ⟨by rfl, ?_⟩) (by assumption) ?_
      rotate_left
      · (intro w hSw; (try dsimp only at hSw); go_simp; try with_reducible rfl)
      (try simp only [Act.put, List.setIfInBounds_toArray, List.set_cons_zero, List.set_cons_succ, List.getElem_toArray, List.getElem_cons_zero, List.getElem_cons_succ])
      refine wpAnyH_take (i := 6) (v := ?_) rfl (by kernel_rfl) (by kernel_rfl) (by kernel_rfl) (fun _ _ _ h => h) (Or.inl ⟨by rfl, ?_⟩) (by assumption) ?_
      rotate_left
      · (intro w hSw; (try dsimp only at hSw); go_simp; try with_reducible rfl)
      (try simp only [Act.put, List.setIfInBounds_toArray, List.set_cons_zero, List.set_cons_succ, List.getElem_toArray, List.getElem_cons_zero, List.getElem_cons_succ])
      refine wpAnyH_take (i := 7) (v := ?_) rfl (by kernel_rfl) (by kernel_rfl) (by kernel_rfl) (fun _ _ _ h => h) (Or.inl ⟨by rfl, ?_⟩) (by assumption) ?_
      rotate_left
      · (intro w hSw; (try dsimp only at hSw); go_simp; try with_reducible rfl)
      (try simp only [Act.put, List.setIfInBounds_toArray, List.set_cons_zero, List.set_cons_succ, List.getElem_toArray, List.getElem_cons_zero, List.getElem_cons_succ])
      refine wpAnyH_take (i := 8) (v := ?_) rfl (by kernel_rfl) (by kernel_rfl) (by kernel_rfl) (fun _ _ _ h => h) (Or.inl ⟨by rfl, ?_⟩) (by assumption) ?_
      rotate_left
      · (intro w hSw; (try dsimp only at hSw); go_simp; try with_reducible rfl)
      (try simp only [Act.put, List.setIfInBounds_toArray, List.set_cons_zero, List.set_cons_succ, List.getElem_toArray, List.getElem_cons_zero, List.getElem_cons_succ])
      refine wpAnyH_ready (rs := [9]) (by kernel_rfl) (by simp) ?_
      refine AllReadyH.cons rfl (fun K hK => ?_) ?_
      · go_simp
        refine hK.out _ _ ?_ (fun hHeld1 => ?_)
        · (try dsimp only); (refine HS.out _ ?_; with_reducible repeat' (first | exact Only.refl _ _ | exact Or.inr (Nat.le_refl _) | refine only_setRowN ?_ ?_ _ | refine Only.drew ?_ | refine Only.drewN ?_ _ | refine Only.alloc ?_ _))
        clear hK K hHeld0
        (try simp only [Act.put, List.setIfInBounds_toArray, List.set_cons_zero, List.set_cons_succ, List.getElem_toArray, List.getElem_cons_zero, List.getElem_cons_succ])
        refine wpAnyH_ready (rs := [10]) (by kernel_rfl) (by simp) ?_
        refine AllReadyH.cons rfl (fun K hK => ?_) ?_
        · (rw [if_pos (by rfl)]; refine wp_store_row 30 _ _ (by rfl) _ _ (by rfl) (by rfl) 30 #[.int .i64 0, .int .i64 0, .int .i64 0, .string ⟨#[]⟩] (by exact alloc_new _) (by kernel_rfl) (by rfl) (by first | (simp; done) | simp [Value.oneCell']) ?_)
          refine hK.out _ _ ?_ (fun hHeld2 => ?_)
          · (try dsimp only); (refine HS.out _ ?_; with_reducible repeat' (first | exact Only.refl _ _ | exact Or.inr (Nat.le_refl _) | refine only_setRowN ?_ ?_ _ | refine Only.drew ?_ | refine Only.drewN ?_ _ | refine Only.alloc ?_ _))
          clear hK K hHeld1
          (try simp only [Act.put, List.setIfInBounds_toArray, List.set_cons_zero, List.set_cons_succ, List.getElem_toArray, List.getElem_cons_zero, List.getElem_cons_succ])
          refine wpAnyH_take (i := 11) (v := ?_) rfl (by kernel_rfl) (by kernel_rfl) (by kernel_rfl) (fun _ _ _ h => h) (Or.inl ⟨by rfl, ?_⟩) (by assumption) ?_
          rotate_left
          · (intro w hSw; (try dsimp only at hSw); go_simp; try with_reducible rfl)
          (try simp only [Act.put, List.setIfInBounds_toArray, List.set_cons_zero, List.set_cons_succ, List.getElem_toArray, List.getElem_cons_zero, List.getElem_cons_succ])
          refine wpAnyH_done (by kernel_rfl) ?_ _
          go_wp2
          go_meet
          refine ⟨rfl, by with_reducible repeat' (first | exact Only.refl _ _ | exact Or.inr (Nat.le_refl _) | refine only_setRowN ?_ ?_ _ | refine Only.drew ?_ | refine Only.drewN ?_ _ | refine Only.alloc ?_ _)⟩
        exact AllReadyH.nil
      exact AllReadyH.nil
    case rest =>
    obtain ⟨rfl, hO2⟩ := hcut
    obtain ⟨w2, rfl⟩ : ∃ x : World, x = wc := ⟨_, rfl⟩
    have hB2 := HB1.out.only hO2 (by simp)
    have hF2 : w2.heap[w.heap.size]? = some (.cells #[.int .i64 p0, .int .i64 p1, .int .i64 p2, .string p3] 30 (0, 0)) := hO2.at HF1.out (by simp)
    have hK2 : w2.heap[w.heap.size + 1]? = some (.cells #[.int .i64 p0, .int .i64 p2] 107 (0, 0)) := hO2.at HK1.out (by simp)
    have HO2 := Lib.hid (HO1.out.trans hO2)
    clear HB1 HF1 HK1 HO1 HS hO2
    obtain ⟨c0, c1, c2⟩ := hB2.cells
    have f0 := fun j => cell_at hF2 j
    have k0 := fun j => cell_at hK2 j
    have HB2 := Lib.hid hB2
    have HF2 := Lib.hid hF2
    have HK2 := Lib.hid hK2
    clear hB2 hF2 hK2
    go_wp2
    go_ret
    exact ⟨rfl, ⟨qb, qg, wb, nb, rs, rfl, HB2.out.only (S := []) (by with_reducible repeat' (first | exact Only.refl _ _ | exact Or.inr (Nat.le_refl _) | refine only_setRowN ?_ ?_ _ | refine Only.drew ?_ | refine Only.drewN ?_ _ | refine Only.alloc ?_ _)) (by simp)⟩, by (refine Only.mono (S := []) ?_ (by simp)); repeat' (first | exact HO2.out | with_reducible refine only_setRowN ?_ ?_ _ | with_reducible refine Only.drew ?_ | with_reducible refine Only.drewN ?_ _ | with_reducible refine Only.alloc ?_ _)⟩
  rw [if_pos (by omega)] at hok2 ⊢
  have HOK := Lib.hid hok2
  clear hok2
  go_enter Try.func13, Try.ntmps13
  go_upto_region 4 with (fail)
  generalize ((w.alloc (.cells #[.int .i64 p0, .int .i64 p1, .int .i64 p2, .string p3] 30)).alloc (.cells #[.int .i64 p0, .int .i64 p2] 107)) = w1 at *
  obtain ⟨⟨q0, q1, q2, q3⟩, hlk⟩ := HB1.out.wa.look' ⟨p0, p1, p2, p3⟩ hp1 hp2
  rw [HA.out] at hlk
  dsimp only [Pk.val] at hlk
  have hS : ∀ w', Only [] w1 w' → (fun w' => (∀ j, w'.cell? ⟨b, j, none⟩ = (#[.pointer (some ⟨qb, 0, none⟩), .map (some wb), .map (some nb)] : Array Value)[j]?) ∧ (∀ j, w'.cell? ⟨w.heap.size, j, none⟩ = (#[.int .i64 p0, .int .i64 p1, .int .i64 p2, .string p3] : Array Value)[j]?) ∧ (∀ j, w'.cell? ⟨w.heap.size + 1, j, none⟩ = (#[.int .i64 p0, .int .i64 p2] : Array Value)[j]?) ∧ (Instr.lookup 103 (.map (some wb)) (.agg #[.int .i64 p0, .int .i64 p2]) true).run Try.prog w' = .ok (.tuple #[.agg #[.int .i64 q0, .int .i64 q1, .int .i64 q2, .string q3], .bool false]) w') w' := fun w' ho => ⟨fun j => cell_at (ho.at HB1.out.obj (by simp)) j, fun j => cell_at (ho.at HF1.out (by simp)) j, fun j => cell_at (ho.at HK1.out (by simp)) j, hlk w' [] ho (by simp)⟩
  clear hlk
  have HS := Lib.hid hS
  clear hS c0 c1 c2 f0 k0
  go_cut [7] (fun v7 wx => v7 = .bool false ∧ Only [] w1 wx)
  case first =>
    refine wp_region_held_drew (S := (fun w' => (∀ j, w'.cell? ⟨b, j, none⟩ = (#[.pointer (some ⟨qb, 0, none⟩), .map (some wb), .map (some nb)] : Array Value)[j]?) ∧ (∀ j, w'.cell? ⟨w.heap.size, j, none⟩ = (#[.int .i64 p0, .int .i64 p1, .int .i64 p2, .string p3] : Array Value)[j]?) ∧ (∀ j, w'.cell? ⟨w.heap.size + 1, j, none⟩ = (#[.int .i64 p0, .int .i64 p2] : Array Value)[j]?) ∧ (Instr.lookup 103 (.map (some wb)) (.agg #[.int .i64 p0, .int .i64 p2]) true).run Try.prog w' = .ok (.tuple #[.agg #[.int .i64 q0, .int .i64 q1, .int .i64 q2, .string q3], .bool false]) w')) (by kernel_rfl) ?_ (fun hHeld0 => ?_)
    · (try dsimp only); (refine HS.out _ ?_; with_reducible repeat' (first | exact Only.refl _ _ | exact Or.inr (Nat.le_refl _) | refine only_setRowN ?_ ?_ _ | refine Only.drew ?_ | refine Only.drewN ?_ _ | refine Only.alloc ?_ _))
    refine wpAnyH_take (i := 0) (v := ?_) rfl (by kernel_rfl) (by kernel_rfl) (by kernel_rfl) (fun _ _ _ h => h) (Or.inl ⟨by rfl, ?_⟩) (by assumption) ?_
    rotate_left
    · (intro w hSw; (try dsimp only at hSw); go_simp; try with_reducible rfl)
    (try simp only [Act.put, List.setIfInBounds_toArray, List.set_cons_zero, List.set_cons_succ, List.getElem_toArray, List.getElem_cons_zero, List.getElem_cons_succ])
    refine wpAnyH_take (i := 1) (v := ?_) rfl (by kernel_rfl) (by kernel_rfl) (by kernel_rfl) (fun _ _ _ h => h) (Or.inl ⟨by rfl, ?_⟩) (by assumption) ?_
    rotate_left
    · (intro w hSw; (try dsimp only at hSw); go_simp; try with_reducible rfl)
    (try simp only [Act.put, List.setIfInBounds_toArray, List.set_cons_zero, List.set_cons_succ, List.getElem_toArray, List.getElem_cons_zero, List.getElem_cons_succ])
    refine wpAnyH_take (i := 2) (v := ?_) rfl (by kernel_rfl) (by kernel_rfl) (by kernel_rfl) (fun _ _ _ h => h) (Or.inl ⟨by rfl, ?_⟩) (by assumption) ?_
    rotate_left
    · (intro w hSw; (try dsimp only at hSw); go_simp; try with_reducible rfl)
    (try simp only [Act.put, List.setIfInBounds_toArray, List.set_cons_zero, List.set_cons_succ, List.getElem_toArray, List.getElem_cons_zero, List.getElem_cons_succ])
    refine wpAnyH_take (i := 3) (v := ?_) rfl (by kernel_rfl) (by kernel_rfl) (by kernel_rfl) (fun _ _ _ h => h) (Or.inl ⟨by rfl, ?_⟩) (by assumption) ?_
    rotate_left
    · (intro w hSw; (try dsimp only at hSw); go_simp; try with_reducible rfl)
    (try simp only [Act.put, List.setIfInBounds_toArray, List.set_cons_zero, List.set_cons_succ, List.getElem_toArray, List.getElem_cons_zero, List.getElem_cons_succ])
    refine wpAnyH_take (i := 4) (v := ?_) rfl (by kernel_rfl) (by kernel_rfl) (by kernel_rfl) (fun _ _ _ h => h) (Or.inl ⟨by rfl, ?_⟩) (by assumption) ?_
    rotate_left
    · (intro w hSw; (try dsimp only at hSw); go_simp; try with_reducible rfl)
    (try simp only [Act.put, List.setIfInBounds_toArray, List.set_cons_zero, List.set_cons_succ, List.getElem_toArray, List.getElem_cons_zero, List.getElem_cons_succ])
    refine wpAnyH_take (i := 5) (v := ?_) rfl (by kernel_rfl) (by kernel_rfl) (by kernel_rfl) (fun _ _ _ h => h) (Or.inl ⟨by rfl, ?_⟩) (by assumption) ?_
    rotate_left
    · (intro w hSw; (try dsimp only at hSw); go_simp; try with_reducible rfl)
    (try simp only [Act.put, List.setIfInBounds_toArray, List.set_cons_zero, List.set_cons_succ, List.getElem_toArray, List.getElem_cons_zero, List.getElem_cons_succ])
    refine wpAnyH_take (i := 6) (v := ?_) rfl (by kernel_rfl) (by kernel_rfl) (by kernel_rfl) (fun _ _ _ h => h) (Or.inl ⟨by rfl, ?_⟩) (by assumption) ?_
    rotate_left
    · (intro w hSw; (try dsimp only at hSw); go_simp; try with_reducible rfl)
    (try simp only [Act.put, List.setIfInBounds_toArray, List.set_cons_zero, List.set_cons_succ, List.getElem_toArray, List.getElem_cons_zero, List.getElem_cons_succ])
    refine wpAnyH_take (i := 7) (v := ?_) rfl (by kernel_rfl) (by kernel_rfl) (by kernel_rfl) (fun _ _ _ h => h) (Or.inl ⟨by rfl, ?_⟩) (by assumption) ?_
    rotate_left
    · (intro w hSw; (try dsimp only at hSw); go_simp; try with_reducible rfl)
    (try simp only [Act.put, List.setIfInBounds_toArray, List.set_cons_zero, List.set_cons_succ, List.getElem_toArray, List.getElem_cons_zero, List.getElem_cons_succ])
    refine wpAnyH_take (i := 8) (v := ?_) rfl (by kernel_rfl) (by kernel_rfl) (by kernel_rfl) (fun _ _ _ h => h) (Or.inl ⟨by rfl, ?_⟩) (by assumption) ?_
    rotate_left
    · (intro w hSw; (try dsimp only at hSw); go_simp; try with_reducible rfl)
    (try simp only [Act.put, List.setIfInBounds_toArray, List.set_cons_zero, List.set_cons_succ, List.getElem_toArray, List.getElem_cons_zero, List.getElem_cons_succ])
    refine wpAnyH_ready (rs := [9]) (by kernel_rfl) (by simp) ?_
    refine AllReadyH.cons rfl (fun K hK => ?_) ?_
    · go_simp
      refine hK.out _ _ ?_ (fun hHeld1 => ?_)
      · (try dsimp only); (refine HS.out _ ?_; with_reducible repeat' (first | exact Only.refl _ _ | exact Or.inr (Nat.le_refl _) | refine only_setRowN ?_ ?_ _ | refine Only.drew ?_ | refine Only.drewN ?_ _ | refine Only.alloc ?_ _))
      clear hK K hHeld0
      (try simp only [Act.put, List.setIfInBounds_toArray, List.set_cons_zero, List.set_cons_succ, List.getElem_toArray, List.getElem_cons_zero, List.getElem_cons_succ])
      refine wpAnyH_ready (rs := [10]) (by kernel_rfl) (by simp) ?_
      refine AllReadyH.cons rfl (fun K hK => ?_) ?_
      · (rw [if_pos (by rfl)]; refine wp_store_row 30 _ _ (by rfl) _ _ (by rfl) (by rfl) 30 #[.int .i64 0, .int .i64 0, .int .i64 0, .string ⟨#[]⟩] (by exact alloc_new _) (by kernel_rfl) (by rfl) (by first | (simp; done) | simp [Value.oneCell']) ?_)
        refine hK.out _ _ ?_ (fun hHeld2 => ?_)
        · (try dsimp only); (refine HS.out _ ?_; with_reducible repeat' (first | exact Only.refl _ _ | exact Or.inr (Nat.le_refl _) | refine only_setRowN ?_ ?_ _ | refine Only.drew ?_ | refine Only.drewN ?_ _ | refine Only.alloc ?_ _))
        clear hK K hHeld1
        (try simp only [Act.put, List.setIfInBounds_toArray, List.set_cons_zero, List.set_cons_succ, List.getElem_toArray, List.getElem_cons_zero, List.getElem_cons_succ])
        refine wpAnyH_take (i := 11) (v := ?_) rfl (by kernel_rfl) (by kernel_rfl) (by kernel_rfl) (fun _ _ _ h => h) (Or.inl ⟨by rfl, ?_⟩) (by assumption) ?_
        rotate_left
        · (intro w hSw; (try dsimp only at hSw); go_simp; try with_reducible rfl)
        (try simp only [Act.put, List.setIfInBounds_toArray, List.set_cons_zero, List.set_cons_succ, List.getElem_toArray, List.getElem_cons_zero, List.getElem_cons_succ])
        refine wpAnyH_done (by kernel_rfl) ?_ _
        go_wp2
        go_meet
        refine ⟨rfl, by with_reducible repeat' (first | exact Only.refl _ _ | exact Or.inr (Nat.le_refl _) | refine only_setRowN ?_ ?_ _ | refine Only.drew ?_ | refine Only.drewN ?_ _ | refine Only.alloc ?_ _)⟩
      exact AllReadyH.nil
    exact AllReadyH.nil
  case rest =>
  obtain ⟨rfl, hO2⟩ := hcut
  obtain ⟨w2, rfl⟩ : ∃ x : World, x = wc := ⟨_, rfl⟩
  have hB2 := HB1.out.only hO2 (by simp)
  have hF2 : w2.heap[w.heap.size]? = some (.cells #[.int .i64 p0, .int .i64 p1, .int .i64 p2, .string p3] 30 (0, 0)) := hO2.at HF1.out (by simp)
  have hK2 : w2.heap[w.heap.size + 1]? = some (.cells #[.int .i64 p0, .int .i64 p2] 107 (0, 0)) := hO2.at HK1.out (by simp)
  have HO2 := Lib.hid (HO1.out.trans hO2)
  clear HB1 HF1 HK1 HO1 HS hO2
  obtain ⟨c0, c1, c2⟩ := hB2.cells
  have f0 := fun j => cell_at hF2 j
  have k0 := fun j => cell_at hK2 j
  have HB2 := Lib.hid hB2
  have HF2 := Lib.hid hF2
  have HK2 := Lib.hid hK2
  clear hB2 hF2 hK2
  have d1 : decide (p0 < 0) = false := decide_eq_false (by omega)
  have d2 : decide (4096 ≤ p0) = false := decide_eq_false (by omega)
  have d3 : decide (p2 < 0) = false := decide_eq_false (by omega)
  have d4 : decide (65536 ≤ p2) = false := decide_eq_false (by omega)
  clear i1 i2 i3 i4
  go_upto_region 9 with (fail)
  obtain ⟨n1, n2, n3, n4, n5, n6, n7, n8, n9, n10⟩ := nodup5 HB2.out.nd
  obtain ⟨o, ho1, ho2⟩ := HPUT.out w2.drew (HB2.out.wa.only (S := []) (by with_reducible repeat' (first | exact Only.refl _ _ | exact Or.inr (Nat.le_refl _) | refine only_setRowN ?_ ?_ _ | refine Only.drew ?_ | refine Only.drewN ?_ _ | refine Only.alloc ?_ _)) (by simp)) HA.out
  have hwb := hlts wb (by simp)
  have e1 : w.heap.size ≠ wb := Nat.ne_of_gt hwb
  have e2 : w.heap.size + 1 ≠ wb := Nat.ne_of_gt (Nat.lt_succ_of_lt hwb)
  have HRUN := Lib.hid ho1
  have HWA := Lib.hid ho2
  clear ho1 ho2 hwb
  refine wp_region_held_drew (S := (fun w' => (∀ j, w'.cell? ⟨b, j, none⟩ = (#[.pointer (some ⟨qb, 0, none⟩), .map (some wb), .map (some nb)] : Array Value)[j]?) ∧ (∀ j, w'.cell? ⟨w.heap.size, j, none⟩ = (#[.int .i64 p0, .int .i64 p1, .int .i64 p2, .string p3] : Array Value)[j]?) ∧ (∀ j, w'.cell? ⟨w.heap.size + 1, j, none⟩ = (#[.int .i64 p0, .int .i64 p2] : Array Value)[j]?))) (by kernel_rfl) ?_ (fun hHeld0 => ?_)
  · (try dsimp only); first | exact ⟨fun j => cell_at HB2.out.obj j, f0, k0⟩ | exact ⟨fun j => cell_at (setB_off HB2.out.obj n3) j, fun j => cell_at (setB_off HF2.out e1) j, fun j => cell_at (setB_off HK2.out e2) j⟩
  refine wpAnyH_take (i := 0) (v := ?_) rfl (by kernel_rfl) (by kernel_rfl) (by kernel_rfl) (fun _ _ _ h => h) (Or.inl ⟨by rfl, ?_⟩) (by assumption) ?_
  rotate_left
  · (intro w hSw; (try dsimp only at hSw); go_simp; try with_reducible rfl)
  (try simp only [Act.put, List.setIfInBounds_toArray, List.set_cons_zero, List.set_cons_succ, List.getElem_toArray, List.getElem_cons_zero, List.getElem_cons_succ])
  refine wpAnyH_take (i := 1) (v := ?_) rfl (by kernel_rfl) (by kernel_rfl) (by kernel_rfl) (fun _ _ _ h => h) (Or.inl ⟨by rfl, ?_⟩) (by assumption) ?_
  rotate_left
  · (intro w hSw; (try dsimp only at hSw); go_simp; try with_reducible rfl)
  (try simp only [Act.put, List.setIfInBounds_toArray, List.set_cons_zero, List.set_cons_succ, List.getElem_toArray, List.getElem_cons_zero, List.getElem_cons_succ])
  refine wpAnyH_take (i := 2) (v := ?_) rfl (by kernel_rfl) (by kernel_rfl) (by kernel_rfl) (fun _ _ _ h => h) (Or.inl ⟨by rfl, ?_⟩) (by assumption) ?_
  rotate_left
  · (intro w hSw; (try dsimp only at hSw); go_simp; try with_reducible rfl)
  (try simp only [Act.put, List.setIfInBounds_toArray, List.set_cons_zero, List.set_cons_succ, List.getElem_toArray, List.getElem_cons_zero, List.getElem_cons_succ])
  refine wpAnyH_take (i := 3) (v := ?_) rfl (by kernel_rfl) (by kernel_rfl) (by kernel_rfl) (fun _ _ _ h => h) (Or.inl ⟨by rfl, ?_⟩) (by assumption) ?_
  rotate_left
  · (intro w hSw; (try dsimp only at hSw); go_simp; try with_reducible rfl)
  (try simp only [Act.put, List.setIfInBounds_toArray, List.set_cons_zero, List.set_cons_succ, List.getElem_toArray, List.getElem_cons_zero, List.getElem_cons_succ])
  refine wpAnyH_take (i := 4) (v := ?_) rfl (by kernel_rfl) (by kernel_rfl) (by kernel_rfl) (fun _ _ _ h => h) (Or.inl ⟨by rfl, ?_⟩) (by assumption) ?_
  rotate_left
  · (intro w hSw; (try dsimp only at hSw); go_simp; try with_reducible rfl)
  (try simp only [Act.put, List.setIfInBounds_toArray, List.set_cons_zero, List.set_cons_succ, List.getElem_toArray, List.getElem_cons_zero, List.getElem_cons_succ])
  refine wpAnyH_take (i := 5) (v := ?_) rfl (by kernel_rfl) (by kernel_rfl) (by kernel_rfl) (fun _ _ _ h => h) (Or.inl ⟨by rfl, ?_⟩) (by assumption) ?_
  rotate_left
  · (intro w hSw; (try dsimp only at hSw); go_simp; try with_reducible rfl)
  (try simp only [Act.put, List.setIfInBounds_toArray, List.set_cons_zero, List.set_cons_succ, List.getElem_toArray, List.getElem_cons_zero, List.getElem_cons_succ])
  refine wpAnyH_ready (rs := [6]) (by kernel_rfl) (by simp) ?_
  refine AllReadyH.cons rfl (fun K hK => ?_) ?_
  · (rw [if_pos (by rfl)]; refine put_op _ _ _ _ rfl wb rfl _ _ rfl rfl _ HRUN.out ?_)
    refine hK.out _ _ ?_ (fun hHeld1 => ?_)
    · (try dsimp only); first | exact ⟨fun j => cell_at HB2.out.obj j, f0, k0⟩ | exact ⟨fun j => cell_at (setB_off HB2.out.obj n3) j, fun j => cell_at (setB_off HF2.out e1) j, fun j => cell_at (setB_off HK2.out e2) j⟩
    clear hK K hHeld0
    (try simp only [Act.put, List.setIfInBounds_toArray, List.set_cons_zero, List.set_cons_succ, List.getElem_toArray, List.getElem_cons_zero, List.getElem_cons_succ])
    refine wpAnyH_done (by kernel_rfl) ?_ _
    go_wp2
    go_ret
    refine ⟨rfl, ⟨qb, qg, wb, nb, rs, rfl, ?_⟩, ?_⟩
    · have hr := HB2.out
      have hT : Only [wb] w2 (setBlock w2.drew wb o) := only_setB ((Only.refl _ _).drew) (.inl (by simp)) _
      exact ⟨HOK.out, hT.at hr.obj (off1 n3), hr.ring.only hT (off1 n6) (off1 n8), hr.rq, hr.rl, hr.rn, HWA.out, hr.na.only hT (off1 n10.symm), hr.nd⟩
    · exact only_setB ((HO2.out.drew).mono (by simp)) (.inl (by simp)) _
  exact AllReadyH.nil
end Go.Proofs.Ytajbfmdgnkpjgaa
