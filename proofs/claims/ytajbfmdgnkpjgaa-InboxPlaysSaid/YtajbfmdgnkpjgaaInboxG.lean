/- An inbox's Ready and Tell. -/
import Derived.Test.YtajbfmdgnkpjgaaInboxF
namespace Go.Proofs.Ytajbfmdgnkpjgaa
set_option linter.unusedVariables false
set_option linter.unusedSimpArgs false
open Go.RowKit Go.ChangeMaps Go.WideShapes Go.WideMaps
theorem erase_eq {p : Pk} : ∀ {l : List Pk} {j : Nat} {a : Pk}, (l.map (fun p => (p.src, p.seq))).Nodup → l[j]? = some a → a.src = p.src → a.seq = p.seq → l.eraseIdx j = l.eraseP (keyEq p)
  | [], j, a, _, h, _, _ => by simp at h
  | x :: l, 0, a, hn, h, h1, h2 => by
    simp only [List.getElem?_cons_zero, Option.some.injEq] at h
    subst h
    rw [List.eraseP_cons_of_pos (by unfold keyEq; exact decide_eq_true ⟨h1, h2⟩)]; rfl
  | x :: l, j + 1, a, hn, h, h1, h2 => by
    rw [List.getElem?_cons_succ] at h
    rw [List.map_cons, List.nodup_cons] at hn
    have ha := List.mem_of_getElem? h
    rw [List.eraseP_cons_of_neg (by unfold keyEq; rw [decide_eq_true_eq]; exact fun e => hn.1 (List.mem_map.2 ⟨a, ha, by rw [h1, h2, e.1, e.2]⟩)), List.eraseIdx_cons_succ, erase_eq hn.2 h h1 h2]
theorem set_eq {x v : Int} : ∀ {l : List (Int × Int)} {j : Nat} {a : Int × Int}, (l.map (fun q => i64V q.1)).Nodup → l[j]? = some a → a.1 = x → l.set j (x, v) = l.map (fun q => if q.1 = x then (x, v) else q)
  | [], j, a, _, h, _ => by simp at h
  | q :: l, 0, a, hn, h, h1 => by
    simp only [List.getElem?_cons_zero, Option.some.injEq] at h
    subst h
    rw [List.map_cons, List.nodup_cons] at hn
    rw [List.set_cons_zero, List.map_cons, if_pos h1]
    congr 1
    conv => lhs; rw [← List.map_id l]
    apply List.map_congr_left
    intro r hr
    rw [if_neg (fun e => hn.1 (List.mem_map.2 ⟨r, hr, by rw [h1, e]⟩))]; rfl
  | q :: l, j + 1, a, hn, h, h1 => by
    rw [List.getElem?_cons_succ] at h
    rw [List.map_cons, List.nodup_cons] at hn
    have ha := List.mem_of_getElem? h
    rw [List.set_cons_succ, List.map_cons, set_eq hn.2 h h1, if_neg (fun e => hn.1 (List.mem_map.2 ⟨a, ha, by rw [h1, e]⟩))]
theorem WaitsAt.drop {w : World} {b : Nat} {l : List Pk} (h : WaitsAt w b l) (hk : (l.map (fun p => (p.src, p.seq))).Nodup) {p : Pk} (hp : p ∈ l) (h1 : (Lit.int .i64 p.src).wf = true) (h2 : (Lit.int .i64 p.seq).wf = true) (ty : TypeId) :
    ∃ o, (Builtin.delete_ #[103, 107] ty #[.map (some b), .agg #[.int .i64 p.src, .int .i64 p.seq]]).run Try.prog w = .ok (.tuple #[]) (setBlock w b o) ∧ WaitsAt (setBlock w b o) b (l.eraseP (keyEq p)) := by
  obtain ⟨es, c, h3, h4⟩ := h
  obtain ⟨es', j, a, hr, hm, hj, hka, he⟩ := drop_at ty lawK Try.underlying103 h3 h4 (keyK h1 h2) ⟨p, hp, rfl⟩
  unfold keyV at hka
  simp at hka
  exact ⟨_, hr, es', c, hm, by rw [he, erase_eq hk hj hka.1 hka.2]⟩
theorem NextAt.put {w : World} {b : Nat} {l : List (Int × Int)} (h : NextAt w b l) (x v : Int) (hx : (Lit.int .i64 x).wf = true) :
    ∃ o, (Instr.mapUpdate 104 (.map (some b)) (.int .i64 x) (.int .i64 v)).run Try.prog w = .ok () (setBlock w b o) ∧ NextAt (setBlock w b o) b (putI l x v) := by
  obtain ⟨es, c, h3, h4⟩ := h
  unfold putI
  by_cases ha : l.any (fun q => decide (q.1 = x)) = true
  · obtain ⟨q, hq, e⟩ := List.any_eq_true.1 ha
    rw [decide_eq_true_eq] at e
    obtain ⟨es', c', j, a, hr, hm, hj, hka, he⟩ := put_old (val := .int .i64 v) lawI Try.underlying104 h3 h4 (keyI hx) ⟨q, hq, by unfold i64V; rw [e]⟩
    rw [if_pos ha, ← set_eq (ents_keys h4 h3.st) hj (by unfold i64V at hka; simpa using hka)]
    exact ⟨_, hr, es', c', hm, by rw [he, h4, List.map_set]; rfl⟩
  · have hno : ∀ a ∈ l, i64V a.1 ≠ .int .i64 x := fun a haa e => ha (List.any_eq_true.2 ⟨a, haa, by unfold i64V at e; simpa using e⟩)
    obtain ⟨es', c', hr, hm, he⟩ := put_new (val := .int .i64 v) lawI Try.underlying104 h3 h4 (keyI hx) hno
    rw [if_neg ha]
    exact ⟨_, hr, es', c', hm, by rw [he, h4, List.map_append]; rfl⟩
theorem del_op {P : Program} {o : Oper} {a : Act} {w : World} {K : Act → World → Prop} {Q : Exit → Act → World → Prop} (m x : Operand) (t k : TypeId) (hop : o.op = Op.call { callee := Callee.builtin Builtin.delete, args := #[m, x], argTypes := #[t, k] }) (b : Nat) (hm : a.eval m = .map (some b)) (key : Value) (hx : a.eval x = key) (w' : World)
    (hrun : (Builtin.delete_ #[t, k] o.type #[.map (some b), key]).run P w = .ok (.tuple #[]) w') (h : K (a.put o.dst (.tuple #[])) w') : o.wp P a w K Q := by
  unfold Oper.wp
  simp [execOp, hop, resolve, invoke, builtin, hm, hx, hrun, Result.andThen]
  exact h
theorem box_isready (w : World) (b : Nat) (B : List Nat) (s : IS) (h : BoxAt w b B s) :
    Calls Try.prog 18 #[.pointer (some ⟨b, 0, none⟩)] w fun e w' => e = .returned (.bool s.ready.isSome) ∧ Below w.heap.size w w' := by
  have HRC := Lib.hid (box_ready w b B s h)
  clear h
  generalize s.ready.isSome = f at *
  generalize s.ready.getD Pk.zero = p at *
  go_enter Try.func18, Try.ntmps18
  go_wp2_with (go_at_call 56; ((with_reducible refine (HRC.out).mono ?_); rintro e w1 ⟨rfl, hb1⟩))
  go_ret
  exact ⟨rfl, hb1.alloc hb1.size _⟩
set_option maxRecDepth 100000 in
set_option maxHeartbeats 2000000 in
theorem box_tell (w : World) (b : Nat) (B : List Nat) (s : IS) (h : BoxAt w b B s) :
    Calls Try.prog 14 #[.pointer (some ⟨b, 0, none⟩)] w fun e w' => e = .returned (.bool s.tell.2) ∧ BoxAt w' b B s.tell.1 ∧ Only B w w' := by
  have hrc := box_ready w b B s h
  have hok2 := h.ok.tell
  have hri := IS.ready_is s
  have hlts := h.lt
  obtain ⟨qb, qg, wb, nb, rs, rfl, hr⟩ := h
  have HR := Lib.hid hr
  have hHead := hr.head
  unfold IS.tell at hok2 ⊢
  clear hr
  cases hrd : s.ready with
  | none =>
    rw [hrd] at hrc hri hok2
    dsimp only [Option.isSome_none, Option.getD_none] at hrc hok2 ⊢
    generalize Pk.zero = p at hrc
    obtain ⟨p0, p1, p2, p3⟩ := p
    dsimp only [Pk.val] at hrc
    have HRC := Lib.hid hrc
    clear hrc hri hok2 hHead hrd
    go_enter Try.func14, Try.ntmps14
    go_upto_region 2 with (go_at_call 56; ((with_reducible refine (HRC.out).mono ?_); rintro e w1 ⟨rfl, hb1⟩))
    have hB2 : Below w.heap.size w (w1.alloc (.cells #[.int .i64 p0, .int .i64 p1, .int .i64 p2, .string p3] 30)) := hb1.alloc hb1.size _
    have hV2 : (w1.alloc (.cells #[.int .i64 p0, .int .i64 p1, .int .i64 p2, .string p3] 30)).heap[w1.heap.size]? = some (.cells #[.int .i64 p0, .int .i64 p1, .int .i64 p2, .string p3] 30 (0, 0)) := alloc_new _
    have hl1 := hb1.size
    generalize (w1.alloc (.cells #[.int .i64 p0, .int .i64 p1, .int .i64 p2, .string p3] 30)) = w2 at *
    have hBX : BoxRaw w2 b qb qg wb nb s rs := HR.out.only (Only.ofBelow hB2 []) (by simp)
    have HV2 := Lib.hid hV2
    have HBX := Lib.hid hBX
    have HB2 := Lib.hid hB2
    have hn1 := Nat.ne_of_gt (Nat.lt_of_lt_of_le (hlts b (by simp)) hl1)
    have hn2 := Nat.ne_of_gt (Nat.lt_of_lt_of_le (hlts qb (by simp)) hl1)
    have hn3 := Nat.ne_of_gt (Nat.lt_of_lt_of_le (hlts qg (by simp)) hl1)
    have hn5 := Nat.ne_of_gt (Nat.lt_of_lt_of_le (hlts wb (by simp)) hl1)
    have hn6 := Nat.ne_of_gt (Nat.lt_of_lt_of_le (hlts nb (by simp)) hl1)
    clear hV2 hBX hB2 hb1 HRC hl1
    have hS : ∀ w', Only [qb, qg] w2 w' → (∀ j, w'.cell? ⟨b, j, none⟩ = (#[.pointer (some ⟨qb, 0, none⟩), .map (some wb), .map (some nb)] : Array Value)[j]?) ∧ (∀ j, w'.cell? ⟨w1.heap.size, j, none⟩ = (#[.int .i64 p0, .int .i64 p1, .int .i64 p2, .string p3] : Array Value)[j]?) := fun w' ho => ⟨fun j => cell_at (ho.at HBX.out.obj (by obtain ⟨n1, n2, _⟩ := nodup5 HBX.out.nd; simp; omega)) j, fun j => cell_at (ho.at HV2.out (by simp; omega)) j⟩
    have HS := Lib.hid hS
    clear hS
    refine wp_region_held_drew (S := (fun w' => (∀ j, w'.cell? ⟨b, j, none⟩ = (#[.pointer (some ⟨qb, 0, none⟩), .map (some wb), .map (some nb)] : Array Value)[j]?) ∧ (∀ j, w'.cell? ⟨w1.heap.size, j, none⟩ = (#[.int .i64 p0, .int .i64 p1, .int .i64 p2, .string p3] : Array Value)[j]?))) (by kernel_rfl) ?_ (fun hHeld0 => ?_)
    · (try dsimp only); (refine HS.out _ ?_; with_reducible repeat' (first | exact Only.refl _ _ | exact HO3.out | refine Only.drew ?_ | refine Only.drewN ?_ _))
    refine wpAnyH_take (i := 0) (v := ?_) rfl (by kernel_rfl) (by kernel_rfl) (by kernel_rfl) (fun _ _ _ h => h) (Or.inl ⟨by rfl, ?_⟩) (by assumption) ?_
    rotate_left
    · (intro w hSw; (try dsimp only at hSw); go_simp; try with_reducible rfl)
    (try simp only [Act.put, List.setIfInBounds_toArray, List.set_cons_zero, List.set_cons_succ, List.getElem_toArray, List.getElem_cons_zero, List.getElem_cons_succ])
    refine wpAnyH_take (i := 1) (v := ?_) rfl (by kernel_rfl) (by kernel_rfl) (by kernel_rfl) (fun _ _ _ h => h) (Or.inl ⟨by rfl, ?_⟩) (by assumption) ?_
    rotate_left
    · (intro w hSw; (try dsimp only at hSw); go_simp; try with_reducible rfl)
    (try simp only [Act.put, List.setIfInBounds_toArray, List.set_cons_zero, List.set_cons_succ, List.getElem_toArray, List.getElem_cons_zero, List.getElem_cons_succ])
    refine wpAnyH_take (i := 2) (v := ?_) rfl (by kernel_rfl) (by kernel_rfl) (by kernel_rfl) (fun _ _ _ h => h) (Or.inl ⟨by rfl, ?_⟩) (by assumption) ?_
    rotate_left
    · (intro w hSw; (try dsimp only at hSw); go_simp; try with_reducible rfl)
    (try simp only [Act.put, List.setIfInBounds_toArray, List.set_cons_zero, List.set_cons_succ, List.getElem_toArray, List.getElem_cons_zero, List.getElem_cons_succ])
    refine wpAnyH_take (i := 3) (v := undef) rfl (by kernel_rfl) (by kernel_rfl) (by kernel_rfl) (fun _ _ _ h => h) (Or.inr ⟨by rfl, rfl⟩) (by assumption) ?_
    (try simp only [Act.put, List.setIfInBounds_toArray, List.set_cons_zero, List.set_cons_succ, List.getElem_toArray, List.getElem_cons_zero, List.getElem_cons_succ])
    refine wpAnyH_take (i := 4) (v := undef) rfl (by kernel_rfl) (by kernel_rfl) (by kernel_rfl) (fun _ _ _ h => h) (Or.inr ⟨by rfl, rfl⟩) (by assumption) ?_
    (try simp only [Act.put, List.setIfInBounds_toArray, List.set_cons_zero, List.set_cons_succ, List.getElem_toArray, List.getElem_cons_zero, List.getElem_cons_succ])
    refine wpAnyH_take (i := 5) (v := undef) rfl (by kernel_rfl) (by kernel_rfl) (by kernel_rfl) (fun _ _ _ h => h) (Or.inr ⟨by rfl, rfl⟩) (by assumption) ?_
    (try simp only [Act.put, List.setIfInBounds_toArray, List.set_cons_zero, List.set_cons_succ, List.getElem_toArray, List.getElem_cons_zero, List.getElem_cons_succ])
    refine wpAnyH_take (i := 6) (v := undef) rfl (by kernel_rfl) (by kernel_rfl) (by kernel_rfl) (fun _ _ _ h => h) (Or.inr ⟨by rfl, rfl⟩) (by assumption) ?_
    (try simp only [Act.put, List.setIfInBounds_toArray, List.set_cons_zero, List.set_cons_succ, List.getElem_toArray, List.getElem_cons_zero, List.getElem_cons_succ])
    refine wpAnyH_take (i := 7) (v := undef) rfl (by kernel_rfl) (by kernel_rfl) (by kernel_rfl) (fun _ _ _ h => h) (Or.inr ⟨by rfl, rfl⟩) (by assumption) ?_
    (try simp only [Act.put, List.setIfInBounds_toArray, List.set_cons_zero, List.set_cons_succ, List.getElem_toArray, List.getElem_cons_zero, List.getElem_cons_succ])
    refine wpAnyH_take (i := 8) (v := undef) rfl (by kernel_rfl) (by kernel_rfl) (by kernel_rfl) (fun _ _ _ h => h) (Or.inr ⟨by rfl, rfl⟩) (by assumption) ?_
    (try simp only [Act.put, List.setIfInBounds_toArray, List.set_cons_zero, List.set_cons_succ, List.getElem_toArray, List.getElem_cons_zero, List.getElem_cons_succ])
    refine wpAnyH_ready (rs := [9]) (by kernel_rfl) (by simp) ?_
    refine AllReadyH.cons rfl (fun K hK => ?_) ?_
    · go_simp
      refine hK.out _ _ ?_ (fun hHeld1 => ?_)
      · (try dsimp only); (refine HS.out _ ?_; with_reducible repeat' (first | exact Only.refl _ _ | exact HO3.out | refine Only.drew ?_ | refine Only.drewN ?_ _))
      clear hK K hHeld0
      (try simp only [Act.put, List.setIfInBounds_toArray, List.set_cons_zero, List.set_cons_succ, List.getElem_toArray, List.getElem_cons_zero, List.getElem_cons_succ])
      refine wpAnyH_take (i := 10) (v := undef) rfl (by kernel_rfl) (by kernel_rfl) (by kernel_rfl) (fun _ _ _ h => h) (Or.inr ⟨by rfl, rfl⟩) (by assumption) ?_
      (try simp only [Act.put, List.setIfInBounds_toArray, List.set_cons_zero, List.set_cons_succ, List.getElem_toArray, List.getElem_cons_zero, List.getElem_cons_succ])
      refine wpAnyH_take (i := 11) (v := ?_) rfl (by kernel_rfl) (by kernel_rfl) (by kernel_rfl) (fun _ _ _ h => h) (Or.inl ⟨by rfl, ?_⟩) (by assumption) ?_
      rotate_left
      · (intro w hSw; (try dsimp only at hSw); go_simp; try with_reducible rfl)
      (try simp only [Act.put, List.setIfInBounds_toArray, List.set_cons_zero, List.set_cons_succ, List.getElem_toArray, List.getElem_cons_zero, List.getElem_cons_succ])
      refine wpAnyH_done (by kernel_rfl) ?_ _
      go_wp2
      go_ret
      exact ⟨rfl, ⟨qb, qg, wb, nb, rs, rfl, HBX.out.only (S := []) ((Only.refl _ _).drew) (by simp)⟩, (Only.ofBelow HB2.out _).drew⟩
    exact AllReadyH.nil
  | some p =>
    rw [hrd] at hrc hri hok2
    obtain ⟨p0, p1, p2, p3⟩ := p
    dsimp only [Option.isSome_some, Option.getD_some, Pk.val] at hrc hok2 ⊢
    have HRC := Lib.hid hrc
    have HRI := Lib.hid hri
    have HP := Lib.hid (fun w' (hw : RingK w' qb qg rs) => ringK_push w' qb qg rs ⟨p0, p1, p2, p3⟩ hw)
    have HRS : Hid (rs.ld = none ∧ rs.q = s.q ∧ rs.n = s.n) := Lib.hid ⟨HR.out.rl, HR.out.rq, HR.out.rn⟩
    clear hrc hri hHead hrd
    by_cases hf : s.q.length = s.n
    · rw [if_pos hf]
      have hpe : (rs.push ⟨p0, p1, p2, p3⟩) = (rs, 7) := by unfold RS.push; rw [HRS.out.1, HRS.out.2.1, HRS.out.2.2, if_neg (by simp), if_pos hf]
      rw [hpe] at HP
      clear hpe hok2 hf
      go_enter Try.func14, Try.ntmps14
      go_upto_region 2 with (go_at_call 56; ((with_reducible refine (HRC.out).mono ?_); rintro e w1 ⟨rfl, hb1⟩))
      have hB2 : Below w.heap.size w (w1.alloc (.cells #[.int .i64 p0, .int .i64 p1, .int .i64 p2, .string p3] 30)) := hb1.alloc hb1.size _
      have hV2 : (w1.alloc (.cells #[.int .i64 p0, .int .i64 p1, .int .i64 p2, .string p3] 30)).heap[w1.heap.size]? = some (.cells #[.int .i64 p0, .int .i64 p1, .int .i64 p2, .string p3] 30 (0, 0)) := alloc_new _
      have hl1 := hb1.size
      generalize (w1.alloc (.cells #[.int .i64 p0, .int .i64 p1, .int .i64 p2, .string p3] 30)) = w2 at *
      have hBX : BoxRaw w2 b qb qg wb nb s rs := HR.out.only (Only.ofBelow hB2 []) (by simp)
      have HV2 := Lib.hid hV2
      have HBX := Lib.hid hBX
      have HB2 := Lib.hid hB2
      have hn1 := Nat.ne_of_gt (Nat.lt_of_lt_of_le (hlts b (by simp)) hl1)
      have hn2 := Nat.ne_of_gt (Nat.lt_of_lt_of_le (hlts qb (by simp)) hl1)
      have hn3 := Nat.ne_of_gt (Nat.lt_of_lt_of_le (hlts qg (by simp)) hl1)
      have hn5 := Nat.ne_of_gt (Nat.lt_of_lt_of_le (hlts wb (by simp)) hl1)
      have hn6 := Nat.ne_of_gt (Nat.lt_of_lt_of_le (hlts nb (by simp)) hl1)
      clear hV2 hBX hB2 hb1 HRC hl1
      have hS : ∀ w', Only [qb, qg] w2 w' → (∀ j, w'.cell? ⟨b, j, none⟩ = (#[.pointer (some ⟨qb, 0, none⟩), .map (some wb), .map (some nb)] : Array Value)[j]?) ∧ (∀ j, w'.cell? ⟨w1.heap.size, j, none⟩ = (#[.int .i64 p0, .int .i64 p1, .int .i64 p2, .string p3] : Array Value)[j]?) := fun w' ho => ⟨fun j => cell_at (ho.at HBX.out.obj (by obtain ⟨n1, n2, _⟩ := nodup5 HBX.out.nd; simp; omega)) j, fun j => cell_at (ho.at HV2.out (by simp; omega)) j⟩
      have HS := Lib.hid hS
      clear hS
      refine wp_region_held_drew (S := (fun w' => (∀ j, w'.cell? ⟨b, j, none⟩ = (#[.pointer (some ⟨qb, 0, none⟩), .map (some wb), .map (some nb)] : Array Value)[j]?) ∧ (∀ j, w'.cell? ⟨w1.heap.size, j, none⟩ = (#[.int .i64 p0, .int .i64 p1, .int .i64 p2, .string p3] : Array Value)[j]?))) (by kernel_rfl) ?_ (fun hHeld0 => ?_)
      · (try dsimp only); (refine HS.out _ ?_; with_reducible repeat' (first | exact Only.refl _ _ | exact HO3.out | refine Only.drew ?_ | refine Only.drewN ?_ _))
      refine wpAnyH_take (i := 0) (v := ?_) rfl (by kernel_rfl) (by kernel_rfl) (by kernel_rfl) (fun _ _ _ h => h) (Or.inl ⟨by rfl, ?_⟩) (by assumption) ?_
      rotate_left
      · (intro w hSw; (try dsimp only at hSw); go_simp; try with_reducible rfl)
      (try simp only [Act.put, List.setIfInBounds_toArray, List.set_cons_zero, List.set_cons_succ, List.getElem_toArray, List.getElem_cons_zero, List.getElem_cons_succ])
      refine wpAnyH_take (i := 1) (v := ?_) rfl (by kernel_rfl) (by kernel_rfl) (by kernel_rfl) (fun _ _ _ h => h) (Or.inl ⟨by rfl, ?_⟩) (by assumption) ?_
      rotate_left
      · (intro w hSw; (try dsimp only at hSw); go_simp; try with_reducible rfl)
      (try simp only [Act.put, List.setIfInBounds_toArray, List.set_cons_zero, List.set_cons_succ, List.getElem_toArray, List.getElem_cons_zero, List.getElem_cons_succ])
      refine wpAnyH_take (i := 2) (v := ?_) rfl (by kernel_rfl) (by kernel_rfl) (by kernel_rfl) (fun _ _ _ h => h) (Or.inl ⟨by rfl, ?_⟩) (by assumption) ?_
      rotate_left
      · (intro w hSw; (try dsimp only at hSw); go_simp; try with_reducible rfl)
      (try simp only [Act.put, List.setIfInBounds_toArray, List.set_cons_zero, List.set_cons_succ, List.getElem_toArray, List.getElem_cons_zero, List.getElem_cons_succ])
      refine wpAnyH_take (i := 3) (v := ?_) rfl (by kernel_rfl) (by kernel_rfl) (by kernel_rfl) (fun _ _ _ h => h) (Or.inl ⟨by rfl, ?_⟩) (by assumption) ?_
      rotate_left
      · (intro w hSw; (try dsimp only at hSw); go_simp; try with_reducible rfl)
      (try simp only [Act.put, List.setIfInBounds_toArray, List.set_cons_zero, List.set_cons_succ, List.getElem_toArray, List.getElem_cons_zero, List.getElem_cons_succ])
      refine wpAnyH_take (i := 4) (v := ?_) rfl (by kernel_rfl) (by kernel_rfl) (by kernel_rfl) (fun _ _ _ h => h) (Or.inl ⟨by rfl, ?_⟩) (by assumption) ?_
      rotate_left
      · (intro w hSw; (try dsimp only at hSw); go_simp; try with_reducible rfl)
      (try simp only [Act.put, List.setIfInBounds_toArray, List.set_cons_zero, List.set_cons_succ, List.getElem_toArray, List.getElem_cons_zero, List.getElem_cons_succ])
      refine wpAnyH_take (i := 5) (v := ?_) rfl (by kernel_rfl) (by kernel_rfl) (by kernel_rfl) (fun _ _ _ h => h) (Or.inl ⟨by rfl, ?_⟩) (by assumption) ?_
      rotate_left
      · (intro w hSw; (try dsimp only at hSw); go_simp; try with_reducible rfl)
      (try simp only [Act.put, List.setIfInBounds_toArray, List.set_cons_zero, List.set_cons_succ, List.getElem_toArray, List.getElem_cons_zero, List.getElem_cons_succ])
      refine wpAnyH_take (i := 6) (v := ?_) rfl (by kernel_rfl) (by kernel_rfl) (by kernel_rfl) (fun _ _ _ h => h) (Or.inl ⟨by rfl, ?_⟩) (by assumption) ?_
      rotate_left
      · (intro w hSw; (try dsimp only at hSw); go_simp; try with_reducible rfl)
      (try simp only [Act.put, List.setIfInBounds_toArray, List.set_cons_zero, List.set_cons_succ, List.getElem_toArray, List.getElem_cons_zero, List.getElem_cons_succ])
      refine wpAnyH_take (i := 7) (v := ?_) rfl (by kernel_rfl) (by kernel_rfl) (by kernel_rfl) (fun _ _ _ h => h) (Or.inl ⟨by rfl, ?_⟩) (by assumption) ?_
      rotate_left
      · (intro w hSw; (try dsimp only at hSw); go_simp; try with_reducible rfl)
      (try simp only [Act.put, List.setIfInBounds_toArray, List.set_cons_zero, List.set_cons_succ, List.getElem_toArray, List.getElem_cons_zero, List.getElem_cons_succ])
      refine wpAnyH_take (i := 8) (v := ?_) rfl (by kernel_rfl) (by kernel_rfl) (by kernel_rfl) (fun _ _ _ h => h) (Or.inl ⟨by rfl, ?_⟩) (by assumption) ?_
      rotate_left
      · (intro w hSw; (try dsimp only at hSw); go_simp; try with_reducible rfl)
      (try simp only [Act.put, List.setIfInBounds_toArray, List.set_cons_zero, List.set_cons_succ, List.getElem_toArray, List.getElem_cons_zero, List.getElem_cons_succ])
      refine wpAnyH_ready (rs := [9]) (by kernel_rfl) (by simp) ?_
      refine AllReadyH.cons rfl (fun K hK => ?_) ?_
      · (rw [if_pos (by rfl)]; go_simp; go_at_call 57; ((with_reducible refine (HP.out _ ?_).mono ?_); exact HBX.out.ring.only (S := []) ((Only.refl _ _).drew) (by simp) (by simp); rintro e w3 ⟨rfl, hR3, hO3⟩; have HR3 := Lib.hid hR3; have HO3 := Lib.hid (((Only.refl [qb, qg] w2).drew).trans hO3); clear hR3 hO3))
        refine hK.out _ _ ?_ (fun hHeld1 => ?_)
        · (try dsimp only); (refine HS.out _ ?_; with_reducible repeat' (first | exact Only.refl _ _ | exact HO3.out | refine Only.drew ?_ | refine Only.drewN ?_ _))
        clear hK K hHeld0
        (try simp only [Act.put, List.setIfInBounds_toArray, List.set_cons_zero, List.set_cons_succ, List.getElem_toArray, List.getElem_cons_zero, List.getElem_cons_succ])
        refine wpAnyH_take (i := 10) (v := ?_) rfl (by kernel_rfl) (by kernel_rfl) (by kernel_rfl) (fun _ _ _ h => h) (Or.inl ⟨by rfl, ?_⟩) (by assumption) ?_
        rotate_left
        · (intro w hSw; (try dsimp only at hSw); go_simp; try with_reducible rfl)
        (try simp only [Act.put, List.setIfInBounds_toArray, List.set_cons_zero, List.set_cons_succ, List.getElem_toArray, List.getElem_cons_zero, List.getElem_cons_succ])
        refine wpAnyH_take (i := 11) (v := ?_) rfl (by kernel_rfl) (by kernel_rfl) (by kernel_rfl) (fun _ _ _ h => h) (Or.inl ⟨by rfl, ?_⟩) (by assumption) ?_
        rotate_left
        · (intro w hSw; (try dsimp only at hSw); go_simp; try with_reducible rfl)
        (try simp only [Act.put, List.setIfInBounds_toArray, List.set_cons_zero, List.set_cons_succ, List.getElem_toArray, List.getElem_cons_zero, List.getElem_cons_succ])
        refine wpAnyH_done (by kernel_rfl) ?_ _
        go_wp2
        go_ret
        have hx := HBX.out
        obtain ⟨n1, n2, n3, n4, n5, n6, n7, n8, n9, n10⟩ := nodup5 hx.nd
        have hT := HO3.out
        exact ⟨rfl, ⟨qb, qg, wb, nb, rs, rfl, hx.ok, hT.at hx.obj (off2 n1 n2), HR3.out, hx.rq, hx.rl, hx.rn, hx.wa.only hT (off2 n6.symm n8.symm), hx.na.only hT (off2 n7.symm n9.symm), hx.nd⟩, (Only.ofBelow HB2.out _).trans (hT.mono (by simp))⟩
      exact AllReadyH.nil
    · rw [if_neg hf] at hok2 ⊢
      have hpe : (rs.push ⟨p0, p1, p2, p3⟩).2 = 0 ∧ (rs.push ⟨p0, p1, p2, p3⟩).1.q = s.q ++ [⟨p0, p1, p2, p3⟩] ∧ (rs.push ⟨p0, p1, p2, p3⟩).1.ld = none ∧ (rs.push ⟨p0, p1, p2, p3⟩).1.n = s.n := by
        unfold RS.push; rw [HRS.out.1, HRS.out.2.1, HRS.out.2.2, if_neg (by simp), if_neg hf]; exact ⟨rfl, rfl, rfl, rfl⟩
      generalize rs.push ⟨p0, p1, p2, p3⟩ = rs2 at *
      obtain ⟨rs2, re⟩ := rs2
      obtain ⟨h0, hq2, hl2, hn2⟩ := hpe
      dsimp only at h0 hq2 hl2 hn2 HP
      subst h0
      have HQ2 := Lib.hid hq2
      have HL2 := Lib.hid hl2
      have HN2 := Lib.hid hn2
      have HOK := Lib.hid hok2
      clear hf hq2 hl2 hn2 hok2
      go_enter Try.func14, Try.ntmps14
      go_upto_region 2 with (go_at_call 56; ((with_reducible refine (HRC.out).mono ?_); rintro e w1 ⟨rfl, hb1⟩))
      have hB2 : Below w.heap.size w (w1.alloc (.cells #[.int .i64 p0, .int .i64 p1, .int .i64 p2, .string p3] 30)) := hb1.alloc hb1.size _
      have hV2 : (w1.alloc (.cells #[.int .i64 p0, .int .i64 p1, .int .i64 p2, .string p3] 30)).heap[w1.heap.size]? = some (.cells #[.int .i64 p0, .int .i64 p1, .int .i64 p2, .string p3] 30 (0, 0)) := alloc_new _
      have hl1 := hb1.size
      generalize (w1.alloc (.cells #[.int .i64 p0, .int .i64 p1, .int .i64 p2, .string p3] 30)) = w2 at *
      have hBX : BoxRaw w2 b qb qg wb nb s rs := HR.out.only (Only.ofBelow hB2 []) (by simp)
      have HV2 := Lib.hid hV2
      have HBX := Lib.hid hBX
      have HB2 := Lib.hid hB2
      have hn1 := Nat.ne_of_gt (Nat.lt_of_lt_of_le (hlts b (by simp)) hl1)
      have hn2 := Nat.ne_of_gt (Nat.lt_of_lt_of_le (hlts qb (by simp)) hl1)
      have hn3 := Nat.ne_of_gt (Nat.lt_of_lt_of_le (hlts qg (by simp)) hl1)
      have hn5 := Nat.ne_of_gt (Nat.lt_of_lt_of_le (hlts wb (by simp)) hl1)
      have hn6 := Nat.ne_of_gt (Nat.lt_of_lt_of_le (hlts nb (by simp)) hl1)
      clear hV2 hBX hB2 hb1 HRC hl1
      have hx := HBX.out
      have hin := hx.ok.wr _ HRI.out.1
      unfold inR at hin
      rw [decide_eq_true_eq] at hin
      dsimp only at hin
      have hp0 : (Lit.int .i64 p0).wf = true := wf_small (by omega) (by omega)
      have hp2 : (Lit.int .i64 p2).wf = true := wf_small (by omega) (by omega)
      have hS : ∀ w', Only [qb, qg] w2 w' → (∀ j, w'.cell? ⟨b, j, none⟩ = (#[.pointer (some ⟨qb, 0, none⟩), .map (some wb), .map (some nb)] : Array Value)[j]?) ∧ (∀ j, w'.cell? ⟨w1.heap.size, j, none⟩ = (#[.int .i64 p0, .int .i64 p1, .int .i64 p2, .string p3] : Array Value)[j]?) := fun w' ho => ⟨fun j => cell_at (ho.at HBX.out.obj (by obtain ⟨n1, n2, _⟩ := nodup5 HBX.out.nd; simp; omega)) j, fun j => cell_at (ho.at HV2.out (by simp; omega)) j⟩
      have HS := Lib.hid hS
      have HIN := Lib.hid hin
      clear hS hx hin
      go_cut [21] (fun v21 wx => v21 = .bool false ∧ RingK wx qb qg rs2 ∧ Only [qb, qg] w2 wx)
      case first =>
        refine wp_region_held_drew (S := (fun w' => (∀ j, w'.cell? ⟨b, j, none⟩ = (#[.pointer (some ⟨qb, 0, none⟩), .map (some wb), .map (some nb)] : Array Value)[j]?) ∧ (∀ j, w'.cell? ⟨w1.heap.size, j, none⟩ = (#[.int .i64 p0, .int .i64 p1, .int .i64 p2, .string p3] : Array Value)[j]?))) (by kernel_rfl) ?_ (fun hHeld0 => ?_)
        · (try dsimp only); (refine HS.out _ ?_; with_reducible repeat' (first | exact Only.refl _ _ | exact HO3.out | refine Only.drew ?_ | refine Only.drewN ?_ _))
        refine wpAnyH_take (i := 0) (v := ?_) rfl (by kernel_rfl) (by kernel_rfl) (by kernel_rfl) (fun _ _ _ h => h) (Or.inl ⟨by rfl, ?_⟩) (by assumption) ?_
        rotate_left
        · (intro w hSw; (try dsimp only at hSw); go_simp; try with_reducible rfl)
        (try simp only [Act.put, List.setIfInBounds_toArray, List.set_cons_zero, List.set_cons_succ, List.getElem_toArray, List.getElem_cons_zero, List.getElem_cons_succ])
        refine wpAnyH_take (i := 1) (v := ?_) rfl (by kernel_rfl) (by kernel_rfl) (by kernel_rfl) (fun _ _ _ h => h) (Or.inl ⟨by rfl, ?_⟩) (by assumption) ?_
        rotate_left
        · (intro w hSw; (try dsimp only at hSw); go_simp; try with_reducible rfl)
        (try simp only [Act.put, List.setIfInBounds_toArray, List.set_cons_zero, List.set_cons_succ, List.getElem_toArray, List.getElem_cons_zero, List.getElem_cons_succ])
        refine wpAnyH_take (i := 2) (v := ?_) rfl (by kernel_rfl) (by kernel_rfl) (by kernel_rfl) (fun _ _ _ h => h) (Or.inl ⟨by rfl, ?_⟩) (by assumption) ?_
        rotate_left
        · (intro w hSw; (try dsimp only at hSw); go_simp; try with_reducible rfl)
        (try simp only [Act.put, List.setIfInBounds_toArray, List.set_cons_zero, List.set_cons_succ, List.getElem_toArray, List.getElem_cons_zero, List.getElem_cons_succ])
        refine wpAnyH_take (i := 3) (v := ?_) rfl (by kernel_rfl) (by kernel_rfl) (by kernel_rfl) (fun _ _ _ h => h) (Or.inl ⟨by rfl, ?_⟩) (by assumption) ?_
        rotate_left
        · (intro w hSw; (try dsimp only at hSw); go_simp; try with_reducible rfl)
        (try simp only [Act.put, List.setIfInBounds_toArray, List.set_cons_zero, List.set_cons_succ, List.getElem_toArray, List.getElem_cons_zero, List.getElem_cons_succ])
        refine wpAnyH_take (i := 4) (v := ?_) rfl (by kernel_rfl) (by kernel_rfl) (by kernel_rfl) (fun _ _ _ h => h) (Or.inl ⟨by rfl, ?_⟩) (by assumption) ?_
        rotate_left
        · (intro w hSw; (try dsimp only at hSw); go_simp; try with_reducible rfl)
        (try simp only [Act.put, List.setIfInBounds_toArray, List.set_cons_zero, List.set_cons_succ, List.getElem_toArray, List.getElem_cons_zero, List.getElem_cons_succ])
        refine wpAnyH_take (i := 5) (v := ?_) rfl (by kernel_rfl) (by kernel_rfl) (by kernel_rfl) (fun _ _ _ h => h) (Or.inl ⟨by rfl, ?_⟩) (by assumption) ?_
        rotate_left
        · (intro w hSw; (try dsimp only at hSw); go_simp; try with_reducible rfl)
        (try simp only [Act.put, List.setIfInBounds_toArray, List.set_cons_zero, List.set_cons_succ, List.getElem_toArray, List.getElem_cons_zero, List.getElem_cons_succ])
        refine wpAnyH_take (i := 6) (v := ?_) rfl (by kernel_rfl) (by kernel_rfl) (by kernel_rfl) (fun _ _ _ h => h) (Or.inl ⟨by rfl, ?_⟩) (by assumption) ?_
        rotate_left
        · (intro w hSw; (try dsimp only at hSw); go_simp; try with_reducible rfl)
        (try simp only [Act.put, List.setIfInBounds_toArray, List.set_cons_zero, List.set_cons_succ, List.getElem_toArray, List.getElem_cons_zero, List.getElem_cons_succ])
        refine wpAnyH_take (i := 7) (v := ?_) rfl (by kernel_rfl) (by kernel_rfl) (by kernel_rfl) (fun _ _ _ h => h) (Or.inl ⟨by rfl, ?_⟩) (by assumption) ?_
        rotate_left
        · (intro w hSw; (try dsimp only at hSw); go_simp; try with_reducible rfl)
        (try simp only [Act.put, List.setIfInBounds_toArray, List.set_cons_zero, List.set_cons_succ, List.getElem_toArray, List.getElem_cons_zero, List.getElem_cons_succ])
        refine wpAnyH_take (i := 8) (v := ?_) rfl (by kernel_rfl) (by kernel_rfl) (by kernel_rfl) (fun _ _ _ h => h) (Or.inl ⟨by rfl, ?_⟩) (by assumption) ?_
        rotate_left
        · (intro w hSw; (try dsimp only at hSw); go_simp; try with_reducible rfl)
        (try simp only [Act.put, List.setIfInBounds_toArray, List.set_cons_zero, List.set_cons_succ, List.getElem_toArray, List.getElem_cons_zero, List.getElem_cons_succ])
        refine wpAnyH_ready (rs := [9]) (by kernel_rfl) (by simp) ?_
        refine AllReadyH.cons rfl (fun K hK => ?_) ?_
        · (rw [if_pos (by rfl)]; go_simp; go_at_call 57; ((with_reducible refine (HP.out _ ?_).mono ?_); exact HBX.out.ring.only (S := []) ((Only.refl _ _).drew) (by simp) (by simp); rintro e w3 ⟨rfl, hR3, hO3⟩; have HR3 := Lib.hid hR3; have HO3 := Lib.hid (((Only.refl [qb, qg] w2).drew).trans hO3); clear hR3 hO3))
          refine hK.out _ _ ?_ (fun hHeld1 => ?_)
          · (try dsimp only); (refine HS.out _ ?_; with_reducible repeat' (first | exact Only.refl _ _ | exact HO3.out | refine Only.drew ?_ | refine Only.drewN ?_ _))
          clear hK K hHeld0
          (try simp only [Act.put, List.setIfInBounds_toArray, List.set_cons_zero, List.set_cons_succ, List.getElem_toArray, List.getElem_cons_zero, List.getElem_cons_succ])
          refine wpAnyH_take (i := 10) (v := ?_) rfl (by kernel_rfl) (by kernel_rfl) (by kernel_rfl) (fun _ _ _ h => h) (Or.inl ⟨by rfl, ?_⟩) (by assumption) ?_
          rotate_left
          · (intro w hSw; (try dsimp only at hSw); go_simp; try with_reducible rfl)
          (try simp only [Act.put, List.setIfInBounds_toArray, List.set_cons_zero, List.set_cons_succ, List.getElem_toArray, List.getElem_cons_zero, List.getElem_cons_succ])
          refine wpAnyH_take (i := 11) (v := ?_) rfl (by kernel_rfl) (by kernel_rfl) (by kernel_rfl) (fun _ _ _ h => h) (Or.inl ⟨by rfl, ?_⟩) (by assumption) ?_
          rotate_left
          · (intro w hSw; (try dsimp only at hSw); go_simp; try with_reducible rfl)
          (try simp only [Act.put, List.setIfInBounds_toArray, List.set_cons_zero, List.set_cons_succ, List.getElem_toArray, List.getElem_cons_zero, List.getElem_cons_succ])
          refine wpAnyH_done (by kernel_rfl) ?_ _
          go_wp2
          go_meet
          exact ⟨rfl, HR3.out, HO3.out⟩
        exact AllReadyH.nil
      case rest =>
      obtain ⟨rfl, hR3, hO3⟩ := hcut
      obtain ⟨w3, rfl⟩ : ∃ x : World, x = wc := ⟨_, rfl⟩
      have HR3 := Lib.hid hR3
      have HO3 := Lib.hid hO3
      clear hR3 hO3 HS HP
      go_upto_region 4 with (fail)
      have hx := HBX.out
      obtain ⟨n1, n2, n3, n4, n5, n6, n7, n8, n9, n10⟩ := nodup5 hx.nd
      obtain ⟨o4, hr4, hw4⟩ := WaitsAt.drop (w := w3.drew) (hx.wa.only (HO3.out.drew) (off2 n6.symm n8.symm)) hx.ok.kd HRI.out.1 hp0 hp2 0
      have hS : ∀ w', Only [wb] w3 w' → (∀ j, w'.cell? ⟨b, j, none⟩ = (#[.pointer (some ⟨qb, 0, none⟩), .map (some wb), .map (some nb)] : Array Value)[j]?) ∧ (∀ j, w'.cell? ⟨w1.heap.size, j, none⟩ = (#[.int .i64 p0, .int .i64 p1, .int .i64 p2, .string p3] : Array Value)[j]?) := fun w' ho => ⟨fun j => cell_at (ho.at (HO3.out.at HBX.out.obj (off2 n1 n2)) (by simpa using n3)) j, fun j => cell_at (ho.at (HO3.out.at HV2.out (off2 hn2 hn3)) (by simpa using hn5)) j⟩
      have HS := Lib.hid hS
      have HRUN := Lib.hid hr4
      have HW4 := Lib.hid hw4
      clear hS hr4 hw4 hx
      go_cut [] (fun wx => WaitsAt wx wb (s.ws.eraseP (keyEq ⟨p0, p1, p2, p3⟩)) ∧ Only [wb] w3 wx)
      case first =>
        refine wp_region_held_drew (S := (fun w' => (∀ j, w'.cell? ⟨b, j, none⟩ = (#[.pointer (some ⟨qb, 0, none⟩), .map (some wb), .map (some nb)] : Array Value)[j]?) ∧ (∀ j, w'.cell? ⟨w1.heap.size, j, none⟩ = (#[.int .i64 p0, .int .i64 p1, .int .i64 p2, .string p3] : Array Value)[j]?))) (by kernel_rfl) ?_ (fun hHeld0 => ?_)
        · (try dsimp only); (refine HS.out _ ?_; with_reducible repeat' (first | exact Only.refl _ _ | refine Only.drew ?_ | refine Only.drewN ?_ _ | refine only_setB ?_ (.inl (by simp)) _))
        refine wpAnyH_take (i := 0) (v := ?_) rfl (by kernel_rfl) (by kernel_rfl) (by kernel_rfl) (fun _ _ _ h => h) (Or.inl ⟨by rfl, ?_⟩) (by assumption) ?_
        rotate_left
        · (intro w hSw; (try dsimp only at hSw); go_simp; try with_reducible rfl)
        (try simp only [Act.put, List.setIfInBounds_toArray, List.set_cons_zero, List.set_cons_succ, List.getElem_toArray, List.getElem_cons_zero, List.getElem_cons_succ])
        refine wpAnyH_take (i := 1) (v := ?_) rfl (by kernel_rfl) (by kernel_rfl) (by kernel_rfl) (fun _ _ _ h => h) (Or.inl ⟨by rfl, ?_⟩) (by assumption) ?_
        rotate_left
        · (intro w hSw; (try dsimp only at hSw); go_simp; try with_reducible rfl)
        (try simp only [Act.put, List.setIfInBounds_toArray, List.set_cons_zero, List.set_cons_succ, List.getElem_toArray, List.getElem_cons_zero, List.getElem_cons_succ])
        refine wpAnyH_take (i := 2) (v := ?_) rfl (by kernel_rfl) (by kernel_rfl) (by kernel_rfl) (fun _ _ _ h => h) (Or.inl ⟨by rfl, ?_⟩) (by assumption) ?_
        rotate_left
        · (intro w hSw; (try dsimp only at hSw); go_simp; try with_reducible rfl)
        (try simp only [Act.put, List.setIfInBounds_toArray, List.set_cons_zero, List.set_cons_succ, List.getElem_toArray, List.getElem_cons_zero, List.getElem_cons_succ])
        refine wpAnyH_take (i := 3) (v := ?_) rfl (by kernel_rfl) (by kernel_rfl) (by kernel_rfl) (fun _ _ _ h => h) (Or.inl ⟨by rfl, ?_⟩) (by assumption) ?_
        rotate_left
        · (intro w hSw; (try dsimp only at hSw); go_simp; try with_reducible rfl)
        (try simp only [Act.put, List.setIfInBounds_toArray, List.set_cons_zero, List.set_cons_succ, List.getElem_toArray, List.getElem_cons_zero, List.getElem_cons_succ])
        refine wpAnyH_take (i := 4) (v := ?_) rfl (by kernel_rfl) (by kernel_rfl) (by kernel_rfl) (fun _ _ _ h => h) (Or.inl ⟨by rfl, ?_⟩) (by assumption) ?_
        rotate_left
        · (intro w hSw; (try dsimp only at hSw); go_simp; try with_reducible rfl)
        (try simp only [Act.put, List.setIfInBounds_toArray, List.set_cons_zero, List.set_cons_succ, List.getElem_toArray, List.getElem_cons_zero, List.getElem_cons_succ])
        refine wpAnyH_take (i := 5) (v := ?_) rfl (by kernel_rfl) (by kernel_rfl) (by kernel_rfl) (fun _ _ _ h => h) (Or.inl ⟨by rfl, ?_⟩) (by assumption) ?_
        rotate_left
        · (intro w hSw; (try dsimp only at hSw); go_simp; try with_reducible rfl)
        (try simp only [Act.put, List.setIfInBounds_toArray, List.set_cons_zero, List.set_cons_succ, List.getElem_toArray, List.getElem_cons_zero, List.getElem_cons_succ])
        refine wpAnyH_take (i := 6) (v := ?_) rfl (by kernel_rfl) (by kernel_rfl) (by kernel_rfl) (fun _ _ _ h => h) (Or.inl ⟨by rfl, ?_⟩) (by assumption) ?_
        rotate_left
        · (intro w hSw; (try dsimp only at hSw); go_simp; try with_reducible rfl)
        (try simp only [Act.put, List.setIfInBounds_toArray, List.set_cons_zero, List.set_cons_succ, List.getElem_toArray, List.getElem_cons_zero, List.getElem_cons_succ])
        refine wpAnyH_take (i := 7) (v := ?_) rfl (by kernel_rfl) (by kernel_rfl) (by kernel_rfl) (fun _ _ _ h => h) (Or.inl ⟨by rfl, ?_⟩) (by assumption) ?_
        rotate_left
        · (intro w hSw; (try dsimp only at hSw); go_simp; try with_reducible rfl)
        (try simp only [Act.put, List.setIfInBounds_toArray, List.set_cons_zero, List.set_cons_succ, List.getElem_toArray, List.getElem_cons_zero, List.getElem_cons_succ])
        refine wpAnyH_take (i := 8) (v := ?_) rfl (by kernel_rfl) (by kernel_rfl) (by kernel_rfl) (fun _ _ _ h => h) (Or.inl ⟨by rfl, ?_⟩) (by assumption) ?_
        rotate_left
        · (intro w hSw; (try dsimp only at hSw); go_simp; try with_reducible rfl)
        (try simp only [Act.put, List.setIfInBounds_toArray, List.set_cons_zero, List.set_cons_succ, List.getElem_toArray, List.getElem_cons_zero, List.getElem_cons_succ])
        refine wpAnyH_ready (rs := [9]) (by kernel_rfl) (by simp) ?_
        refine AllReadyH.cons rfl (fun K hK => ?_) ?_
        · (rw [if_pos (by rfl)]; refine del_op _ _ _ _ rfl wb rfl _ rfl _ HRUN.out ?_)
          refine hK.out _ _ ?_ (fun hHeld1 => ?_)
          · (try dsimp only); (refine HS.out _ ?_; with_reducible repeat' (first | exact Only.refl _ _ | refine Only.drew ?_ | refine Only.drewN ?_ _ | refine only_setB ?_ (.inl (by simp)) _))
          clear hK K hHeld0
          (try simp only [Act.put, List.setIfInBounds_toArray, List.set_cons_zero, List.set_cons_succ, List.getElem_toArray, List.getElem_cons_zero, List.getElem_cons_succ])
          refine wpAnyH_done (by kernel_rfl) ?_ _
          go_wp2
          go_meet
          exact ⟨HW4.out, only_setB ((Only.refl _ _).drew) (.inl (by simp)) _⟩
        exact AllReadyH.nil
      case rest =>
      obtain ⟨hw4, hO4⟩ := hcut
      obtain ⟨w4, rfl⟩ : ∃ x : World, x = wc := ⟨_, rfl⟩
      clear HS HRUN HW4
      have HW4 := Lib.hid hw4
      have HO4 := Lib.hid hO4
      clear hw4 hO4
      go_upto_region 5 with (fail)
      have hx := HBX.out
      obtain ⟨o5, hr5, hw5⟩ := NextAt.put (w := w4.drew) ((hx.na.only HO3.out (off2 n7.symm n9.symm)).only (HO4.out.drew) (off1 n10.symm)) p0 ((p2 + 1) % 65536) hp0
      have hS : ∀ w', Only [nb] w4 w' → (∀ j, w'.cell? ⟨b, j, none⟩ = (#[.pointer (some ⟨qb, 0, none⟩), .map (some wb), .map (some nb)] : Array Value)[j]?) ∧ (∀ j, w'.cell? ⟨w1.heap.size, j, none⟩ = (#[.int .i64 p0, .int .i64 p1, .int .i64 p2, .string p3] : Array Value)[j]?) := fun w' ho => ⟨fun j => cell_at (ho.at (HO4.out.at (HO3.out.at HBX.out.obj (off2 n1 n2)) (off1 n3)) (off1 n4)) j, fun j => cell_at (ho.at (HO4.out.at (HO3.out.at HV2.out (off2 hn2 hn3)) (off1 hn5)) (off1 hn6)) j⟩
      have HS := Lib.hid hS
      have hv1 : (IntKind.i64.wrap (p2 + 1)).tmod 65536 = (p2 + 1) % 65536 := by rw [IntWalk.i64_left, IntWalk.wrap64_in _ (by have := HIN.out; omega)]; exact Int.tmod_eq_emod_of_nonneg (by have := HIN.out; omega)
      rw [← hv1] at hr5
      have HRUN := Lib.hid hr5
      have HW5 := Lib.hid hw5
      clear hS hr5 hw5 hx hv1
      refine wp_region_held_drew (S := (fun w' => (∀ j, w'.cell? ⟨b, j, none⟩ = (#[.pointer (some ⟨qb, 0, none⟩), .map (some wb), .map (some nb)] : Array Value)[j]?) ∧ (∀ j, w'.cell? ⟨w1.heap.size, j, none⟩ = (#[.int .i64 p0, .int .i64 p1, .int .i64 p2, .string p3] : Array Value)[j]?))) (by kernel_rfl) ?_ (fun hHeld0 => ?_)
      · (try dsimp only); (refine HS.out _ ?_; with_reducible repeat' (first | exact Only.refl _ _ | refine Only.drew ?_ | refine Only.drewN ?_ _ | refine only_setB ?_ (.inl (by simp)) _))
      refine wpAnyH_take (i := 0) (v := ?_) rfl (by kernel_rfl) (by kernel_rfl) (by kernel_rfl) (fun _ _ _ h => h) (Or.inl ⟨by rfl, ?_⟩) (by assumption) ?_
      rotate_left
      · (intro w hSw; (try dsimp only at hSw); go_simp; try with_reducible rfl)
      (try simp only [Act.put, List.setIfInBounds_toArray, List.set_cons_zero, List.set_cons_succ, List.getElem_toArray, List.getElem_cons_zero, List.getElem_cons_succ])
      refine wpAnyH_take (i := 1) (v := ?_) rfl (by kernel_rfl) (by kernel_rfl) (by kernel_rfl) (fun _ _ _ h => h) (Or.inl ⟨by rfl, ?_⟩) (by assumption) ?_
      rotate_left
      · (intro w hSw; (try dsimp only at hSw); go_simp; try with_reducible rfl)
      (try simp only [Act.put, List.setIfInBounds_toArray, List.set_cons_zero, List.set_cons_succ, List.getElem_toArray, List.getElem_cons_zero, List.getElem_cons_succ])
      refine wpAnyH_take (i := 2) (v := ?_) rfl (by kernel_rfl) (by kernel_rfl) (by kernel_rfl) (fun _ _ _ h => h) (Or.inl ⟨by rfl, ?_⟩) (by assumption) ?_
      rotate_left
      · (intro w hSw; (try dsimp only at hSw); go_simp; try with_reducible rfl)
      (try simp only [Act.put, List.setIfInBounds_toArray, List.set_cons_zero, List.set_cons_succ, List.getElem_toArray, List.getElem_cons_zero, List.getElem_cons_succ])
      refine wpAnyH_take (i := 3) (v := ?_) rfl (by kernel_rfl) (by kernel_rfl) (by kernel_rfl) (fun _ _ _ h => h) (Or.inl ⟨by rfl, ?_⟩) (by assumption) ?_
      rotate_left
      · (intro w hSw; (try dsimp only at hSw); go_simp; try with_reducible rfl)
      (try simp only [Act.put, List.setIfInBounds_toArray, List.set_cons_zero, List.set_cons_succ, List.getElem_toArray, List.getElem_cons_zero, List.getElem_cons_succ])
      refine wpAnyH_take (i := 4) (v := ?_) rfl (by kernel_rfl) (by kernel_rfl) (by kernel_rfl) (fun _ _ _ h => h) (Or.inl ⟨by rfl, ?_⟩) (by assumption) ?_
      rotate_left
      · (intro w hSw; (try dsimp only at hSw); go_simp; try with_reducible rfl)
      (try simp only [Act.put, List.setIfInBounds_toArray, List.set_cons_zero, List.set_cons_succ, List.getElem_toArray, List.getElem_cons_zero, List.getElem_cons_succ])
      refine wpAnyH_take (i := 5) (v := ?_) rfl (by kernel_rfl) (by kernel_rfl) (by kernel_rfl) (fun _ _ _ h => h) (Or.inl ⟨by rfl, ?_⟩) (by assumption) ?_
      rotate_left
      · (intro w hSw; (try dsimp only at hSw); go_simp; try with_reducible rfl)
      (try simp only [Act.put, List.setIfInBounds_toArray, List.set_cons_zero, List.set_cons_succ, List.getElem_toArray, List.getElem_cons_zero, List.getElem_cons_succ])
      refine wpAnyH_take (i := 6) (v := ?_) rfl (by kernel_rfl) (by kernel_rfl) (by kernel_rfl) (fun _ _ _ h => h) (Or.inl ⟨by rfl, ?_⟩) (by assumption) ?_
      rotate_left
      · (intro w hSw; (try dsimp only at hSw); go_simp; try with_reducible rfl)
      (try simp only [Act.put, List.setIfInBounds_toArray, List.set_cons_zero, List.set_cons_succ, List.getElem_toArray, List.getElem_cons_zero, List.getElem_cons_succ])
      refine wpAnyH_take (i := 7) (v := ?_) rfl (by kernel_rfl) (by kernel_rfl) (by kernel_rfl) (fun _ _ _ h => h) (Or.inl ⟨by rfl, ?_⟩) (by assumption) ?_
      rotate_left
      · (intro w hSw; (try dsimp only at hSw); go_simp; try with_reducible rfl)
      (try simp only [Act.put, List.setIfInBounds_toArray, List.set_cons_zero, List.set_cons_succ, List.getElem_toArray, List.getElem_cons_zero, List.getElem_cons_succ])
      refine wpAnyH_take (i := 8) (v := ?_) rfl (by kernel_rfl) (by kernel_rfl) (by kernel_rfl) (fun _ _ _ h => h) (Or.inl ⟨by rfl, ?_⟩) (by assumption) ?_
      rotate_left
      · (intro w hSw; (try dsimp only at hSw); go_simp; try with_reducible rfl)
      (try simp only [Act.put, List.setIfInBounds_toArray, List.set_cons_zero, List.set_cons_succ, List.getElem_toArray, List.getElem_cons_zero, List.getElem_cons_succ])
      refine wpAnyH_take (i := 9) (v := ?_) rfl (by kernel_rfl) (by kernel_rfl) (by kernel_rfl) (fun _ _ _ h => h) (Or.inl ⟨by rfl, ?_⟩) (by assumption) ?_
      rotate_left
      · (intro w hSw; (try dsimp only at hSw); go_simp; try with_reducible rfl)
      (try simp only [Act.put, List.setIfInBounds_toArray, List.set_cons_zero, List.set_cons_succ, List.getElem_toArray, List.getElem_cons_zero, List.getElem_cons_succ])
      refine wpAnyH_ready (rs := [10]) (by kernel_rfl) (by simp) ?_
      refine AllReadyH.cons rfl (fun K hK => ?_) ?_
      · (rw [if_pos (by rfl)]; refine put_op _ _ _ _ rfl nb rfl _ _ rfl rfl _ HRUN.out ?_)
        refine hK.out _ _ ?_ (fun hHeld1 => ?_)
        · (try dsimp only); (refine HS.out _ ?_; with_reducible repeat' (first | exact Only.refl _ _ | refine Only.drew ?_ | refine Only.drewN ?_ _ | refine only_setB ?_ (.inl (by simp)) _))
        clear hK K hHeld0
        (try simp only [Act.put, List.setIfInBounds_toArray, List.set_cons_zero, List.set_cons_succ, List.getElem_toArray, List.getElem_cons_zero, List.getElem_cons_succ])
        refine wpAnyH_done (by kernel_rfl) ?_ _
        go_wp2
        go_ret
        have hx := HBX.out
        have hT := HO3.out
        have hA : Only [qb, qg, wb] w2 w4 := (hT.mono (by simp)).trans (HO4.out.mono (by simp))
        have h5 : Only [nb] w4 (setBlock w4.drew nb o5) := only_setB ((Only.refl _ _).drew) (.inl (by simp)) _
        have hA5 : Only [qb, qg, wb, nb] w2 (setBlock w4.drew nb o5) := (hA.mono (by simp)).trans (h5.mono (by simp))
        refine ⟨rfl, ⟨qb, qg, wb, nb, rs2, rfl, HOK.out, hA5.at hx.obj (by simp; omega), (HR3.out.only HO4.out (off1 n6) (off1 n8)).only h5 (off1 n7) (off1 n9), HQ2.out, HL2.out, HN2.out, HW4.out.only h5 (off1 n10), HW5.out, hx.nd⟩, (Only.ofBelow HB2.out _).trans (hA5.mono (by simp))⟩
      exact AllReadyH.nil
end Go.Proofs.Ytajbfmdgnkpjgaa
