/- The reference's inbox: Recv. -/
import Derived.Test.YtajbfmdgnkpjgaaRefInD
import Derived.BigRegion
namespace Go.Proofs.Ytajbfmdgnkpjgaa
set_option linter.unusedVariables false
set_option linter.unusedSimpArgs false
open Go.RowKit
theorem res_twoK {fn : Func} {P : Program} {p q u : Tmp} {ty ty2 : TypeId} (h : fn.results = #[.cell p ty, .cell q ty2, .tmp u]) (tmps : Array Value) (w : World) (g g2 : Nat) (t t2 : TypeId) (cs cs2 : Array Value) (fr fr2 : Nat × Nat) (d d2 : TypeDesc)
    (hp : tmps.getD p undef = .pointer (some ⟨g, 0, none⟩)) (hg : w.heap[g]? = some (.cells cs t fr))
    (hu : P.underlying ty = some d) (hd : (match d with | .struct _ | .array _ _ => true | _ => false) = true) (hi : (P.info? ty).map (·.size) = some cs.size)
    (hq : tmps.getD q undef = .pointer (some ⟨g2, 0, none⟩)) (hg2 : w.heap[g2]? = some (.cells cs2 t2 fr2))
    (hu2 : P.underlying ty2 = some d2) (hd2 : (match d2 with | .struct _ | .array _ _ => true | _ => false) = true) (hi2 : (P.info? ty2).map (·.size) = some cs2.size) :
    (results fn tmps).run P w = .ok (.tuple #[.agg cs, .agg cs2, tmps.getD u undef]) w := by
  have e : (results fn tmps).run P w = ((asAddr (tmps.getD p undef)).run P w).andThen fun a w₁ => ((loadVar ty a).run P w₁).andThen fun v w₂ => ((asAddr (tmps.getD q undef)).run P w₂).andThen fun b w₃ => ((loadVar ty2 b).run P w₃).andThen fun v2 w₄ => .ok (.tuple #[v, v2, tmps.getD u undef]) w₄ := by
    simp only [results, h]
    simp [Sem.run_bind, Result.andThen]
  rw [e, hp, hq]
  simp [asAddr, run_loadVar_row w g t ty cs fr d hg hu hd hi, run_loadVar_row w g2 t2 ty2 cs2 fr2 d2 hg2 hu2 hd2 hi2, Result.andThen]
set_option maxRecDepth 100000 in
set_option maxHeartbeats 2000000 in
theorem ref16_recv (w : World) (s : IS) (r : RX) (S : List Nat) (h : RI w s r S) (hS : ∀ x ∈ S, x < w.heap.size) :
    Calls Try.prog 26 #[.agg (r.vals s)] w fun e w' => ∃ r' : RX, e = .returned (.tuple #[.agg (r'.vals s.recv.1), s.recv.2.1.val, .int .i64 s.recv.2.2]) ∧ RI w' s.recv.1 r' S ∧ Below w.heap.size w w' := by
  obtain ⟨n, q, ws, nx⟩ := s
  obtain ⟨a1, c1, a2, c2, a3, c3⟩ := r
  have HH := Lib.hid h
  have HSS := Lib.hid hS
  have hk1 := h.k1
  have hl1 := h.l1
  dsimp only [RX.vals] at *
  cases q with
  | nil =>
    clear h hS
    show Calls _ _ _ _ fun e w' => ∃ r' : RX, e = .returned (.tuple #[.agg #[.int .i64 (n : Int), .slice r'.a1 0 r'.c1, .slice r'.a2 ws.length r'.c2, .slice r'.a3 nx.length r'.c3], .agg #[.int .i64 0, .int .i64 0, .int .i64 0, .string ⟨#[]⟩], .int .i64 8]) ∧ RI w' ⟨n, [], ws, nx⟩ r' S ∧ Below w.heap.size w w'
    dsimp only [List.length_nil]
    go_enter Try.func26, Try.ntmps26
    go_wp2
    have hfin : Below w.heap.size w (((w.alloc (.cells #[.int .i64 (n : Int), .slice a1 0 c1, .slice a2 ws.length c2, .slice a3 nx.length c3] 44)).alloc (.cells #[.int .i64 (n : Int), .slice a1 0 c1, .slice a2 ws.length c2, .slice a3 nx.length c3] 44)).alloc (.cells #[.int .i64 0, .int .i64 0, .int .i64 0, .string ⟨#[]⟩] 30)) := by repeat' (first | (with_reducible assumption) | (with_reducible refine below_setRowN ?_ ?_ _) | (with_reducible refine Below.setCell ?_ ?_ _) | (with_reducible refine below_drewN' ?_ _) | (with_reducible refine Below.drew ?_) | (with_reducible refine Below.alloc ?_ ?_ _) | (with_reducible exact Below.refl _ _) | (with_reducible exact Nat.le_refl _) | (simp; done) | omega | (simp; omega))
    exact bodyPost_ret (res_twoK rfl _ _ (w.heap.size + 1) (w.heap.size + 1 + 1) 44 30 _ _ (0, 0) (0, 0) _ _ rfl (alloc_old (alloc_atK _ _ (by simp)) _) Try.underlying44 rfl (by kernel_rfl) rfl (alloc_atK _ _ (by simp)) Try.underlying30 rfl (by kernel_rfl)) rfl ⟨⟨a1, c1, a2, c2, a3, c3⟩, rfl, HH.out.below hfin, hfin⟩
  | cons p l =>
    obtain ⟨blk, off, ha1, _, hblt, hcell⟩ := CellsOff.elem (i := 0) Pk.clen Pk.zero h.r1 (by omega) (by simp)
    dsimp only at ha1
    subst ha1
    obtain ⟨p0, p1, p2, p3⟩ := p
    have q0 : w.cell? ⟨blk, off, none⟩ = some (.int .i64 p0) := by have := hcell 0 (by omega); simpa [Pk.cells] using this
    have q1 : w.cell? ⟨blk, off + 1, none⟩ = some (.int .i64 p1) := by have := hcell 1 (by omega); simpa [Pk.cells] using this
    have q2 : w.cell? ⟨blk, off + 2, none⟩ = some (.int .i64 p2) := by have := hcell 2 (by omega); simpa [Pk.cells] using this
    have q3 : w.cell? ⟨blk, off + 3, none⟩ = some (.string p3) := by have := hcell 3 (by omega); simpa [Pk.cells] using this
    clear h hS hcell
    show Calls _ _ _ _ fun e w' => ∃ r' : RX, e = .returned (.tuple #[.agg #[.int .i64 (n : Int), .slice r'.a1 l.length r'.c1, .slice r'.a2 ws.length r'.c2, .slice r'.a3 nx.length r'.c3], .agg #[.int .i64 p0, .int .i64 p1, .int .i64 p2, .string p3], .int .i64 0]) ∧ RI w' ⟨n, l, ws, nx⟩ r' S ∧ Below w.heap.size w w'
    rw [List.length_cons] at hk1 hl1 ⊢
    have hlI : ¬ ((l.length : Int) + 1 = 0) := by omega
    have hw : Below w.heap.size w (((w.alloc (.cells #[.int .i64 (n : Int), .slice (some ⟨blk, off, none⟩) (l.length + 1) c1, .slice a2 ws.length c2, .slice a3 nx.length c3] 44)).alloc (.cells #[.int .i64 0, .slice none 0 0, .slice none 0 0, .slice none 0 0] 44)).alloc (.cells #[.int .i64 0, .int .i64 0, .int .i64 0, .string ⟨#[]⟩] 30)) := by repeat' (first | (with_reducible assumption) | (with_reducible refine below_setRowN ?_ ?_ _) | (with_reducible refine Below.setCell ?_ ?_ _) | (with_reducible refine below_drewN' ?_ _) | (with_reducible refine Below.drew ?_) | (with_reducible refine Below.alloc ?_ ?_ _) | (with_reducible exact Below.refl _ _) | (with_reducible exact Nat.le_refl _) | (simp; done) | omega | (simp; omega))
    go_enter Try.func26, Try.ntmps26
    go_upto_region 3 with (fail)
    have x0 : (((w.alloc (.cells #[.int .i64 (n : Int), .slice (some ⟨blk, off, none⟩) (l.length + 1) c1, .slice a2 ws.length c2, .slice a3 nx.length c3] 44)).alloc (.cells #[.int .i64 0, .slice none 0 0, .slice none 0 0, .slice none 0 0] 44)).alloc (.cells #[.int .i64 0, .int .i64 0, .int .i64 0, .string ⟨#[]⟩] 30)).heap[w.heap.size]? = _ := alloc_old (alloc_old (alloc_new _) _) _
    have x1 : (((w.alloc (.cells #[.int .i64 (n : Int), .slice (some ⟨blk, off, none⟩) (l.length + 1) c1, .slice a2 ws.length c2, .slice a3 nx.length c3] 44)).alloc (.cells #[.int .i64 0, .slice none 0 0, .slice none 0 0, .slice none 0 0] 44)).alloc (.cells #[.int .i64 0, .int .i64 0, .int .i64 0, .string ⟨#[]⟩] 30)).heap[w.heap.size + 1]? = _ := alloc_old (alloc_atK _ _ (by simp)) _
    have x2 : (((w.alloc (.cells #[.int .i64 (n : Int), .slice (some ⟨blk, off, none⟩) (l.length + 1) c1, .slice a2 ws.length c2, .slice a3 nx.length c3] 44)).alloc (.cells #[.int .i64 0, .slice none 0 0, .slice none 0 0, .slice none 0 0] 44)).alloc (.cells #[.int .i64 0, .int .i64 0, .int .i64 0, .string ⟨#[]⟩] 30)).heap[w.heap.size + 1 + 1]? = _ := alloc_atK _ _ (by simp)
    have y0 := (hw.cell (p := ⟨blk, off, none⟩) hblt).trans q0
    have y1 := (hw.cell (p := ⟨blk, off + 1, none⟩) hblt).trans q1
    have y2 := (hw.cell (p := ⟨blk, off + 2, none⟩) hblt).trans q2
    have y3 := (hw.cell (p := ⟨blk, off + 3, none⟩) hblt).trans q3
    generalize (((w.alloc (.cells #[.int .i64 (n : Int), .slice (some ⟨blk, off, none⟩) (l.length + 1) c1, .slice a2 ws.length c2, .slice a3 nx.length c3] 44)).alloc (.cells #[.int .i64 0, .slice none 0 0, .slice none 0 0, .slice none 0 0] 44)).alloc (.cells #[.int .i64 0, .int .i64 0, .int .i64 0, .string ⟨#[]⟩] 30)) = w3 at *
    have f0 := fun j => cell_at x0 j
    have l0 := fun j => frozen_at x0 j
    have X0 := Lib.hid x0
    have X1 := Lib.hid x1
    have X2 := Lib.hid x2
    have HW := Lib.hid hw
    have hx0l := block_lt x0
    have hx1l := block_lt x1
    have hx2l := block_lt x2
    clear x0 x1 x2 hw q0 q1 q2 q3
    by_cases hc1 : c1 = 1
    · subst hc1
      have hl0 : l = [] := List.eq_nil_of_length_eq_zero (by omega)
      have HL0 := Lib.hid hl0
      clear hl0
      go_upto_region 5 with (fail)
      have z0 := alloc_old (set_at X0.out 1 (.slice (some ⟨blk, off, none⟩) 0 0)) (.cells #[.int .i64 p0, .int .i64 p1, .int .i64 p2, .string p3] 30)
      have z1 := alloc_old (set_other (c := w.heap.size) X1.out (by omega) 1 (.slice (some ⟨blk, off, none⟩) 0 0)) (.cells #[.int .i64 p0, .int .i64 p1, .int .i64 p2, .string p3] 30)
      have z2 := alloc_old (set_other (c := w.heap.size) X2.out (by omega) 1 (.slice (some ⟨blk, off, none⟩) 0 0)) (.cells #[.int .i64 p0, .int .i64 p1, .int .i64 p2, .string p3] 30)
      have z3 : ((w3.setCell ⟨w.heap.size, 1, none⟩ (.slice (some ⟨blk, off, none⟩) 0 0)).alloc (.cells #[.int .i64 p0, .int .i64 p1, .int .i64 p2, .string p3] 30)).heap[w3.heap.size]? = some (.cells #[.int .i64 p0, .int .i64 p1, .int .i64 p2, .string p3] 30 (0, 0)) := alloc_atK _ _ (by simp)
      have hw := HW.out
      have hb4 : Below w.heap.size w ((w3.setCell ⟨w.heap.size, 1, none⟩ (.slice (some ⟨blk, off, none⟩) 0 0)).alloc (.cells #[.int .i64 p0, .int .i64 p1, .int .i64 p2, .string p3] 30)) := by repeat' (first | (with_reducible assumption) | (with_reducible refine below_setRowN ?_ ?_ _) | (with_reducible refine Below.setCell ?_ ?_ _) | (with_reducible refine below_drewN' ?_ _) | (with_reducible refine Below.drew ?_) | (with_reducible refine Below.alloc ?_ ?_ _) | (with_reducible exact Below.refl _ _) | (with_reducible exact Nat.le_refl _) | (simp; done) | omega | (simp; omega))
      clear X0 X1 X2 f0 l0 y0 y1 y2 y3 hw HW
      generalize (w3.setCell ⟨w.heap.size, 1, none⟩ (.slice (some ⟨blk, off, none⟩) 0 0)).alloc (.cells #[.int .i64 p0, .int .i64 p1, .int .i64 p2, .string p3] 30) = w4 at *
      have Z0 : Hid (w4.heap[w.heap.size]? = some (.cells #[.int .i64 (n : Int), .slice (some ⟨blk, off, none⟩) 0 0, .slice a2 ws.length c2, .slice a3 nx.length c3] 44 (0, 0))) := Lib.hid z0
      have Z1 := Lib.hid z1
      have Z2 := Lib.hid z2
      have Z3 := Lib.hid z3
      have HW := Lib.hid hb4
      have f0 := fun j => cell_at Z0.out j
      have f3 := fun j => cell_at z3 j
      clear z0 z1 z2 z3 hb4
      refine wp_region_held_drew (S := (fun w' => (∀ j, w'.cell? ⟨w.heap.size, j, none⟩ = (#[.int .i64 (n : Int), .slice (some ⟨blk, off, none⟩) 0 0, .slice a2 ws.length c2, .slice a3 nx.length c3] : Array Value)[j]?) ∧ (∀ j, w'.cell? ⟨w3.heap.size, j, none⟩ = (#[.int .i64 p0, .int .i64 p1, .int .i64 p2, .string p3] : Array Value)[j]?))) (by kernel_rfl) ?_ (fun hHeld0 => ?_)
      · (try dsimp only); first | exact ⟨f0, f3⟩ | exact ⟨fun j => cell_at (setRow_off (drew_at Z0.out) (by omega) _) j, fun j => cell_at (setRow_off (drew_at Z3.out) (by omega) _) j⟩ | exact ⟨fun j => cell_at (setRow_off (setRow_off (drew_at Z0.out) (by omega) _) (by omega) _) j, fun j => cell_at (setRow_off (setRow_off (drew_at Z3.out) (by omega) _) (by omega) _) j⟩
      refine wpAnyH_take (i := 0) (v := ?_) rfl (by kernel_rfl) (by kernel_rfl) (by kernel_rfl) (fun _ _ _ h => h) (Or.inl ⟨by rfl, ?_⟩) (by assumption) ?_
      rotate_left
      · (intro w hSw; (try dsimp only at hSw); go_simp; try with_reducible rfl)
      (try simp only [Act.put, List.setIfInBounds_toArray, List.set_cons_zero, List.set_cons_succ, List.getElem_toArray, List.getElem_cons_zero, List.getElem_cons_succ])
      refine wpAnyH_take (i := 1) (v := ?_) rfl (by kernel_rfl) (by kernel_rfl) (by kernel_rfl) (fun _ _ _ h => h) (Or.inl ⟨by rfl, ?_⟩) (by assumption) ?_
      rotate_left
      · (intro w hSw; (try dsimp only at hSw); go_simp; try with_reducible rfl)
      (try simp only [Act.put, List.setIfInBounds_toArray, List.set_cons_zero, List.set_cons_succ, List.getElem_toArray, List.getElem_cons_zero, List.getElem_cons_succ])
      refine wpAnyH_ready (rs := [2]) (by kernel_rfl) (by simp) ?_
      refine AllReadyH.cons rfl (fun K hK => ?_) ?_
      · (rw [if_pos (by rfl)]; refine wp_store_row 44 _ _ (by rfl) _ _ (by rfl) (by rfl) 44 #[.int .i64 0, .slice none 0 0, .slice none 0 0, .slice none 0 0] (drew_at Z1.out) (by kernel_rfl) (by rfl) (by first | (simp; done) | simp [Value.oneCell']) ?_)
        refine hK.out _ _ ?_ (fun hHeld1 => ?_)
        · (try dsimp only); first | exact ⟨f0, f3⟩ | exact ⟨fun j => cell_at (setRow_off (drew_at Z0.out) (by omega) _) j, fun j => cell_at (setRow_off (drew_at Z3.out) (by omega) _) j⟩ | exact ⟨fun j => cell_at (setRow_off (setRow_off (drew_at Z0.out) (by omega) _) (by omega) _) j, fun j => cell_at (setRow_off (setRow_off (drew_at Z3.out) (by omega) _) (by omega) _) j⟩
        clear hK K hHeld0
        (try simp only [Act.put, List.setIfInBounds_toArray, List.set_cons_zero, List.set_cons_succ, List.getElem_toArray, List.getElem_cons_zero, List.getElem_cons_succ])
        refine wpAnyH_ready (rs := [3]) (by kernel_rfl) (by simp) ?_
        refine AllReadyH.cons rfl (fun K hK => ?_) ?_
        · (rw [if_pos (by rfl)]; refine wp_store_row 30 _ _ (by rfl) _ _ (by rfl) (by rfl) 30 #[.int .i64 0, .int .i64 0, .int .i64 0, .string ⟨#[]⟩] (by first | exact setRow_off (drew_at Z2.out) (by omega) _ | exact drew_at Z2.out) (by kernel_rfl) (by rfl) (by first | (simp; done) | simp [Value.oneCell']) ?_)
          refine hK.out _ _ ?_ (fun hHeld2 => ?_)
          · (try dsimp only); first | exact ⟨f0, f3⟩ | exact ⟨fun j => cell_at (setRow_off (drew_at Z0.out) (by omega) _) j, fun j => cell_at (setRow_off (drew_at Z3.out) (by omega) _) j⟩ | exact ⟨fun j => cell_at (setRow_off (setRow_off (drew_at Z0.out) (by omega) _) (by omega) _) j, fun j => cell_at (setRow_off (setRow_off (drew_at Z3.out) (by omega) _) (by omega) _) j⟩
          clear hK K hHeld1
          (try simp only [Act.put, List.setIfInBounds_toArray, List.set_cons_zero, List.set_cons_succ, List.getElem_toArray, List.getElem_cons_zero, List.getElem_cons_succ])
          refine wpAnyH_take (i := 4) (v := ?_) rfl (by kernel_rfl) (by kernel_rfl) (by kernel_rfl) (fun _ _ _ h => h) (Or.inl ⟨by rfl, ?_⟩) (by assumption) ?_
          rotate_left
          · (intro w hSw; (try dsimp only at hSw); go_simp; try with_reducible rfl)
          (try simp only [Act.put, List.setIfInBounds_toArray, List.set_cons_zero, List.set_cons_succ, List.getElem_toArray, List.getElem_cons_zero, List.getElem_cons_succ])
          refine wpAnyH_done (by kernel_rfl) ?_ _
          go_wp2
          have hw := HW.out
          have hfin : Below w.heap.size w ((w4.drew.setRow (w.heap.size + 1) #[.int .i64 (n : Int), .slice (some ⟨blk, off, none⟩) 0 0, .slice a2 ws.length c2, .slice a3 nx.length c3]).setRow (w.heap.size + 1 + 1) #[.int .i64 p0, .int .i64 p1, .int .i64 p2, .string p3]) := by repeat' (first | (with_reducible assumption) | (with_reducible refine below_setRowN ?_ ?_ _) | (with_reducible refine Below.setCell ?_ ?_ _) | (with_reducible refine below_drewN' ?_ _) | (with_reducible refine Below.drew ?_) | (with_reducible refine Below.alloc ?_ ?_ _) | (with_reducible exact Below.refl _ _) | (with_reducible exact Nat.le_refl _) | (simp; done) | omega | (simp; omega))
          exact bodyPost_ret (res_twoK rfl _ _ (w.heap.size + 1) (w.heap.size + 1 + 1) 44 30 _ _ (0, 0) (0, 0) _ _ rfl (setRow_off (setRow_at (drew_at Z1.out) _) (by omega) _) Try.underlying44 rfl (by kernel_rfl) rfl (setRow_at (setRow_off (drew_at Z2.out) (by omega) _) _) Try.underlying30 rfl (by kernel_rfl)) rfl ⟨⟨some ⟨blk, off, none⟩, 0, a2, c2, a3, c3⟩, by rw [HL0.out]; rfl, ⟨by show CellsOff _ _ (flatK l) S; rw [HL0.out]; exact CellsOff.nil, HH.out.r2.below hfin, HH.out.r3.below hfin, by show l.length ≤ 0; rw [HL0.out]; exact Nat.le_refl _, HH.out.k2, HH.out.k3, by show l.length ≤ 64; omega, HH.out.l2, HH.out.l3⟩, hfin⟩
        exact AllReadyH.nil
      exact AllReadyH.nil
    · have hc2 : ¬ (c1 - 1 = 0) := by omega
      go_upto_region 5 with (fail)
      have z0 := alloc_old (set_at X0.out 1 (.slice (some ⟨blk, off + 4, none⟩) l.length (c1 - 1))) (.cells #[.int .i64 p0, .int .i64 p1, .int .i64 p2, .string p3] 30)
      have z1 := alloc_old (set_other (c := w.heap.size) X1.out (by omega) 1 (.slice (some ⟨blk, off + 4, none⟩) l.length (c1 - 1))) (.cells #[.int .i64 p0, .int .i64 p1, .int .i64 p2, .string p3] 30)
      have z2 := alloc_old (set_other (c := w.heap.size) X2.out (by omega) 1 (.slice (some ⟨blk, off + 4, none⟩) l.length (c1 - 1))) (.cells #[.int .i64 p0, .int .i64 p1, .int .i64 p2, .string p3] 30)
      have z3 : ((w3.setCell ⟨w.heap.size, 1, none⟩ (.slice (some ⟨blk, off + 4, none⟩) l.length (c1 - 1))).alloc (.cells #[.int .i64 p0, .int .i64 p1, .int .i64 p2, .string p3] 30)).heap[w3.heap.size]? = some (.cells #[.int .i64 p0, .int .i64 p1, .int .i64 p2, .string p3] 30 (0, 0)) := alloc_atK _ _ (by simp)
      have hw := HW.out
      have hb4 : Below w.heap.size w ((w3.setCell ⟨w.heap.size, 1, none⟩ (.slice (some ⟨blk, off + 4, none⟩) l.length (c1 - 1))).alloc (.cells #[.int .i64 p0, .int .i64 p1, .int .i64 p2, .string p3] 30)) := by repeat' (first | (with_reducible assumption) | (with_reducible refine below_setRowN ?_ ?_ _) | (with_reducible refine Below.setCell ?_ ?_ _) | (with_reducible refine below_drewN' ?_ _) | (with_reducible refine Below.drew ?_) | (with_reducible refine Below.alloc ?_ ?_ _) | (with_reducible exact Below.refl _ _) | (with_reducible exact Nat.le_refl _) | (simp; done) | omega | (simp; omega))
      clear X0 X1 X2 f0 l0 y0 y1 y2 y3 hw HW
      generalize (w3.setCell ⟨w.heap.size, 1, none⟩ (.slice (some ⟨blk, off + 4, none⟩) l.length (c1 - 1))).alloc (.cells #[.int .i64 p0, .int .i64 p1, .int .i64 p2, .string p3] 30) = w4 at *
      have Z0 : Hid (w4.heap[w.heap.size]? = some (.cells #[.int .i64 (n : Int), .slice (some ⟨blk, off + 4, none⟩) l.length (c1 - 1), .slice a2 ws.length c2, .slice a3 nx.length c3] 44 (0, 0))) := Lib.hid z0
      have Z1 := Lib.hid z1
      have Z2 := Lib.hid z2
      have Z3 := Lib.hid z3
      have HW := Lib.hid hb4
      have f0 := fun j => cell_at Z0.out j
      have f3 := fun j => cell_at z3 j
      clear z0 z1 z2 z3 hb4
      refine wp_region_held_drew (S := (fun w' => (∀ j, w'.cell? ⟨w.heap.size, j, none⟩ = (#[.int .i64 (n : Int), .slice (some ⟨blk, off + 4, none⟩) l.length (c1 - 1), .slice a2 ws.length c2, .slice a3 nx.length c3] : Array Value)[j]?) ∧ (∀ j, w'.cell? ⟨w3.heap.size, j, none⟩ = (#[.int .i64 p0, .int .i64 p1, .int .i64 p2, .string p3] : Array Value)[j]?))) (by kernel_rfl) ?_ (fun hHeld0 => ?_)
      · (try dsimp only); first | exact ⟨f0, f3⟩ | exact ⟨fun j => cell_at (setRow_off (drew_at Z0.out) (by omega) _) j, fun j => cell_at (setRow_off (drew_at Z3.out) (by omega) _) j⟩ | exact ⟨fun j => cell_at (setRow_off (setRow_off (drew_at Z0.out) (by omega) _) (by omega) _) j, fun j => cell_at (setRow_off (setRow_off (drew_at Z3.out) (by omega) _) (by omega) _) j⟩
      refine wpAnyH_take (i := 0) (v := ?_) rfl (by kernel_rfl) (by kernel_rfl) (by kernel_rfl) (fun _ _ _ h => h) (Or.inl ⟨by rfl, ?_⟩) (by assumption) ?_
      rotate_left
      · (intro w hSw; (try dsimp only at hSw); go_simp; try with_reducible rfl)
      (try simp only [Act.put, List.setIfInBounds_toArray, List.set_cons_zero, List.set_cons_succ, List.getElem_toArray, List.getElem_cons_zero, List.getElem_cons_succ])
      refine wpAnyH_take (i := 1) (v := ?_) rfl (by kernel_rfl) (by kernel_rfl) (by kernel_rfl) (fun _ _ _ h => h) (Or.inl ⟨by rfl, ?_⟩) (by assumption) ?_
      rotate_left
      · (intro w hSw; (try dsimp only at hSw); go_simp; try with_reducible rfl)
      (try simp only [Act.put, List.setIfInBounds_toArray, List.set_cons_zero, List.set_cons_succ, List.getElem_toArray, List.getElem_cons_zero, List.getElem_cons_succ])
      refine wpAnyH_ready (rs := [2]) (by kernel_rfl) (by simp) ?_
      refine AllReadyH.cons rfl (fun K hK => ?_) ?_
      · (rw [if_pos (by rfl)]; refine wp_store_row 44 _ _ (by rfl) _ _ (by rfl) (by rfl) 44 #[.int .i64 0, .slice none 0 0, .slice none 0 0, .slice none 0 0] (drew_at Z1.out) (by kernel_rfl) (by rfl) (by first | (simp; done) | simp [Value.oneCell']) ?_)
        refine hK.out _ _ ?_ (fun hHeld1 => ?_)
        · (try dsimp only); first | exact ⟨f0, f3⟩ | exact ⟨fun j => cell_at (setRow_off (drew_at Z0.out) (by omega) _) j, fun j => cell_at (setRow_off (drew_at Z3.out) (by omega) _) j⟩ | exact ⟨fun j => cell_at (setRow_off (setRow_off (drew_at Z0.out) (by omega) _) (by omega) _) j, fun j => cell_at (setRow_off (setRow_off (drew_at Z3.out) (by omega) _) (by omega) _) j⟩
        clear hK K hHeld0
        (try simp only [Act.put, List.setIfInBounds_toArray, List.set_cons_zero, List.set_cons_succ, List.getElem_toArray, List.getElem_cons_zero, List.getElem_cons_succ])
        refine wpAnyH_ready (rs := [3]) (by kernel_rfl) (by simp) ?_
        refine AllReadyH.cons rfl (fun K hK => ?_) ?_
        · (rw [if_pos (by rfl)]; refine wp_store_row 30 _ _ (by rfl) _ _ (by rfl) (by rfl) 30 #[.int .i64 0, .int .i64 0, .int .i64 0, .string ⟨#[]⟩] (by first | exact setRow_off (drew_at Z2.out) (by omega) _ | exact drew_at Z2.out) (by kernel_rfl) (by rfl) (by first | (simp; done) | simp [Value.oneCell']) ?_)
          refine hK.out _ _ ?_ (fun hHeld2 => ?_)
          · (try dsimp only); first | exact ⟨f0, f3⟩ | exact ⟨fun j => cell_at (setRow_off (drew_at Z0.out) (by omega) _) j, fun j => cell_at (setRow_off (drew_at Z3.out) (by omega) _) j⟩ | exact ⟨fun j => cell_at (setRow_off (setRow_off (drew_at Z0.out) (by omega) _) (by omega) _) j, fun j => cell_at (setRow_off (setRow_off (drew_at Z3.out) (by omega) _) (by omega) _) j⟩
          clear hK K hHeld1
          (try simp only [Act.put, List.setIfInBounds_toArray, List.set_cons_zero, List.set_cons_succ, List.getElem_toArray, List.getElem_cons_zero, List.getElem_cons_succ])
          refine wpAnyH_take (i := 4) (v := ?_) rfl (by kernel_rfl) (by kernel_rfl) (by kernel_rfl) (fun _ _ _ h => h) (Or.inl ⟨by rfl, ?_⟩) (by assumption) ?_
          rotate_left
          · (intro w hSw; (try dsimp only at hSw); go_simp; try with_reducible rfl)
          (try simp only [Act.put, List.setIfInBounds_toArray, List.set_cons_zero, List.set_cons_succ, List.getElem_toArray, List.getElem_cons_zero, List.getElem_cons_succ])
          refine wpAnyH_done (by kernel_rfl) ?_ _
          go_wp2
          have hw := HW.out
          have hfin : Below w.heap.size w ((w4.drew.setRow (w.heap.size + 1) #[.int .i64 (n : Int), .slice (some ⟨blk, off + 4, none⟩) l.length (c1 - 1), .slice a2 ws.length c2, .slice a3 nx.length c3]).setRow (w.heap.size + 1 + 1) #[.int .i64 p0, .int .i64 p1, .int .i64 p2, .string p3]) := by repeat' (first | (with_reducible assumption) | (with_reducible refine below_setRowN ?_ ?_ _) | (with_reducible refine Below.setCell ?_ ?_ _) | (with_reducible refine below_drewN' ?_ _) | (with_reducible refine Below.drew ?_) | (with_reducible refine Below.alloc ?_ ?_ _) | (with_reducible exact Below.refl _ _) | (with_reducible exact Nat.le_refl _) | (simp; done) | omega | (simp; omega))
          exact bodyPost_ret (res_twoK rfl _ _ (w.heap.size + 1) (w.heap.size + 1 + 1) 44 30 _ _ (0, 0) (0, 0) _ _ rfl (setRow_off (setRow_at (drew_at Z1.out) _) (by omega) _) Try.underlying44 rfl (by kernel_rfl) rfl (setRow_at (setRow_off (drew_at Z2.out) (by omega) _) _) Try.underlying30 rfl (by kernel_rfl)) rfl ⟨⟨some ⟨blk, off + 4, none⟩, c1 - 1, a2, c2, a3, c3⟩, rfl, ⟨(HH.out.r1.below hfin).dropAt 4, HH.out.r2.below hfin, HH.out.r3.below hfin, by show l.length ≤ c1 - 1; omega, HH.out.k2, HH.out.k3, by show l.length ≤ 64; omega, HH.out.l2, HH.out.l3⟩, hfin⟩
        exact AllReadyH.nil
      exact AllReadyH.nil
end Go.Proofs.Ytajbfmdgnkpjgaa
