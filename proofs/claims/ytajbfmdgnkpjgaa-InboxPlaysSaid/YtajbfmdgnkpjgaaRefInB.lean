/- The reference's inbox: Come. -/
import Derived.Test.YtajbfmdgnkpjgaaRefInA
namespace Go.Proofs.Ytajbfmdgnkpjgaa
set_option linter.unusedVariables false
set_option linter.unusedSimpArgs false
open Go.RowKit
theorem infoPkB : (Try.prog.info? 30).map (fun i => (i.zero, i.size, i.bytes)) = some (some (.agg #[.int .i64 0, .int .i64 0, .int .i64 0, .string ⟨#[]⟩]), 4, 40) := by kernel_rfl
theorem any_of {l : List Pk} {p : Pk} {m : Nat} (hm : m < l.length) (h1 : (l.getD m Pk.zero).src = p.src) (h2 : (l.getD m Pk.zero).seq = p.seq) : l.any (keyEq p) = true := by
  rw [List.getD_eq_getElem?_getD, List.getElem?_eq_getElem hm] at h1 h2
  exact IS.any_key.2 ⟨l[m], List.getElem_mem hm, h1, h2⟩
theorem any_none {l : List Pk} {p : Pk} (h : ∀ i, i < l.length → keyEq p (l.getD i Pk.zero) = false) : l.any (keyEq p) = false := by
  rw [List.any_eq_false]
  intro x hx
  obtain ⟨i, hi, rfl⟩ := List.getElem_of_mem hx
  have := h i hi
  rw [List.getD_eq_getElem?_getD, List.getElem?_eq_getElem hi] at this
  rw [show l[i] = (some l[i]).getD Pk.zero from rfl, this]
  simp
set_option maxRecDepth 100000 in
set_option maxHeartbeats 2000000 in
theorem ref16_come (w : World) (s : IS) (r : RX) (S : List Nat) (p : Pk) (h : RI w s r S) (hl : s.ws.length < 1000) (hS : ∀ x ∈ S, x < w.heap.size) :
    Calls Try.prog 24 #[.agg (r.vals s), p.val] w fun e w' => ∃ r' : RX, e = .returned (.tuple #[.agg (r'.vals (s.come p).1), .int .i64 (s.come p).2]) ∧ RI w' (s.come p).1 r' S ∧ Below w.heap.size w w' := by
  have hcell : ∀ m, m < s.ws.length → ∃ blk off, r.a2 = some ⟨blk, off, none⟩ ∧ blk < w.heap.size ∧ w.cell? ⟨blk, off + m * 4, none⟩ = some (.int .i64 (s.ws.getD m Pk.zero).src) ∧ w.cell? ⟨blk, off + m * 4 + 2, none⟩ = some (.int .i64 (s.ws.getD m Pk.zero).seq) := fun m hm => by
    obtain ⟨blk, off, e, _, hb, hc⟩ := CellsOff.elem Pk.clen Pk.zero h.r2 (by omega) hm
    exact ⟨blk, off, e, hb, hc 0 (by omega), hc 2 (by omega)⟩
  have HH := Lib.hid h
  have hk2 := h.k2
  have HSS := Lib.hid hS
  have HC := Lib.hid hcell
  clear h hcell hS
  obtain ⟨n, q, ws, nx⟩ := s
  obtain ⟨a1, c1, a2, c2, a3, c3⟩ := r
  obtain ⟨p0, p1, p2, p3⟩ := p
  dsimp only [RX.vals, Pk.val] at *
  go_enter Try.func24, Try.ntmps24
  go_wp2
  go_loopw [6] (fun i wr => ∃ m : Nat, m ≤ ws.length ∧ i = .int .i64 (m : Int) ∧ Hid (∀ i, i < m → keyEq ⟨p0, p1, p2, p3⟩ (ws.getD i Pk.zero) = false) ∧ Below (((w.alloc (.cells #[.int .i64 (n : Int), .slice a1 q.length c1, .slice a2 ws.length c2, .slice a3 nx.length c3] 44)).alloc (.cells #[.int .i64 p0, .int .i64 p1, .int .i64 p2, .string p3] 30)).alloc (.cells #[.int .i64 0, .slice none 0 0, .slice none 0 0, .slice none 0 0] 44)).heap.size (((w.alloc (.cells #[.int .i64 (n : Int), .slice a1 q.length c1, .slice a2 ws.length c2, .slice a3 nx.length c3] 44)).alloc (.cells #[.int .i64 p0, .int .i64 p1, .int .i64 p2, .string p3] 30)).alloc (.cells #[.int .i64 0, .slice none 0 0, .slice none 0 0, .slice none 0 0] 44)) wr) (fun i _ => ws.length - (intOf i).toNat)
  case atStart => exact ⟨0, by omega, rfl, Lib.hid (fun i hi => by omega), Below.refl _ _⟩
  case round =>
    obtain ⟨m, hm, rfl, HN, hb⟩ := hrel
    have x0 := Below.at hb (alloc_old (alloc_old (alloc_new _) _) _) (by simp <;> omega)
    have x1 := Below.at hb (alloc_old (alloc_atK _ (w.heap.size + 1) (by simp)) _) (by simp <;> omega)
    have x2 := Below.at hb (alloc_atK _ (w.heap.size + 1 + 1) (by simp)) (by simp <;> omega)
    have hbw : Below w.heap.size w wr := Below.trans (by repeat' (first | (with_reducible assumption) | (with_reducible refine below_setRowN ?_ ?_ _) | (with_reducible refine Below.setCell ?_ ?_ _) | (with_reducible refine below_drewN' ?_ _) | (with_reducible refine Below.drew ?_) | (with_reducible refine Below.alloc ?_ ?_ _) | (with_reducible exact Below.refl _ _) | (with_reducible exact Nat.le_refl _) | (simp; done) | omega | (simp; omega))) (hb.mono (by simp; omega))
    have HX0 := Lib.hid x0
    have HX1 := Lib.hid x1
    have HX2 := Lib.hid x2
    have HW := Lib.hid hbw
    have HB := Lib.hid hb
    have f0 := fun j => cell_at x0 j
    have f1 := fun j => cell_at x1 j
    have f2 := fun j => cell_at x2 j
    have z0 := fun j => frozen_at x0 j
    have z2 := fun j => frozen_at x2 j
    clear x0 x1 x2 hb hbw
    by_cases hlm : m < ws.length
    · obtain ⟨blk, off, rfl, hblt, q0, q1⟩ := HC.out m hlm
      have y0 := (HW.out.cell (p := ⟨blk, off + m * 4, none⟩) hblt).trans q0
      have y1 := (HW.out.cell (p := ⟨blk, off + m * 4 + 2, none⟩) hblt).trans q1
      have hlI : (m : Int) < (ws.length : Int) := by omega
      by_cases e1 : (ws.getD m Pk.zero).src = p0
      · rw [e1] at y0
        by_cases e2 : (ws.getD m Pk.zero).seq = p2
        · rw [e2] at y1
          have HA := Lib.hid (any_of (p := ⟨p0, p1, p2, p3⟩) hlm e1 e2)
          clear q0 q1
          go_upto_region 4 with (fail)
          refine wp_region_held_drew (S := (fun w' => (∀ j, w'.cell? ⟨w.heap.size, j, none⟩ = (#[.int .i64 (n : Int), .slice a1 q.length c1, .slice (some ⟨blk, off, none⟩) ws.length c2, .slice a3 nx.length c3] : Array Value)[j]?) ∧ (∀ j, w'.cell? ⟨w.heap.size + 1, j, none⟩ = (#[.int .i64 p0, .int .i64 p1, .int .i64 p2, .string p3] : Array Value)[j]?) ∧ w'.cell? ⟨blk, off + m * 4, none⟩ = some (.int .i64 p0) ∧ w'.cell? ⟨blk, off + m * 4 + 2, none⟩ = some (.int .i64 p2))) (by kernel_rfl) ?_ (fun hHeld0 => ?_)
          · (try dsimp only); first | exact ⟨f0, f1, y0, y1⟩
          refine wpAnyH_take (i := 0) (v := ?_) rfl (by kernel_rfl) (by kernel_rfl) (by kernel_rfl) (fun _ _ _ h => h) (Or.inl ⟨by rfl, ?_⟩) (by assumption) ?_
          rotate_left
          · (intro w hSw; (try dsimp only at hSw); go_simp; try with_reducible rfl)
          (try simp only [Act.put, List.setIfInBounds_toArray, List.set_cons_zero, List.set_cons_succ, List.getElem_toArray, List.getElem_cons_zero, List.getElem_cons_succ])
          refine wpAnyH_take (i := 1) (v := ?_) rfl (by kernel_rfl) (by kernel_rfl) (by kernel_rfl) (fun _ _ _ h => h) (Or.inl ⟨by rfl, ?_⟩) (by assumption) ?_
          rotate_left
          · (intro w hSw; (try dsimp only at hSw); go_simp; try with_reducible rfl)
          (try simp only [Act.put, List.setIfInBounds_toArray, List.set_cons_zero, List.set_cons_succ, List.getElem_toArray, List.getElem_cons_zero, List.getElem_cons_succ])
          refine wpAnyH_take (i := 2) (v := ?_) rfl (by kernel_rfl) (by kernel_rfl) (by kernel_rfl) (fun _ _ _ h => h) (Or.inl ⟨by rfl, ?_⟩) (by assumption) ?_
          rotate_left
          · (intro w hSw; (try dsimp only at hSw); go_simp; try with_reducible rfl)
          (try simp only [Act.put, List.setIfInBounds_toArray, List.set_cons_zero, List.set_cons_succ, List.getElem_toArray, List.getElem_cons_zero, List.getElem_cons_succ])
          refine wpAnyH_take (i := 3) (v := ?_) rfl (by kernel_rfl) (by kernel_rfl) (by kernel_rfl) (fun _ _ _ h => h) (Or.inl ⟨by rfl, ?_⟩) (by assumption) ?_
          rotate_left
          · (intro w hSw; (try dsimp only at hSw); go_simp; try with_reducible rfl)
          (try simp only [Act.put, List.setIfInBounds_toArray, List.set_cons_zero, List.set_cons_succ, List.getElem_toArray, List.getElem_cons_zero, List.getElem_cons_succ])
          refine wpAnyH_take (i := 4) (v := ?_) rfl (by kernel_rfl) (by kernel_rfl) (by kernel_rfl) (fun _ _ _ h => h) (Or.inl ⟨by rfl, ?_⟩) (by assumption) ?_
          rotate_left
          · (intro w hSw; (try dsimp only at hSw); go_simp; try with_reducible rfl)
          (try simp only [Act.put, List.setIfInBounds_toArray, List.set_cons_zero, List.set_cons_succ, List.getElem_toArray, List.getElem_cons_zero, List.getElem_cons_succ])
          refine wpAnyH_take (i := 5) (v := ?_) rfl (by kernel_rfl) (by kernel_rfl) (by kernel_rfl) (fun _ _ _ h => h) (Or.inl ⟨by rfl, ?_⟩) (by assumption) ?_
          rotate_left
          · (intro w hSw; (try dsimp only at hSw); go_simp; try with_reducible rfl)
          (try simp only [Act.put, List.setIfInBounds_toArray, List.set_cons_zero, List.set_cons_succ, List.getElem_toArray, List.getElem_cons_zero, List.getElem_cons_succ])
          refine wpAnyH_take (i := 6) (v := ?_) rfl (by kernel_rfl) (by kernel_rfl) (by kernel_rfl) (fun _ _ _ h => h) (Or.inl ⟨by rfl, ?_⟩) (by assumption) ?_
          rotate_left
          · (intro w hSw; (try dsimp only at hSw); go_simp; try with_reducible rfl)
          (try simp only [Act.put, List.setIfInBounds_toArray, List.set_cons_zero, List.set_cons_succ, List.getElem_toArray, List.getElem_cons_zero, List.getElem_cons_succ])
          refine wpAnyH_take (i := 7) (v := ?_) rfl (by kernel_rfl) (by kernel_rfl) (by kernel_rfl) (fun _ _ _ h => h) (Or.inl ⟨by rfl, ?_⟩) (by assumption) ?_
          rotate_left
          · (intro w hSw; (try dsimp only at hSw); go_simp; try with_reducible rfl)
          (try simp only [Act.put, List.setIfInBounds_toArray, List.set_cons_zero, List.set_cons_succ, List.getElem_toArray, List.getElem_cons_zero, List.getElem_cons_succ])
          refine wpAnyH_take (i := 8) (v := ?_) rfl (by kernel_rfl) (by kernel_rfl) (by kernel_rfl) (fun _ _ _ h => h) (Or.inl ⟨by rfl, ?_⟩) (by assumption) ?_
          rotate_left
          · (intro w hSw; (try dsimp only at hSw); go_simp; try with_reducible rfl)
          (try simp only [Act.put, List.setIfInBounds_toArray, List.set_cons_zero, List.set_cons_succ, List.getElem_toArray, List.getElem_cons_zero, List.getElem_cons_succ])
          refine wpAnyH_take (i := 9) (v := ?_) rfl (by kernel_rfl) (by kernel_rfl) (by kernel_rfl) (fun _ _ _ h => h) (Or.inl ⟨by rfl, ?_⟩) (by assumption) ?_
          rotate_left
          · (intro w hSw; (try dsimp only at hSw); go_simp; try with_reducible rfl)
          (try simp only [Act.put, List.setIfInBounds_toArray, List.set_cons_zero, List.set_cons_succ, List.getElem_toArray, List.getElem_cons_zero, List.getElem_cons_succ])
          refine wpAnyH_take (i := 10) (v := ?_) rfl (by kernel_rfl) (by kernel_rfl) (by kernel_rfl) (fun _ _ _ h => h) (Or.inl ⟨by rfl, ?_⟩) (by assumption) ?_
          rotate_left
          · (intro w hSw; (try dsimp only at hSw); go_simp; try with_reducible rfl)
          (try simp only [Act.put, List.setIfInBounds_toArray, List.set_cons_zero, List.set_cons_succ, List.getElem_toArray, List.getElem_cons_zero, List.getElem_cons_succ])
          refine wpAnyH_take (i := 11) (v := ?_) rfl (by kernel_rfl) (by kernel_rfl) (by kernel_rfl) (fun _ _ _ h => h) (Or.inl ⟨by rfl, ?_⟩) (by assumption) ?_
          rotate_left
          · (intro w hSw; (try dsimp only at hSw); go_simp; try with_reducible rfl)
          (try simp only [Act.put, List.setIfInBounds_toArray, List.set_cons_zero, List.set_cons_succ, List.getElem_toArray, List.getElem_cons_zero, List.getElem_cons_succ])
          refine wpAnyH_take (i := 12) (v := ?_) rfl (by kernel_rfl) (by kernel_rfl) (by kernel_rfl) (fun _ _ _ h => h) (Or.inl ⟨by rfl, ?_⟩) (by assumption) ?_
          rotate_left
          · (intro w hSw; (try dsimp only at hSw); go_simp; try with_reducible rfl)
          (try simp only [Act.put, List.setIfInBounds_toArray, List.set_cons_zero, List.set_cons_succ, List.getElem_toArray, List.getElem_cons_zero, List.getElem_cons_succ])
          refine wpAnyH_take (i := 13) (v := ?_) rfl (by kernel_rfl) (by kernel_rfl) (by kernel_rfl) (fun _ _ _ h => h) (Or.inl ⟨by rfl, ?_⟩) (by assumption) ?_
          rotate_left
          · (intro w hSw; (try dsimp only at hSw); go_simp; try with_reducible rfl)
          (try simp only [Act.put, List.setIfInBounds_toArray, List.set_cons_zero, List.set_cons_succ, List.getElem_toArray, List.getElem_cons_zero, List.getElem_cons_succ])
          refine wpAnyH_take (i := 14) (v := ?_) rfl (by kernel_rfl) (by kernel_rfl) (by kernel_rfl) (fun _ _ _ h => h) (Or.inl ⟨by rfl, ?_⟩) (by assumption) ?_
          rotate_left
          · (intro w hSw; (try dsimp only at hSw); go_simp; try with_reducible rfl)
          (try simp only [Act.put, List.setIfInBounds_toArray, List.set_cons_zero, List.set_cons_succ, List.getElem_toArray, List.getElem_cons_zero, List.getElem_cons_succ])
          refine wpAnyH_take (i := 15) (v := ?_) rfl (by kernel_rfl) (by kernel_rfl) (by kernel_rfl) (fun _ _ _ h => h) (Or.inl ⟨by rfl, ?_⟩) (by assumption) ?_
          rotate_left
          · (intro w hSw; (try dsimp only at hSw); go_simp; try with_reducible rfl)
          (try simp only [Act.put, List.setIfInBounds_toArray, List.set_cons_zero, List.set_cons_succ, List.getElem_toArray, List.getElem_cons_zero, List.getElem_cons_succ])
          refine wpAnyH_take (i := 16) (v := ?_) rfl (by kernel_rfl) (by kernel_rfl) (by kernel_rfl) (fun _ _ _ h => h) (Or.inl ⟨by rfl, ?_⟩) (by assumption) ?_
          rotate_left
          · (intro w hSw; (try dsimp only at hSw); go_simp; try with_reducible rfl)
          (try simp only [Act.put, List.setIfInBounds_toArray, List.set_cons_zero, List.set_cons_succ, List.getElem_toArray, List.getElem_cons_zero, List.getElem_cons_succ])
          refine wpAnyH_take (i := 17) (v := ?_) rfl (by kernel_rfl) (by kernel_rfl) (by kernel_rfl) (fun _ _ _ h => h) (Or.inl ⟨by rfl, ?_⟩) (by assumption) ?_
          rotate_left
          · (intro w hSw; (try dsimp only at hSw); go_simp; try with_reducible rfl)
          (try simp only [Act.put, List.setIfInBounds_toArray, List.set_cons_zero, List.set_cons_succ, List.getElem_toArray, List.getElem_cons_zero, List.getElem_cons_succ])
          refine wpAnyH_take (i := 18) (v := ?_) rfl (by kernel_rfl) (by kernel_rfl) (by kernel_rfl) (fun _ _ _ h => h) (Or.inl ⟨by rfl, ?_⟩) (by assumption) ?_
          rotate_left
          · (intro w hSw; (try dsimp only at hSw); go_simp; try with_reducible rfl)
          (try simp only [Act.put, List.setIfInBounds_toArray, List.set_cons_zero, List.set_cons_succ, List.getElem_toArray, List.getElem_cons_zero, List.getElem_cons_succ])
          refine wpAnyH_take (i := 19) (v := ?_) rfl (by kernel_rfl) (by kernel_rfl) (by kernel_rfl) (fun _ _ _ h => h) (Or.inl ⟨by rfl, ?_⟩) (by assumption) ?_
          rotate_left
          · (intro w hSw; (try dsimp only at hSw); go_simp; try with_reducible rfl)
          (try simp only [Act.put, List.setIfInBounds_toArray, List.set_cons_zero, List.set_cons_succ, List.getElem_toArray, List.getElem_cons_zero, List.getElem_cons_succ])
          refine wpAnyH_done (by kernel_rfl) ?_ _
          go_wp2
          refine bodyPost_ret (res_row_tmp rfl _ _ (w.heap.size + 1 + 1) 44 _ (0, 0) _ rfl (stored4 (w := wr.drew) HX2.out) Try.underlying44 rfl (by kernel_rfl)) rfl ?_
          rw [show IS.come ⟨n, q, ws, nx⟩ ⟨p0, p1, p2, p3⟩ = (⟨n, q, ws, nx⟩, 13) from by unfold IS.come; exact if_pos HA.out]
          have hw := HW.out
          have hfin : Below w.heap.size w (((((wr.setCell ⟨w.heap.size + 1 + 1, 0, none⟩ (.int .i64 (n : Int))).setCell ⟨w.heap.size + 1 + 1, 1, none⟩ (.slice a1 q.length c1)).setCell ⟨w.heap.size + 1 + 1, 2, none⟩ (.slice (some ⟨blk, off, none⟩) ws.length c2)).setCell ⟨w.heap.size + 1 + 1, 3, none⟩ (.slice a3 nx.length c3)).drew) := by repeat' (first | (with_reducible assumption) | (with_reducible refine below_setRowN ?_ ?_ _) | (with_reducible refine Below.setCell ?_ ?_ _) | (with_reducible refine below_drewN' ?_ _) | (with_reducible refine Below.drew ?_) | (with_reducible refine Below.alloc ?_ ?_ _) | (with_reducible exact Below.refl _ _) | (with_reducible exact Nat.le_refl _) | (simp; done) | omega | (simp; omega))
          exact ⟨⟨a1, c1, some ⟨blk, off, none⟩, c2, a3, c3⟩, rfl, HH.out.below hfin, hfin⟩
        · have hb2 : ((ws.getD m Pk.zero).seq == p2) = false := beq_eq_false_iff_ne.2 e2
          have HNE : Hid (∀ i, i < m + 1 → keyEq ⟨p0, p1, p2, p3⟩ (ws.getD i Pk.zero) = false) := Lib.hid (fun i hi => by
            by_cases e : i = m
            · rw [e]; exact decide_eq_false (fun h => e2 h.2)
            · exact HN.out i (by omega))
          generalize (ws.getD m Pk.zero).seq = z at *
          clear q0 q1
          go_upto_region 4 with (fail)
          refine wp_region_held_drew (S := (fun w' => (∀ j, w'.cell? ⟨w.heap.size, j, none⟩ = (#[.int .i64 (n : Int), .slice a1 q.length c1, .slice (some ⟨blk, off, none⟩) ws.length c2, .slice a3 nx.length c3] : Array Value)[j]?) ∧ (∀ j, w'.cell? ⟨w.heap.size + 1, j, none⟩ = (#[.int .i64 p0, .int .i64 p1, .int .i64 p2, .string p3] : Array Value)[j]?) ∧ w'.cell? ⟨blk, off + m * 4, none⟩ = some (.int .i64 p0) ∧ w'.cell? ⟨blk, off + m * 4 + 2, none⟩ = some (.int .i64 z))) (by kernel_rfl) ?_ (fun hHeld0 => ?_)
          · (try dsimp only); first | exact ⟨f0, f1, y0, y1⟩
          refine wpAnyH_take (i := 0) (v := ?_) rfl (by kernel_rfl) (by kernel_rfl) (by kernel_rfl) (fun _ _ _ h => h) (Or.inl ⟨by rfl, ?_⟩) (by assumption) ?_
          rotate_left
          · (intro w hSw; (try dsimp only at hSw); go_simp; try with_reducible rfl)
          (try simp only [Act.put, List.setIfInBounds_toArray, List.set_cons_zero, List.set_cons_succ, List.getElem_toArray, List.getElem_cons_zero, List.getElem_cons_succ])
          refine wpAnyH_take (i := 1) (v := ?_) rfl (by kernel_rfl) (by kernel_rfl) (by kernel_rfl) (fun _ _ _ h => h) (Or.inl ⟨by rfl, ?_⟩) (by assumption) ?_
          rotate_left
          · (intro w hSw; (try dsimp only at hSw); go_simp; try with_reducible rfl)
          (try simp only [Act.put, List.setIfInBounds_toArray, List.set_cons_zero, List.set_cons_succ, List.getElem_toArray, List.getElem_cons_zero, List.getElem_cons_succ])
          refine wpAnyH_take (i := 2) (v := ?_) rfl (by kernel_rfl) (by kernel_rfl) (by kernel_rfl) (fun _ _ _ h => h) (Or.inl ⟨by rfl, ?_⟩) (by assumption) ?_
          rotate_left
          · (intro w hSw; (try dsimp only at hSw); go_simp; try with_reducible rfl)
          (try simp only [Act.put, List.setIfInBounds_toArray, List.set_cons_zero, List.set_cons_succ, List.getElem_toArray, List.getElem_cons_zero, List.getElem_cons_succ])
          refine wpAnyH_take (i := 3) (v := ?_) rfl (by kernel_rfl) (by kernel_rfl) (by kernel_rfl) (fun _ _ _ h => h) (Or.inl ⟨by rfl, ?_⟩) (by assumption) ?_
          rotate_left
          · (intro w hSw; (try dsimp only at hSw); go_simp; try with_reducible rfl)
          (try simp only [Act.put, List.setIfInBounds_toArray, List.set_cons_zero, List.set_cons_succ, List.getElem_toArray, List.getElem_cons_zero, List.getElem_cons_succ])
          refine wpAnyH_take (i := 4) (v := ?_) rfl (by kernel_rfl) (by kernel_rfl) (by kernel_rfl) (fun _ _ _ h => h) (Or.inl ⟨by rfl, ?_⟩) (by assumption) ?_
          rotate_left
          · (intro w hSw; (try dsimp only at hSw); go_simp; try with_reducible rfl)
          (try simp only [Act.put, List.setIfInBounds_toArray, List.set_cons_zero, List.set_cons_succ, List.getElem_toArray, List.getElem_cons_zero, List.getElem_cons_succ])
          refine wpAnyH_take (i := 5) (v := ?_) rfl (by kernel_rfl) (by kernel_rfl) (by kernel_rfl) (fun _ _ _ h => h) (Or.inl ⟨by rfl, ?_⟩) (by assumption) ?_
          rotate_left
          · (intro w hSw; (try dsimp only at hSw); go_simp; try with_reducible rfl)
          (try simp only [Act.put, List.setIfInBounds_toArray, List.set_cons_zero, List.set_cons_succ, List.getElem_toArray, List.getElem_cons_zero, List.getElem_cons_succ])
          refine wpAnyH_take (i := 6) (v := ?_) rfl (by kernel_rfl) (by kernel_rfl) (by kernel_rfl) (fun _ _ _ h => h) (Or.inl ⟨by rfl, ?_⟩) (by assumption) ?_
          rotate_left
          · (intro w hSw; (try dsimp only at hSw); go_simp; try with_reducible rfl)
          (try simp only [Act.put, List.setIfInBounds_toArray, List.set_cons_zero, List.set_cons_succ, List.getElem_toArray, List.getElem_cons_zero, List.getElem_cons_succ])
          refine wpAnyH_take (i := 7) (v := ?_) rfl (by kernel_rfl) (by kernel_rfl) (by kernel_rfl) (fun _ _ _ h => h) (Or.inl ⟨by rfl, ?_⟩) (by assumption) ?_
          rotate_left
          · (intro w hSw; (try dsimp only at hSw); go_simp; try with_reducible rfl)
          (try simp only [Act.put, List.setIfInBounds_toArray, List.set_cons_zero, List.set_cons_succ, List.getElem_toArray, List.getElem_cons_zero, List.getElem_cons_succ])
          refine wpAnyH_take (i := 8) (v := ?_) rfl (by kernel_rfl) (by kernel_rfl) (by kernel_rfl) (fun _ _ _ h => h) (Or.inl ⟨by rfl, ?_⟩) (by assumption) ?_
          rotate_left
          · (intro w hSw; (try dsimp only at hSw); go_simp; try with_reducible rfl)
          (try simp only [Act.put, List.setIfInBounds_toArray, List.set_cons_zero, List.set_cons_succ, List.getElem_toArray, List.getElem_cons_zero, List.getElem_cons_succ])
          refine wpAnyH_take (i := 9) (v := ?_) rfl (by kernel_rfl) (by kernel_rfl) (by kernel_rfl) (fun _ _ _ h => h) (Or.inl ⟨by rfl, ?_⟩) (by assumption) ?_
          rotate_left
          · (intro w hSw; (try dsimp only at hSw); go_simp; try with_reducible rfl)
          (try simp only [Act.put, List.setIfInBounds_toArray, List.set_cons_zero, List.set_cons_succ, List.getElem_toArray, List.getElem_cons_zero, List.getElem_cons_succ])
          refine wpAnyH_take (i := 10) (v := ?_) rfl (by kernel_rfl) (by kernel_rfl) (by kernel_rfl) (fun _ _ _ h => h) (Or.inl ⟨by rfl, ?_⟩) (by assumption) ?_
          rotate_left
          · (intro w hSw; (try dsimp only at hSw); go_simp; try with_reducible rfl)
          (try simp only [Act.put, List.setIfInBounds_toArray, List.set_cons_zero, List.set_cons_succ, List.getElem_toArray, List.getElem_cons_zero, List.getElem_cons_succ])
          refine wpAnyH_take (i := 11) (v := ?_) rfl (by kernel_rfl) (by kernel_rfl) (by kernel_rfl) (fun _ _ _ h => h) (Or.inl ⟨by rfl, ?_⟩) (by assumption) ?_
          rotate_left
          · (intro w hSw; (try dsimp only at hSw); go_simp; try with_reducible rfl)
          (try simp only [Act.put, List.setIfInBounds_toArray, List.set_cons_zero, List.set_cons_succ, List.getElem_toArray, List.getElem_cons_zero, List.getElem_cons_succ])
          refine wpAnyH_take (i := 12) (v := ?_) rfl (by kernel_rfl) (by kernel_rfl) (by kernel_rfl) (fun _ _ _ h => h) (Or.inl ⟨by rfl, ?_⟩) (by assumption) ?_
          rotate_left
          · (intro w hSw; (try dsimp only at hSw); go_simp; try with_reducible rfl)
          (try simp only [Act.put, List.setIfInBounds_toArray, List.set_cons_zero, List.set_cons_succ, List.getElem_toArray, List.getElem_cons_zero, List.getElem_cons_succ])
          refine wpAnyH_take (i := 13) (v := ?_) rfl (by kernel_rfl) (by kernel_rfl) (by kernel_rfl) (fun _ _ _ h => h) (Or.inl ⟨by rfl, ?_⟩) (by assumption) ?_
          rotate_left
          · (intro w hSw; (try dsimp only at hSw); go_simp; try with_reducible rfl)
          (try simp only [Act.put, List.setIfInBounds_toArray, List.set_cons_zero, List.set_cons_succ, List.getElem_toArray, List.getElem_cons_zero, List.getElem_cons_succ])
          refine wpAnyH_take (i := 14) (v := ?_) rfl (by kernel_rfl) (by kernel_rfl) (by kernel_rfl) (fun _ _ _ h => h) (Or.inl ⟨by rfl, ?_⟩) (by assumption) ?_
          rotate_left
          · (intro w hSw; (try dsimp only at hSw); go_simp; try with_reducible rfl)
          (try simp only [Act.put, List.setIfInBounds_toArray, List.set_cons_zero, List.set_cons_succ, List.getElem_toArray, List.getElem_cons_zero, List.getElem_cons_succ])
          refine wpAnyH_take (i := 15) (v := ?_) rfl (by kernel_rfl) (by kernel_rfl) (by kernel_rfl) (fun _ _ _ h => h) (Or.inl ⟨by rfl, ?_⟩) (by assumption) ?_
          rotate_left
          · (intro w hSw; (try dsimp only at hSw); go_simp; try with_reducible rfl)
          (try simp only [Act.put, List.setIfInBounds_toArray, List.set_cons_zero, List.set_cons_succ, List.getElem_toArray, List.getElem_cons_zero, List.getElem_cons_succ])
          refine wpAnyH_take (i := 16) (v := ?_) rfl (by kernel_rfl) (by kernel_rfl) (by kernel_rfl) (fun _ _ _ h => h) (Or.inl ⟨by rfl, ?_⟩) (by assumption) ?_
          rotate_left
          · (intro w hSw; (try dsimp only at hSw); go_simp; try with_reducible rfl)
          (try simp only [Act.put, List.setIfInBounds_toArray, List.set_cons_zero, List.set_cons_succ, List.getElem_toArray, List.getElem_cons_zero, List.getElem_cons_succ])
          refine wpAnyH_take (i := 17) (v := ?_) rfl (by kernel_rfl) (by kernel_rfl) (by kernel_rfl) (fun _ _ _ h => h) (Or.inl ⟨by rfl, ?_⟩) (by assumption) ?_
          rotate_left
          · (intro w hSw; (try dsimp only at hSw); go_simp; try with_reducible rfl)
          (try simp only [Act.put, List.setIfInBounds_toArray, List.set_cons_zero, List.set_cons_succ, List.getElem_toArray, List.getElem_cons_zero, List.getElem_cons_succ])
          refine wpAnyH_take (i := 18) (v := ?_) rfl (by kernel_rfl) (by kernel_rfl) (by kernel_rfl) (fun _ _ _ h => h) (Or.inl ⟨by rfl, ?_⟩) (by assumption) ?_
          rotate_left
          · (intro w hSw; (try dsimp only at hSw); go_simp; try with_reducible rfl)
          (try simp only [Act.put, List.setIfInBounds_toArray, List.set_cons_zero, List.set_cons_succ, List.getElem_toArray, List.getElem_cons_zero, List.getElem_cons_succ])
          refine wpAnyH_take (i := 19) (v := ?_) rfl (by kernel_rfl) (by kernel_rfl) (by kernel_rfl) (fun _ _ _ h => h) (Or.inl ⟨by rfl, ?_⟩) (by assumption) ?_
          rotate_left
          · (intro w hSw; (try dsimp only at hSw); go_simp; try with_reducible rfl)
          (try simp only [Act.put, List.setIfInBounds_toArray, List.set_cons_zero, List.set_cons_succ, List.getElem_toArray, List.getElem_cons_zero, List.getElem_cons_succ])
          refine wpAnyH_done (by kernel_rfl) ?_ _
          go_wp2
          go_roundw
          case rel => exact ⟨m + 1, by omega, by go_num, HNE, HB.out.drew⟩
          case measure => simp [intOf] <;> omega
      · have hb1 : ((ws.getD m Pk.zero).src == p0) = false := beq_eq_false_iff_ne.2 e1
        have HNE : Hid (∀ i, i < m + 1 → keyEq ⟨p0, p1, p2, p3⟩ (ws.getD i Pk.zero) = false) := Lib.hid (fun i hi => by
          by_cases e : i = m
          · rw [e]; exact decide_eq_false (fun h => e1 h.1)
          · exact HN.out i (by omega))
        generalize (ws.getD m Pk.zero).src = z at *
        clear q0 q1 y1
        go_upto_region 4 with (fail)
        refine wp_region_held_drew (S := (fun w' => (∀ j, w'.cell? ⟨w.heap.size, j, none⟩ = (#[.int .i64 (n : Int), .slice a1 q.length c1, .slice (some ⟨blk, off, none⟩) ws.length c2, .slice a3 nx.length c3] : Array Value)[j]?) ∧ (∀ j, w'.cell? ⟨w.heap.size + 1, j, none⟩ = (#[.int .i64 p0, .int .i64 p1, .int .i64 p2, .string p3] : Array Value)[j]?) ∧ w'.cell? ⟨blk, off + m * 4, none⟩ = some (.int .i64 z))) (by kernel_rfl) ?_ (fun hHeld0 => ?_)
        · (try dsimp only); first | exact ⟨f0, f1, y0⟩
        refine wpAnyH_take (i := 0) (v := ?_) rfl (by kernel_rfl) (by kernel_rfl) (by kernel_rfl) (fun _ _ _ h => h) (Or.inl ⟨by rfl, ?_⟩) (by assumption) ?_
        rotate_left
        · (intro w hSw; (try dsimp only at hSw); go_simp; try with_reducible rfl)
        (try simp only [Act.put, List.setIfInBounds_toArray, List.set_cons_zero, List.set_cons_succ, List.getElem_toArray, List.getElem_cons_zero, List.getElem_cons_succ])
        refine wpAnyH_take (i := 1) (v := ?_) rfl (by kernel_rfl) (by kernel_rfl) (by kernel_rfl) (fun _ _ _ h => h) (Or.inl ⟨by rfl, ?_⟩) (by assumption) ?_
        rotate_left
        · (intro w hSw; (try dsimp only at hSw); go_simp; try with_reducible rfl)
        (try simp only [Act.put, List.setIfInBounds_toArray, List.set_cons_zero, List.set_cons_succ, List.getElem_toArray, List.getElem_cons_zero, List.getElem_cons_succ])
        refine wpAnyH_take (i := 2) (v := ?_) rfl (by kernel_rfl) (by kernel_rfl) (by kernel_rfl) (fun _ _ _ h => h) (Or.inl ⟨by rfl, ?_⟩) (by assumption) ?_
        rotate_left
        · (intro w hSw; (try dsimp only at hSw); go_simp; try with_reducible rfl)
        (try simp only [Act.put, List.setIfInBounds_toArray, List.set_cons_zero, List.set_cons_succ, List.getElem_toArray, List.getElem_cons_zero, List.getElem_cons_succ])
        refine wpAnyH_take (i := 3) (v := ?_) rfl (by kernel_rfl) (by kernel_rfl) (by kernel_rfl) (fun _ _ _ h => h) (Or.inl ⟨by rfl, ?_⟩) (by assumption) ?_
        rotate_left
        · (intro w hSw; (try dsimp only at hSw); go_simp; try with_reducible rfl)
        (try simp only [Act.put, List.setIfInBounds_toArray, List.set_cons_zero, List.set_cons_succ, List.getElem_toArray, List.getElem_cons_zero, List.getElem_cons_succ])
        refine wpAnyH_take (i := 4) (v := ?_) rfl (by kernel_rfl) (by kernel_rfl) (by kernel_rfl) (fun _ _ _ h => h) (Or.inl ⟨by rfl, ?_⟩) (by assumption) ?_
        rotate_left
        · (intro w hSw; (try dsimp only at hSw); go_simp; try with_reducible rfl)
        (try simp only [Act.put, List.setIfInBounds_toArray, List.set_cons_zero, List.set_cons_succ, List.getElem_toArray, List.getElem_cons_zero, List.getElem_cons_succ])
        refine wpAnyH_take (i := 5) (v := ?_) rfl (by kernel_rfl) (by kernel_rfl) (by kernel_rfl) (fun _ _ _ h => h) (Or.inl ⟨by rfl, ?_⟩) (by assumption) ?_
        rotate_left
        · (intro w hSw; (try dsimp only at hSw); go_simp; try with_reducible rfl)
        (try simp only [Act.put, List.setIfInBounds_toArray, List.set_cons_zero, List.set_cons_succ, List.getElem_toArray, List.getElem_cons_zero, List.getElem_cons_succ])
        refine wpAnyH_take (i := 6) (v := ?_) rfl (by kernel_rfl) (by kernel_rfl) (by kernel_rfl) (fun _ _ _ h => h) (Or.inl ⟨by rfl, ?_⟩) (by assumption) ?_
        rotate_left
        · (intro w hSw; (try dsimp only at hSw); go_simp; try with_reducible rfl)
        (try simp only [Act.put, List.setIfInBounds_toArray, List.set_cons_zero, List.set_cons_succ, List.getElem_toArray, List.getElem_cons_zero, List.getElem_cons_succ])
        refine wpAnyH_take (i := 7) (v := ?_) rfl (by kernel_rfl) (by kernel_rfl) (by kernel_rfl) (fun _ _ _ h => h) (Or.inl ⟨by rfl, ?_⟩) (by assumption) ?_
        rotate_left
        · (intro w hSw; (try dsimp only at hSw); go_simp; try with_reducible rfl)
        (try simp only [Act.put, List.setIfInBounds_toArray, List.set_cons_zero, List.set_cons_succ, List.getElem_toArray, List.getElem_cons_zero, List.getElem_cons_succ])
        refine wpAnyH_take (i := 8) (v := ?_) rfl (by kernel_rfl) (by kernel_rfl) (by kernel_rfl) (fun _ _ _ h => h) (Or.inl ⟨by rfl, ?_⟩) (by assumption) ?_
        rotate_left
        · (intro w hSw; (try dsimp only at hSw); go_simp; try with_reducible rfl)
        (try simp only [Act.put, List.setIfInBounds_toArray, List.set_cons_zero, List.set_cons_succ, List.getElem_toArray, List.getElem_cons_zero, List.getElem_cons_succ])
        refine wpAnyH_take (i := 9) (v := ?_) rfl (by kernel_rfl) (by kernel_rfl) (by kernel_rfl) (fun _ _ _ h => h) (Or.inl ⟨by rfl, ?_⟩) (by assumption) ?_
        rotate_left
        · (intro w hSw; (try dsimp only at hSw); go_simp; try with_reducible rfl)
        (try simp only [Act.put, List.setIfInBounds_toArray, List.set_cons_zero, List.set_cons_succ, List.getElem_toArray, List.getElem_cons_zero, List.getElem_cons_succ])
        refine wpAnyH_take (i := 10) (v := undef) rfl (by kernel_rfl) (by kernel_rfl) (by kernel_rfl) (fun _ _ _ h => h) (Or.inr ⟨by rfl, rfl⟩) (by assumption) ?_
        (try simp only [Act.put, List.setIfInBounds_toArray, List.set_cons_zero, List.set_cons_succ, List.getElem_toArray, List.getElem_cons_zero, List.getElem_cons_succ])
        refine wpAnyH_take (i := 11) (v := undef) rfl (by kernel_rfl) (by kernel_rfl) (by kernel_rfl) (fun _ _ _ h => h) (Or.inr ⟨by rfl, rfl⟩) (by assumption) ?_
        (try simp only [Act.put, List.setIfInBounds_toArray, List.set_cons_zero, List.set_cons_succ, List.getElem_toArray, List.getElem_cons_zero, List.getElem_cons_succ])
        refine wpAnyH_take (i := 12) (v := undef) rfl (by kernel_rfl) (by kernel_rfl) (by kernel_rfl) (fun _ _ _ h => h) (Or.inr ⟨by rfl, rfl⟩) (by assumption) ?_
        (try simp only [Act.put, List.setIfInBounds_toArray, List.set_cons_zero, List.set_cons_succ, List.getElem_toArray, List.getElem_cons_zero, List.getElem_cons_succ])
        refine wpAnyH_take (i := 13) (v := undef) rfl (by kernel_rfl) (by kernel_rfl) (by kernel_rfl) (fun _ _ _ h => h) (Or.inr ⟨by rfl, rfl⟩) (by assumption) ?_
        (try simp only [Act.put, List.setIfInBounds_toArray, List.set_cons_zero, List.set_cons_succ, List.getElem_toArray, List.getElem_cons_zero, List.getElem_cons_succ])
        refine wpAnyH_take (i := 14) (v := undef) rfl (by kernel_rfl) (by kernel_rfl) (by kernel_rfl) (fun _ _ _ h => h) (Or.inr ⟨by rfl, rfl⟩) (by assumption) ?_
        (try simp only [Act.put, List.setIfInBounds_toArray, List.set_cons_zero, List.set_cons_succ, List.getElem_toArray, List.getElem_cons_zero, List.getElem_cons_succ])
        refine wpAnyH_take (i := 15) (v := undef) rfl (by kernel_rfl) (by kernel_rfl) (by kernel_rfl) (fun _ _ _ h => h) (Or.inr ⟨by rfl, rfl⟩) (by assumption) ?_
        (try simp only [Act.put, List.setIfInBounds_toArray, List.set_cons_zero, List.set_cons_succ, List.getElem_toArray, List.getElem_cons_zero, List.getElem_cons_succ])
        refine wpAnyH_take (i := 16) (v := undef) rfl (by kernel_rfl) (by kernel_rfl) (by kernel_rfl) (fun _ _ _ h => h) (Or.inr ⟨by rfl, rfl⟩) (by assumption) ?_
        (try simp only [Act.put, List.setIfInBounds_toArray, List.set_cons_zero, List.set_cons_succ, List.getElem_toArray, List.getElem_cons_zero, List.getElem_cons_succ])
        refine wpAnyH_take (i := 17) (v := undef) rfl (by kernel_rfl) (by kernel_rfl) (by kernel_rfl) (fun _ _ _ h => h) (Or.inr ⟨by rfl, rfl⟩) (by assumption) ?_
        (try simp only [Act.put, List.setIfInBounds_toArray, List.set_cons_zero, List.set_cons_succ, List.getElem_toArray, List.getElem_cons_zero, List.getElem_cons_succ])
        refine wpAnyH_take (i := 18) (v := undef) rfl (by kernel_rfl) (by kernel_rfl) (by kernel_rfl) (fun _ _ _ h => h) (Or.inr ⟨by rfl, rfl⟩) (by assumption) ?_
        (try simp only [Act.put, List.setIfInBounds_toArray, List.set_cons_zero, List.set_cons_succ, List.getElem_toArray, List.getElem_cons_zero, List.getElem_cons_succ])
        refine wpAnyH_take (i := 19) (v := ?_) rfl (by kernel_rfl) (by kernel_rfl) (by kernel_rfl) (fun _ _ _ h => h) (Or.inl ⟨by rfl, ?_⟩) (by assumption) ?_
        rotate_left
        · (intro w hSw; (try dsimp only at hSw); go_simp; try with_reducible rfl)
        (try simp only [Act.put, List.setIfInBounds_toArray, List.set_cons_zero, List.set_cons_succ, List.getElem_toArray, List.getElem_cons_zero, List.getElem_cons_succ])
        refine wpAnyH_done (by kernel_rfl) ?_ _
        go_wp2
        go_roundw
        case rel => exact ⟨m + 1, by omega, by go_num, HNE, HB.out.drew⟩
        case measure => simp [intOf] <;> omega
    · have hlI : ¬ (m : Int) < (ws.length : Int) := by omega
      have e : m = ws.length := by omega
      subst e
      have HA := Lib.hid (any_none HN.out)
      by_cases hin : inR ⟨p0, p1, p2, p3⟩ = true
      · have hI := hin
        unfold inR at hI
        rw [decide_eq_true_eq] at hI
        dsimp only at hI
        obtain ⟨i1, i2, i3, i4⟩ := hI
        have d1 : ¬ p0 < 0 := by omega
        have d2 : ¬ 4095 < p0 := by omega
        have d3 : ¬ p2 < 0 := by omega
        have d4 : ¬ 65535 < p2 := by omega
        have HIN := Lib.hid hin
        clear hin i1 i2 i3 i4
        have HCW := Lib.hid (HH.out.r2.below HW.out)
        have hwr3 : w.heap.size + 1 + 1 < wr.heap.size := block_lt HX2.out
        go_upto_region 10 with (at_builtin; refine append_rows (W0 := wr) (flatK ws) ws.length wr.heap.size 26 30 _ 4 40 infoPkB Try.underlying26 rfl (by decide) _ _ _ (World.ownsRow_nil _ _ _ _) (Below.refl _ _) (Nat.le_refl _) _ _ (by rw [flatK_len]; omega) (HCW.out.weak (by simp)) (oneCell_K _) (by omega) (by decide) rfl _ _ rfl rfl rfl ?_; intro v5 w5 hown5 hb5 hg5 hor5; rw [Nat.zero_add, List.nil_append] at hown5; have g0 := fun j => cell_at (Below.at hb5 HX0.out (by omega)) j; have g1 := fun j => cell_at (Below.at hb5 HX1.out (by omega)) j; have HO5 := Lib.hid hown5; have HB5 := Lib.hid hb5; clear hown5 hb5 hg5 hor5)
        have hs5' : wr.heap.size ≤ w5.heap.size := HB5.out.size
        go_upto_region 11 with (at_builtin; refine append_own (W0 := wr) [.int .i64 p0, .int .i64 p1, .int .i64 p2, .string p3] wr.heap.size _ _ _ 4 40 infoPkB Try.underlying26 rfl (by decide) _ _ _ HO5.out HB5.out hs5' rfl (by simp [Value.oneCell']) (by omega) (by decide) rfl _ _ rfl rfl rfl ?_; intro v6 w6 hown6 hb6 hg6 hor6; obtain ⟨p6, q6, rfl, hq6, -, hc6⟩ := CellsOff.own hown6 (w.heap.size :: (w.heap.size + 1 + 1) :: S) (fun x hx => by have h5 := HSS.out x; simp only [List.mem_cons] at hx; rcases hx with rfl | rfl | hx <;> first | omega | (have := h5 hx; omega)); have HC6 := Lib.hid hc6; have k0 := fun j => cell_at (Below.at hb6 HX0.out (by omega)) j; have l0 := fun j => frozen_at (Below.at hb6 HX0.out (by omega)) j; have k2 := fun j => cell_at (Below.at hb6 HX2.out (by omega)) j; have l2 := fun j => frozen_at (Below.at hb6 HX2.out (by omega)) j; have HX26 := Lib.hid (Below.at hb6 HX2.out (by omega)); have HB6 := Lib.hid hb6; clear hown6 hb6 hg6 hor6 hc6)
        go_wp2
        refine bodyPost_ret (res_row_tmp rfl _ _ (w.heap.size + 1 + 1) 44 _ (0, 0) _ rfl (stored4 (set_other HX26.out (by omega) _ _)) Try.underlying44 rfl (by kernel_rfl)) rfl ?_
        rw [show IS.come ⟨n, q, ws, nx⟩ ⟨p0, p1, p2, p3⟩ = (⟨n, q, ws ++ [⟨p0, p1, p2, p3⟩], nx⟩, 0) from IS.come_new HA.out HIN.out]
        have hw6 := HB6.out
        have hww := HW.out
        have hws := hww.size
        have h6 : Below w.heap.size w w6 := hww.trans (hw6.mono hws)
        have ho : Only [w.heap.size, w.heap.size + 1 + 1] w6 (((((w6.setCell ⟨w.heap.size, 2, none⟩ (.slice p6 (ws.length + 1) q6)).setCell ⟨w.heap.size + 1 + 1, 0, none⟩ (.int .i64 (n : Int))).setCell ⟨w.heap.size + 1 + 1, 1, none⟩ (.slice a1 q.length c1)).setCell ⟨w.heap.size + 1 + 1, 2, none⟩ (.slice p6 (ws.length + 1) q6)).setCell ⟨w.heap.size + 1 + 1, 3, none⟩ (.slice a3 nx.length c3)) := by repeat' (first | (with_reducible assumption) | (with_reducible refine only_setRowN ?_ ?_ _) | (with_reducible exact Only.refl _ _) | (with_reducible refine Only.setCell ?_ ?_ _) | (with_reducible refine Only.drewN ?_ _) | (with_reducible refine Only.drew ?_) | (with_reducible refine Only.alloc ?_ _) | (simp; done) | (simp; omega))
        have hfin : Below w.heap.size w (((((w6.setCell ⟨w.heap.size, 2, none⟩ (.slice p6 (ws.length + 1) q6)).setCell ⟨w.heap.size + 1 + 1, 0, none⟩ (.int .i64 (n : Int))).setCell ⟨w.heap.size + 1 + 1, 1, none⟩ (.slice a1 q.length c1)).setCell ⟨w.heap.size + 1 + 1, 2, none⟩ (.slice p6 (ws.length + 1) q6)).setCell ⟨w.heap.size + 1 + 1, 3, none⟩ (.slice a3 nx.length c3)) := h6.trans (only_below ho (fun k hk => by simp at hk; omega) h6.size)
        refine ⟨⟨a1, c1, p6, q6, a3, c3⟩, ?_, ⟨HH.out.r1.below hfin, ?_, HH.out.r3.below hfin, HH.out.k1, ?_, HH.out.k3, HH.out.l1, ?_, HH.out.l3⟩, hfin⟩
        · dsimp only
          rw [List.length_append]; rfl
        · show CellsOff _ p6 (flatK (ws ++ [⟨p0, p1, p2, p3⟩])) S
          rw [flatK_append]
          exact (HC6.out.only ho (fun x hx => by simp at hx ⊢; omega)).weak (fun x hx => List.mem_cons_of_mem _ (List.mem_cons_of_mem _ hx))
        · show (ws ++ [_]).length ≤ q6
          rw [List.length_append]; exact hq6
        · show (ws ++ [_]).length ≤ 1000
          rw [List.length_append]; simp; omega
      · rw [Bool.not_eq_true] at hin
        have hI := hin
        unfold inR at hI
        rw [decide_eq_false_iff_not] at hI
        dsimp only at hI
        have HIN := Lib.hid hin
        clear hin
        by_cases d1 : p0 < 0
        · clear hI
          go_wp2
          refine bodyPost_ret (res_row_tmp rfl _ _ (w.heap.size + 1 + 1) 44 _ (0, 0) _ rfl (stored4 HX2.out) Try.underlying44 rfl (by kernel_rfl)) rfl ?_
          rw [show IS.come ⟨n, q, ws, nx⟩ ⟨p0, p1, p2, p3⟩ = (⟨n, q, ws, nx⟩, 1) from by unfold IS.come; rw [HA.out, HIN.out]; rfl]
          have hw := HW.out
          have hfin : Below w.heap.size w ((((wr.setCell ⟨w.heap.size + 1 + 1, 0, none⟩ (.int .i64 (n : Int))).setCell ⟨w.heap.size + 1 + 1, 1, none⟩ (.slice a1 q.length c1)).setCell ⟨w.heap.size + 1 + 1, 2, none⟩ (.slice a2 ws.length c2)).setCell ⟨w.heap.size + 1 + 1, 3, none⟩ (.slice a3 nx.length c3)) := by repeat' (first | (with_reducible assumption) | (with_reducible refine below_setRowN ?_ ?_ _) | (with_reducible refine Below.setCell ?_ ?_ _) | (with_reducible refine below_drewN' ?_ _) | (with_reducible refine Below.drew ?_) | (with_reducible refine Below.alloc ?_ ?_ _) | (with_reducible exact Below.refl _ _) | (with_reducible exact Nat.le_refl _) | (simp; done) | omega | (simp; omega))
          exact ⟨⟨a1, c1, a2, c2, a3, c3⟩, rfl, HH.out.below hfin, hfin⟩
        · by_cases d2 : 4095 < p0
          · clear hI
            go_wp2
            refine bodyPost_ret (res_row_tmp rfl _ _ (w.heap.size + 1 + 1) 44 _ (0, 0) _ rfl (stored4 HX2.out) Try.underlying44 rfl (by kernel_rfl)) rfl ?_
            rw [show IS.come ⟨n, q, ws, nx⟩ ⟨p0, p1, p2, p3⟩ = (⟨n, q, ws, nx⟩, 1) from by unfold IS.come; rw [HA.out, HIN.out]; rfl]
            have hw := HW.out
            have hfin : Below w.heap.size w ((((wr.setCell ⟨w.heap.size + 1 + 1, 0, none⟩ (.int .i64 (n : Int))).setCell ⟨w.heap.size + 1 + 1, 1, none⟩ (.slice a1 q.length c1)).setCell ⟨w.heap.size + 1 + 1, 2, none⟩ (.slice a2 ws.length c2)).setCell ⟨w.heap.size + 1 + 1, 3, none⟩ (.slice a3 nx.length c3)) := by repeat' (first | (with_reducible assumption) | (with_reducible refine below_setRowN ?_ ?_ _) | (with_reducible refine Below.setCell ?_ ?_ _) | (with_reducible refine below_drewN' ?_ _) | (with_reducible refine Below.drew ?_) | (with_reducible refine Below.alloc ?_ ?_ _) | (with_reducible exact Below.refl _ _) | (with_reducible exact Nat.le_refl _) | (simp; done) | omega | (simp; omega))
            exact ⟨⟨a1, c1, a2, c2, a3, c3⟩, rfl, HH.out.below hfin, hfin⟩
          · by_cases d3 : p2 < 0
            · clear hI
              go_wp2
              refine bodyPost_ret (res_row_tmp rfl _ _ (w.heap.size + 1 + 1) 44 _ (0, 0) _ rfl (stored4 HX2.out) Try.underlying44 rfl (by kernel_rfl)) rfl ?_
              rw [show IS.come ⟨n, q, ws, nx⟩ ⟨p0, p1, p2, p3⟩ = (⟨n, q, ws, nx⟩, 1) from by unfold IS.come; rw [HA.out, HIN.out]; rfl]
              have hw := HW.out
              have hfin : Below w.heap.size w ((((wr.setCell ⟨w.heap.size + 1 + 1, 0, none⟩ (.int .i64 (n : Int))).setCell ⟨w.heap.size + 1 + 1, 1, none⟩ (.slice a1 q.length c1)).setCell ⟨w.heap.size + 1 + 1, 2, none⟩ (.slice a2 ws.length c2)).setCell ⟨w.heap.size + 1 + 1, 3, none⟩ (.slice a3 nx.length c3)) := by repeat' (first | (with_reducible assumption) | (with_reducible refine below_setRowN ?_ ?_ _) | (with_reducible refine Below.setCell ?_ ?_ _) | (with_reducible refine below_drewN' ?_ _) | (with_reducible refine Below.drew ?_) | (with_reducible refine Below.alloc ?_ ?_ _) | (with_reducible exact Below.refl _ _) | (with_reducible exact Nat.le_refl _) | (simp; done) | omega | (simp; omega))
              exact ⟨⟨a1, c1, a2, c2, a3, c3⟩, rfl, HH.out.below hfin, hfin⟩
            · have d4 : 65535 < p2 := by omega
              clear hI
              go_wp2
              refine bodyPost_ret (res_row_tmp rfl _ _ (w.heap.size + 1 + 1) 44 _ (0, 0) _ rfl (stored4 HX2.out) Try.underlying44 rfl (by kernel_rfl)) rfl ?_
              rw [show IS.come ⟨n, q, ws, nx⟩ ⟨p0, p1, p2, p3⟩ = (⟨n, q, ws, nx⟩, 1) from by unfold IS.come; rw [HA.out, HIN.out]; rfl]
              have hw := HW.out
              have hfin : Below w.heap.size w ((((wr.setCell ⟨w.heap.size + 1 + 1, 0, none⟩ (.int .i64 (n : Int))).setCell ⟨w.heap.size + 1 + 1, 1, none⟩ (.slice a1 q.length c1)).setCell ⟨w.heap.size + 1 + 1, 2, none⟩ (.slice a2 ws.length c2)).setCell ⟨w.heap.size + 1 + 1, 3, none⟩ (.slice a3 nx.length c3)) := by repeat' (first | (with_reducible assumption) | (with_reducible refine below_setRowN ?_ ?_ _) | (with_reducible refine Below.setCell ?_ ?_ _) | (with_reducible refine below_drewN' ?_ _) | (with_reducible refine Below.drew ?_) | (with_reducible refine Below.alloc ?_ ?_ _) | (with_reducible exact Below.refl _ _) | (with_reducible exact Nat.le_refl _) | (simp; done) | omega | (simp; omega))
              exact ⟨⟨a1, c1, a2, c2, a3, c3⟩, rfl, HH.out.below hfin, hfin⟩
end Go.Proofs.Ytajbfmdgnkpjgaa
