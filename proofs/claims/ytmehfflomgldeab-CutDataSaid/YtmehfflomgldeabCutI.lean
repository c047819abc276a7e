/- What is cut is read as it was; walk.Words; the document's example. -/
import Derived.Test.YtmehfflomgldeabCutH
namespace Go.Proofs.Ytmehfflomgldeab
set_option linter.unusedVariables false
set_option linter.unusedSimpArgs false
open Go.RowKit BM
theorem readGo_word {p : Pa} {f : Fl} (hr : rightF f = true) (l : List Nat) : readGo p (wordF f :: l) = readGo (readStep p f) l := by
  rw [readGo_cons, read_write hr, if_pos rfl]
theorem readGo_heads {p : Pa} (hr : rightP p = true) (rest : List Nat) : ∀ k, k ≤ p.heads.length → ∀ q : Pa, q.heads = p.heads.take k → (0 < k → q.src = p.src ∧ q.cast = p.cast) → q.data = ⟨#[]⟩ →
    readGo q (((List.range' k (p.heads.length - k)).map (fun i => wordF (headFl p i))) ++ rest) = readGo ⟨if 0 < p.heads.length then p.src else q.src, if 0 < p.heads.length then p.cast else q.cast, p.heads, ⟨#[]⟩⟩ rest := by
  intro k
  induction hk : p.heads.length - k generalizing k with
  | zero =>
    intro hle q h1 h2 h3
    have e : k = p.heads.length := by omega
    subst e
    rw [List.take_length] at h1
    rw [List.range'_zero, List.map_nil, List.nil_append]
    obtain ⟨qs, qc, qh, qd⟩ := q
    dsimp only at h1 h2 h3 ⊢
    subst h1 h3
    by_cases h0 : 0 < p.heads.length
    · obtain ⟨rfl, rfl⟩ := h2 h0
      rw [if_pos h0, if_pos h0]
    · rw [if_neg h0, if_neg h0]
  | succ n ih =>
    intro hle q h1 h2 h3
    have hlt : k < p.heads.length := by omega
    rw [List.range'_succ, List.map_cons, List.cons_append, readGo_word (head_right hr hlt)]
    have hst : readStep q (headFl p k) = ⟨p.src, p.cast, q.heads ++ [p.heads.getD k T2.zero], ⟨#[]⟩⟩ := by
      unfold readStep
      rw [if_pos (show (headFl p k).kind = 1 from rfl), h3]
      rfl
    have e := ih (k + 1) (by omega) (by omega) ⟨p.src, p.cast, q.heads ++ [p.heads.getD k T2.zero], ⟨#[]⟩⟩ (by show q.heads ++ _ = _; rw [h1]; exact (take_snocD hlt T2.zero).symm) (fun _ => ⟨rfl, rfl⟩) rfl
    rw [hst, e]
    rw [if_pos (by omega), if_pos (by omega), if_pos (by omega), if_pos (by omega)]
theorem readGo_bodies (p : Pa) (rest : List Nat) : ∀ k, k ≤ nBody p.data → ∀ q : Pa, q.data = p.data.extract 0 (6 * k) →
    readGo q (((List.range' k (nBody p.data - k)).map (fun i => wordF (bodyFl p.data i))) ++ rest) = readGo { q with data := p.data.extract 0 (6 * nBody p.data) } rest := by
  intro k
  induction hk : nBody p.data - k generalizing k with
  | zero =>
    intro hle q h1
    have e : k = nBody p.data := by omega
    subst e
    rw [List.range'_zero, List.map_nil, List.nil_append, ← h1]
  | succ n ih =>
    intro hle q h1
    have hlt : k < nBody p.data := by omega
    rw [List.range'_succ, List.map_cons, List.cons_append, readGo_word (body_right hlt)]
    have hst : readStep q (bodyFl p.data k) = { q with data := p.data.extract 0 (6 * (k + 1)) } := by
      unfold readStep
      rw [if_neg (by show ¬ ((2 : Int) = 1); decide), h1]
      have e : p.data.extract 0 (6 * k) ++ (bodyFl p.data k).data = p.data.extract 0 (6 * (k + 1)) := by
        show p.data.extract 0 (6 * k) ++ p.data.extract (6 * k) (6 * k + 6) = _
        have : 6 * k + 6 < p.data.size := by unfold nBody at hlt; omega
        rw [ByteArray.extract_append_extract]; congr 1 <;> omega
      rw [e]
    rw [hst, ih (k + 1) (by omega) (by omega) _ rfl]
theorem wordsF_right {p : Pa} (h : rightP p = true) : wordsF p = (wordsP p, 0) := by
  obtain ⟨_, _, _, _, _, _, h7⟩ := right_parts h
  unfold wordsF; rw [if_neg (by omega), if_pos h]
theorem readL_words {p : Pa} (hr : rightP p = true) : readL (wordsP p) = (p, 0) := by
  obtain ⟨h1, h2, h3, h4, h5, h6, h7⟩ := right_parts hr
  have hg : readGo Pa.zero (wordsP p) = (p, 0) := by
    unfold wordsP headWs restWs bodyWs
    have e1 := readGo_heads hr ((List.range (nBody p.data)).map (fun k => wordF (bodyFl p.data k)) ++ [wordF (tailFl p.data)]) 0 (by omega) Pa.zero (by simp [Pa.zero]) (by omega) rfl
    rw [Nat.sub_zero, ← List.range_eq_range', if_pos (by omega), if_pos (by omega)] at e1
    rw [e1]
    have e2 := readGo_bodies p [wordF (tailFl p.data)] 0 (by omega) ⟨p.src, p.cast, p.heads, ⟨#[]⟩⟩ (by rw [Nat.mul_zero, ByteArray.extract_same]; rfl)
    rw [Nat.sub_zero, ← List.range_eq_range'] at e2
    rw [e2, readGo_word (tail_right _)]
    have e3 : p.data.extract 0 (6 * nBody p.data) ++ (tailFl p.data).data = p.data := by
      show p.data.extract 0 (6 * nBody p.data) ++ p.data.extract (6 * nBody p.data) p.data.size = p.data
      have : 6 * nBody p.data ≤ p.data.size := by unfold nBody; omega
      rw [ByteArray.extract_append_extract, show min 0 (6 * nBody p.data) = 0 from by omega, show max (6 * nBody p.data) p.data.size = p.data.size from by omega, ByteArray.extract_zero_size]
    unfold readStep
    rw [if_neg (by show ¬ ((3 : Int) = 1); decide)]
    dsimp only
    rw [e3]
    rfl
  unfold readL
  rw [hg]
  dsimp only
  rw [wordsF_right hr, if_pos rfl, if_pos ⟨rfl, rfl⟩]
theorem walk_size (n : Int) (w : World) : Calls Try.prog 86 #[.int .i64 n] w fun e w' => e = .returned (.bool (decide (0 ≤ n ∧ n ≤ 64))) ∧ ∃ k, w' = w.drewN k := by
  by_cases h0 : 0 ≤ n
  · by_cases h1 : n ≤ 64
    · go_enter Try.func86, Try.ntmps86
      go_wp2
      go_ret
      exact ⟨ret_bool (by simp; omega), by first | exact ⟨0, rfl⟩ | exact drew_close1⟩
    · go_enter Try.func86, Try.ntmps86
      go_wp2
      go_ret
      exact ⟨ret_bool (by simp; omega), by first | exact ⟨0, rfl⟩ | exact drew_close1⟩
  · go_enter Try.func86, Try.ntmps86
    go_wp2
    go_ret
    exact ⟨ret_bool (by simp; omega), by first | exact ⟨0, rfl⟩ | exact drew_close1⟩
theorem walk_words (p : Pa) (hr : rightP p = true) (w : World) : Calls Try.prog 52 #[.int .i64 (p.heads.length : Int), .int .i64 (p.data.size : Int)] w fun e w' => e = .returned (.int .i64 ((wordsP p).length : Int)) ∧ ∃ k, w' = w.drewN k := by
  obtain ⟨h1, h2, h3, h4, h5, h6, h7⟩ := right_parts hr
  have hS := fun w => walk_size (p.data.size : Int) w
  rw [decide_eq_true (show (0 : Int) ≤ (p.data.size : Int) ∧ (p.data.size : Int) ≤ 64 by omega)] at hS
  have HS := Lib.hid hS
  have hlen : ((wordsP p).length : Int) = (p.heads.length : Int) + max 1 (((p.data.size : Int) + 6 - 1).tdiv 6) := by
    rw [wordsP_len, Int.tdiv_eq_ediv_of_nonneg (by omega)]; unfold nBody; omega
  have HLN := Lib.hid hlen
  clear hS hlen
  have hh : ¬ ((p.heads.length : Int) < 1) := by omega
  have hh2 : (p.heads.length : Int) ≤ 4096 := by omega
  have hd : (p.data.size : Int) ≤ 64 := by omega
  go_enter Try.func52, Try.ntmps52
  go_wp2_with (go_at_call 86; ((with_reducible refine (HS.out _).mono ?_); rintro e w1 ⟨rfl, k, rfl⟩))
  go_ret
  refine ⟨ret_int ?_, drew_close1⟩
  rw [HLN.out, Int.tdiv_eq_ediv_of_nonneg (by omega)]
def p10 : Pa := ⟨1, false, [⟨2, 3⟩], ⟨#[97, 98, 99, 100, 101, 102, 103]⟩⟩
theorem p10_right : rightP p10 = true := by decide
theorem p10_words : wordsP p10 = [wordF (headFl p10 0), wordF (bodyFl p10.data 0), wordF (tailFl p10.data)] := rfl
set_option maxRecDepth 100000 in
set_option maxHeartbeats 2000000 in
theorem lives10_calls (w : World) : Calls Try.prog 36 #[] w fun e w' => e = .returned (.bool true) ∧ Below w.heap.size w w' := by
  have hr : rightF (headFl p10 0) = true := head_right p10_right (by decide)
  have hb : rightF (bodyFl p10.data 0) = true := body_right (by decide)
  have ht := tail_right p10.data
  have hW : ∀ w' a c, CellsOff w' a (flatT p10.heads) [] → Calls Try.prog 44 #[.agg #[.int .i64 1, .bool false, .slice a 1 c, .string ⟨#[97, 98, 99, 100, 101, 102, 103]⟩]] w' fun e w'' => ∃ v, e = .returned (.tuple #[v, .int .i64 0]) ∧ w''.ownsRow w'.heap.size 33 1 v 3 ((wordsP p10).map UV) ∧ Below w'.heap.size w' w'' := fun w' a c h => cut_words p10 a c w' h p10_right
  have hR : ∀ w' a c, CellsOff w' a ((wordsP p10).map UV) [] → Calls Try.prog 39 #[.slice a 3 c] w' fun e w'' => ∃ v, e = .returned (.tuple #[.agg #[.int .i64 1, .bool false, v, .string ⟨#[97, 98, 99, 100, 101, 102, 103]⟩], .int .i64 0]) ∧ w''.ownsRow w'.heap.size 92 2 v 1 [.int .i64 2, .int .i64 3] ∧ Below w'.heap.size w' w'' := fun w' a c h => by
    have := cut_read (wordsP p10) a c w' (by decide) (fun x hx => words_lt p10 x hx) h
    rw [readL_words p10_right] at this
    exact this
  have hk0 := fun w => flit_kind (wordF (headFl p10 0)) (wordF_lt _) w
  have hk1 := fun w => flit_kind (wordF (bodyFl p10.data 0)) (wordF_lt _) w
  have hk2 := fun w => flit_kind (wordF (tailFl p10.data)) (wordF_lt _) w
  rw [word_kind hr, show (headFl p10 0).kind = 1 from rfl] at hk0
  rw [word_kind hb, show (bodyFl p10.data 0).kind = 2 from rfl] at hk1
  rw [word_kind ht, show (tailFl p10.data).kind = 3 from rfl] at hk2
  have hT : flatT p10.heads = [.int .i64 2, .int .i64 3] := rfl
  rw [hT] at hW
  rw [p10_words] at hW hR
  generalize wordF (headFl p10 0) = x0 at *
  generalize wordF (bodyFl p10.data 0) = x1 at *
  generalize wordF (tailFl p10.data) = x2 at *
  have HW := Lib.hid hW
  have HR := Lib.hid hR
  have HK0 := Lib.hid hk0
  have HK1 := Lib.hid hk1
  have HK2 := Lib.hid hk2
  clear hr hb ht hW hR hk0 hk1 hk2 hT
  go_enter Try.func36, Try.ntmps36
  go_wp2_with (first
    | (go_at_call 44; ((with_reducible refine (HW.out _ _ _ (by obtain ⟨_, _, he, -, -, h⟩ := CellsOff.own (owns_lit (base := w.heap.size) (e := 92) 2 [.int .i64 2, .int .i64 3] (n := 1) (Nat.le_refl _) (alloc_new (w := w) _) rfl (by decide)) [] (by simp); simp only [Value.slice.injEq] at he; obtain ⟨rfl, -, -⟩ := he; exact h)).mono ?_); rintro e w1 ⟨v1, rfl, hown1, hb1⟩; obtain ⟨p1, q1, rfl, -, -, hc1⟩ := CellsOff.own hown1 [] (by simp); have HC1 := Lib.hid hc1; have HB1 := Lib.hid hb1; clear hown1 hb1 hc1))
    | (go_at_call 39; ((with_reducible refine (HR.out _ _ _ HC1.out).mono ?_); rintro e w2 ⟨v2, rfl, hown2, hb2⟩; have hc12 := HC1.out.below hb2; obtain ⟨p2, q2, rfl, -, -, hc2⟩ := CellsOff.own hown2 [] (by simp); obtain ⟨blk, off, rfl, -, c0⟩ := hc2 0 (.int .i64 2) rfl; obtain ⟨blk1, off1, rfl, hn1, d0⟩ := hc12 0 (UV x0) rfl; have d1 := hc12.cell 1 (UV x1) rfl; have d2 := hc12.cell 2 (UV x2) rfl; have hl1 := World.block_lt_of_cell? w2 _ d0; have hl2 := World.block_lt_of_cell? w2 _ c0; simp only [Nat.add_zero] at c0 d0; unfold UV at d0 d1 d2; have HB2 := Lib.hid hb2; clear hown2 hb2 hc2 hc12))
    | (go_at_call 70; first | ((with_reducible refine (HK0.out _).mono ?_); rintro e w' ⟨rfl, k0, rfl⟩) | ((with_reducible refine (HK1.out _).mono ?_); rintro e w' ⟨rfl, k1, rfl⟩) | ((with_reducible refine (HK2.out _).mono ?_); rintro e w' ⟨rfl, k2, rfl⟩)))
  go_ret
  have h1 : Below w.heap.size w w1 := ((Below.refl _ _).alloc (Nat.le_refl _) _).trans (HB1.out.mono (by simp))
  have h2 : Below w.heap.size w w2 := h1.trans (HB2.out.mono h1.size)
  have hs2 := h2.size
  exact ⟨rfl, by repeat' (first | (with_reducible assumption) | (with_reducible refine below_setRowN ?_ ?_ _) | (with_reducible refine Below.setCell ?_ ?_ _) | (with_reducible refine below_drewN' ?_ _) | (with_reducible refine Below.drew ?_) | (with_reducible refine Below.alloc ?_ ?_ _) | (with_reducible exact Below.refl _ _) | (with_reducible exact Nat.le_refl _) | (simp; done) | omega | (simp; omega))⟩
end Go.Proofs.Ytmehfflomgldeab
