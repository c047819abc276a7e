/- The walk of LaneTwo. -/
import Derived.Test.YtpklblaenfhncaaLaneD
namespace Go.Proofs.Ytpklblaenfhncaa
set_option linter.unusedVariables false
set_option linter.unusedSimpArgs false
open Go.RowKit BM
/-- A port of the four. -/
theorem port_mod (x : Int) : ∃ L : Nat, 1 + wrap64 ((IntKind.u64.wrap x).tmod 4) = (L : Int) ∧ 1 ≤ L ∧ L ≤ 4 := by
  have h : IntKind.u64.wrap x = x % 18446744073709551616 := by simp [IntKind.wrap, IntKind.bits, IntKind.signed]
  refine ⟨(1 + wrap64 ((IntKind.u64.wrap x).tmod 4)).toNat, ?_⟩
  rw [h, Int.tmod_eq_emod_of_nonneg (by omega)]
  unfold wrap64
  omega
theorem cells_own {w : World} {base : Nat} {e : TypeId} {size : Nat} {a : Option Addr} {n c : Nat} {xs : List Value} (h : w.ownsRow base e size (.slice a n c) n xs) : CellsOff w a xs [] := by
  obtain ⟨_, _, he, -, -, hc⟩ := CellsOff.own h [] (by simp)
  simp only [Value.slice.injEq, true_and] at he
  obtain ⟨rfl, rfl⟩ := he
  exact hc
/-- A slice of words that lies off the blocks of a lane: its cells, one by one. -/
theorem uv_at {w : World} {blk : Nat} {off : Nat} {l : List Nat} {S : List Nat} (h : CellsOff w (some ⟨blk, off, none⟩) (l.map UV) S) {i : Nat} (hi : i < l.length) : w.cell? ⟨blk, off + i, none⟩ = some (.int .u64 ((l.getD i 0 : Nat) : Int)) :=
  h.cell i _ (by rw [List.getElem?_map, List.getElem?_eq_getElem hi, List.getD_eq_getElem?_getD, List.getElem?_eq_getElem hi]; rfl)
theorem uv_ptr {w : World} {a : Option Addr} {l : List Nat} {S : List Nat} (h : CellsOff w a (l.map UV) S) (hl : 0 < l.length) : ∃ blk off, a = some ⟨blk, off, none⟩ ∧ blk ∉ S ∧ blk < w.heap.size := by
  obtain ⟨blk, off, e, hn, hc⟩ := h 0 (UV (l.getD 0 0)) (by rw [List.getElem?_map, List.getElem?_eq_getElem hl, List.getD_eq_getElem?_getD, List.getElem?_eq_getElem hl]; rfl)
  exact ⟨blk, off, e, hn, World.block_lt_of_cell? w _ hc⟩
theorem take_snocN {l : List Nat} {m : Nat} (h : m < l.length) : l.take (m + 1) = l.take m ++ [l.getD m 0] := by
  rw [List.take_succ_eq_append_getElem h, List.getD_eq_getElem?_getD, List.getElem?_eq_getElem h]; rfl
/-- The lane while the words go in. -/
def inS (W : List Nat) (m : Nat) : LN := ⟨64, W.take m, 0, 0, 0, false⟩
theorem in_put (W : List Nat) {m : Nat} (h : m < W.length) (hl : W.length ≤ 64) : (inS W m).put (W.getD m 0) = (inS W (m + 1), 0) := by
  unfold LN.put inS
  have e : (W.take m).length ≠ 64 := by rw [List.length_take]; omega
  rw [if_neg e, take_snocN h]

section
variable (p : Nat → Pa)
def wsI (i : Nat) : List Nat := wordsP (p i)
def allV : List Nat := wsI p 0 ++ wsI p 1
def baseI (i : Nat) : Nat := if i = 0 then 0 else if i = 1 then (wsI p 0).length else (allV p).length
def midS (i : Nat) : LN := ⟨64, (allV p).drop (baseI p i), 0, 0, 0, false⟩
def outI (port : Int) (i k : Nat) : LN := if k < (wsI p i).length then ⟨64, (allV p).drop (baseI p i + k), 2, port, (i : Int), false⟩ else midS p (i + 1)
end
variable {p : Nat → Pa}
theorem base_next {i : Nat} (hi : i < 2) : baseI p i + (wsI p i).length = baseI p (i + 1) := by
  have : i = 0 ∨ i = 1 := by omega
  rcases this with rfl | rfl
  · unfold baseI; simp
  · unfold baseI allV; simp
theorem base_lt {i : Nat} (hi : i < 2) {k : Nat} (hk : k < (wsI p i).length) : baseI p i + k < (allV p).length := by
  have hl : (allV p).length = (wsI p 0).length + (wsI p 1).length := by unfold allV; rw [List.length_append]
  have : i = 0 ∨ i = 1 := by omega
  rcases this with rfl | rfl
  · rw [hl]; unfold baseI; simp; omega
  · rw [hl]; unfold baseI; simp; omega
theorem allV_at {i : Nat} (hi : i < 2) {k : Nat} (hk : k < (wsI p i).length) : (allV p).getD (baseI p i + k) 0 = (wsI p i).getD k 0 := by
  have : i = 0 ∨ i = 1 := by omega
  rcases this with rfl | rfl
  · unfold baseI allV
    rw [if_pos rfl, Nat.zero_add, List.getD_eq_getElem?_getD, List.getElem?_append_left hk, ← List.getD_eq_getElem?_getD]
  · unfold baseI allV
    rw [if_neg (by decide), if_pos rfl, List.getD_eq_getElem?_getD, List.getElem?_append_right (by omega), Nat.add_sub_cancel_left, ← List.getD_eq_getElem?_getD]
theorem two_put (hl : (allV p).length ≤ 64) {i : Nat} (hi : i < 2) {k : Nat} (hk : k < (wsI p i).length) : (inS (allV p) (baseI p i + k)).put ((wsI p i).getD k 0) = (inS (allV p) (baseI p i + (k + 1)), 0) := by
  rw [← allV_at hi hk, in_put _ (base_lt hi hk) hl, Nat.add_assoc]
theorem ws_pos (i : Nat) : 0 < (wsI p i).length := wordsP_pos _
theorem two_find (hr : ∀ i, i < 2 → rightP (p i) = true) {i : Nat} (hi : i < 2) (port : Int) (h1 : 1 ≤ port) (h4 : port ≤ 4) : (midS p i).find (-1) port = (⟨64, (allV p).drop (baseI p i), 1, port, 0, false⟩, true) := by
  obtain ⟨h, _⟩ := right_parts (hr i hi)
  have hh : 0 < (p i).heads.length := by have := right_parts (hr i hi); omega
  have hb := base_lt (p := p) hi (ws_pos i)
  have hv := allV_at (p := p) hi (ws_pos i)
  rw [Nat.add_zero] at hb hv
  obtain ⟨d1, d2, d3⟩ := drop_head (allV p) hb
  unfold midS LN.find
  dsimp only
  rw [if_neg d3, if_neg (by simp), d1, hv]
  have e := head_read (hr i hi) hh
  unfold wsI
  rw [e]
  unfold LN.findF
  have ht := h ((p i).heads.getD 0 T2.zero) (by rw [List.getD_eq_getElem?_getD, List.getElem?_eq_getElem hh]; exact List.getElem_mem hh)
  have hd : (headFl (p i) 0).dst = ((p i).heads.getD 0 T2.zero).node := rfl
  have hk : (headFl (p i) 0).kind = 1 := rfl
  dsimp only
  rw [if_neg (by simp), if_neg (by rw [hk]; simp), if_neg (by rw [hd]; omega), if_neg (by omega), if_neg (by omega)]
theorem two_take (hr : ∀ i, i < 2 → rightP (p i) = true) {i : Nat} (hi : i < 2) (port : Int) (hp : port ≠ 0) {k : Nat} (h : k < (wsI p i).length) :
    (outI p port i k).take = (outI p port i (k + 1), ⟨port, (i : Int), (wsI p i).getD k 0, false, decide (k + 1 = (wsI p i).length)⟩, 0) := by
  have hb := base_lt (p := p) hi h
  have hv := allV_at (p := p) hi h
  obtain ⟨d1, d2, d3⟩ := drop_head (allV p) hb
  have hk := kind_at (hr i hi) (i := k) h
  have hl := wordsP_len (p i)
  have hbn := base_next (p := p) hi
  unfold outI
  rw [if_pos h, take_eq rfl d3]
  dsimp only
  rw [d1, hv]
  unfold LN.takeF LN.outF
  dsimp only
  rw [d2]
  unfold wsI at h hbn ⊢
  rw [hk]
  by_cases h1 : k < (p i).heads.length
  · rw [if_pos h1, if_neg (by decide), if_neg (fun h => hp h.1), if_pos (by omega), Bool.false_and, Bool.and_false, decide_eq_false (show ¬ k + 1 = (wordsP (p i)).length by omega)]; rfl
  · rw [if_neg h1]
    by_cases h2 : k + 1 < (wordsP (p i)).length
    · rw [if_pos h2, if_neg (by decide), if_neg (fun h => hp h.1), if_pos h2, Bool.false_and, Bool.and_false, decide_eq_false (show ¬ k + 1 = (wordsP (p i)).length by omega)]; rfl
    · rw [if_neg h2, if_pos rfl, if_neg h2, decide_eq_true (show k + 1 = (wordsP (p i)).length by omega), Bool.false_and, Bool.and_false]
      unfold midS
      rw [← hbn, show baseI p i + (wordsP (p i)).length = baseI p i + k + 1 by omega]; rfl
set_option maxRecDepth 100000 in
set_option maxHeartbeats 8000000 in
theorem laneTwo_walk (p q : PaM) (x0 x1 : Int) (w : World) (hp : p.Here w) (hq : q.Here w) :
    Calls Try.prog 6 #[.agg #[.int .i64 p.pa.src, .bool p.pa.cast, .slice p.ha p.pa.heads.length p.hc, .string p.pa.data], .agg #[.int .i64 q.pa.src, .bool q.pa.cast, .slice q.ha q.pa.heads.length q.hc, .string q.pa.data], .agg #[.int .i64 x0, .int .i64 x1]] w fun e w' => e = .returned (.bool true) ∧ Below w.heap.size w w' := by
  have hWP := fun w' hb => words14 { p.pa with cast := false } p.ha p.hc w' (hp.below (w' := w') hb).1 hp.2.1 hp.2.2
  have hWQ := fun w' hb => words14 { q.pa with cast := false } q.ha q.hc w' (hq.below (w' := w') hb).1 hq.2.1 hq.2.2
  obtain ⟨pp, hpp⟩ : ∃ pp : Nat → Pa, pp = fun i => if i = 0 then oneP p.pa else oneP q.pa := ⟨_, rfl⟩
  have hr : ∀ i, i < 2 → rightP (pp i) = true := fun i _ => by rw [hpp]; dsimp only; split <;> exact oneP_right _
  have e0 : wordsP (goodP { p.pa with cast := false }) = wsI pp 0 := by unfold wsI; rw [hpp]; rfl
  have e1 : wordsP (goodP { q.pa with cast := false }) = wsI pp 1 := by unfold wsI; rw [hpp]; rfl
  have hl0 : (wsI pp 0).length ≤ 20 := by rw [← e0]; exact good_words _
  have hl1 : (wsI pp 1).length ≤ 20 := by rw [← e1]; exact good_words _
  have hvl : (allV pp).length ≤ 64 := by unfold allV; rw [List.length_append]; omega
  rw [e0] at hWP
  rw [e1] at hWQ
  obtain ⟨P0, hP0, hP01, hP04⟩ := port_mod x0
  obtain ⟨P1, hP1, hP11, hP14⟩ := port_mod x1
  obtain ⟨Pt, hPt⟩ : ∃ Pt : Nat → Nat, Pt = fun i => if i = 0 then P0 else P1 := ⟨_, rfl⟩
  obtain ⟨Xs, hXs⟩ : ∃ Xs : Nat → Int, Xs = fun i => if i = 0 then x0 else x1 := ⟨_, rfl⟩
  have hPr : ∀ i, 1 ≤ Pt i ∧ Pt i ≤ 4 := fun i => by rw [hPt]; dsimp only; split <;> omega
  have HPX : Hid (∀ i, i < 2 → 1 + wrap64 ((IntKind.u64.wrap (Xs i)).tmod 4) = (Pt i : Int)) := fun i hi => by
    rw [hPt, hXs]; dsimp only
    split
    · exact hP0
    · exact hP1
  have HX0 : Hid (∀ i, i < 2 → (#[Value.int .i64 x0, .int .i64 x1] : Array Value)[i]? = some (.int .i64 (Xs i))) := fun i hi => by
    have : i = 0 ∨ i = 1 := by omega
    rw [hXs]
    rcases this with rfl | rfl <;> rfl
  have hput := fun i (hi : i < 2) k (hk : k < (wsI pp i).length) => two_put hvl hi hk
  have hfi := fun i (hi : i < 2) => two_find hr hi (Pt i : Int) (by have := hPr i; omega) (by have := hPr i; omega)
  have hta := fun i (hi : i < 2) k (hk : k < (wsI pp i).length) => two_take hr hi (Pt i : Int) (by have := hPr i; omega) hk
  have hlt := fun i (hi : i < 2) k (hk : k < (wsI pp i).length) => words_lt (pp i) ((wsI pp i).getD k 0) (by rw [List.getD_eq_getElem?_getD, List.getElem?_eq_getElem hk]; exact List.getElem_mem hk)
  have hpos := fun i => ws_pos (p := pp) i
  have hbn := fun i (hi : i < 2) => base_next (p := pp) hi
  have hwl : ∀ i, i < 2 → (wsI pp i).length ≤ 20 := fun i hi => by
    have : i = 0 ∨ i = 1 := by omega
    rcases this with rfl | rfl <;> assumption
  clear hpp hPt hXs e0 e1 hP0 hP1 hP01 hP04 hP11 hP14
  obtain ⟨⟨s1, k1, h1, d1⟩, a1, c1⟩ := p
  obtain ⟨⟨s2, k2, h2, d2⟩, a2, c2⟩ := q
  dsimp only at *
  have HLV := Lib.hid (fun w => lives14_calls w)
  have HBY := Lib.hid (fun (i : Nat) w => by_calls (Pt i : Int) w)
  have HWP := Lib.hid hWP
  have HWQ := Lib.hid hWQ
  have hin0 : inS (allV pp) (baseI pp 0) = LN.new 64 := by unfold inS baseI; rw [if_pos rfl, List.take_zero]; rfl
  have K0 : Hid (∀ w, Calls Try.prog 11 #[.int .i64 64] w fun e w' => ∃ b B, e = .returned (.pointer (some ⟨b, 0, none⟩)) ∧ LaneAt w' b B (inS (allV pp) (baseI pp 0)) ∧ (∀ k ∈ B, w.heap.size ≤ k) ∧ Below w.heap.size w w') := fun w => by rw [hin0]; exact lane_new 64 w
  have K1 : Hid (∀ i, i < 2 → ∀ k, k < (wsI pp i).length → ∀ w b B, LaneAt w b B (inS (allV pp) (baseI pp i + k)) → Calls Try.prog 14 #[.pointer (some ⟨b, 0, none⟩), .int .u64 (((wsI pp i).getD k 0 : Nat) : Int)] w fun e w' => e = .returned (.int .i64 0) ∧ LaneAt w' b B (inS (allV pp) (baseI pp i + (k + 1))) ∧ Only B w w') := fun i hi k hk w b B h => by
    have := lane_put ((wsI pp i).getD k 0) (hlt i hi k hk) w b B _ h
    rw [hput i hi k hk] at this
    exact this
  have K3 : Hid (∀ i, i < 2 → ∀ w b B pb, LaneAt w b B (midS pp i) → w.heap[pb]? = some (.cells #[.int .i64 (Pt i : Int)] 3 (0, 0)) → Calls Try.prog 12 #[.pointer (some ⟨b, 0, none⟩), .int .i64 (-1), .func (.func 43) #[] #[.pointer (some ⟨pb, 0, none⟩)]] w fun e w' => e = .returned (.bool true) ∧ LaneAt w' b B ⟨64, (allV pp).drop (baseI pp i), 1, Pt i, 0, false⟩ ∧ Only B w w') := fun i hi w b B pb h hp => by
    have := lane_find w b B _ (-1) (Pt i) _ h (fun _ => ⟨pb, rfl, hp⟩)
    rw [hfi i hi] at this
    exact this
  have K6 : Hid (∀ i, i < 2 → ∀ w b B, LaneAt w b B ⟨64, (allV pp).drop (baseI pp i), 1, Pt i, 0, false⟩ → Calls Try.prog 20 #[.pointer (some ⟨b, 0, none⟩), .int .i64 (i : Int)] w fun e w' => e = .returned (.bool true) ∧ LaneAt w' b B (outI pp (Pt i) i 0) ∧ Only B w w') := fun i hi w b B h => by
    have := lane_give w b B _ (i : Int) h
    have e : outI pp (Pt i) i 0 = ⟨64, (allV pp).drop (baseI pp i), 2, Pt i, (i : Int), false⟩ := by unfold outI; rw [if_pos (hpos i), Nat.add_zero]
    rw [e]
    exact this
  have K7 : Hid (∀ i, i < 2 → ∀ k, k < (wsI pp i).length → ∀ w b B, LaneAt w b B (outI pp (Pt i) i k) → Calls Try.prog 16 #[.pointer (some ⟨b, 0, none⟩)] w fun e w' => e = .returned (.tuple #[.agg #[.int .i64 (Pt i : Int), .int .i64 (i : Int), .int .u64 (((wsI pp i).getD k 0 : Nat) : Int), .bool false, .bool (decide (k + 1 = (wsI pp i).length))], .int .i64 0]) ∧ LaneAt w' b B (outI pp (Pt i) i (k + 1)) ∧ Only B w w') := fun i hi k hk w b B h => by
    have := lane_take w b B _ h
    rw [hta i hi k hk] at this
    exact this
  have K8 : Hid (∀ i, i < 2 → ∀ w b B, LaneAt w b B (outI pp (Pt i) i 0) → Calls Try.prog 22 #[.pointer (some ⟨b, 0, none⟩)] w fun e w' => e = .returned (.int .i64 (Pt i : Int)) ∧ ∃ k, w' = w.drewN k) := fun i hi w b B h => by
    have := lane_port w b B _ h
    have e : (outI pp (Pt i) i 0).pt = Pt i := by unfold outI; rw [if_pos (hpos i)]
    rw [e] at this
    exact this
  have K9 : Hid (∀ i, i < 2 → ∀ w b B, LaneAt w b B (outI pp (Pt i) i 0) → Calls Try.prog 25 #[.pointer (some ⟨b, 0, none⟩)] w fun e w' => e = .returned (.int .i64 (i : Int)) ∧ ∃ k, w' = w.drewN k) := fun i hi w b B h => by
    have := lane_given w b B _ h
    have e : (outI pp (Pt i) i 0).ln = i := by unfold outI; rw [if_pos (hpos i)]
    rw [e] at this
    exact this
  have K10 : Hid (∀ i w b B, LaneAt w b B (midS pp i) → Calls Try.prog 17 #[.pointer (some ⟨b, 0, none⟩)] w fun e w' => e = .returned (.int .i64 0) ∧ ∃ k, w' = w.drewN k) := fun i w b B h => lane_phase w b B _ h
  have K11 : Hid (∀ w b B, LaneAt w b B (midS pp 2) → Calls Try.prog 18 #[.pointer (some ⟨b, 0, none⟩)] w fun e w' => e = .returned (.int .i64 0) ∧ ∃ k, w' = w.drewN k) := fun w b B h => by
    have := lane_len w b B _ h
    have e : (midS pp 2).q.length = 0 := by unfold midS baseI; simp
    rw [e] at this
    exact this
  have HBN := Lib.hid hbn
  have HPOS := Lib.hid hpos
  have HWL := Lib.hid hwl
  have HME : Hid (LN.mk 64 ((allV pp).drop (baseI pp 0)) 0 0 0 false = inS (allV pp) (baseI pp 2)) := by
    unfold Hid inS baseI; rw [if_pos rfl, if_neg (by decide), if_neg (by decide), List.drop_zero, List.take_length]
  have HOE : Hid (∀ i, outI pp (Pt i) i (wsI pp i).length = midS pp (i + 1)) := fun i => by unfold outI; rw [if_neg (by omega)]
  clear hWP hWQ hr hput hfi hta hlt hpos hbn hp hq hin0 hl0 hl1 hwl
  go_enter Try.func6, Try.ntmps6
  go_upto_region 5 with (first
    | (go_at_call 10; ((with_reducible refine (HLV.out _).mono ?_); rintro e w1 ⟨rfl, hb1⟩; have hX1 := Below.at hb1 (alloc_old (alloc_old (alloc_new _) _) _) (by first | (simp; done) | omega | (simp; omega)); have hY1 := Below.at hb1 (alloc_old (alloc_at _ (w.heap.size + 1) (by first | (simp; done) | omega | (simp; omega))) _) (by first | (simp; done) | omega | (simp; omega)); have hZ1 := Below.at hb1 (alloc_at _ (w.heap.size + 1 + 1) (by first | (simp; done) | omega | (simp; omega))) (by first | (simp; done) | omega | (simp; omega)); have f1 := fun j => cell_at hX1 j; have g1 := fun j => cell_at hY1 j; have u1 := fun j => frozen_at hX1 j; have u2 := fun j => frozen_at hY1 j; have hB1 : Below w.heap.size w w1 := Below.trans (by repeat' (first | (with_reducible assumption) | (with_reducible refine below_setRowN ?_ ?_ _) | (with_reducible refine Below.setCell ?_ ?_ _) | (with_reducible refine below_drewN' ?_ _) | (with_reducible refine Below.drew ?_) | (with_reducible refine Below.alloc ?_ ?_ _) | (with_reducible exact Below.refl _ _) | (with_reducible exact Nat.le_refl _) | (simp; done) | omega | (simp; omega))) (hb1.mono (by first | (simp; done) | omega | (simp; omega))); have HX1 := Lib.hid hX1; have HY1 := Lib.hid hY1; have HZ1 := Lib.hid hZ1; have HB1 := Lib.hid hB1; clear hb1 hX1 hY1 hZ1 hB1)))
  have hW5 : ∃ w5 : World, w5 = (w1.setCell ⟨w.heap.size, 1, none⟩ (.bool false)).setCell ⟨w.heap.size + 1, 1, none⟩ (.bool false) := ⟨_, rfl⟩
  obtain ⟨w5, hw5⟩ := hW5
  have hX5 : w5.heap[w.heap.size]? = some (.cells #[.int .i64 s1, .bool false, .slice a1 h1.length c1, .string d1] 43 (0, 0)) := by rw [hw5]; exact set_other (set_at HX1.out _ _) (by omega) _ _
  have hY5 : w5.heap[w.heap.size + 1]? = some (.cells #[.int .i64 s2, .bool false, .slice a2 h2.length c2, .string d2] 43 (0, 0)) := by rw [hw5]; exact set_at (set_other HY1.out (by omega) _ _) _ _
  have hZ5 : w5.heap[w.heap.size + 1 + 1]? = some (.cells #[.int .i64 x0, .int .i64 x1] 53 (0, 0)) := by rw [hw5]; exact set_other (set_other HZ1.out (by omega) _ _) (by omega) _ _
  have hB5 : Below w.heap.size w w5 := by rw [hw5]; exact Below.setCell (Below.setCell HB1.out (p := ⟨_, _, _⟩) (Nat.le_refl _) _) (p := ⟨_, _, _⟩) (by simp) _
  rw [← hw5]
  have HX : Hid (∀ w', Below w5.heap.size w5 w' → (∀ j, w'.cell? ⟨w.heap.size, j, none⟩ = (#[.int .i64 s1, .bool false, .slice a1 h1.length c1, .string d1] : Array Value)[j]?) ∧ (∀ j, w'.cell? ⟨w.heap.size + 1, j, none⟩ = (#[.int .i64 s2, .bool false, .slice a2 h2.length c2, .string d2] : Array Value)[j]?)) := fun w' hb => ⟨fun j => cell_at (Below.at hb hX5 (block_lt hX5)) j, fun j => cell_at (Below.at hb hY5 (block_lt hY5)) j⟩
  have HZ5 := Lib.hid hZ5
  have HB5 := Lib.hid hB5
  clear f1 g1 u1 u2 HX1 HY1 HZ1 HB1 hX5 hY5 hZ5 hB5 hw5
  go_cut [7] (fun v7 wx => ∃ (pa : Nat) (bk of' cp : Nat → Nat), v7 = .slice (some ⟨pa, 0, none⟩) 2 2 ∧ (∀ i, i < 2 → wx.cell? ⟨pa, i, none⟩ = some (.slice (some ⟨bk i, of' i, none⟩) (wsI pp i).length (cp i)) ∧ CellsOff wx (some ⟨bk i, of' i, none⟩) ((wsI pp i).map UV) []) ∧ Below w5.heap.size w5 wx)
  case first =>
    refine wp_region_held_drew (S := (fun w' => (∀ j, w'.cell? ⟨w.heap.size, j, none⟩ = (#[.int .i64 s1, .bool false, .slice a1 h1.length c1, .string d1] : Array Value)[j]?) ∧ (∀ j, w'.cell? ⟨w.heap.size + 1, j, none⟩ = (#[.int .i64 s2, .bool false, .slice a2 h2.length c2, .string d2] : Array Value)[j]?))) (by kernel_rfl) ?_ (fun hHeld0 => ?_)
    · (try dsimp only); exact HX.out _ (by with_reducible repeat' (first | exact Below.refl _ _ | assumption | refine below_drewN' ?_ _ | refine Below.drew ?_ | refine Below.alloc ?_ ?_ _ | (simp; done) | omega | (simp; omega)))
    refine wpAnyH_take (i := 0) (v := ?_) rfl (by kernel_rfl) (by kernel_rfl) (by kernel_rfl) (fun _ _ _ h => h) (Or.inl ⟨by rfl, ?_⟩) (by assumption) ?_
    rotate_left
    · (intro w hSw; (try dsimp only at hSw); go_simp; try with_reducible rfl)
    (try simp only [Act.put, List.setIfInBounds_toArray, List.set_cons_zero, List.set_cons_succ, List.getElem_toArray, List.getElem_cons_zero, List.getElem_cons_succ])
    refine wpAnyH_take (i := 2) (v := ?_) rfl (by kernel_rfl) (by kernel_rfl) (by kernel_rfl) (fun _ _ _ h => h) (Or.inl ⟨by rfl, ?_⟩) (by assumption) ?_
    rotate_left
    · (intro w hSw; (try dsimp only at hSw); go_simp; try with_reducible rfl)
    (try simp only [Act.put, List.setIfInBounds_toArray, List.set_cons_zero, List.set_cons_succ, List.getElem_toArray, List.getElem_cons_zero, List.getElem_cons_succ])
    refine wpAnyH_ready (rs := [1]) (by kernel_rfl) (by simp) ?_
    refine AllReadyH.cons rfl (fun K hK => ?_) ?_
    · (go_simp; go_at_call 19; (with_reducible refine (HWP.out _ (HB5.out.trans (Below.mono (B := w5.heap.size) (by with_reducible repeat' (first | exact Below.refl _ _ | assumption | refine below_drewN' ?_ _ | refine Below.drew ?_ | refine Below.alloc ?_ ?_ _ | (simp; done) | omega | (simp; omega))) HB5.out.size))).mono ?_); rintro e w6 ⟨v6, rfl, hown6, hb6⟩; obtain ⟨p6, q6, rfl, -, -, hc6⟩ := CellsOff.own hown6 [] (by simp); have hcur6 : Below w5.heap.size w5 w6 := (Below.trans (by with_reducible repeat' (first | exact Below.refl _ _ | assumption | refine below_drewN' ?_ _ | refine Below.drew ?_ | refine Below.alloc ?_ ?_ _ | (simp; done) | omega | (simp; omega))) (hb6.mono (by first | (simp; done) | omega | (simp; omega)))); have hcs6 := hcur6.size; have hcs6b := hb6.size; (try simp at hcs6b); have HC6 := Lib.hid hc6; clear hown6 hc6)
      refine hK.out _ _ ?_ (fun hHeld1 => ?_)
      · (try dsimp only); exact HX.out _ (by with_reducible repeat' (first | exact Below.refl _ _ | assumption | refine below_drewN' ?_ _ | refine Below.drew ?_ | refine Below.alloc ?_ ?_ _ | (simp; done) | omega | (simp; omega)))
      clear hK K hHeld0
      (try simp only [Act.put, List.setIfInBounds_toArray, List.set_cons_zero, List.set_cons_succ, List.getElem_toArray, List.getElem_cons_zero, List.getElem_cons_succ])
      refine wpAnyH_ready (rs := [3]) (by kernel_rfl) (by simp) ?_
      refine AllReadyH.cons rfl (fun K hK => ?_) ?_
      · (go_simp; go_at_call 19; (with_reducible refine (HWQ.out _ (HB5.out.trans (Below.mono (B := w5.heap.size) (by with_reducible repeat' (first | exact Below.refl _ _ | assumption | refine below_drewN' ?_ _ | refine Below.drew ?_ | refine Below.alloc ?_ ?_ _ | (simp; done) | omega | (simp; omega))) HB5.out.size))).mono ?_); rintro e w7 ⟨v7, rfl, hown7, hb7⟩; obtain ⟨p7, q7, rfl, -, -, hc7⟩ := CellsOff.own hown7 [] (by simp); have hcur7 : Below w5.heap.size w5 w7 := (Below.trans (by with_reducible repeat' (first | exact Below.refl _ _ | assumption | refine below_drewN' ?_ _ | refine Below.drew ?_ | refine Below.alloc ?_ ?_ _ | (simp; done) | omega | (simp; omega))) (hb7.mono (by first | (simp; done) | omega | (simp; omega)))); have hcs7 := hcur7.size; have hcs7b := hb7.size; (try simp at hcs7b); have HC7 := Lib.hid hc7; clear hown7 hc7)
        refine hK.out _ _ ?_ (fun hHeld2 => ?_)
        · (try dsimp only); exact HX.out _ (by with_reducible repeat' (first | exact Below.refl _ _ | assumption | refine below_drewN' ?_ _ | refine Below.drew ?_ | refine Below.alloc ?_ ?_ _ | (simp; done) | omega | (simp; omega)))
        clear hK K hHeld1
        (try simp only [Act.put, List.setIfInBounds_toArray, List.set_cons_zero, List.set_cons_succ, List.getElem_toArray, List.getElem_cons_zero, List.getElem_cons_succ])
        refine wpAnyH_ready (rs := [4]) (by kernel_rfl) (by simp) ?_
        refine AllReadyH.cons rfl (fun K hK => ?_) ?_
        · go_simp
          refine hK.out _ _ ?_ (fun hHeld3 => ?_)
          · (try dsimp only); exact HX.out _ (by with_reducible repeat' (first | exact Below.refl _ _ | assumption | refine below_drewN' ?_ _ | refine Below.drew ?_ | refine Below.alloc ?_ ?_ _ | (simp; done) | omega | (simp; omega)))
          clear hK K hHeld2
          (try simp only [Act.put, List.setIfInBounds_toArray, List.set_cons_zero, List.set_cons_succ, List.getElem_toArray, List.getElem_cons_zero, List.getElem_cons_succ])
          refine wpAnyH_take (i := 5) (v := ?_) rfl (by kernel_rfl) (by kernel_rfl) (by kernel_rfl) (fun _ _ _ h => h) (Or.inl ⟨by rfl, ?_⟩) (by assumption) ?_
          rotate_left
          · (intro w hSw; (try dsimp only at hSw); go_simp; try with_reducible rfl)
          (try simp only [Act.put, List.setIfInBounds_toArray, List.set_cons_zero, List.set_cons_succ, List.getElem_toArray, List.getElem_cons_zero, List.getElem_cons_succ])
          refine wpAnyH_done (by kernel_rfl) ?_ _
          go_wp2
          go_meet
          obtain ⟨b6, o6, rfl, -, -⟩ := uv_ptr HC6.out (HPOS.out 0)
          obtain ⟨b7, o7, rfl, -, -⟩ := uv_ptr HC7.out (HPOS.out 1)
          have h78 : Below w7.heap.size w7 (w7.alloc (.cells #[.slice (some ⟨b6, o6, none⟩) (wsI pp 0).length q6, .slice (some ⟨b7, o7, none⟩) (wsI pp 1).length q7] 44)) := (Below.refl _ _).alloc (Nat.le_refl _) _
          refine ⟨_, fun i => if i = 0 then b6 else b7, fun i => if i = 0 then o6 else o7, fun i => if i = 0 then q6 else q7, rfl, fun i hi => ?_, by with_reducible repeat' (first | exact Below.refl _ _ | assumption | refine below_drewN' ?_ _ | refine Below.drew ?_ | refine Below.alloc ?_ ?_ _ | (simp; done) | omega | (simp; omega))⟩
          have hi' : i = 0 ∨ i = 1 := by omega
          rcases hi' with rfl | rfl
          · exact ⟨cell_at (alloc_new _) 0, (HC6.out.below hb7).below h78⟩
          · exact ⟨cell_at (alloc_new _) 1, HC7.out.below h78⟩
        exact AllReadyH.nil
      exact AllReadyH.nil
    exact AllReadyH.nil
  case rest =>
  obtain ⟨pa, bk, of', cp, rfl, hcs, hb⟩ := hcut
  obtain ⟨w8, rfl⟩ : ∃ x : World, x = wc := ⟨_, rfl⟩
  have hB8 : Below w.heap.size w w8 := HB5.out.trans (hb.mono HB5.out.size)
  have hZ8 := Below.at hb HZ5.out (block_lt HZ5.out)
  have HCS := Lib.hid hcs
  have HZ8 := Lib.hid hZ8
  have HB8 := Lib.hid hB8
  clear hcs hb hZ8 hB8 HX HZ5 HB5 HWP HWQ
  go_upto_region 7 with (first
    | (go_at_call 11; ((with_reducible refine (K0.out _).mono ?_); rintro e w9 ⟨b, B, rfl, hL9, hF9, hb9⟩; have HL9 := Lib.hid hL9; have HFR := Lib.hid hF9; have HB89 := Lib.hid hb9; clear hL9 hF9 hb9)))
  have HS : Hid (∀ w', Only B w9 w' → (∀ i, i < 2 → w'.cell? ⟨pa, i, none⟩ = some (.slice (some ⟨bk i, of' i, none⟩) (wsI pp i).length (cp i))) ∧ (∀ i, i < 2 → ∀ m, m < (wsI pp i).length → w'.cell? ⟨bk i, of' i + m, none⟩ = some (.int .u64 (((wsI pp i).getD m 0 : Nat) : Int))) ∧ (∀ i, i < 2 → w'.cell? ⟨w.heap.size + 1 + 1, i, none⟩ = some (.int .i64 (Xs i)))) := fun w' ho => by
    have key : ∀ (g o : Nat) v, w8.cell? ⟨g, o, none⟩ = some v → w'.cell? ⟨g, o, none⟩ = some v := fun g o v hc => by
      have hlt := World.block_lt_of_cell? w8 _ hc
      have h9 := (HB89.out.cell (p := ⟨g, o, none⟩) hlt).trans hc
      rw [World.cell?_of_block (w := w9) (ho.block g (World.block_lt_of_cell? w9 _ h9) (fun hm => Nat.lt_irrefl _ (Nat.lt_of_lt_of_le hlt (HFR.out _ hm))))]
      exact h9
    exact ⟨fun i hi => key _ _ _ (HCS.out i hi).1, fun i hi m hm => key _ _ _ (uv_at (HCS.out i hi).2 hm), fun i hi => key _ _ _ ((cell_at HZ8.out i).trans (HX0.out i hi))⟩
  clear HX0 HZ8
  go_wp2
  go_loopw [9] (fun i wr => ∃ m : Nat, m ≤ 2 ∧ i = .int .i64 (m : Int) ∧ LaneAt wr b B (inS (allV pp) (baseI pp m)) ∧ Only B w9 wr) (fun i _ => 2 - (intOf i).toNat)
  case atStart => exact ⟨0, by omega, rfl, by have hLL := HL9.out; (repeat (first | (with_reducible exact hLL) | (with_reducible refine LaneAt.drewN ?_ _) | (with_reducible refine LaneAt.drew ?_) | (with_reducible refine LaneAt.alloc ?_ _))), by first | exact Only.refl _ _ | exact (Only.refl _ _).drewN _⟩
  case round =>
    obtain ⟨i, hi, rfl, hL, hO⟩ := hrel
    by_cases hi2 : i < 2
    · have hiI : (i : Int) < 2 := by omega
      have hw20 := HWL.out i hi2
      go_wp2
      go_loopw [10] (fun i' wr => ∃ k : Nat, k ≤ (wsI pp i).length ∧ i' = .int .i64 (k : Int) ∧ LaneAt wr b B (inS (allV pp) (baseI pp i + k)) ∧ Only B w9 wr) (fun i' _ => (wsI pp i).length - (intOf i').toNat)
      case atStart => exact ⟨0, by omega, rfl, by rw [Nat.add_zero]; have hLL := hL; (repeat (first | (with_reducible exact hLL) | (with_reducible refine LaneAt.drewN ?_ _) | (with_reducible refine LaneAt.drew ?_) | (with_reducible refine LaneAt.alloc ?_ _))), by (first | exact hO | exact Only.drewN hO _)⟩
      case round =>
        clear hL hO
        obtain ⟨k, hk, rfl, hL, hO⟩ := hrel
        obtain ⟨q1, q2, -⟩ := HS.out _ hO
        have c1 := q1 i hi2
        by_cases hkl : k < (wsI pp i).length
        · have hkI : (k : Int) < ((wsI pp i).length : Int) := by omega
          have c2 := q2 i hi2 k hkl
          have HP := Lib.hid (K1.out i hi2 k hkl)
          have HL := Lib.hid hL
          have HO := Lib.hid hO
          clear hL hO q1 q2
          generalize (wsI pp i).getD k 0 = x at *
          go_wp2_with (first | (go_at_call 14; ((with_reducible refine (HP.out _ _ B (by have hLL := HL.out; (repeat (first | (with_reducible exact hLL) | (with_reducible refine LaneAt.drewN ?_ _) | (with_reducible refine LaneAt.drew ?_) | (with_reducible refine LaneAt.alloc ?_ _))))).mono ?_); rintro e w4 ⟨rfl, hL4, hO4⟩; have HL4 := Lib.hid hL4; have HO4 := Lib.hid (Only.trans (by (first | exact HO.out | exact Only.drewN HO.out _)) hO4); clear hL4 hO4)))
          go_roundw
          case rel => exact ⟨k + 1, by omega, by go_num, HL4.out, HO4.out⟩
          case measure => simp [intOf]; omega
        · obtain rfl : k = (wsI pp i).length := by omega
          clear q1 q2 hk hkl
          have HL := Lib.hid hL
          have HO := Lib.hid hO
          clear hL hO
          go_wp2
          go_roundw
          case rel => exact ⟨i + 1, by omega, by go_num, by rw [← HBN.out i hi2]; have hLL := HL.out; (repeat (first | (with_reducible exact hLL) | (with_reducible refine LaneAt.drewN ?_ _) | (with_reducible refine LaneAt.drew ?_) | (with_reducible refine LaneAt.alloc ?_ _))), by (first | exact HO.out | exact Only.drewN HO.out _)⟩
          case measure => simp [intOf]; omega
    · have hie : i = 2 := by omega
      rw [hie] at hL
      have hiN : ¬ ((i : Int) < 2) := by omega
      have HL := Lib.hid hL
      have HO := Lib.hid hO
      clear hL hO hi hi2 hie
      obtain ⟨iz, hiz⟩ : ∃ iz : Int, iz = (i : Int) := ⟨_, rfl⟩
      rw [← hiz] at hiN ⊢
      clear hiz
      go_wp2
      clear hiN
      go_loopw [11] (fun i wr => ∃ m : Nat, m ≤ 2 ∧ i = .int .i64 (m : Int) ∧ LaneAt wr b B (midS pp m) ∧ Only B w9 wr) (fun i _ => 2 - (intOf i).toNat)
      case atStart => exact ⟨0, by omega, rfl, by unfold midS; rw [HME.out]; have hLL := HL.out; (repeat (first | (with_reducible exact hLL) | (with_reducible refine LaneAt.drewN ?_ _) | (with_reducible refine LaneAt.drew ?_) | (with_reducible refine LaneAt.alloc ?_ _))), by (first | exact HO.out | exact Only.drewN HO.out _)⟩
      case round =>
        clear HL HO
        obtain ⟨i, hi, rfl, hL, hO⟩ := hrel
        by_cases hi2 : i < 2
        · have hiI : (i : Int) < 2 := by omega
          have hw20 := HWL.out i hi2
          have hpe := HPX.out i hi2
          have hp1 := (hPr i).1
          have hp4 := (hPr i).2
          obtain ⟨-, -, q3⟩ := HS.out _ hO
          have c3 := q3 i hi2
          have HL := Lib.hid hL
          have HO := Lib.hid hO
          clear hL hO q3
          generalize Xs i = xx at *
          go_upto_region 21 with (first
            | (go_at_call 13; ((with_reducible refine (HBY.out i _).mono ?_); rintro e w5 ⟨pb5, rfl, hp5, hpb5, hb5⟩; have hL5 : LaneAt w5 b B (midS pp i) := LaneAt.below (by have hLL := HL.out; (repeat (first | (with_reducible exact hLL) | (with_reducible refine LaneAt.drewN ?_ _) | (with_reducible refine LaneAt.drew ?_) | (with_reducible refine LaneAt.alloc ?_ _)))) hb5; have hO5 : Only B w9 w5 := Only.trans (by (first | exact HO.out | exact Only.drewN HO.out _)) (Only.ofBelow hb5 B); have HP5 := Lib.hid hp5; have HL5 := Lib.hid hL5; have HO5 := Lib.hid hO5; clear hp5 hb5 hpb5 hL5 hO5))
            | (go_at_call 12; ((with_reducible refine (K3.out i hi2 _ _ B _ HL5.out HP5.out).mono ?_); rintro e w6 ⟨rfl, hL6, hO6⟩; have HL6 := Lib.hid hL6; have HO6 := Lib.hid (HO5.out.trans hO6); clear hL6 hO6))
            | (go_at_call 20; ((with_reducible refine (K6.out i hi2 _ _ B ?_).mono ?_); (have hLL := HL6.out; (repeat (first | (with_reducible exact hLL) | (with_reducible refine LaneAt.drewN ?_ _) | (with_reducible refine LaneAt.drew ?_) | (with_reducible refine LaneAt.alloc ?_ _)))); rintro e w7 ⟨rfl, hL7, hO7⟩; have HL7 := Lib.hid hL7; have HO7 := Lib.hid (Only.trans (by (first | exact HO6.out | exact Only.drewN HO6.out _)) hO7); clear hL7 hO7))
            | (go_at_call 22; ((with_reducible refine (K8.out i hi2 _ _ B (by have hLL := HL7.out; (repeat (first | (with_reducible exact hLL) | (with_reducible refine LaneAt.drewN ?_ _) | (with_reducible refine LaneAt.drew ?_) | (with_reducible refine LaneAt.alloc ?_ _))))).mono ?_); rintro e w' ⟨rfl, k, rfl⟩))
            | (go_at_call 25; ((with_reducible refine (K9.out i hi2 _ _ B (by have hLL := HL7.out; (repeat (first | (with_reducible exact hLL) | (with_reducible refine LaneAt.drewN ?_ _) | (with_reducible refine LaneAt.drew ?_) | (with_reducible refine LaneAt.alloc ?_ _))))).mono ?_); rintro e w' ⟨rfl, k, rfl⟩)))
          go_wp2
          go_loopw [13] (fun i' wr => ∃ k : Nat, k ≤ (wsI pp i).length ∧ i' = .int .i64 (k : Int) ∧ LaneAt wr b B (outI pp (Pt i) i k) ∧ Only B w9 wr) (fun i' _ => (wsI pp i).length - (intOf i').toNat)
          case atStart => exact ⟨0, by omega, rfl, by have hLL := HL7.out; (repeat (first | (with_reducible exact hLL) | (with_reducible refine LaneAt.drewN ?_ _) | (with_reducible refine LaneAt.drew ?_) | (with_reducible refine LaneAt.alloc ?_ _))), by (first | exact HO7.out | exact Only.drewN HO7.out _)⟩
          case round =>
            clear HL HO HL5 HO5 HP5 HL6 HO6 HL7 HO7 c3
            obtain ⟨k, hk, rfl, hL, hO⟩ := hrel
            obtain ⟨q1, q2, -⟩ := HS.out _ hO
            have c1 := q1 i hi2
            by_cases hkl : k < (wsI pp i).length
            · have hkI : (k : Int) < ((wsI pp i).length : Int) := by omega
              have HP := Lib.hid (K7.out i hi2 k hkl)
              have HQ : Hid (∀ w', Only B w9 w' → w'.cell? ⟨pa, i, none⟩ = some (.slice (some ⟨bk i, of' i, none⟩) (wsI pp i).length (cp i)) ∧ w'.cell? ⟨bk i, of' i + k, none⟩ = some (.int .u64 (((wsI pp i).getD k 0 : Nat) : Int))) := fun w' ho => ⟨(HS.out w' ho).1 i hi2, (HS.out w' ho).2.1 i hi2 k hkl⟩
              have HL := Lib.hid hL
              have HO := Lib.hid hO
              clear hL hO q1 q2
              generalize (wsI pp i).getD k 0 = x at *
              go_upto_region 25 with (first | (go_at_call 16; ((with_reducible refine (HP.out _ _ B (by have hLL := HL.out; (repeat (first | (with_reducible exact hLL) | (with_reducible refine LaneAt.drewN ?_ _) | (with_reducible refine LaneAt.drew ?_) | (with_reducible refine LaneAt.alloc ?_ _))))).mono ?_); rintro e w4 ⟨rfl, hL4, hO4⟩; have HL4 := Lib.hid hL4; have HO4 := Lib.hid (Only.trans (by (first | exact HO.out | exact Only.drewN HO.out _)) hO4); clear hL4 hO4)))
              clear c1
              obtain ⟨c1, c2⟩ := HQ.out _ HO4.out
              have hlc1 := World.block_lt_of_cell? _ _ c1
              have hlc2 := World.block_lt_of_cell? _ _ c2
              go_quiet (fail)
              go_wp2
              go_roundw
              case rel => exact ⟨k + 1, by omega, by go_num, by have hLL := HL4.out; (repeat (first | (with_reducible exact hLL) | (with_reducible refine LaneAt.drewN ?_ _) | (with_reducible refine LaneAt.drew ?_) | (with_reducible refine LaneAt.alloc ?_ _))), by have hOO := HO4.out; repeat (first | (with_reducible exact hOO) | (with_reducible refine Only.drewN ?_ _) | (with_reducible refine Only.alloc ?_ _))⟩
              case measure => simp [intOf]; omega
            · obtain rfl : k = (wsI pp i).length := by omega
              rw [HOE.out i] at hL
              have HL := Lib.hid hL
              have HO := Lib.hid hO
              clear hL hO q1 q2 hk hkl
              go_wp2_with (first | (go_at_call 17; ((with_reducible refine (K10.out (i + 1) _ _ B (by have hLL := HL.out; (repeat (first | (with_reducible exact hLL) | (with_reducible refine LaneAt.drewN ?_ _) | (with_reducible refine LaneAt.drew ?_) | (with_reducible refine LaneAt.alloc ?_ _))))).mono ?_); rintro e w' ⟨rfl, k, rfl⟩)))
              go_roundw
              case rel => exact ⟨i + 1, by omega, by go_num, by have hLL := HL.out; (repeat (first | (with_reducible exact hLL) | (with_reducible refine LaneAt.drewN ?_ _) | (with_reducible refine LaneAt.drew ?_) | (with_reducible refine LaneAt.alloc ?_ _))), by have hOO := HO.out; repeat (first | (with_reducible exact hOO) | (with_reducible refine Only.drewN ?_ _) | (with_reducible refine Only.alloc ?_ _))⟩
              case measure => simp [intOf]; omega
        · obtain rfl : i = 2 := by omega
          have HL := Lib.hid hL
          have HO := Lib.hid hO
          clear hL hO hi hi2
          go_wp2_with (first | (go_at_call 18; ((with_reducible refine (K11.out _ _ B (by have hLL := HL.out; (repeat (first | (with_reducible exact hLL) | (with_reducible refine LaneAt.drewN ?_ _) | (with_reducible refine LaneAt.drew ?_) | (with_reducible refine LaneAt.alloc ?_ _))))).mono ?_); rintro e w' ⟨rfl, kk, rfl⟩)))
          go_ret
          have h9 : Below w.heap.size w w9 := HB8.out.trans (HB89.out.mono HB8.out.size)
          have hz : Below w.heap.size w wr := h9.trans (HO.out.below (B := w.heap.size) (fun k hk => Nat.le_trans HB8.out.size (HFR.out k hk)) h9.size)
          have hsz := hz.size
          exact ⟨rfl, by repeat' (first | (with_reducible assumption) | (with_reducible refine below_setRowN ?_ ?_ _) | (with_reducible refine Below.setCell ?_ ?_ _) | (with_reducible refine below_drewN' ?_ _) | (with_reducible refine Below.drew ?_) | (with_reducible refine Below.alloc ?_ ?_ _) | (with_reducible exact Below.refl _ _) | (with_reducible exact Nat.le_refl _) | (simp; done) | omega | (simp; omega))⟩
end Go.Proofs.Ytpklblaenfhncaa
