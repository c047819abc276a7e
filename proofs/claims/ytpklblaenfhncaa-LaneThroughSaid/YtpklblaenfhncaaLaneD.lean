/- What the laws of lanes share: parcels' words, lanes that are not there, words of a parcel, the head of each law. -/
import Derived.Test.YtpklblaenfhncaaLaneC
import Derived.Deep.DeepCutAuto
namespace Go.Proofs.Ytpklblaenfhncaa
set_option linter.unusedVariables false
set_option linter.unusedSimpArgs false
open Go.RowKit BM
/-- The flits of a parcel's words. -/
def flAt (p : Pa) (i : Nat) : Fl := if i < p.heads.length then headFl p i else if i - p.heads.length < nBody p.data then bodyFl p.data (i - p.heads.length) else tailFl p.data
theorem flAt_right {p : Pa} (h : rightP p = true) (i : Nat) : rightF (flAt p i) = true := by
  unfold flAt
  split
  · rename_i h1; exact head_right h h1
  · split
    · rename_i h2; exact body_right h2
    · exact tail_right _
theorem words_flAt (p : Pa) {i : Nat} (hi : i < (wordsP p).length) : (wordsP p).getD i 0 = wordF (flAt p i) := by
  rw [wordsP_len] at hi
  unfold flAt wordsP headWs restWs bodyWs
  rw [List.getD_eq_getElem?_getD]
  by_cases h1 : i < p.heads.length
  · rw [if_pos h1, List.getElem?_append_left (by simpa using h1), List.getElem?_map, List.getElem?_range h1, Option.map_some, Option.getD_some]
  · rw [if_neg h1, List.getElem?_append_right (by simp; omega)]
    simp only [List.length_map, List.length_range]
    by_cases h2 : i - p.heads.length < nBody p.data
    · rw [if_pos h2, List.getElem?_append_left (by simpa using h2), List.getElem?_map, List.getElem?_range h2, Option.map_some, Option.getD_some]
    · rw [if_neg h2, List.getElem?_append_right (by simp; omega)]
      simp only [List.length_map, List.length_range]
      rw [show i - p.heads.length - nBody p.data = 0 from by omega, List.getElem?_cons_zero, Option.getD_some]
/-- What kind of word stands at a place. -/
theorem kind_at {p : Pa} (h : rightP p = true) {i : Nat} (hi : i < (wordsP p).length) : getN ((wordsP p).getD i 0) 0 2 = (if i < p.heads.length then 1 else if i + 1 < (wordsP p).length then 2 else 3) := by
  have hk := word_kind (flAt_right h i)
  rw [words_flAt p hi]
  have hl := wordsP_len p
  unfold flAt at hk ⊢
  by_cases h1 : i < p.heads.length
  · rw [if_pos h1] at hk ⊢
    rw [if_pos h1]
    have : (headFl p i).kind = 1 := rfl
    omega
  · rw [if_neg h1] at hk ⊢
    rw [if_neg h1]
    by_cases h2 : i - p.heads.length < nBody p.data
    · rw [if_pos h2] at hk ⊢
      rw [if_pos (by omega)]
      have : (bodyFl p.data (i - p.heads.length)).kind = 2 := rfl
      omega
    · rw [if_neg h2] at hk ⊢
      rw [if_neg (by omega)]
      have : (tailFl p.data).kind = 3 := rfl
      omega
theorem head_read {p : Pa} (h : rightP p = true) {i : Nat} (hi : i < p.heads.length) : readF ((wordsP p).getD i 0) = (headFl p i, 0) := by
  have hl := wordsP_len p
  rw [words_flAt p (by omega), read_write (flAt_right h i)]
  unfold flAt; rw [if_pos hi]
theorem more_head {p : Pa} (h : rightP p = true) {i : Nat} (hi : i < p.heads.length) : LN.moreF ((wordsP p).getD i 0) = decide (i + 1 < p.heads.length) := by
  unfold LN.moreF; rw [head_read h hi]; rfl
theorem more_rest {p : Pa} (h : rightP p = true) {i : Nat} (hi : i < (wordsP p).length) (hn : ¬ i < p.heads.length) : LN.moreF ((wordsP p).getD i 0) = false := by
  unfold LN.moreF
  rw [words_flAt p hi, read_write (flAt_right h i)]
  unfold flAt; rw [if_neg hn]
  split <;> rfl
theorem drop_head (W : List Nat) {i : Nat} (hi : i < W.length) : (W.drop i).headD 0 = W.getD i 0 ∧ (W.drop i).tail = W.drop (i + 1) ∧ (W.drop i).length ≠ 0 := by
  rw [drop_cons hi 0]
  exact ⟨rfl, rfl, by simp⟩
theorem take_eq {s : LN} (h : s.ph = 2) (hq : s.q.length ≠ 0) : s.take = (s.takeF (s.q.headD 0), s.outF (s.q.headD 0), 0) := by
  unfold LN.take; rw [if_neg (by omega), if_neg hq]
theorem wordsP_pos (p : Pa) : 0 < (wordsP p).length := by rw [wordsP_len]; omega
theorem good_words (p : Pa) : (wordsP (goodP p)).length ≤ 20 := by
  have h1 := good_heads p
  have h2 := good_size p
  rw [wordsP_len]; unfold nBody; omega
theorem lo_self (p l x : Int) (c e : Bool) (w : World) : Sem.run Try.prog (binOp BinOp.eql 36 (.agg #[.int .i64 p, .int .i64 l, .int .u64 x, .bool c, .bool e]) (.agg #[.int .i64 p, .int .i64 l, .int .u64 x, .bool c, .bool e])) w = .ok (.bool true) w := by go_simp
theorem lo_nself (p l x : Int) (c e : Bool) (w : World) : Sem.run Try.prog (binOp BinOp.neq 36 (.agg #[.int .i64 p, .int .i64 l, .int .u64 x, .bool c, .bool e]) (.agg #[.int .i64 p, .int .i64 l, .int .u64 x, .bool c, .bool e])) w = .ok (.bool false) w := by go_simp
attribute [go_sem ↓] lo_self lo_nself
theorem nil_peek (w : World) : Calls Try.prog 26 #[.pointer none] w fun e w' => e = .returned (.tuple #[.int .u64 0, .int .i64 1]) ∧ ∃ k, w' = w.drewN k := by
  go_enter Try.func26, Try.ntmps26
  go_wp2
  go_ret2
  exact ⟨rfl, by first | exact ⟨0, rfl⟩ | exact drew_close1 | exact drew_close0⟩
theorem nil_put (x : Int) (w : World) : Calls Try.prog 14 #[.pointer none, .int .u64 x] w fun e w' => e = .returned (.int .i64 1) ∧ ∃ k, w' = w.drewN k := by
  go_enter Try.func14, Try.ntmps14
  go_wp2
  go_ret
  exact ⟨rfl, by first | exact ⟨0, rfl⟩ | exact drew_close1 | exact drew_close0⟩
theorem nil_find (node : Int) (fv : Value) (w : World) : Calls Try.prog 12 #[.pointer none, .int .i64 node, fv] w fun e w' => e = .returned (.bool false) ∧ ∃ k, w' = w.drewN k := by
  go_enter Try.func12, Try.ntmps12
  go_wp2_with (first | (go_at_call 26; ((with_reducible refine (nil_peek _).mono ?_); rintro e w' ⟨rfl, k, rfl⟩)))
  go_ret
  exact ⟨rfl, by first | exact ⟨0, rfl⟩ | exact drew_close1 | exact drew_close0⟩
theorem nil_give (l : Int) (w : World) : Calls Try.prog 20 #[.pointer none, .int .i64 l] w fun e w' => e = .returned (.bool false) ∧ ∃ k, w' = w.drewN k := by
  go_enter Try.func20, Try.ntmps20
  go_wp2
  go_ret
  exact ⟨rfl, by first | exact ⟨0, rfl⟩ | exact drew_close1 | exact drew_close0⟩
theorem nil_take (w : World) : Calls Try.prog 16 #[.pointer none] w fun e w' => e = .returned (.tuple #[.agg #[.int .i64 0, .int .i64 0, .int .u64 0, .bool false, .bool false], .int .i64 1]) ∧ Below w.heap.size w w' := by
  go_enter Try.func16, Try.ntmps16
  go_wp2
  refine bodyPost_ret (res_row_tmp rfl _ _ w.heap.size 36 _ (0, 0) _ rfl (by repeat' (first | (with_reducible exact alloc_new _) | (with_reducible apply stored5) | (with_reducible refine drewN_at ?_ _) | (with_reducible refine alloc_old ?_ _) | (simp; done) | omega)) Try.underlying36 rfl (by kernel_rfl)) rfl ⟨rfl, by repeat' (first | (with_reducible assumption) | (with_reducible refine below_setRowN ?_ ?_ _) | (with_reducible refine Below.setCell ?_ ?_ _) | (with_reducible refine below_drewN' ?_ _) | (with_reducible refine Below.drew ?_) | (with_reducible refine Below.alloc ?_ ?_ _) | (with_reducible exact Below.refl _ _) | (with_reducible exact Nat.le_refl _) | (simp; done) | omega | (simp; omega))⟩
theorem nil_len (w : World) : Calls Try.prog 18 #[.pointer none] w fun e w' => e = .returned (.int .i64 0) ∧ ∃ k, w' = w.drewN k := by
  go_enter Try.func18, Try.ntmps18
  go_wp2
  go_ret
  exact ⟨rfl, by first | exact ⟨0, rfl⟩ | exact drew_close1 | exact drew_close0⟩
theorem nil_room (w : World) : Calls Try.prog 27 #[.pointer none] w fun e w' => e = .returned (.int .i64 0) ∧ ∃ k, w' = w.drewN k := by
  go_enter Try.func27, Try.ntmps27
  go_wp2
  go_ret
  exact ⟨rfl, by first | exact ⟨0, rfl⟩ | exact drew_close1 | exact drew_close0⟩
theorem nil_phase (w : World) : Calls Try.prog 17 #[.pointer none] w fun e w' => e = .returned (.int .i64 0) ∧ ∃ k, w' = w.drewN k := by
  go_enter Try.func17, Try.ntmps17
  go_wp2
  go_ret
  exact ⟨rfl, by first | exact ⟨0, rfl⟩ | exact drew_close1 | exact drew_close0⟩
theorem nil_port (w : World) : Calls Try.prog 22 #[.pointer none] w fun e w' => e = .returned (.int .i64 0) ∧ ∃ k, w' = w.drewN k := by
  go_enter Try.func22, Try.ntmps22
  go_wp2
  go_ret
  exact ⟨rfl, by first | exact ⟨0, rfl⟩ | exact drew_close1 | exact drew_close0⟩
theorem nil_given (w : World) : Calls Try.prog 25 #[.pointer none] w fun e w' => e = .returned (.int .i64 0) ∧ ∃ k, w' = w.drewN k := by
  go_enter Try.func25, Try.ntmps25
  go_wp2
  go_ret
  exact ⟨rfl, by first | exact ⟨0, rfl⟩ | exact drew_close1 | exact drew_close0⟩
theorem nil_copies (w : World) : Calls Try.prog 23 #[.pointer none] w fun e w' => e = .returned (.bool false) ∧ ∃ k, w' = w.drewN k := by
  go_enter Try.func23, Try.ntmps23
  go_wp2
  go_ret
  exact ⟨rfl, by first | exact ⟨0, rfl⟩ | exact drew_close1 | exact drew_close0⟩
set_option maxRecDepth 100000 in
set_option maxHeartbeats 1000000 in
theorem words14 (p : Pa) (a : Option Addr) (c : Nat) (w : World) (h : CellsOff w a (flatT p.heads) []) (hn : p.heads.length ≤ maxLen) (hd : p.data.size ≤ maxLen) :
    Calls Try.prog 19 #[.agg #[.int .i64 p.src, .bool p.cast, .slice a p.heads.length c, .string p.data]] w fun e w' => ∃ v, e = .returned v ∧ w'.ownsRow w.heap.size 22 1 v (wordsP (goodP p)).length ((wordsP (goodP p)).map UV) ∧ Below w.heap.size w w' := by
  have hG := fun w' (hb : Below w.heap.size w w') => rgood10 p a c w' (h.below hb) hn hd
  have hW := fun w' a c h => rwords10 (goodP p) a c w' h (good_right p)
  generalize wordsP (goodP p) = W at *
  generalize goodP p = g at *
  obtain ⟨gs, gc, gh, gd⟩ := g
  obtain ⟨src, cast, heads, data⟩ := p
  dsimp only [Pa.val] at *
  have HG := Lib.hid hG
  have HW := Lib.hid hW
  clear hG hW h
  go_enter Try.func19, Try.ntmps19
  go_wp2_with (first
    | (go_at_call 21; ((with_reducible refine (HG.out _ ((Below.refl _ _).alloc (Nat.le_refl _) _)).mono ?_); rintro e w1 ⟨v1, rfl, hown1, hb1⟩; obtain ⟨p1, q1, rfl, -, -, hc1⟩ := CellsOff.own hown1 [] (by simp); have HC1 := Lib.hid hc1; have HB1 := Lib.hid hb1; clear hown1 hb1 hc1))
    | (go_at_call 31; ((with_reducible refine (HW.out _ _ _ HC1.out).mono ?_); rintro e w2 ⟨v2, rfl, hown2, hb2⟩; have HO2 := Lib.hid hown2; have HB2 := Lib.hid hb2; clear hown2 hb2)))
  go_ret
  have h1 : Below w.heap.size w w1 := ((Below.refl _ _).alloc (Nat.le_refl _) _).trans (HB1.out.mono (by simp))
  exact ⟨_, rfl, owns_base HO2.out h1.size, h1.trans (HB2.out.mono h1.size)⟩
def p14 : Pa := ⟨0, false, [⟨5, 0⟩], ⟨#[97, 98]⟩⟩
theorem p14_right : rightP p14 = true := by decide
theorem p14_good : goodP p14 = p14 := by
  have e : p14.data.extract 0 (min p14.data.size 64) = p14.data := ByteArray.extract_zero_size
  show (⟨_, _, _, p14.data.extract 0 (min p14.data.size 64)⟩ : Pa) = p14
  rw [e]; rfl
theorem p14_words : wordsP p14 = [wordF (headFl p14 0), wordF (tailFl p14.data)] := rfl
set_option maxRecDepth 100000 in
set_option maxHeartbeats 2000000 in
theorem lives14_calls (w : World) : Calls Try.prog 10 #[] w fun e w' => e = .returned (.bool true) ∧ Below w.heap.size w w' := by
  have hWD : ∀ w' a c, CellsOff w' a (flatT p14.heads) [] → Calls Try.prog 19 #[.agg #[.int .i64 0, .bool false, .slice a 1 c, .string ⟨#[97, 98]⟩]] w' fun e w'' => ∃ v, e = .returned v ∧ w''.ownsRow w'.heap.size 22 1 v 2 ((wordsP p14).map UV) ∧ Below w'.heap.size w' w'' := fun w' a c h => by
    have := words14 p14 a c w' h (by decide) (by decide)
    rw [p14_good] at this
    exact this
  have hT : flatT p14.heads = [.int .i64 5, .int .i64 0] := rfl
  have hr0 : readF (wordF (headFl p14 0)) = (headFl p14 0, 0) := read_write (head_right p14_right (by decide))
  have hk0 : getN (wordF (headFl p14 0)) 0 2 = 1 := by have := word_kind (head_right p14_right (i := 0) (by decide)); have e : (headFl p14 0).kind = 1 := rfl; omega
  have hk1 : getN (wordF (tailFl p14.data)) 0 2 = 3 := by have := word_kind (tail_right p14.data); have e : (tailFl p14.data).kind = 3 := rfl; omega
  have hx0 := wordF_lt (headFl p14 0)
  have hx1 := wordF_lt (tailFl p14.data)
  rw [hT] at hWD
  rw [p14_words] at hWD
  generalize wordF (headFl p14 0) = x0 at *
  generalize wordF (tailFl p14.data) = x1 at *
  have hm0 : LN.moreF x0 = false := by unfold LN.moreF; rw [hr0]; rfl
  have e3 : LN.find (⟨4, [x0, x1], 0, 0, 0, false⟩ : LN) 5 0 = ((⟨4, [x0, x1], 2, 0, 0, false⟩ : LN), true) := by
    show LN.findF (⟨4, [x0, x1], 0, 0, 0, false⟩ : LN) (readF x0) 5 0 = _
    rw [hr0]; rfl
  have e4 : LN.take (⟨4, [x0, x1], 2, 0, 0, false⟩ : LN) = ((⟨4, [x1], 2, 0, 0, false⟩ : LN), ⟨0, 0, x0, false, false⟩, 0) := by
    show (LN.takeF (⟨4, [x0, x1], 2, 0, 0, false⟩ : LN) x0, LN.outF (⟨4, [x0, x1], 2, 0, 0, false⟩ : LN) x0, (0 : Int)) = _
    unfold LN.takeF LN.outF
    rw [hk0, hm0]; rfl
  have e5 : LN.take (⟨4, [x1], 2, 0, 0, false⟩ : LN) = ((⟨4, [], 0, 0, 0, false⟩ : LN), ⟨0, 0, x1, false, true⟩, 0) := by
    show (LN.takeF (⟨4, [x1], 2, 0, 0, false⟩ : LN) x1, LN.outF (⟨4, [x1], 2, 0, 0, false⟩ : LN) x1, (0 : Int)) = _
    unfold LN.takeF LN.outF
    rw [hk1]; rfl
  have K0 : Hid (∀ w, Calls Try.prog 11 #[.int .i64 4] w fun e w' => ∃ b B, e = .returned (.pointer (some ⟨b, 0, none⟩)) ∧ LaneAt w' b B (⟨4, [], 0, 0, 0, false⟩ : LN) ∧ (∀ k ∈ B, w.heap.size ≤ k) ∧ Below w.heap.size w w') := fun w => lane_new 4 w
  have K1 : Hid (∀ w b B, LaneAt w b B (⟨4, [], 0, 0, 0, false⟩ : LN) → Calls Try.prog 14 #[.pointer (some ⟨b, 0, none⟩), .int .u64 (x0 : Int)] w fun e w' => e = .returned (.int .i64 0) ∧ LaneAt w' b B (⟨4, [x0], 0, 0, 0, false⟩ : LN) ∧ Only B w w') := fun w b B h => lane_put x0 hx0 w b B _ h
  have K2 : Hid (∀ w b B, LaneAt w b B (⟨4, [x0], 0, 0, 0, false⟩ : LN) → Calls Try.prog 14 #[.pointer (some ⟨b, 0, none⟩), .int .u64 (x1 : Int)] w fun e w' => e = .returned (.int .i64 0) ∧ LaneAt w' b B (⟨4, [x0, x1], 0, 0, 0, false⟩ : LN) ∧ Only B w w') := fun w b B h => lane_put x1 hx1 w b B _ h
  have K3 : Hid (∀ w b B fv, LaneAt w b B (⟨4, [x0, x1], 0, 0, 0, false⟩ : LN) → Calls Try.prog 12 #[.pointer (some ⟨b, 0, none⟩), .int .i64 5, fv] w fun e w' => e = .returned (.bool true) ∧ LaneAt w' b B (⟨4, [x0, x1], 2, 0, 0, false⟩ : LN) ∧ Only B w w') := fun w b B fv h => by
    have := lane_find w b B _ 5 0 fv h (fun hn => absurd (by show (readF x0).1.dst = 5; rw [hr0]; rfl) hn)
    rw [e3] at this
    exact this
  have K4 : Hid (∀ w b B, LaneAt w b B (⟨4, [x0, x1], 2, 0, 0, false⟩ : LN) → Calls Try.prog 16 #[.pointer (some ⟨b, 0, none⟩)] w fun e w' => e = .returned (.tuple #[.agg #[.int .i64 0, .int .i64 0, .int .u64 (x0 : Int), .bool false, .bool false], .int .i64 0]) ∧ LaneAt w' b B (⟨4, [x1], 2, 0, 0, false⟩ : LN) ∧ Only B w w') := fun w b B h => by
    have := lane_take w b B _ h
    rw [e4] at this
    exact this
  have K5 : Hid (∀ w b B, LaneAt w b B (⟨4, [x1], 2, 0, 0, false⟩ : LN) → Calls Try.prog 16 #[.pointer (some ⟨b, 0, none⟩)] w fun e w' => e = .returned (.tuple #[.agg #[.int .i64 0, .int .i64 0, .int .u64 (x1 : Int), .bool false, .bool true], .int .i64 0]) ∧ LaneAt w' b B (⟨4, [], 0, 0, 0, false⟩ : LN) ∧ Only B w w') := fun w b B h => by
    have := lane_take w b B _ h
    rw [e5] at this
    exact this
  have K6 : Hid (∀ w b B, LaneAt w b B (⟨4, [], 0, 0, 0, false⟩ : LN) → Calls Try.prog 17 #[.pointer (some ⟨b, 0, none⟩)] w fun e w' => e = .returned (.int .i64 0) ∧ ∃ k, w' = w.drewN k) := fun w b B h => lane_phase w b B _ h
  have K7 : Hid (∀ w b B, LaneAt w b B (⟨4, [], 0, 0, 0, false⟩ : LN) → Calls Try.prog 27 #[.pointer (some ⟨b, 0, none⟩)] w fun e w' => e = .returned (.int .i64 4) ∧ ∃ k, w' = w.drewN k) := fun w b B h => lane_room w b B _ h
  have HW := Lib.hid hWD
  clear hWD hT hr0 hk0 hk1 hm0 e3 e4 e5 hx0 hx1
  go_enter Try.func10, Try.ntmps10
  go_upto_region 3 with (first
    | (go_at_call 19; ((with_reducible refine (HW.out _ _ _ (by obtain ⟨_, _, he, -, -, h⟩ := CellsOff.own (owns_lit (base := w.heap.size) (e := 51) 2 [.int .i64 5, .int .i64 0] (n := 1) (Nat.le_refl _) (alloc_new (w := w) _) rfl (by decide)) [] (by simp); simp only [Value.slice.injEq] at he; obtain ⟨rfl, -, -⟩ := he; exact h)).mono ?_); rintro e w1 ⟨v1, rfl, hown1, hb1⟩; obtain ⟨p1, q1, rfl, -, -, hc1⟩ := CellsOff.own hown1 [] (by simp); obtain ⟨blk, off, rfl, -, d0⟩ := hc1 0 (UV x0) rfl; have d1 := hc1.cell 1 (UV x1) rfl; have hl1 := World.block_lt_of_cell? w1 _ d0; simp only [Nat.add_zero] at d0; unfold UV at d0 d1; have D0 := Lib.hid d0; have D1 := Lib.hid d1; have HB1 := Lib.hid hb1; clear hown1 hb1 hc1 d0 d1))
    | (go_at_call 11; ((with_reducible refine (K0.out _).mono ?_); rintro e w2 ⟨b, B, rfl, hL2, hB2, hb2⟩; have d0 := (hb2.cell (p := ⟨blk, off, none⟩) hl1).trans D0.out; have d1 := (hb2.cell (p := ⟨blk, off + 1, none⟩) hl1).trans D1.out; have HNB : Hid (blk ∉ B) := fun hm => Nat.lt_irrefl _ (Nat.lt_of_lt_of_le hl1 (hB2 _ hm)); have HL2 := Lib.hid hL2; have HFR := Lib.hid hB2; have HB2 := Lib.hid hb2; have E0 := Lib.hid d0; have E1 := Lib.hid d1; clear hL2 hB2 hb2)))
  have HS : Hid (∀ w', Only B w2 w' → w'.cell? ⟨blk, off, none⟩ = some (.int .u64 (x0 : Int)) ∧ w'.cell? ⟨blk, off + 1, none⟩ = some (.int .u64 (x1 : Int))) := fun w' ho => by
    have hc : ∀ o v, w2.cell? ⟨blk, o, none⟩ = some v → w'.cell? ⟨blk, o, none⟩ = some v := fun o v h => by
      rw [World.cell?_of_block (w := w2) (ho.block blk (World.block_lt_of_cell? w2 _ h) HNB.out)]; exact h
    exact ⟨hc _ _ E0.out, hc _ _ E1.out⟩
  go_cut [3, 4] (fun s3 s4 wx => s3 = .int .i64 0 ∧ s4 = .int .i64 0 ∧ LaneAt wx b B (⟨4, [x0, x1], 0, 0, 0, false⟩ : LN) ∧ Only B w2 wx)
  case first =>
    go_region_held3 (fun w' => w'.cell? ⟨blk, off, none⟩ = some (.int .u64 (x0 : Int)) ∧ w'.cell? ⟨blk, off + 1, none⟩ = some (.int .u64 (x1 : Int))) ((first | go_keep | exact HS.out _ hOO)) (first
      | (go_at_call 14; first
        | ((with_reducible refine (K1.out _ _ B ?_).mono ?_); (have hLL := HL2.out; (repeat (first | (with_reducible exact hLL) | (with_reducible refine LaneAt.drewN ?_ _) | (with_reducible refine LaneAt.drew ?_) | (with_reducible refine LaneAt.alloc ?_ _)))); rintro e w3 ⟨rfl, hL3, hO3⟩; have hOO : Only B w2 w3 := Only.trans (by (repeat (first | (with_reducible exact hOO) | (with_reducible exact Only.refl _ _) | (with_reducible refine Only.drewN ?_ _) | (with_reducible refine Only.drew ?_)))) hO3; have HL3 := Lib.hid hL3; have HO3 := Lib.hid hOO; clear hL3 hO3)
        | ((with_reducible refine (K2.out _ _ B ?_).mono ?_); (have hLL := HL3.out; (repeat (first | (with_reducible exact hLL) | (with_reducible refine LaneAt.drewN ?_ _) | (with_reducible refine LaneAt.drew ?_) | (with_reducible refine LaneAt.alloc ?_ _)))); rintro e w4 ⟨rfl, hL4, hO4⟩; have hOO : Only B w2 w4 := Only.trans (by have hOO := HO3.out; (repeat (first | (with_reducible exact hOO) | (with_reducible exact Only.refl _ _) | (with_reducible refine Only.drewN ?_ _) | (with_reducible refine Only.drew ?_)))) hO4; have HL4 := Lib.hid hL4; have HO4 := Lib.hid hOO; clear hL4 hO4)))
    go_wp2
    go_meet
    exact ⟨rfl, rfl, by have hLL := HL4.out; (repeat (first | (with_reducible exact hLL) | (with_reducible refine LaneAt.drewN ?_ _) | (with_reducible refine LaneAt.drew ?_) | (with_reducible refine LaneAt.alloc ?_ _))), by have hOO := HO4.out; (repeat (first | (with_reducible exact hOO) | (with_reducible exact Only.refl _ _) | (with_reducible refine Only.drewN ?_ _) | (with_reducible refine Only.drew ?_)))⟩
  case rest =>
  obtain ⟨rfl, rfl, hL5, hO5⟩ := hcut
  obtain ⟨w5, rfl⟩ : ∃ x : World, x = wc := ⟨_, rfl⟩
  have HL5 := Lib.hid hL5
  have HO5 := Lib.hid hO5
  obtain ⟨-, d1⟩ := HS.out _ hO5
  have hn5 : w5.heap.size ∉ B := fun hm => Nat.lt_irrefl _ (hL5.lt _ hm)
  clear hL5 hO5
  go_upto_region 7 with (first
    | (go_at_call 12; ((with_reducible refine (K3.out _ _ B _ HL5.out).mono ?_); rintro e w6 ⟨rfl, hL6, hO6⟩; have HL6 := Lib.hid hL6; have HO6 := Lib.hid (HO5.out.trans hO6); clear hL6 hO6))
    | (go_at_call 16; first
        | ((with_reducible refine (K4.out _ _ B ?_).mono ?_); (have hLL := HL6.out; (repeat (first | (with_reducible exact hLL) | (with_reducible refine LaneAt.drewN ?_ _) | (with_reducible refine LaneAt.drew ?_) | (with_reducible refine LaneAt.alloc ?_ _)))); rintro e w7 ⟨rfl, hL7, hO7⟩; have hn7 : w7.heap.size ∉ B := fun hm => Nat.lt_irrefl _ (hL7.lt _ hm); have hl7 := hL7.lt; have HL7 := Lib.hid hL7; have HO7 := Lib.hid (HO6.out.trans hO7); have HLT7 := Lib.hid hl7; clear hL7 hO7 hl7)
        | ((with_reducible refine (K5.out _ _ B ?_).mono ?_); (have hLL := HL7.out; (repeat (first | (with_reducible exact hLL) | (with_reducible refine LaneAt.drewN ?_ _) | (with_reducible refine LaneAt.drew ?_) | (with_reducible refine LaneAt.alloc ?_ _)))); rintro e w8 ⟨rfl, hL8, hO8⟩; have hf8 := hO8.at (alloc_new _) hn7; have f8 := fun j => cell_at hf8 j; have hlf := block_lt hf8; have HL8 := Lib.hid hL8; have HO8 := Lib.hid ((HO7.out.alloc _).trans hO8); clear hL8 hO8 hf8)))
  obtain ⟨-, d2⟩ := HS.out _ HO8.out
  have hlb := World.block_lt_of_cell? _ _ d2
  clear d1 hn5
  go_quiet (first | (go_at_call 17; refine (K6.out _ b B (by have hLL := HL8.out; (repeat (first | (with_reducible exact hLL) | (with_reducible refine LaneAt.drewN ?_ _) | (with_reducible refine LaneAt.drew ?_) | (with_reducible refine LaneAt.alloc ?_ _))))).mono ?_; rintro e w1 ⟨rfl, k, rfl⟩; exact ⟨rfl, by first | exact drew_close2 | exact drew_close0 | exact drew_close⟩) | (go_at_call 27; refine (K7.out _ b B (by have hLL := HL8.out; (repeat (first | (with_reducible exact hLL) | (with_reducible refine LaneAt.drewN ?_ _) | (with_reducible refine LaneAt.drew ?_) | (with_reducible refine LaneAt.alloc ?_ _))))).mono ?_; rintro e w1 ⟨rfl, k, rfl⟩; exact ⟨rfl, by first | exact drew_close2 | exact drew_close0 | exact drew_close⟩))
  go_wp2
  go_ret
  have h1 : Below w.heap.size w w1 := ((Below.refl _ _).alloc (Nat.le_refl _) _).trans (HB1.out.mono (by simp))
  have h2 : Below w.heap.size w w2 := h1.trans (HB2.out.mono h1.size)
  have h8 : Below w.heap.size w w8 := h2.trans ((HO8.out.below (B := w.heap.size) (fun k hk => Nat.le_trans h1.size (HFR.out k hk)) h2.size))
  have hs8 := h8.size
  exact ⟨rfl, by repeat' (first | (with_reducible assumption) | (with_reducible refine below_setRowN ?_ ?_ _) | (with_reducible refine Below.setCell ?_ ?_ _) | (with_reducible refine below_drewN' ?_ _) | (with_reducible refine Below.drew ?_) | (with_reducible refine Below.alloc ?_ ?_ _) | (with_reducible exact Below.refl _ _) | (with_reducible exact Nat.le_refl _) | (simp; done) | omega | (simp; omega))⟩
end Go.Proofs.Ytpklblaenfhncaa
