/- The walk of LanePasses. -/
import Derived.Test.YtpklblaenfhncaaLaneD
namespace Go.Proofs.Ytpklblaenfhncaa
set_option linter.unusedVariables false
set_option linter.unusedSimpArgs false
open Go.RowKit BM
/-- A port of the four. -/
theorem port_mod (x : Int) : ∃ L : Nat, 1 + wrap64 ((IntKind.u64.wrap x).tmod 4) = (L : Int) ∧ 1 ≤ L ∧ L ≤ 4 := by
  have h : IntKind.u64.wrap x = x % 18446744073709551616 := by simp [IntKind.wrap, IntKind.bits, IntKind.signed]
  refine ⟨(1 + wrap64 ((IntKind.u64.wrap x).tmod 4)).toNat, ?_⟩
  rw [h, Int.tmod_eq_emod_of_nonneg (by omega)]
  unfold wrap64
  omega
theorem cells_own {w : World} {base : Nat} {e : TypeId} {size : Nat} {a : Option Addr} {n c : Nat} {xs : List Value} (h : w.ownsRow base e size (.slice a n c) n xs) : CellsOff w a xs [] := by
  obtain ⟨_, _, he, -, -, hc⟩ := CellsOff.own h [] (by simp)
  simp only [Value.slice.injEq, true_and] at he
  obtain ⟨rfl, rfl⟩ := he
  exact hc
/-- A slice of words that lies off the blocks of a lane: its cells, one by one. -/
theorem uv_at {w : World} {blk : Nat} {off : Nat} {l : List Nat} {S : List Nat} (h : CellsOff w (some ⟨blk, off, none⟩) (l.map UV) S) {i : Nat} (hi : i < l.length) : w.cell? ⟨blk, off + i, none⟩ = some (.int .u64 ((l.getD i 0 : Nat) : Int)) :=
  h.cell i _ (by rw [List.getElem?_map, List.getElem?_eq_getElem hi, List.getD_eq_getElem?_getD, List.getElem?_eq_getElem hi]; rfl)
theorem uv_ptr {w : World} {a : Option Addr} {l : List Nat} {S : List Nat} (h : CellsOff w a (l.map UV) S) (hl : 0 < l.length) : ∃ blk off, a = some ⟨blk, off, none⟩ ∧ blk ∉ S ∧ blk < w.heap.size := by
  obtain ⟨blk, off, e, hn, hc⟩ := h 0 (UV (l.getD 0 0)) (by rw [List.getElem?_map, List.getElem?_eq_getElem hl, List.getD_eq_getElem?_getD, List.getElem?_eq_getElem hl]; rfl)
  exact ⟨blk, off, e, hn, World.block_lt_of_cell? w _ hc⟩
theorem take_snocN {l : List Nat} {m : Nat} (h : m < l.length) : l.take (m + 1) = l.take m ++ [l.getD m 0] := by
  rw [List.take_succ_eq_append_getElem h, List.getD_eq_getElem?_getD, List.getElem?_eq_getElem h]; rfl
/-- The lane while the words go in. -/
def inS (W : List Nat) (m : Nat) : LN := ⟨64, W.take m, 0, 0, 0, false⟩
/-- While they go out. -/
def outS (W : List Nat) (port tl : Int) (m : Nat) : LN := if m < W.length then ⟨64, W.drop m, 2, port, tl, false⟩ else ⟨64, [], 0, 0, 0, false⟩
theorem in_put (W : List Nat) {m : Nat} (h : m < W.length) (hl : W.length ≤ 64) : (inS W m).put (W.getD m 0) = (inS W (m + 1), 0) := by
  unfold LN.put inS
  have e : (W.take m).length ≠ 64 := by rw [List.length_take]; omega
  rw [if_neg e, take_snocN h]
theorem out_take {p : Pa} (hr : rightP p = true) (port tl : Int) (hp : port ≠ 0) {m : Nat} (h : m < (wordsP p).length) :
    (outS (wordsP p) port tl m).take = (outS (wordsP p) port tl (m + 1), ⟨port, tl, (wordsP p).getD m 0, false, decide (m + 1 = (wordsP p).length)⟩, 0) := by
  obtain ⟨d1, d2, d3⟩ := drop_head (wordsP p) h
  have hk := kind_at hr h
  have hl := wordsP_len p
  unfold outS
  rw [if_pos h, take_eq rfl d3]
  dsimp only
  rw [d1]
  unfold LN.takeF LN.outF
  dsimp only
  rw [hk, d2]
  by_cases h1 : m < p.heads.length
  · rw [if_pos h1, if_neg (by decide), if_neg (fun h => hp h.1), if_pos (by omega), Bool.false_and, Bool.and_false, decide_eq_false (show ¬ m + 1 = (wordsP p).length by omega)]; rfl
  · rw [if_neg h1]
    by_cases h2 : m + 1 < (wordsP p).length
    · rw [if_pos h2, if_neg (by decide), if_neg (fun h => hp h.1), if_pos h2, Bool.false_and, Bool.and_false, decide_eq_false (show ¬ m + 1 = (wordsP p).length by omega)]; rfl
    · rw [if_neg h2, if_pos rfl, if_neg h2, decide_eq_true (show m + 1 = (wordsP p).length by omega), Bool.false_and, Bool.and_false, List.drop_of_length_le (show (wordsP p).length ≤ m + 1 by omega)]; rfl
theorem out_find {p : Pa} (hr : rightP p = true) (port : Int) (h1 : 1 ≤ port) (h4 : port ≤ 4) : (inS (wordsP p) (wordsP p).length).find (-1) port = (⟨64, wordsP p, 1, port, 0, false⟩, true) := by
  obtain ⟨h, _⟩ := right_parts hr
  have hh : 0 < p.heads.length := by have := right_parts hr; omega
  have hw := wordsP_pos p
  unfold inS LN.find
  rw [List.take_length]
  dsimp only
  rw [if_neg (by omega), if_neg (by simp)]
  have e : (wordsP p).headD 0 = (wordsP p).getD 0 0 := by cases hq : wordsP p <;> rfl
  rw [e, head_read hr hh]
  unfold LN.findF
  have ht := h (p.heads.getD 0 T2.zero) (by rw [List.getD_eq_getElem?_getD, List.getElem?_eq_getElem hh]; exact List.getElem_mem hh)
  have hd : (headFl p 0).dst = (p.heads.getD 0 T2.zero).node := rfl
  have hk : (headFl p 0).kind = 1 := rfl
  dsimp only
  rw [if_neg (by simp), if_neg (by rw [hk]; simp), if_neg (by rw [hd]; omega), if_neg (by omega), if_neg (by omega)]
set_option maxRecDepth 100000 in
set_option maxHeartbeats 8000000 in
theorem lanePasses_walk (p : PaM) (port tl : Int) (w : World) (h : p.Here w) :
    Calls Try.prog 4 #[.agg #[.int .i64 p.pa.src, .bool p.pa.cast, .slice p.ha p.pa.heads.length p.hc, .string p.pa.data], .int .i64 port, .int .i64 tl] w fun e w' => e = .returned (.bool true) ∧ Below w.heap.size w w' := by
  have hW := fun w' hb => words14 p.pa p.ha p.hc w' (h.below (w' := w') hb).1 h.2.1 h.2.2
  have hr := good_right p.pa
  obtain ⟨P, hPe, hP1, hP4⟩ := port_mod port
  have hin := fun m (hm : m < (wordsP (goodP p.pa)).length) => in_put (wordsP (goodP p.pa)) hm (by have := good_words p.pa; omega)
  have hlt := fun m (hm : m < (wordsP (goodP p.pa)).length) => words_lt (goodP p.pa) ((wordsP (goodP p.pa)).getD m 0) (by rw [List.getD_eq_getElem?_getD, List.getElem?_eq_getElem hm]; exact List.getElem_mem hm)
  have hot := fun m (hm : m < (wordsP (goodP p.pa)).length) => out_take hr (P : Int) tl (by omega) hm
  have hfi := out_find hr (P : Int) (by omega) (by omega)
  have hwp := wordsP_pos (goodP p.pa)
  have hwl := good_words p.pa
  generalize wordsP (goodP p.pa) = W at *
  obtain ⟨⟨src, cast, heads, data⟩, ha, hc⟩ := p
  dsimp only at *
  have HLV := Lib.hid (fun w => lives14_calls w)
  have HBY := Lib.hid (fun w => by_calls (P : Int) w)
  have HW := Lib.hid hW
  have K0 : Hid (∀ w, Calls Try.prog 11 #[.int .i64 64] w fun e w' => ∃ b B, e = .returned (.pointer (some ⟨b, 0, none⟩)) ∧ LaneAt w' b B (inS W 0) ∧ (∀ k ∈ B, w.heap.size ≤ k) ∧ Below w.heap.size w w') := fun w => lane_new 64 w
  have K1 : Hid (∀ m, m < W.length → ∀ w b B, LaneAt w b B (inS W m) → Calls Try.prog 14 #[.pointer (some ⟨b, 0, none⟩), .int .u64 ((W.getD m 0 : Nat) : Int)] w fun e w' => e = .returned (.int .i64 0) ∧ LaneAt w' b B (inS W (m + 1)) ∧ Only B w w') := fun m hm w b B h => by
    have := lane_put (W.getD m 0) (hlt m hm) w b B _ h
    rw [hin m hm] at this
    exact this
  have K2 : Hid (∀ w b B, LaneAt w b B (inS W W.length) → Calls Try.prog 20 #[.pointer (some ⟨b, 0, none⟩), .int .i64 tl] w fun e w' => e = .returned (.bool false) ∧ LaneAt w' b B (inS W W.length) ∧ Only B w w') := fun w b B h => lane_give w b B _ tl h
  have K3 : Hid (∀ w b B pb, LaneAt w b B (inS W W.length) → w.heap[pb]? = some (.cells #[.int .i64 (P : Int)] 3 (0, 0)) → Calls Try.prog 12 #[.pointer (some ⟨b, 0, none⟩), .int .i64 (-1), .func (.func 43) #[] #[.pointer (some ⟨pb, 0, none⟩)]] w fun e w' => e = .returned (.bool true) ∧ LaneAt w' b B ⟨64, W, 1, P, 0, false⟩ ∧ Only B w w') := fun w b B pb h hp => by
    have := lane_find w b B _ (-1) P _ h (fun _ => ⟨pb, rfl, hp⟩)
    rw [hfi] at this
    exact this
  have K4 : Hid (∀ w b B, LaneAt w b B ⟨64, W, 1, P, 0, false⟩ → Calls Try.prog 17 #[.pointer (some ⟨b, 0, none⟩)] w fun e w' => e = .returned (.int .i64 1) ∧ ∃ k, w' = w.drewN k) := fun w b B h => lane_phase w b B _ h
  have K5 : Hid (∀ w b B pb, LaneAt w b B ⟨64, W, 1, P, 0, false⟩ → w.heap[pb]? = some (.cells #[.int .i64 (P : Int)] 3 (0, 0)) → Calls Try.prog 12 #[.pointer (some ⟨b, 0, none⟩), .int .i64 (-1), .func (.func 43) #[] #[.pointer (some ⟨pb, 0, none⟩)]] w fun e w' => e = .returned (.bool false) ∧ LaneAt w' b B ⟨64, W, 1, P, 0, false⟩ ∧ Only B w w') := fun w b B pb h hp => by
    have := lane_find w b B _ (-1) P _ h (fun _ => ⟨pb, rfl, hp⟩)
    have e : LN.find ⟨64, W, 1, P, 0, false⟩ (-1) P = (⟨64, W, 1, P, 0, false⟩, false) := by unfold LN.find; dsimp only; rw [if_neg (by omega), if_pos (by decide)]
    rw [e] at this
    exact this
  have K6 : Hid (∀ w b B, LaneAt w b B ⟨64, W, 1, P, 0, false⟩ → Calls Try.prog 20 #[.pointer (some ⟨b, 0, none⟩), .int .i64 tl] w fun e w' => e = .returned (.bool true) ∧ LaneAt w' b B (outS W P tl 0) ∧ Only B w w') := fun w b B h => by
    have := lane_give w b B _ tl h
    have e : outS W P tl 0 = ⟨64, W, 2, P, tl, false⟩ := by unfold outS; rw [if_pos hwp, List.drop_zero]
    rw [e]
    exact this
  have K7 : Hid (∀ m, m < W.length → ∀ w b B, LaneAt w b B (outS W P tl m) → Calls Try.prog 16 #[.pointer (some ⟨b, 0, none⟩)] w fun e w' => e = .returned (.tuple #[.agg #[.int .i64 (P : Int), .int .i64 tl, .int .u64 ((W.getD m 0 : Nat) : Int), .bool false, .bool (decide (m + 1 = W.length))], .int .i64 0]) ∧ LaneAt w' b B (outS W P tl (m + 1)) ∧ Only B w w') := fun m hm w b B h => by
    have := lane_take w b B _ h
    rw [hot m hm] at this
    exact this
  have hoe : outS W P tl W.length = ⟨64, [], 0, 0, 0, false⟩ := by unfold outS; rw [if_neg (by omega)]
  have K8 : Hid (∀ w b B, LaneAt w b B (outS W P tl W.length) → Calls Try.prog 16 #[.pointer (some ⟨b, 0, none⟩)] w fun e w' => e = .returned (.tuple #[.agg #[.int .i64 0, .int .i64 0, .int .u64 0, .bool false, .bool false], .int .i64 13]) ∧ LaneAt w' b B (outS W P tl W.length) ∧ Only B w w') := fun w b B h => by
    rw [hoe] at h ⊢
    exact lane_take w b B _ h
  have K9 : Hid (∀ w b B, LaneAt w b B (outS W P tl W.length) → Calls Try.prog 17 #[.pointer (some ⟨b, 0, none⟩)] w fun e w' => e = .returned (.int .i64 0) ∧ ∃ k, w' = w.drewN k) := fun w b B h => by
    rw [hoe] at h
    exact lane_phase w b B _ h
  have K10 : Hid (∀ w b B, LaneAt w b B (outS W P tl W.length) → Calls Try.prog 18 #[.pointer (some ⟨b, 0, none⟩)] w fun e w' => e = .returned (.int .i64 0) ∧ ∃ k, w' = w.drewN k) := fun w b B h => by
    rw [hoe] at h
    exact lane_len w b B _ h
  clear hW hr hin hlt hot hfi h hoe
  go_enter Try.func4, Try.ntmps4
  go_upto_region 4 with (first
    | (go_at_call 10; ((with_reducible refine (HLV.out _).mono ?_); rintro e w1 ⟨rfl, hb1⟩; have hX1 := Below.at hb1 (alloc_new _) (by simp); have f1 := fun j => cell_at hX1 j; have hB1 : Below w.heap.size w w1 := Below.trans ((Below.refl _ _).alloc (Nat.le_refl _) _) (hb1.mono (by simp)); have HB1 := Lib.hid hB1; clear hb1 hX1 hB1))
    | (go_at_call 19; ((with_reducible refine (HW.out _ HB1.out).mono ?_); rintro e w2 ⟨v2, rfl, hown2, hb2⟩; obtain ⟨p2, q2, rfl, -, -, hc2⟩ := CellsOff.own hown2 [] (by simp); have HC2 := Lib.hid hc2; have hB2 : Below w.heap.size w w2 := HB1.out.trans (hb2.mono HB1.out.size); have HB2 := Lib.hid hB2; clear hown2 hb2 hc2 hB2)))
  obtain ⟨blk, off, rfl, -, hblk⟩ := uv_ptr HC2.out hwp
  clear f1
  go_upto_region 6 with (first
    | (go_at_call 11; ((with_reducible refine (K0.out _).mono ?_); rintro e w3 ⟨b, B, rfl, hL3, hF3, hb3⟩; have HL3 := Lib.hid hL3; have HFR := Lib.hid hF3; have HC3 := Lib.hid (HC2.out.below hb3); have HN3 : Hid (blk ∉ B) := fun hm => Nat.lt_irrefl _ (Nat.lt_of_lt_of_le hblk (hF3 _ hm)); have hB3 : Below w.heap.size w w3 := HB2.out.trans (hb3.mono HB2.out.size); have HB3 := Lib.hid hB3; clear hL3 hF3 hb3 hB3)))
  have HS : Hid (∀ w', Only B w3 w' → ∀ m, m < W.length → w'.cell? ⟨blk, off + m, none⟩ = some (.int .u64 ((W.getD m 0 : Nat) : Int))) := fun w' ho m hm => by
    rw [World.cell?_of_block (w := w3) (ho.block blk (World.block_lt_of_cell? w3 _ (uv_at HC3.out hm)) HN3.out)]
    exact uv_at HC3.out hm
  have hB0 : Only B w3 w3 := Only.refl _ _
  clear hblk
  go_wp2
  go_loopw [9] (fun i wr => ∃ m : Nat, m ≤ W.length ∧ i = .int .i64 (m : Int) ∧ LaneAt wr b B (inS W m) ∧ Only B w3 wr) (fun i _ => W.length - (intOf i).toNat)
  case atStart => exact ⟨0, by omega, rfl, by have hLL := HL3.out; (repeat (first | (with_reducible exact hLL) | (with_reducible refine LaneAt.drewN ?_ _) | (with_reducible refine LaneAt.drew ?_) | (with_reducible refine LaneAt.alloc ?_ _))), by first | exact Only.refl _ _ | exact (Only.refl _ _).drewN _⟩
  case round =>
    obtain ⟨m, hm, rfl, hL, hO⟩ := hrel
    by_cases hml : m < W.length
    · have hmI : (m : Int) < (W.length : Int) := by omega
      have c0 := HS.out _ hO m hml
      have HP := Lib.hid (K1.out m hml)
      have HL := Lib.hid hL
      have HO := Lib.hid hO
      clear hL hO
      generalize W.getD m 0 = x at *
      go_wp2_with (first | (go_at_call 14; ((with_reducible refine (HP.out _ _ B (by have hLL := HL.out; (repeat (first | (with_reducible exact hLL) | (with_reducible refine LaneAt.drewN ?_ _) | (with_reducible refine LaneAt.drew ?_) | (with_reducible refine LaneAt.alloc ?_ _))))).mono ?_); rintro e w4 ⟨rfl, hL4, hO4⟩; have HL4 := Lib.hid hL4; have HO4 := Lib.hid (Only.trans (by first | exact HO.out | exact HO.out.drewN _) hO4); clear hL4 hO4)))
      go_roundw
      case rel => exact ⟨m + 1, by omega, by go_num, HL4.out, HO4.out⟩
      case measure => simp [intOf]; omega
    · obtain rfl : m = W.length := by omega
      have HL := Lib.hid hL
      have HO := Lib.hid hO
      clear hL hO hml hm
      go_upto_region 12 with (first
        | (go_at_call 20; first
            | ((with_reducible refine (K2.out _ _ B ?_).mono ?_); (have hLL := HL.out; (repeat (first | (with_reducible exact hLL) | (with_reducible refine LaneAt.drewN ?_ _) | (with_reducible refine LaneAt.drew ?_) | (with_reducible refine LaneAt.alloc ?_ _)))); rintro e w4 ⟨rfl, hL4, hO4⟩; have HL4 := Lib.hid hL4; have HO4 := Lib.hid (Only.trans (by first | exact HO.out | exact HO.out.drewN _) hO4); clear hL4 hO4)
            | ((with_reducible refine (K6.out _ _ B ?_).mono ?_); (have hLL := HL8.out; (repeat (first | (with_reducible exact hLL) | (with_reducible refine LaneAt.drewN ?_ _) | (with_reducible refine LaneAt.drew ?_) | (with_reducible refine LaneAt.alloc ?_ _)))); rintro e w9 ⟨rfl, hL9, hO9⟩; have HL9 := Lib.hid hL9; have HO9 := Lib.hid (Only.trans (by first | exact HO8.out | exact HO8.out.drewN _) hO9); clear hL9 hO9))
        | (go_at_call 13; first
            | ((with_reducible refine (HBY.out _).mono ?_); rintro e w5 ⟨pb5, rfl, hp5, hpb5, hb5⟩; have HP5 := Lib.hid hp5; have HL5 := Lib.hid (HL4.out.below hb5); have HO5 := Lib.hid (HO4.out.trans (Only.ofBelow hb5 B)); clear hp5 hb5 hpb5 HL4 HO4)
            | ((with_reducible refine (HBY.out _).mono ?_); rintro e w7 ⟨pb7, rfl, hp7, hpb7, hb7⟩; have HP7 := Lib.hid hp7; have hL7 : LaneAt w7 b B ⟨64, W, 1, P, 0, false⟩ := LaneAt.below (by have hLL := HL6.out; (repeat (first | (with_reducible exact hLL) | (with_reducible refine LaneAt.drewN ?_ _) | (with_reducible refine LaneAt.drew ?_) | (with_reducible refine LaneAt.alloc ?_ _)))) hb7; have HL7 := Lib.hid hL7; have hO7 : Only B w3 w7 := Only.trans (by first | exact HO6.out | exact HO6.out.drewN _) (Only.ofBelow hb7 B); have HO7 := Lib.hid hO7; clear hL7 hO7; clear hp7 hb7 hpb7))
        | (go_at_call 12; first
            | ((with_reducible refine (K3.out _ _ B _ HL5.out HP5.out).mono ?_); rintro e w6 ⟨rfl, hL6, hO6⟩; have HL6 := Lib.hid hL6; have HO6 := Lib.hid (HO5.out.trans hO6); clear hL6 hO6)
            | ((with_reducible refine (K5.out _ _ B _ HL7.out HP7.out).mono ?_); rintro e w8 ⟨rfl, hL8, hO8⟩; have HL8 := Lib.hid hL8; have HO8 := Lib.hid (HO7.out.trans hO8); clear hL8 hO8))
        | (go_at_call 17; ((with_reducible refine (K4.out _ _ B (by have hLL := HL6.out; (repeat (first | (with_reducible exact hLL) | (with_reducible refine LaneAt.drewN ?_ _) | (with_reducible refine LaneAt.drew ?_) | (with_reducible refine LaneAt.alloc ?_ _))))).mono ?_); rintro e w' ⟨rfl, k, rfl⟩)))
      go_wp2
      go_loopw [10] (fun i wr => ∃ m : Nat, m ≤ W.length ∧ i = .int .i64 (m : Int) ∧ LaneAt wr b B (outS W P tl m) ∧ Only B w3 wr) (fun i _ => W.length - (intOf i).toNat)
      case atStart => exact ⟨0, by omega, rfl, by have hLL := HL9.out; (repeat (first | (with_reducible exact hLL) | (with_reducible refine LaneAt.drewN ?_ _) | (with_reducible refine LaneAt.drew ?_) | (with_reducible refine LaneAt.alloc ?_ _))), by first | exact HO9.out | exact HO9.out.drewN _⟩
      case round =>
        obtain ⟨m, hm, rfl, hL, hO⟩ := hrel
        by_cases hml : m < W.length
        · have hmI : (m : Int) < (W.length : Int) := by omega
          have hnB : wr.heap.size ∉ B := fun hmm => Nat.lt_irrefl _ (hL.lt _ hmm)
          have HP := Lib.hid (K7.out m hml)
          have HSM : Hid (∀ w', Only B w3 w' → w'.cell? ⟨blk, off + m, none⟩ = some (.int .u64 ((W.getD m 0 : Nat) : Int))) := fun w' ho => HS.out w' ho m hml
          have HLx := Lib.hid hL
          have HOx := Lib.hid hO
          clear hL hO
          generalize W.getD m 0 = x at *
          by_cases hlast : m + 1 = W.length
          · have hl2 : ((m : Int) + 1 == (W.length : Int)) = true := beq_iff_eq.2 (by omega)
            have hl3 : decide (m + 1 = W.length) = true := decide_eq_true hlast
            rw [hl3] at HP
            clear hl3
            go_upto_region 16 with (first | (go_at_call 16; ((with_reducible refine (HP.out _ _ B (by have hLL := HLx.out; (repeat (first | (with_reducible exact hLL) | (with_reducible refine LaneAt.drewN ?_ _) | (with_reducible refine LaneAt.drew ?_) | (with_reducible refine LaneAt.alloc ?_ _))))).mono ?_); rintro e w4 ⟨rfl, hL4, hO4⟩; have HL4 := Lib.hid hL4; have HO4 := Lib.hid (Only.trans (by first | exact HOx.out | exact HOx.out.drewN _) hO4); clear hL4 hO4)))
            have c0 := HSM.out _ HO4.out
            have hlc := World.block_lt_of_cell? _ _ c0
            go_quiet (fail)
            go_wp2
            go_roundw
            case rel => exact ⟨m + 1, by omega, by go_num, by have hLL := HL4.out; (repeat (first | (with_reducible exact hLL) | (with_reducible refine LaneAt.drewN ?_ _) | (with_reducible refine LaneAt.drew ?_) | (with_reducible refine LaneAt.alloc ?_ _))), by have hOO := HO4.out; repeat (first | (with_reducible exact hOO) | (with_reducible refine Only.drewN ?_ _) | (with_reducible refine Only.alloc ?_ _))⟩
            case measure => simp [intOf]; omega
          · have hl2 : ((m : Int) + 1 == (W.length : Int)) = false := beq_eq_false_iff_ne.2 (by omega)
            have hl3 : decide (m + 1 = W.length) = false := decide_eq_false hlast
            rw [hl3] at HP
            clear hl3
            go_upto_region 16 with (first | (go_at_call 16; ((with_reducible refine (HP.out _ _ B (by have hLL := HLx.out; (repeat (first | (with_reducible exact hLL) | (with_reducible refine LaneAt.drewN ?_ _) | (with_reducible refine LaneAt.drew ?_) | (with_reducible refine LaneAt.alloc ?_ _))))).mono ?_); rintro e w4 ⟨rfl, hL4, hO4⟩; have HL4 := Lib.hid hL4; have HO4 := Lib.hid (Only.trans (by first | exact HOx.out | exact HOx.out.drewN _) hO4); clear hL4 hO4)))
            have c0 := HSM.out _ HO4.out
            have hlc := World.block_lt_of_cell? _ _ c0
            go_quiet (fail)
            go_wp2
            go_roundw
            case rel => exact ⟨m + 1, by omega, by go_num, by have hLL := HL4.out; (repeat (first | (with_reducible exact hLL) | (with_reducible refine LaneAt.drewN ?_ _) | (with_reducible refine LaneAt.drew ?_) | (with_reducible refine LaneAt.alloc ?_ _))), by have hOO := HO4.out; repeat (first | (with_reducible exact hOO) | (with_reducible refine Only.drewN ?_ _) | (with_reducible refine Only.alloc ?_ _))⟩
            case measure => simp [intOf]; omega
        · obtain rfl : m = W.length := by omega
          have HLe := Lib.hid hL
          have HOe := Lib.hid hO
          clear hL hO hml hm
          go_wp2_with (first
            | (go_at_call 16; ((with_reducible refine (K8.out _ _ B (by have hLL := HLe.out; (repeat (first | (with_reducible exact hLL) | (with_reducible refine LaneAt.drewN ?_ _) | (with_reducible refine LaneAt.drew ?_) | (with_reducible refine LaneAt.alloc ?_ _))))).mono ?_); rintro e w10 ⟨rfl, hL10, hO10⟩; have HL10 := Lib.hid hL10; have HO10 := Lib.hid (Only.trans (by first | exact HOe.out | exact HOe.out.drewN _) hO10); clear hL10 hO10))
            | (go_at_call 17; ((with_reducible refine (K9.out _ _ B (by have hLL := HL10.out; (repeat (first | (with_reducible exact hLL) | (with_reducible refine LaneAt.drewN ?_ _) | (with_reducible refine LaneAt.drew ?_) | (with_reducible refine LaneAt.alloc ?_ _))))).mono ?_); rintro e w' ⟨rfl, k, rfl⟩))
            | (go_at_call 18; ((with_reducible refine (K10.out _ _ B (by have hLL := HL10.out; (repeat (first | (with_reducible exact hLL) | (with_reducible refine LaneAt.drewN ?_ _) | (with_reducible refine LaneAt.drew ?_) | (with_reducible refine LaneAt.alloc ?_ _))))).mono ?_); rintro e w' ⟨rfl, kk, rfl⟩)))
          go_ret
          have h10 : Below w.heap.size w w10 := HB3.out.trans (HO10.out.below (B := w.heap.size) (fun k hk => Nat.le_trans HB2.out.size (HFR.out k hk)) HB3.out.size)
          have hs10 := h10.size
          exact ⟨rfl, by repeat' (first | (with_reducible assumption) | (with_reducible refine below_setRowN ?_ ?_ _) | (with_reducible refine Below.setCell ?_ ?_ _) | (with_reducible refine below_drewN' ?_ _) | (with_reducible refine Below.drew ?_) | (with_reducible refine Below.alloc ?_ ?_ _) | (with_reducible exact Below.refl _ _) | (with_reducible exact Nat.le_refl _) | (simp; done) | omega | (simp; omega))⟩
end Go.Proofs.Ytpklblaenfhncaa
