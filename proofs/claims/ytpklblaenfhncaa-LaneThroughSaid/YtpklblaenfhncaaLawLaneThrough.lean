/- The walk of LaneThrough. -/
import Derived.Test.YtpklblaenfhncaaLaneD
namespace Go.Proofs.Ytpklblaenfhncaa
set_option linter.unusedVariables false
set_option linter.unusedSimpArgs false
open Go.RowKit BM
/-- A port of the four. -/
theorem port_mod (x : Int) : ∃ L : Nat, 1 + wrap64 ((IntKind.u64.wrap x).tmod 4) = (L : Int) ∧ 1 ≤ L ∧ L ≤ 4 := by
  have h : IntKind.u64.wrap x = x % 18446744073709551616 := by simp [IntKind.wrap, IntKind.bits, IntKind.signed]
  refine ⟨(1 + wrap64 ((IntKind.u64.wrap x).tmod 4)).toNat, ?_⟩
  rw [h, Int.tmod_eq_emod_of_nonneg (by omega)]
  unfold wrap64
  omega
theorem cells_own {w : World} {base : Nat} {e : TypeId} {size : Nat} {a : Option Addr} {n c : Nat} {xs : List Value} (h : w.ownsRow base e size (.slice a n c) n xs) : CellsOff w a xs [] := by
  obtain ⟨_, _, he, -, -, hc⟩ := CellsOff.own h [] (by simp)
  simp only [Value.slice.injEq, true_and] at he
  obtain ⟨rfl, rfl⟩ := he
  exact hc
/-- A slice of words that lies off the blocks of a lane: its cells, one by one. -/
theorem uv_at {w : World} {blk : Nat} {off : Nat} {l : List Nat} {S : List Nat} (h : CellsOff w (some ⟨blk, off, none⟩) (l.map UV) S) {i : Nat} (hi : i < l.length) : w.cell? ⟨blk, off + i, none⟩ = some (.int .u64 ((l.getD i 0 : Nat) : Int)) :=
  h.cell i _ (by rw [List.getElem?_map, List.getElem?_eq_getElem hi, List.getD_eq_getElem?_getD, List.getElem?_eq_getElem hi]; rfl)
theorem uv_ptr {w : World} {a : Option Addr} {l : List Nat} {S : List Nat} (h : CellsOff w a (l.map UV) S) (hl : 0 < l.length) : ∃ blk off, a = some ⟨blk, off, none⟩ ∧ blk ∉ S ∧ blk < w.heap.size := by
  obtain ⟨blk, off, e, hn, hc⟩ := h 0 (UV (l.getD 0 0)) (by rw [List.getElem?_map, List.getElem?_eq_getElem hl, List.getD_eq_getElem?_getD, List.getElem?_eq_getElem hl]; rfl)
  exact ⟨blk, off, e, hn, World.block_lt_of_cell? w _ hc⟩
theorem take_snocN {l : List Nat} {m : Nat} (h : m < l.length) : l.take (m + 1) = l.take m ++ [l.getD m 0] := by
  rw [List.take_succ_eq_append_getElem h, List.getD_eq_getElem?_getD, List.getElem?_eq_getElem h]; rfl
/-- The lane while the words go in. -/
def inS (W : List Nat) (m : Nat) : LN := ⟨64, W.take m, 0, 0, 0, false⟩
theorem in_put (W : List Nat) {m : Nat} (h : m < W.length) (hl : W.length ≤ 64) : (inS W m).put (W.getD m 0) = (inS W (m + 1), 0) := by
  unfold LN.put inS
  have e : (W.take m).length ≠ 64 := by rw [List.length_take]; omega
  rw [if_neg e, take_snocN h]

theorem LaneAt.belowN {w w' : World} {b N : Nat} {B : List Nat} {s : LN} (h : LaneAt w b B s) (hb : Below N w w') (hB : ∀ k ∈ B, k < N) : LaneAt w' b B s := by
  obtain ⟨bb, bg, rs, rfl, h⟩ := h
  obtain ⟨h0, arr, a, r, h3⟩ := h.ring
  exact ⟨bb, bg, rs, rfl, h.ok, Below.at hb h.obj (hB _ (by simp)), ⟨h0, arr, a, ⟨Below.at hb r.obj (hB _ (by simp)), Below.at hb r.row (hB _ (by simp)), r.ne⟩, h3⟩, h.rq, h.rl, h.rn, h.n1, h.n2⟩
theorem same_self (l : List Nat) (n1 n2 : Nat) (h1 : n1 = l.length) (h2 : n2 = l.length) (a b : Option Addr) (c d : Nat) (w : World) (hl : l.length ≤ 1000000) (ha : CellsOff w a (l.map UV) []) (hb : CellsOff w b (l.map UV) []) :
    Calls Try.prog 24 #[.slice a n1 c, .slice b n2 d] w fun e w' => e = .returned (.bool true) ∧ ∃ k, w' = w.drewN k := by
  subst h1 h2
  have hlrb : ((l.length : Int) != (l.length : Int)) = false := by rw [bne_eq_false_iff_eq]
  go_enter Try.func24, Try.ntmps24
  go_wp2
  go_loopw [5] (fun i wr => ∃ (m n : Nat), m ≤ l.length ∧ i = .int .i64 (m : Int) ∧ wr = w.drewN n) (fun i _ => l.length - (intOf i).toNat)
  case atStart => exact ⟨0, 0, by omega, rfl, rfl⟩
  case round =>
    obtain ⟨m, n, hm, rfl, rfl⟩ := hrel
    by_cases hml : m < l.length
    · obtain ⟨blk, off, rfl, -, -⟩ := uv_ptr ha (by omega)
      obtain ⟨blk2, off2, rfl, -, -⟩ := uv_ptr hb (by omega)
      have c0 := uv_at ha hml
      have e0 := uv_at hb hml
      have hmI : (m : Int) < (l.length : Int) := by omega
      generalize l.getD m 0 = x at *
      go_wp2
      go_quiet (fail)
      go_wp2
      go_roundw
      case rel => exact ⟨m + 1, _, by omega, by go_num, rfl⟩
      case measure => simp [intOf]; omega
    · obtain rfl : m = l.length := by omega
      go_wp2
      go_ret
      exact ⟨rfl, by first | exact drew_close1 | exact drew_close0⟩
/-- What was told to the node, and what went on, behind m words. -/
def hereL (W : List Nat) (h m : Nat) : List Nat := if m = 0 then [] else W.getD 0 0 :: (W.drop h).take (m - h)
def onL (W : List Nat) (h m : Nat) : List Nat := if h = 1 then [] else (W.drop 1).take (m - 1)
theorem here_first (W : List Nat) (h : Nat) (hh : 1 ≤ h) : hereL W h 1 = hereL W h 0 ++ [W.getD 0 0] := by
  unfold hereL; rw [if_neg (by decide), if_pos rfl, show 1 - h = 0 by omega, List.take_zero]; rfl
theorem here_on {W : List Nat} {h m : Nat} (h1 : 1 ≤ m) (hm : m < h) : hereL W h (m + 1) = hereL W h m := by
  unfold hereL; rw [if_neg (by omega), if_neg (by omega), show m + 1 - h = 0 by omega, show m - h = 0 by omega]
theorem here_more {W : List Nat} {h m : Nat} (hh : 1 ≤ h) (hm : h ≤ m) (hl : m < W.length) : hereL W h (m + 1) = hereL W h m ++ [W.getD m 0] := by
  unfold hereL
  rw [if_neg (by omega), if_neg (by omega), show m + 1 - h = (m - h) + 1 by omega, take_snocN (by rw [List.length_drop]; omega), List.cons_append]
  congr 2
  rw [List.getD_eq_getElem?_getD, List.getElem?_drop, show h + (m - h) = m by omega, ← List.getD_eq_getElem?_getD]
theorem on_first (W : List Nat) {h : Nat} : onL W h 1 = onL W h 0 := by unfold onL; split; rfl; rfl
theorem on_more {W : List Nat} {h m : Nat} (hh : 1 < h) (h1 : 1 ≤ m) (hl : m < W.length) : onL W h (m + 1) = onL W h m ++ [W.getD m 0] := by
  unfold onL
  rw [if_neg (by omega), if_neg (by omega), show m + 1 - 1 = (m - 1) + 1 by omega, take_snocN (by rw [List.length_drop]; omega)]
  congr 2
  rw [List.getD_eq_getElem?_getD, List.getElem?_drop, show 1 + (m - 1) = m by omega, ← List.getD_eq_getElem?_getD]
theorem here_all {W : List Nat} {h : Nat} (hh : 1 ≤ h) (hl : h < W.length) : hereL W h W.length = W.getD 0 0 :: W.drop h := by
  unfold hereL; rw [if_neg (by omega), List.take_of_length_le (by rw [List.length_drop]; omega)]
theorem on_all {W : List Nat} {h : Nat} (hh : 1 < h) : onL W h W.length = W.drop 1 := by
  unfold onL; rw [if_neg (by omega), List.take_of_length_le (by rw [List.length_drop]; omega)]
/-- The lane ahead of a Take; behind it. -/
def preT (W : List Nat) (h : Nat) (port tl : Int) (m : Nat) : LN := if h = 1 ∨ m = 0 then ⟨64, W.drop m, 2, 0, 0, false⟩ else ⟨64, W.drop m, 2, port, tl, true⟩
def stT (W : List Nat) (h : Nat) (port tl : Int) (m : Nat) : LN := if m = W.length then ⟨64, [], 0, 0, 0, false⟩ else if h ≠ 1 ∧ m = 1 then ⟨64, W.drop 1, 0, 0, 0, true⟩ else preT W h port tl m
theorem pre_take {p : Pa} (hr : rightP p = true) (port tl : Int) (hp : port ≠ 0) {m : Nat} (h : m < (wordsP p).length) :
    (preT (wordsP p) p.heads.length port tl m).take = (stT (wordsP p) p.heads.length port tl (m + 1),
      ⟨if p.heads.length = 1 ∨ m = 0 then 0 else port, if p.heads.length = 1 ∨ m = 0 then 0 else tl, (wordsP p).getD m 0, decide (p.heads.length ≠ 1 ∧ p.heads.length ≤ m), decide (m + 1 = (wordsP p).length)⟩, 0) := by
  obtain ⟨d1, d2, d3⟩ := drop_head (wordsP p) h
  have hk := kind_at hr h
  have hl := wordsP_len p
  have hpr := right_parts hr
  have hh : 1 ≤ p.heads.length := hpr.2.2.2.1
  have hm1 := fun hm => more_head hr (i := m) hm
  have hm2 := fun hm => more_rest hr (i := m) h hm
  generalize hWe : wordsP p = W at *
  generalize hHe : p.heads.length = H at *
  unfold preT
  by_cases hc : H = 1 ∨ m = 0
  · rw [if_pos hc, if_pos hc, if_pos hc, take_eq rfl d3]
    dsimp only
    rw [d1]
    unfold LN.takeF LN.outF stT preT
    dsimp only
    rw [hk, d2, decide_eq_false (show ¬ ((0 : Int) ≠ 0) by simp), Bool.false_and, decide_eq_false (show ¬ (H ≠ 1 ∧ H ≤ m) by omega)]
    by_cases h1 : m < H
    · by_cases h2 : m + 1 < H
      · have hm0 : m = 0 := by omega
        rw [if_pos h1, if_neg (show ¬ (1 : Nat) = 3 by decide), hm1 h1, if_pos (show (0 : Int) = 0 ∧ decide (m + 1 < H) = true from ⟨rfl, decide_eq_true h2⟩), if_neg (show ¬ m + 1 = W.length by omega), if_pos (show H ≠ 1 ∧ m + 1 = 1 by omega), decide_eq_false (show ¬ m + 1 = W.length by omega), hm0]; rfl
      · rw [if_pos h1, if_neg (show ¬ (1 : Nat) = 3 by decide), hm1 h1, if_neg (show ¬ ((0 : Int) = 0 ∧ decide (m + 1 < H) = true) from fun h => h2 (of_decide_eq_true h.2)), if_neg (show ¬ m + 1 = W.length by omega), if_neg (show ¬ (H ≠ 1 ∧ m + 1 = 1) by omega), if_pos (show H = 1 ∨ m + 1 = 0 by omega), decide_eq_false (show ¬ m + 1 = W.length by omega)]; rfl
    · rw [if_neg h1, hm2 h1]
      by_cases h2 : m + 1 < W.length
      · rw [if_pos h2, if_neg (show ¬ (2 : Nat) = 3 by decide), if_neg (show ¬ ((0 : Int) = 0 ∧ false = true) by simp), if_neg (show ¬ m + 1 = W.length by omega), if_neg (show ¬ (H ≠ 1 ∧ m + 1 = 1) by omega), if_pos (show H = 1 ∨ m + 1 = 0 by omega), decide_eq_false (show ¬ m + 1 = W.length by omega)]; rfl
      · rw [if_neg h2, if_pos rfl, if_pos (show m + 1 = W.length by omega), decide_eq_true (show m + 1 = W.length by omega), List.drop_of_length_le (show W.length ≤ m + 1 by omega)]; rfl
  · rw [if_neg hc, if_neg hc, if_neg hc, take_eq rfl d3]
    dsimp only
    rw [d1]
    unfold LN.takeF LN.outF stT preT
    dsimp only
    rw [hk, d2, decide_eq_true hp, Bool.true_and, Bool.true_and]
    by_cases h1 : m < H
    · rw [if_pos h1, if_neg (show ¬ (1 : Nat) = 3 by decide), if_neg (show ¬ (port = 0 ∧ LN.moreF (W.getD m 0) = true) from fun h => hp h.1), if_neg (show ¬ m + 1 = W.length by omega), if_neg (show ¬ (H ≠ 1 ∧ m + 1 = 1) by omega), if_neg (show ¬ (H = 1 ∨ m + 1 = 0) by omega), decide_eq_false (show ¬ (H ≠ 1 ∧ H ≤ m) by omega), decide_eq_false (show ¬ m + 1 = W.length by omega)]; rfl
    · rw [if_neg h1, decide_eq_true (show H ≠ 1 ∧ H ≤ m by omega)]
      by_cases h2 : m + 1 < W.length
      · rw [if_pos h2, if_neg (show ¬ (2 : Nat) = 3 by decide), if_neg (show ¬ (port = 0 ∧ LN.moreF (W.getD m 0) = true) from fun h => hp h.1), if_neg (show ¬ m + 1 = W.length by omega), if_neg (show ¬ (H ≠ 1 ∧ m + 1 = 1) by omega), if_neg (show ¬ (H = 1 ∨ m + 1 = 0) by omega), decide_eq_false (show ¬ m + 1 = W.length by omega)]; rfl
      · rw [if_neg h2, if_pos rfl, if_pos (show m + 1 = W.length by omega), decide_eq_true (show m + 1 = W.length by omega), List.drop_of_length_le (show W.length ≤ m + 1 by omega)]; rfl
/-- A Head's way at a place. -/
theorem find_at {p : Pa} (hr : rightP p = true) (n : Nat) (m : Nat) (hm : m < p.heads.length) (pt ln : Int) (cp : Bool) (node port : Int) :
    (LN.mk n ((wordsP p).drop m) 0 pt ln cp).find node port = LN.findF (LN.mk n ((wordsP p).drop m) 0 pt ln cp) (headFl p m, 0) node port := by
  have hl := wordsP_len p
  obtain ⟨d1, d2, d3⟩ := drop_head (wordsP p) (i := m) (by omega)
  unfold LN.find
  dsimp only
  rw [if_neg d3, if_neg (by simp), d1, head_read hr hm]
set_option maxRecDepth 100000 in
set_option maxHeartbeats 8000000 in
theorem laneThrough_walk (p : PaM) (port tl : Int) (w : World) (h : p.Here w) :
    Calls Try.prog 5 #[.agg #[.int .i64 p.pa.src, .bool p.pa.cast, .slice p.ha p.pa.heads.length p.hc, .string p.pa.data], .int .i64 port, .int .i64 tl] w fun e w' => e = .returned (.bool true) ∧ Below w.heap.size w w' := by
  have hW := fun w' hb => words14 p.pa p.ha p.hc w' (h.below (w' := w') hb).1 h.2.1 h.2.2
  have hG := fun w' hb => rgood10 p.pa p.ha p.hc w' (h.below (w' := w') hb).1 h.2.1 h.2.2
  have hr := good_right p.pa
  obtain ⟨P, hPe, hP1, hP4⟩ := port_mod port
  have hin := fun m (hm : m < (wordsP (goodP p.pa)).length) => in_put (wordsP (goodP p.pa)) hm (by have := good_words p.pa; omega)
  have hlt := fun m (hm : m < (wordsP (goodP p.pa)).length) => words_lt (goodP p.pa) ((wordsP (goodP p.pa)).getD m 0) (by rw [List.getD_eq_getElem?_getD, List.getElem?_eq_getElem hm]; exact List.getElem_mem hm)
  have hot := fun m (hm : m < (wordsP (goodP p.pa)).length) => pre_take hr (P : Int) tl (by omega) hm
  have hfa := fun m hm pt ln cp node => find_at hr 64 m hm pt ln cp node (P : Int)
  have hwp := wordsP_pos (goodP p.pa)
  have hwl := good_words p.pa
  have hwL := wordsP_len (goodP p.pa)
  have hgh := good_heads p.pa
  generalize wordsP (goodP p.pa) = W at *
  generalize hge : goodP p.pa = g at *
  clear hge
  obtain ⟨gs, gc, gh, gd⟩ := g
  obtain ⟨⟨src, cast, heads, data⟩, ha, hc⟩ := p
  dsimp only [Pa.val] at *
  obtain ⟨H, hH⟩ : ∃ H, H = gh.length := ⟨_, rfl⟩
  have hHL : H < W.length := by omega
  have hH1 : 1 ≤ H := by omega
  have hH6 : H ≤ 6 := by omega
  have h0d : (headFl ⟨gs, gc, gh, gd⟩ 0).dst = (gh.getD 0 T2.zero).node := rfl
  have h1d : (headFl ⟨gs, gc, gh, gd⟩ 1).dst = (gh.getD 1 T2.zero).node := rfl
  have hkd : ∀ i, (headFl ⟨gs, gc, gh, gd⟩ i).kind = 1 := fun _ => rfl
  have hfg : ∀ i, i < gh.length → (flatT gh)[i * 2]? = some (.int .i64 (gh.getD i T2.zero).node) := fun i hi => (flat_get T2.clen T2.zero gh i 0 hi (by decide)).trans rfl
  have hg0 := hfg 0 (by omega)
  have hg1 : 1 < H → (flatT gh)[2]? = some (.int .i64 (gh.getD 1 T2.zero).node) := fun h => hfg 1 (by omega)
  have hf0 : (inS W W.length).find (gh.getD 0 T2.zero).node P = (preT W H P tl 0, true) := by
    have := hfa 0 (by omega) 0 0 false (gh.getD 0 T2.zero).node
    unfold inS
    rw [List.take_length]
    rw [List.drop_zero] at this
    rw [this]
    unfold LN.findF preT
    rw [if_neg (show ¬ ((0 : Int) ≠ 0) by simp), if_neg (show ¬ ((headFl ⟨gs, gc, gh, gd⟩ 0).kind ≠ 1) by rw [hkd]; simp), if_pos h0d, if_pos (show H = 1 ∨ 0 = 0 from .inr rfl), List.drop_zero]
  have hf1 : 1 < H → (gh.getD 1 T2.zero).node ≠ (gh.getD 0 T2.zero).node → (LN.mk 64 (W.drop 1) 0 0 0 true).find (gh.getD 0 T2.zero).node P = (⟨64, W.drop 1, 1, P, 0, true⟩, true) := fun h hn => by
    rw [hfa 1 (by omega) 0 0 true]
    unfold LN.findF
    rw [if_neg (show ¬ ((0 : Int) ≠ 0) by simp), if_neg (show ¬ ((headFl ⟨gs, gc, gh, gd⟩ 1).kind ≠ 1) by rw [hkd]; simp), if_neg (show ¬ ((headFl ⟨gs, gc, gh, gd⟩ 1).dst = (gh.getD 0 T2.zero).node) by rw [h1d]; exact hn), if_neg (show ¬ ((P : Int) ≤ 0) by omega), if_neg (show ¬ (5 ≤ (P : Int)) by omega)]
  have hp0 : preT W H P tl 0 = ⟨64, W.drop 0, 2, 0, 0, false⟩ := by unfold preT; rw [if_pos (.inr rfl)]
  have hst0 : stT W H P tl 0 = preT W H P tl 0 := by unfold stT; rw [if_neg (by omega), if_neg (by omega)]
  have hste : stT W H P tl W.length = ⟨64, [], 0, 0, 0, false⟩ := by unfold stT; rw [if_pos rfl]
  generalize (gh.getD 0 T2.zero).node = n0 at *
  generalize (gh.getD 1 T2.zero).node = n1 at *
  have hgl : gh.length = H := hH.symm
  rw [hgl] at hG
  clear hfg hfa h0d h1d hkd hr hgh hwL h hH
  have HLV := Lib.hid (fun w => lives14_calls w)
  have HBY := Lib.hid (fun w => by_calls (P : Int) w)
  have HW := Lib.hid hW
  have HG := Lib.hid hG
  have HG0 := Lib.hid hg0
  have HG1 := Lib.hid hg1
  have K0 : Hid (∀ w, Calls Try.prog 11 #[.int .i64 64] w fun e w' => ∃ b B, e = .returned (.pointer (some ⟨b, 0, none⟩)) ∧ LaneAt w' b B (inS W 0) ∧ (∀ k ∈ B, w.heap.size ≤ k) ∧ Below w.heap.size w w') := fun w => lane_new 64 w
  have K1 : Hid (∀ m, m < W.length → ∀ w b B, LaneAt w b B (inS W m) → Calls Try.prog 14 #[.pointer (some ⟨b, 0, none⟩), .int .u64 ((W.getD m 0 : Nat) : Int)] w fun e w' => e = .returned (.int .i64 0) ∧ LaneAt w' b B (inS W (m + 1)) ∧ Only B w w') := fun m hm w b B h => by
    have := lane_put (W.getD m 0) (hlt m hm) w b B _ h
    rw [hin m hm] at this
    exact this
  have KF : Hid (∀ w b B pb, LaneAt w b B (inS W W.length) → w.heap[pb]? = some (.cells #[.int .i64 (P : Int)] 3 (0, 0)) → Calls Try.prog 12 #[.pointer (some ⟨b, 0, none⟩), .int .i64 n0, .func (.func 43) #[] #[.pointer (some ⟨pb, 0, none⟩)]] w fun e w' => e = .returned (.bool true) ∧ LaneAt w' b B (preT W H P tl 0) ∧ Only B w w') := fun w b B pb h hp => by
    have := lane_find w b B _ n0 P _ h (fun _ => ⟨pb, rfl, hp⟩)
    rw [hf0] at this
    exact this
  have KP1 : Hid (∀ w b B, LaneAt w b B (preT W H P tl 0) → Calls Try.prog 17 #[.pointer (some ⟨b, 0, none⟩)] w fun e w' => e = .returned (.int .i64 2) ∧ ∃ k, w' = w.drewN k) := fun w b B h => by
    rw [hp0] at h
    exact lane_phase w b B _ h
  have KP2 : Hid (∀ w b B, LaneAt w b B (preT W H P tl 0) → Calls Try.prog 22 #[.pointer (some ⟨b, 0, none⟩)] w fun e w' => e = .returned (.int .i64 0) ∧ ∃ k, w' = w.drewN k) := fun w b B h => by
    rw [hp0] at h
    exact lane_port w b B _ h
  have KT : Hid (∀ m, m < W.length → ∀ w b B, LaneAt w b B (preT W H P tl m) → Calls Try.prog 16 #[.pointer (some ⟨b, 0, none⟩)] w fun e w' => e = .returned (.tuple #[.agg #[.int .i64 (if H = 1 ∨ m = 0 then 0 else (P : Int)), .int .i64 (if H = 1 ∨ m = 0 then 0 else tl), .int .u64 ((W.getD m 0 : Nat) : Int), .bool (decide (H ≠ 1 ∧ H ≤ m)), .bool (decide (m + 1 = W.length))], .int .i64 0]) ∧ LaneAt w' b B (stT W H P tl (m + 1)) ∧ Only B w w') := fun m hm w b B h => by
    have := lane_take w b B _ h
    have e := hot m hm
    rw [hgl] at e
    rw [e] at this
    exact this
  have KE1 : Hid (∀ w b B, LaneAt w b B (stT W H P tl W.length) → Calls Try.prog 17 #[.pointer (some ⟨b, 0, none⟩)] w fun e w' => e = .returned (.int .i64 0) ∧ ∃ k, w' = w.drewN k) := fun w b B h => by
    rw [hste] at h
    exact lane_phase w b B _ h
  have KE2 : Hid (∀ w b B, LaneAt w b B (stT W H P tl W.length) → Calls Try.prog 23 #[.pointer (some ⟨b, 0, none⟩)] w fun e w' => e = .returned (.bool false) ∧ ∃ k, w' = w.drewN k) := fun w b B h => by
    rw [hste] at h
    exact lane_copies w b B _ h
  have KE3 : Hid (∀ w b B, LaneAt w b B (stT W H P tl W.length) → Calls Try.prog 18 #[.pointer (some ⟨b, 0, none⟩)] w fun e w' => e = .returned (.int .i64 0) ∧ ∃ k, w' = w.drewN k) := fun w b B h => by
    rw [hste] at h
    exact lane_len w b B _ h
  have HST0 := Lib.hid hst0
  have HF1 := Lib.hid hf1
  have hHI6 : (H : Int) ≤ 6 := by omega
  clear hW hG hin hlt hot hg0 hg1 hf0 hp0 hst0 hste hgl hf1
  have hhl : ∀ m, m ≤ W.length → (hereL W H m).length ≤ 40 := fun m hm => by
    unfold hereL; split
    · simp
    · rw [List.length_cons, List.length_take, List.length_drop]; omega
  have hol : ∀ m, m ≤ W.length → (onL W H m).length ≤ 40 := fun m hm => by
    unfold onL; split
    · simp
    · rw [List.length_take, List.length_drop]; omega
  rcases Nat.eq_or_lt_of_le hH1 with h1 | h1
  · have hHI : ¬ ((1 : Int) < (H : Int)) := by omega
    have hHe : ((H : Int) == 1) = true := beq_iff_eq.2 (by omega)
    have HH1 := Lib.hid h1.symm
    clear h1
    go_enter Try.func5, Try.ntmps5
    go_upto_region 6 with (first
      | (go_at_call 10; ((with_reducible refine (HLV.out _).mono ?_); rintro e w1 ⟨rfl, hb1⟩; have hX1 := Below.at hb1 (alloc_new _) (by simp); have f1 := fun j => cell_at hX1 j; have hlx := block_lt hX1; have hB1 : Below w.heap.size w w1 := Below.trans ((Below.refl _ _).alloc (Nat.le_refl _) _) (hb1.mono (by simp)); have HX1 := Lib.hid hX1; have HB1 := Lib.hid hB1; clear hb1 hX1 hB1))
      | (go_at_call 21; ((with_reducible refine (HG.out _ HB1.out).mono ?_); rintro e w2 ⟨v2, rfl, hown2, hb2⟩; obtain ⟨p2, q2, rfl, -, -, hc2⟩ := CellsOff.own hown2 [] (by simp); clear f1 hlx; have hX2 := Below.at hb2 HX1.out (block_lt HX1.out); have f1 := fun j => cell_at hX2 j; have hlx := block_lt hX2; have hB2 : Below w.heap.size w w2 := HB1.out.trans (hb2.mono HB1.out.size); have HC2 := Lib.hid hc2; have HB2 := Lib.hid hB2; clear hown2 hb2 hX2 hB2 hc2))
      | (go_at_call 19; ((with_reducible refine (HW.out _ (HB2.out.alloc HB2.out.size _)).mono ?_); rintro e w3 ⟨v3, rfl, hown3, hb3⟩; obtain ⟨p3, q3, rfl, hq3, -, hc3⟩ := CellsOff.own hown3 [] (by simp); have hY3 := Below.at hb3 (alloc_new _) (by simp); have g3 := fun j => cell_at hY3 j; have hB3 : Below w.heap.size w w3 := (HB2.out.alloc HB2.out.size _).trans (hb3.mono (by have := HB2.out.size; simp; omega)); have HW3 := Lib.hid hc3; have HC3 := Lib.hid ((HC2.out.below ((Below.refl _ _).alloc (Nat.le_refl _) _)).below hb3); have HB3 := Lib.hid hB3; clear f1 hlx hown3 hb3 hY3 hB3 hc3)))
    obtain ⟨blk, off, rfl, -, hblk⟩ := uv_ptr HW3.out hwp
    obtain ⟨hbk, hof, rfl, -, c0⟩ := HC3.out _ _ HG0.out
    simp only [Nat.add_zero, Nat.zero_mul] at c0
    go_upto_region 11 with (first
      | (go_at_call 11; ((with_reducible refine (K0.out _).mono ?_); rintro e w4 ⟨b, B, rfl, hL4, hF4, hb4⟩; have HL4 := Lib.hid hL4; have HFR := Lib.hid hF4; have hlt4 := hL4.lt; have HLT0 := Lib.hid hlt4; have HB34 := Lib.hid hb4; clear hL4 hF4 hb4 hlt4)))
    obtain ⟨base, hbase⟩ : ∃ base, base = w4.heap.size := ⟨_, rfl⟩
    have hbs : w3.heap.size ≤ base := by rw [hbase]; exact HB34.out.size
    have HLTB : Hid (∀ k ∈ B, k < base) := fun k hk => by rw [hbase]; exact HLT0.out k hk
    have HBS := Lib.hid hbase
    have HSA : Hid (∀ w', Below w3.heap.size w3 w' → ∀ m, m < W.length → w'.cell? ⟨blk, off + m, none⟩ = some (.int .u64 ((W.getD m 0 : Nat) : Int))) := fun w' hb m hm => (hb.cell (p := ⟨blk, _, none⟩) hblk).trans (uv_at HW3.out hm)
    have HX0 : Hid (∀ w', Below w3.heap.size w3 w' → w'.cell? ⟨blk, off, none⟩ = some (.int .u64 ((W.getD 0 0 : Nat) : Int))) := fun w' hb => HSA.out w' hb 0 hwp
    have HWC : Hid (∀ w', Below w3.heap.size w3 w' → CellsOff w' (some ⟨blk, off, none⟩) (W.map UV) []) := fun w' hb => HW3.out.below hb
    clear g3 c0 hblk hbase HLT0 HG0 HG1 HC3 
    go_wp2
    go_loopw [12] (fun i wr => ∃ m : Nat, m ≤ W.length ∧ i = .int .i64 (m : Int) ∧ LaneAt wr b B (inS W m) ∧ Only B w4 wr) (fun i _ => W.length - (intOf i).toNat)
    case atStart => exact ⟨0, by omega, rfl, by have hLL := HL4.out; (repeat (first | (with_reducible exact hLL) | (with_reducible refine LaneAt.drewN ?_ _) | (with_reducible refine LaneAt.drew ?_) | (with_reducible refine LaneAt.alloc ?_ _))), by first | exact Only.refl _ _ | exact (Only.refl _ _).drewN _⟩
    case round =>
      obtain ⟨m, hm, rfl, hL, hO⟩ := hrel
      have hBr : Below w3.heap.size w3 wr := HB34.out.trans (hO.below (B := w3.heap.size) (fun k hk => HFR.out k hk) HB34.out.size)
      by_cases hml : m < W.length
      · have hmI : (m : Int) < (W.length : Int) := by omega
        have c0 := HSA.out _ hBr m hml
        have HP := Lib.hid (K1.out m hml)
        have HL := Lib.hid hL
        have HO := Lib.hid hO
        clear hL hO hBr
        generalize W.getD m 0 = x at *
        go_wp2_with (first | (go_at_call 14; ((with_reducible refine (HP.out _ _ B (by have hLL := HL.out; (repeat (first | (with_reducible exact hLL) | (with_reducible refine LaneAt.drewN ?_ _) | (with_reducible refine LaneAt.drew ?_) | (with_reducible refine LaneAt.alloc ?_ _))))).mono ?_); rintro e w5 ⟨rfl, hL5, hO5⟩; have HL5 := Lib.hid hL5; have HO5 := Lib.hid (Only.trans (by (first | exact HO.out | exact Only.drewN HO.out _)) hO5); clear hL5 hO5)))
        go_roundw
        case rel => exact ⟨m + 1, by omega, by go_num, HL5.out, HO5.out⟩
        case measure => simp [intOf]; omega
      · obtain rfl : m = W.length := by omega
        have HL := Lib.hid hL
        have HO := Lib.hid hO
        clear hL hO hml hm hBr
        go_upto_region 19 with (first
          | (go_at_call 13; ((with_reducible refine (HBY.out _).mono ?_); rintro e w5 ⟨pb5, rfl, hp5, hpb5, hb5⟩; have hL5 : LaneAt w5 b B (inS W W.length) := LaneAt.below (by have hLL := HL.out; (repeat (first | (with_reducible exact hLL) | (with_reducible refine LaneAt.drewN ?_ _) | (with_reducible refine LaneAt.drew ?_) | (with_reducible refine LaneAt.alloc ?_ _)))) hb5; have hO5 : Only B w4 w5 := Only.trans (by (first | exact HO.out | exact Only.drewN HO.out _)) (Only.ofBelow hb5 B); have HP5 := Lib.hid hp5; have HL5 := Lib.hid hL5; have HO5 := Lib.hid hO5; clear hp5 hb5 hpb5 hL5 hO5))
          | (go_at_call 12; ((with_reducible refine (KF.out _ _ B _ HL5.out HP5.out).mono ?_); rintro e w6 ⟨rfl, hL6, hO6⟩; have HL6 := Lib.hid hL6; have HO6 := Lib.hid (HO5.out.trans hO6); clear hL6 hO6))
          | (go_at_call 17; ((with_reducible refine (KP1.out _ _ B (by have hLL := HL6.out; (repeat (first | (with_reducible exact hLL) | (with_reducible refine LaneAt.drewN ?_ _) | (with_reducible refine LaneAt.drew ?_) | (with_reducible refine LaneAt.alloc ?_ _))))).mono ?_); rintro e w' ⟨rfl, k, rfl⟩))
          | (go_at_call 22; ((with_reducible refine (KP2.out _ _ B (by have hLL := HL6.out; (repeat (first | (with_reducible exact hLL) | (with_reducible refine LaneAt.drewN ?_ _) | (with_reducible refine LaneAt.drew ?_) | (with_reducible refine LaneAt.alloc ?_ _))))).mono ?_); rintro e w' ⟨rfl, k, rfl⟩)))
        have HB6 := Lib.hid (HB34.out.trans (HO6.out.below (B := w3.heap.size) (fun k hk => HFR.out k hk) HB34.out.size))
        have hs6 : base ≤ w6.heap.size := by rw [HBS.out]; exact HO6.out.size
        have hon0 : onL W H 0 = [] := by unfold onL; split; rfl; rfl
        clear HL HO HL5 HO5 HP5 HL4
        go_wp2
        go_loopw [13, 14, 15] (fun v u i wr => ∃ m : Nat, m ≤ W.length ∧ i = .int .i64 (m : Int) ∧ LaneAt wr b B (stT W H P tl m) ∧ (Pair base 22 22 1 1 wr v u (hereL W H m).length (onL W H m).length ((hereL W H m).map UV) ((onL W H m).map UV)) ∧ Below w3.heap.size w3 wr ∧ base ≤ wr.heap.size) (fun _ _ i _ => W.length - (intOf i).toNat)
        case atStart => exact ⟨0, by omega, rfl, by rw [HST0.out]; have hLL := HL6.out; (repeat (first | (with_reducible exact hLL) | (with_reducible refine LaneAt.drewN ?_ _) | (with_reducible refine LaneAt.drew ?_) | (with_reducible refine LaneAt.alloc ?_ _))), by rw [hon0]; exact ⟨World.ownsRow_nil _ _ _ _, World.ownsRow_nil _ _ _ _, by intro k hk; simp [Value.ownBlock] at hk⟩, by have hBB := HB6.out; repeat' (first | (with_reducible assumption) | (with_reducible refine below_setRowN ?_ ?_ _) | (with_reducible refine Below.setCell ?_ ?_ _) | (with_reducible refine below_drewN' ?_ _) | (with_reducible refine Below.drew ?_) | (with_reducible refine Below.alloc ?_ ?_ _) | (with_reducible exact Below.refl _ _) | (with_reducible exact Nat.le_refl _) | (simp; done) | omega | (simp; omega)), by first | exact hs6 | (simp; omega)⟩
        case round =>
          clear HL6 HO6 HB6 hs6 hon0
          obtain ⟨m, hm, rfl, hL, hPR, hB, hsx⟩ := hrel
          by_cases hml : m < W.length
          · have hmI : (m : Int) < (W.length : Int) := by omega
            have hLp : LaneAt wr b B (preT W H P tl m) := by
              have e : stT W H P tl m = preT W H P tl m := by unfold stT; rw [if_neg (by omega), if_neg (fun h => h.1 HH1.out)]
              rw [e] at hL; exact hL
            have HS : Hid (∀ w', Below w3.heap.size w3 w' → w'.cell? ⟨blk, off + m, none⟩ = some (.int .u64 ((W.getD m 0 : Nat) : Int))) := fun w' hb => HSA.out w' hb m hml
            have HE1 : Hid (hereL W H (m + 1) = hereL W H m ++ [W.getD m 0]) := by
              unfold Hid
              rcases Nat.eq_zero_or_pos m with h0 | h0
              · rw [h0]; exact here_first W H hH1
              · exact here_more hH1 (by have := HH1.out; omega) hml
            have HE2 : Hid (onL W H (m + 1) = onL W H m) := by unfold Hid onL; rw [if_pos HH1.out, if_pos HH1.out]
            have hn1 := hhl m hm
            have hn2 := hol m hm
            have HLx := Lib.hid hLp
            have HPRx := Lib.hid hPR
            have HBx := Lib.hid hB
            clear hL hPR hB hLp
            have HPT : Hid (∀ w b B, LaneAt w b B (preT W H P tl m) → Calls Try.prog 16 #[.pointer (some ⟨b, 0, none⟩)] w fun e w' => e = .returned (.tuple #[.agg #[.int .i64 0, .int .i64 0, .int .u64 ((W.getD m 0 : Nat) : Int), .bool false, .bool (decide (m + 1 = W.length))], .int .i64 0]) ∧ LaneAt w' b B (stT W H P tl (m + 1)) ∧ Only B w w') := fun w b B h => by
              have := KT.out m hml w b B h
              rw [if_pos (.inl HH1.out), if_pos (.inl HH1.out), decide_eq_false (fun h => h.1 HH1.out)] at this
              exact this
            generalize W.getD m 0 = x at *
            by_cases hlast : m + 1 = W.length
            · have hl2 : ((m : Int) + 1 == (W.length : Int)) = true := beq_iff_eq.2 (by omega)
              have HP := HPT
              rw [decide_eq_true hlast] at HP
              clear HPT
              by_cases hm1 : m = 1
              · have hmb : ((m : Int) == 1) = true := beq_iff_eq.2 (by omega)
                clear hm1
                go_upto_region 25 with (first | (go_at_call 16; ((with_reducible refine (HP.out _ _ B (by have hLL := HLx.out; (repeat (first | (with_reducible exact hLL) | (with_reducible refine LaneAt.drewN ?_ _) | (with_reducible refine LaneAt.drew ?_) | (with_reducible refine LaneAt.alloc ?_ _))))).mono ?_); rintro e w8 ⟨rfl, hL8, hO8'⟩; have hO8 : Only B wr w8 := Only.trans (by first | exact Only.refl _ _ | exact (Only.refl _ _).drewN _) hO8'; have HO8 := Lib.hid hO8; have HL8 := Lib.hid hL8; clear hO8 hO8' hL8)))
                have hB8 : Below w3.heap.size w3 w8 := HBx.out.trans (HO8.out.below (B := w3.heap.size) (fun k hk => HFR.out k hk) HBx.out.size)
                have c2 := HS.out w8 hB8
                have hlc2 := World.block_lt_of_cell? _ _ c2
                have hsc : base ≤ (w8.alloc (.cells #[.int .i64 0, .int .i64 0, .int .u64 (x : Int), .bool false, .bool true] 36)).heap.size := by have := HO8.out.size; simp; omega
                have hPc := (HPRx.out.off (w1 := w8) HO8.out (fun k hk hm => by have := (HPRx.out.fst.lt k hk).1; have := HLTB.out k hm; omega) (fun k hk hm => by have := (HPRx.out.snd.lt k hk).1; have := HLTB.out k hm; omega)).aft (w1 := w8.alloc (.cells #[.int .i64 0, .int .i64 0, .int .u64 (x : Int), .bool false, .bool true] 36)) ((Below.refl _ _).alloc (Nat.le_refl _) _)
                have hFc := alloc_new (w := w8) (.cells #[.int .i64 0, .int .i64 0, .int .u64 (x : Int), .bool false, .bool true] 36)
                have HLc := Lib.hid (HL8.out.alloc (.cells #[.int .i64 0, .int .i64 0, .int .u64 (x : Int), .bool false, .bool true] 36))
                have HBc := Lib.hid (hB8.alloc hB8.size (.cells #[.int .i64 0, .int .i64 0, .int .u64 (x : Int), .bool false, .bool true] 36))
                have HPc := Lib.hid hPc
                clear hB8 hPc
                go_quiet (fail)
                generalize w8.alloc (.cells #[.int .i64 0, .int .i64 0, .int .u64 (x : Int), .bool false, .bool true] 36) = wc at *
                have fc := fun j => cell_at hFc j
                have hlf := block_lt hFc
                have HFc := Lib.hid hFc
                clear hFc c2 hlc2
                go_upto_region 29 with (at_builtin; refine append_own (W0 := wc) [.int .u64 (x : Int)] base _ _ _ 1 8 infoU64p Try.underlying44 rfl (by decide) _ _ _ (by first | exact HPc.out.fst | exact ownsRow_drewN HPc.out.fst _) (by first | exact Below.refl _ _ | exact below_drewN' (Below.refl _ _) _) hsc rfl (by simp [Value.oneCell']) (by omega) (by decide) rfl _ _ rfl rfl rfl ?_; intro v1 w9 hown9 hb9 hg9' hor9; have hg9 : wc.grownBy w9 u13.ownBlock := ⟨hg9'.os, hg9'.tape, hg9'.output, hg9'.size, hg9'.block⟩; have HP9 := Lib.hid (HPc.out.first hg9 hor9 hown9); have hF9 := (hg9.block _ hlf (fun e => by have := (HPRx.out.fst.lt _ e.symm).2; have := HO8.out.size; omega)).trans HFc.out; have HF9 := Lib.hid hF9; have HL9 := Lib.hid (LaneAt.belowN HLc.out hb9 HLTB.out); have HB9 := Lib.hid (HBc.out.trans (hb9.mono hbs)); have hs9 : base ≤ w9.heap.size := Nat.le_trans hsc hb9.size; clear fc hlf hg9 hg9' hor9 hown9 hb9; have f9 := fun j => cell_at hF9 j; have hlf9 := block_lt hF9; clear hF9)
                go_wp2
                go_roundw
                case rel => exact ⟨m + 1, by omega, by go_num, by have hLL := HL9.out; (repeat (first | (with_reducible exact hLL) | (with_reducible refine LaneAt.drewN ?_ _) | (with_reducible refine LaneAt.drew ?_) | (with_reducible refine LaneAt.alloc ?_ _))), by rw [HE1.out, HE2.out, List.map_append, List.length_append]; first | exact HP9.out | exact Pair.aft HP9.out (below_drewN' (Below.refl _ _) _), by have hBB := HB9.out; repeat' (first | (with_reducible assumption) | (with_reducible refine below_setRowN ?_ ?_ _) | (with_reducible refine Below.setCell ?_ ?_ _) | (with_reducible refine below_drewN' ?_ _) | (with_reducible refine Below.drew ?_) | (with_reducible refine Below.alloc ?_ ?_ _) | (with_reducible exact Below.refl _ _) | (with_reducible exact Nat.le_refl _) | (simp; done) | omega | (simp; omega)), by first | exact hs9 | (simp; omega)⟩
                case measure => simp [intOf]; omega
              · have hmb : ((m : Int) == 1) = false := beq_eq_false_iff_ne.2 (by omega)
                go_upto_region 25 with (first | (go_at_call 16; ((with_reducible refine (HP.out _ _ B (by have hLL := HLx.out; (repeat (first | (with_reducible exact hLL) | (with_reducible refine LaneAt.drewN ?_ _) | (with_reducible refine LaneAt.drew ?_) | (with_reducible refine LaneAt.alloc ?_ _))))).mono ?_); rintro e w8 ⟨rfl, hL8, hO8'⟩; have hO8 : Only B wr w8 := Only.trans (by first | exact Only.refl _ _ | exact (Only.refl _ _).drewN _) hO8'; have HO8 := Lib.hid hO8; have HL8 := Lib.hid hL8; clear hO8 hO8' hL8)))
                have hB8 : Below w3.heap.size w3 w8 := HBx.out.trans (HO8.out.below (B := w3.heap.size) (fun k hk => HFR.out k hk) HBx.out.size)
                have c2 := HS.out w8 hB8
                have hlc2 := World.block_lt_of_cell? _ _ c2
                have hsc : base ≤ (w8.alloc (.cells #[.int .i64 0, .int .i64 0, .int .u64 (x : Int), .bool false, .bool true] 36)).heap.size := by have := HO8.out.size; simp; omega
                have hPc := (HPRx.out.off (w1 := w8) HO8.out (fun k hk hm => by have := (HPRx.out.fst.lt k hk).1; have := HLTB.out k hm; omega) (fun k hk hm => by have := (HPRx.out.snd.lt k hk).1; have := HLTB.out k hm; omega)).aft (w1 := w8.alloc (.cells #[.int .i64 0, .int .i64 0, .int .u64 (x : Int), .bool false, .bool true] 36)) ((Below.refl _ _).alloc (Nat.le_refl _) _)
                have hFc := alloc_new (w := w8) (.cells #[.int .i64 0, .int .i64 0, .int .u64 (x : Int), .bool false, .bool true] 36)
                have HLc := Lib.hid (HL8.out.alloc (.cells #[.int .i64 0, .int .i64 0, .int .u64 (x : Int), .bool false, .bool true] 36))
                have HBc := Lib.hid (hB8.alloc hB8.size (.cells #[.int .i64 0, .int .i64 0, .int .u64 (x : Int), .bool false, .bool true] 36))
                have HPc := Lib.hid hPc
                clear hB8 hPc
                go_quiet (fail)
                generalize w8.alloc (.cells #[.int .i64 0, .int .i64 0, .int .u64 (x : Int), .bool false, .bool true] 36) = wc at *
                have fc := fun j => cell_at hFc j
                have hlf := block_lt hFc
                have HFc := Lib.hid hFc
                clear hFc c2 hlc2
                go_upto_region 29 with (at_builtin; refine append_own (W0 := wc) [.int .u64 (x : Int)] base _ _ _ 1 8 infoU64p Try.underlying44 rfl (by decide) _ _ _ (by first | exact HPc.out.fst | exact ownsRow_drewN HPc.out.fst _) (by first | exact Below.refl _ _ | exact below_drewN' (Below.refl _ _) _) hsc rfl (by simp [Value.oneCell']) (by omega) (by decide) rfl _ _ rfl rfl rfl ?_; intro v1 w9 hown9 hb9 hg9' hor9; have hg9 : wc.grownBy w9 u13.ownBlock := ⟨hg9'.os, hg9'.tape, hg9'.output, hg9'.size, hg9'.block⟩; have HP9 := Lib.hid (HPc.out.first hg9 hor9 hown9); have hF9 := (hg9.block _ hlf (fun e => by have := (HPRx.out.fst.lt _ e.symm).2; have := HO8.out.size; omega)).trans HFc.out; have HF9 := Lib.hid hF9; have HL9 := Lib.hid (LaneAt.belowN HLc.out hb9 HLTB.out); have HB9 := Lib.hid (HBc.out.trans (hb9.mono hbs)); have hs9 : base ≤ w9.heap.size := Nat.le_trans hsc hb9.size; clear fc hlf hg9 hg9' hor9 hown9 hb9; have f9 := fun j => cell_at hF9 j; have hlf9 := block_lt hF9; clear hF9)
                go_wp2
                go_roundw
                case rel => exact ⟨m + 1, by omega, by go_num, by have hLL := HL9.out; (repeat (first | (with_reducible exact hLL) | (with_reducible refine LaneAt.drewN ?_ _) | (with_reducible refine LaneAt.drew ?_) | (with_reducible refine LaneAt.alloc ?_ _))), by rw [HE1.out, HE2.out, List.map_append, List.length_append]; first | exact HP9.out | exact Pair.aft HP9.out (below_drewN' (Below.refl _ _) _), by have hBB := HB9.out; repeat' (first | (with_reducible assumption) | (with_reducible refine below_setRowN ?_ ?_ _) | (with_reducible refine Below.setCell ?_ ?_ _) | (with_reducible refine below_drewN' ?_ _) | (with_reducible refine Below.drew ?_) | (with_reducible refine Below.alloc ?_ ?_ _) | (with_reducible exact Below.refl _ _) | (with_reducible exact Nat.le_refl _) | (simp; done) | omega | (simp; omega)), by first | exact hs9 | (simp; omega)⟩
                case measure => simp [intOf]; omega
            · have hl2 : ((m : Int) + 1 == (W.length : Int)) = false := beq_eq_false_iff_ne.2 (by omega)
              have HP := HPT
              rw [decide_eq_false hlast] at HP
              clear HPT
              by_cases hm1 : m = 1
              · have hmb : ((m : Int) == 1) = true := beq_iff_eq.2 (by omega)
                clear hm1
                go_upto_region 25 with (first | (go_at_call 16; ((with_reducible refine (HP.out _ _ B (by have hLL := HLx.out; (repeat (first | (with_reducible exact hLL) | (with_reducible refine LaneAt.drewN ?_ _) | (with_reducible refine LaneAt.drew ?_) | (with_reducible refine LaneAt.alloc ?_ _))))).mono ?_); rintro e w8 ⟨rfl, hL8, hO8'⟩; have hO8 : Only B wr w8 := Only.trans (by first | exact Only.refl _ _ | exact (Only.refl _ _).drewN _) hO8'; have HO8 := Lib.hid hO8; have HL8 := Lib.hid hL8; clear hO8 hO8' hL8)))
                have hB8 : Below w3.heap.size w3 w8 := HBx.out.trans (HO8.out.below (B := w3.heap.size) (fun k hk => HFR.out k hk) HBx.out.size)
                have c2 := HS.out w8 hB8
                have hlc2 := World.block_lt_of_cell? _ _ c2
                have hsc : base ≤ (w8.alloc (.cells #[.int .i64 0, .int .i64 0, .int .u64 (x : Int), .bool false, .bool false] 36)).heap.size := by have := HO8.out.size; simp; omega
                have hPc := (HPRx.out.off (w1 := w8) HO8.out (fun k hk hm => by have := (HPRx.out.fst.lt k hk).1; have := HLTB.out k hm; omega) (fun k hk hm => by have := (HPRx.out.snd.lt k hk).1; have := HLTB.out k hm; omega)).aft (w1 := w8.alloc (.cells #[.int .i64 0, .int .i64 0, .int .u64 (x : Int), .bool false, .bool false] 36)) ((Below.refl _ _).alloc (Nat.le_refl _) _)
                have hFc := alloc_new (w := w8) (.cells #[.int .i64 0, .int .i64 0, .int .u64 (x : Int), .bool false, .bool false] 36)
                have HLc := Lib.hid (HL8.out.alloc (.cells #[.int .i64 0, .int .i64 0, .int .u64 (x : Int), .bool false, .bool false] 36))
                have HBc := Lib.hid (hB8.alloc hB8.size (.cells #[.int .i64 0, .int .i64 0, .int .u64 (x : Int), .bool false, .bool false] 36))
                have HPc := Lib.hid hPc
                clear hB8 hPc
                go_quiet (fail)
                generalize w8.alloc (.cells #[.int .i64 0, .int .i64 0, .int .u64 (x : Int), .bool false, .bool false] 36) = wc at *
                have fc := fun j => cell_at hFc j
                have hlf := block_lt hFc
                have HFc := Lib.hid hFc
                clear hFc c2 hlc2
                go_upto_region 29 with (at_builtin; refine append_own (W0 := wc) [.int .u64 (x : Int)] base _ _ _ 1 8 infoU64p Try.underlying44 rfl (by decide) _ _ _ (by first | exact HPc.out.fst | exact ownsRow_drewN HPc.out.fst _) (by first | exact Below.refl _ _ | exact below_drewN' (Below.refl _ _) _) hsc rfl (by simp [Value.oneCell']) (by omega) (by decide) rfl _ _ rfl rfl rfl ?_; intro v1 w9 hown9 hb9 hg9' hor9; have hg9 : wc.grownBy w9 u13.ownBlock := ⟨hg9'.os, hg9'.tape, hg9'.output, hg9'.size, hg9'.block⟩; have HP9 := Lib.hid (HPc.out.first hg9 hor9 hown9); have hF9 := (hg9.block _ hlf (fun e => by have := (HPRx.out.fst.lt _ e.symm).2; have := HO8.out.size; omega)).trans HFc.out; have HF9 := Lib.hid hF9; have HL9 := Lib.hid (LaneAt.belowN HLc.out hb9 HLTB.out); have HB9 := Lib.hid (HBc.out.trans (hb9.mono hbs)); have hs9 : base ≤ w9.heap.size := Nat.le_trans hsc hb9.size; clear fc hlf hg9 hg9' hor9 hown9 hb9; have f9 := fun j => cell_at hF9 j; have hlf9 := block_lt hF9; clear hF9)
                go_wp2
                go_roundw
                case rel => exact ⟨m + 1, by omega, by go_num, by have hLL := HL9.out; (repeat (first | (with_reducible exact hLL) | (with_reducible refine LaneAt.drewN ?_ _) | (with_reducible refine LaneAt.drew ?_) | (with_reducible refine LaneAt.alloc ?_ _))), by rw [HE1.out, HE2.out, List.map_append, List.length_append]; first | exact HP9.out | exact Pair.aft HP9.out (below_drewN' (Below.refl _ _) _), by have hBB := HB9.out; repeat' (first | (with_reducible assumption) | (with_reducible refine below_setRowN ?_ ?_ _) | (with_reducible refine Below.setCell ?_ ?_ _) | (with_reducible refine below_drewN' ?_ _) | (with_reducible refine Below.drew ?_) | (with_reducible refine Below.alloc ?_ ?_ _) | (with_reducible exact Below.refl _ _) | (with_reducible exact Nat.le_refl _) | (simp; done) | omega | (simp; omega)), by first | exact hs9 | (simp; omega)⟩
                case measure => simp [intOf]; omega
              · have hmb : ((m : Int) == 1) = false := beq_eq_false_iff_ne.2 (by omega)
                go_upto_region 25 with (first | (go_at_call 16; ((with_reducible refine (HP.out _ _ B (by have hLL := HLx.out; (repeat (first | (with_reducible exact hLL) | (with_reducible refine LaneAt.drewN ?_ _) | (with_reducible refine LaneAt.drew ?_) | (with_reducible refine LaneAt.alloc ?_ _))))).mono ?_); rintro e w8 ⟨rfl, hL8, hO8'⟩; have hO8 : Only B wr w8 := Only.trans (by first | exact Only.refl _ _ | exact (Only.refl _ _).drewN _) hO8'; have HO8 := Lib.hid hO8; have HL8 := Lib.hid hL8; clear hO8 hO8' hL8)))
                have hB8 : Below w3.heap.size w3 w8 := HBx.out.trans (HO8.out.below (B := w3.heap.size) (fun k hk => HFR.out k hk) HBx.out.size)
                have c2 := HS.out w8 hB8
                have hlc2 := World.block_lt_of_cell? _ _ c2
                have hsc : base ≤ (w8.alloc (.cells #[.int .i64 0, .int .i64 0, .int .u64 (x : Int), .bool false, .bool false] 36)).heap.size := by have := HO8.out.size; simp; omega
                have hPc := (HPRx.out.off (w1 := w8) HO8.out (fun k hk hm => by have := (HPRx.out.fst.lt k hk).1; have := HLTB.out k hm; omega) (fun k hk hm => by have := (HPRx.out.snd.lt k hk).1; have := HLTB.out k hm; omega)).aft (w1 := w8.alloc (.cells #[.int .i64 0, .int .i64 0, .int .u64 (x : Int), .bool false, .bool false] 36)) ((Below.refl _ _).alloc (Nat.le_refl _) _)
                have hFc := alloc_new (w := w8) (.cells #[.int .i64 0, .int .i64 0, .int .u64 (x : Int), .bool false, .bool false] 36)
                have HLc := Lib.hid (HL8.out.alloc (.cells #[.int .i64 0, .int .i64 0, .int .u64 (x : Int), .bool false, .bool false] 36))
                have HBc := Lib.hid (hB8.alloc hB8.size (.cells #[.int .i64 0, .int .i64 0, .int .u64 (x : Int), .bool false, .bool false] 36))
                have HPc := Lib.hid hPc
                clear hB8 hPc
                go_quiet (fail)
                generalize w8.alloc (.cells #[.int .i64 0, .int .i64 0, .int .u64 (x : Int), .bool false, .bool false] 36) = wc at *
                have fc := fun j => cell_at hFc j
                have hlf := block_lt hFc
                have HFc := Lib.hid hFc
                clear hFc c2 hlc2
                go_upto_region 29 with (at_builtin; refine append_own (W0 := wc) [.int .u64 (x : Int)] base _ _ _ 1 8 infoU64p Try.underlying44 rfl (by decide) _ _ _ (by first | exact HPc.out.fst | exact ownsRow_drewN HPc.out.fst _) (by first | exact Below.refl _ _ | exact below_drewN' (Below.refl _ _) _) hsc rfl (by simp [Value.oneCell']) (by omega) (by decide) rfl _ _ rfl rfl rfl ?_; intro v1 w9 hown9 hb9 hg9' hor9; have hg9 : wc.grownBy w9 u13.ownBlock := ⟨hg9'.os, hg9'.tape, hg9'.output, hg9'.size, hg9'.block⟩; have HP9 := Lib.hid (HPc.out.first hg9 hor9 hown9); have hF9 := (hg9.block _ hlf (fun e => by have := (HPRx.out.fst.lt _ e.symm).2; have := HO8.out.size; omega)).trans HFc.out; have HF9 := Lib.hid hF9; have HL9 := Lib.hid (LaneAt.belowN HLc.out hb9 HLTB.out); have HB9 := Lib.hid (HBc.out.trans (hb9.mono hbs)); have hs9 : base ≤ w9.heap.size := Nat.le_trans hsc hb9.size; clear fc hlf hg9 hg9' hor9 hown9 hb9; have f9 := fun j => cell_at hF9 j; have hlf9 := block_lt hF9; clear hF9)
                go_wp2
                go_roundw
                case rel => exact ⟨m + 1, by omega, by go_num, by have hLL := HL9.out; (repeat (first | (with_reducible exact hLL) | (with_reducible refine LaneAt.drewN ?_ _) | (with_reducible refine LaneAt.drew ?_) | (with_reducible refine LaneAt.alloc ?_ _))), by rw [HE1.out, HE2.out, List.map_append, List.length_append]; first | exact HP9.out | exact Pair.aft HP9.out (below_drewN' (Below.refl _ _) _), by have hBB := HB9.out; repeat' (first | (with_reducible assumption) | (with_reducible refine below_setRowN ?_ ?_ _) | (with_reducible refine Below.setCell ?_ ?_ _) | (with_reducible refine below_drewN' ?_ _) | (with_reducible refine Below.drew ?_) | (with_reducible refine Below.alloc ?_ ?_ _) | (with_reducible exact Below.refl _ _) | (with_reducible exact Nat.le_refl _) | (simp; done) | omega | (simp; omega)), by first | exact hs9 | (simp; omega)⟩
                case measure => simp [intOf]; omega
          · obtain rfl : m = W.length := by omega
            have hHe0 := here_all hH1 hHL
            rw [hHe0] at hPR
            clear hHe0
            rw [show onL W H W.length = [] from if_pos HH1.out] at hPR
            generalize W.getD 0 0 = x0 at *
            obtain ⟨pv, cv, hv, -, -, hcv⟩ := CellsOff.own hPR.fst [] (by simp)
            obtain ⟨pu, cu, hu, -, -, hcu⟩ := CellsOff.own hPR.snd [] (by simp)
            clear hPR
            subst hv hu
            obtain ⟨wz, rfl⟩ : ∃ x : World, x = wr := ⟨_, rfl⟩
            have c0 := HX0.out wz hB
            have HCV := Lib.hid hcv
            have HCU := Lib.hid hcu
            have HBz := Lib.hid hB
            have HLz := Lib.hid hL
            have k1' : ¬ (q3 = H) := by omega
            have s1' : (H : Int) ≤ (W.length : Int) := by omega
            have t1 : ¬ (q3 - H = 0) := by omega
            have k2' : ¬ (q3 = 1) := by omega
            have s2' : (1 : Int) ≤ (W.length : Int) := by omega
            have t2 : ¬ (q3 - 1 = 0) := by omega
            clear hcv hcu hB hL hml hm hsx
            go_upto_region 35 with (at_builtin; refine append_own (W0 := wz) [.int .u64 (x0 : Int)] wz.heap.size _ _ _ 1 8 infoU64p Try.underlying44 rfl (by decide) _ _ _ (World.ownsRow_nil _ _ _ _) (by first | exact Below.refl _ _ | exact below_drewN' (Below.refl _ _) _) (by first | exact Nat.le_refl _ | (simp; done)) rfl (by simp [Value.oneCell']) (by omega) (by decide) rfl _ _ rfl rfl rfl ?_; intro v9 w9 hown9 hb9 hg9 hor9; have HO9 := Lib.hid hown9; have HB9 := Lib.hid hb9; clear hown9 hb9 hg9 hor9)
            have hW9 : CellsOff w9 (some ⟨blk, off + H, none⟩) ((W.drop H).map UV) [] := by
              have := (HWC.out w9 (HBz.out.trans (HB9.out.mono HBz.out.size))).dropAt H
              rwa [← List.map_drop] at this
            have HW9 := Lib.hid hW9
            clear hW9
            go_upto_region 36 with (at_builtin; refine append_rows (W0 := wz) ((W.drop H).map UV) (W.length - H) wz.heap.size _ _ _ 1 8 infoU64p Try.underlying44 rfl (by decide) _ _ _ (by first | exact HO9.out | exact ownsRow_drewN HO9.out _) (by first | exact HB9.out | exact below_drewN' HB9.out _) (by first | exact HB9.out.size) (some ⟨blk, off + H, none⟩) _ (by simp) (by first | exact HW9.out | exact HW9.out.drewN _) (by intro u hu; obtain ⟨y, _, rfl⟩ := List.mem_map.1 hu; rfl) (by omega) (by decide) rfl _ _ rfl rfl rfl ?_; intro v10 w10 hown10 hb10 hg10 hor10; obtain ⟨p10, c10, rfl, -, -, hc10⟩ := CellsOff.own hown10 [] (by simp); have hc10' : CellsOff w10 p10 ((x0 :: W.drop H).map UV) [] := hc10; have HC10 := Lib.hid hc10'; have HB10 := Lib.hid hb10; clear hc10'; clear hown10 hb10 hg10 hor10 hc10)
            have HLe := Lib.hid (HLz.out.below HB10.out)
            have HCVe := Lib.hid (HCV.out.below HB10.out)
            have HCUe := Lib.hid (HCU.out.below HB10.out)
            clear c0
            go_upto_region 38 with (first
              | (go_at_call 24; ((with_reducible refine (same_self (x0 :: W.drop H) _ _ (by simp) (by simp; omega) _ _ _ _ _ (by simp; omega) (by first | exact HCVe.out | exact HCVe.out.drewN _) (by first | exact HC10.out | exact HC10.out.drewN _)).mono ?_); rintro e w' ⟨rfl, ks, rfl⟩))
              | (go_at_call 17; ((with_reducible refine (KE1.out _ _ B (by have hLL := HLe.out; (repeat (first | (with_reducible exact hLL) | (with_reducible refine LaneAt.drewN ?_ _) | (with_reducible refine LaneAt.drew ?_) | (with_reducible refine LaneAt.alloc ?_ _))))).mono ?_); rintro e w' ⟨rfl, k, rfl⟩))
              | (go_at_call 23; ((with_reducible refine (KE2.out _ _ B (by have hLL := HLe.out; (repeat (first | (with_reducible exact hLL) | (with_reducible refine LaneAt.drewN ?_ _) | (with_reducible refine LaneAt.drew ?_) | (with_reducible refine LaneAt.alloc ?_ _))))).mono ?_); rintro e w' ⟨rfl, k, rfl⟩))
              | (go_at_call 18; ((with_reducible refine (KE3.out _ _ B (by have hLL := HLe.out; (repeat (first | (with_reducible exact hLL) | (with_reducible refine LaneAt.drewN ?_ _) | (with_reducible refine LaneAt.drew ?_) | (with_reducible refine LaneAt.alloc ?_ _))))).mono ?_); rintro e w' ⟨rfl, k, rfl⟩)))
            go_wp2
            go_ret
            have h3 := HB3.out
            have hz : Below w.heap.size w wz := h3.trans (HBz.out.mono h3.size)
            have h10 : Below w.heap.size w w10 := hz.trans (HB10.out.mono hz.size)
            have hs10 := h10.size
            exact ⟨rfl, by repeat' (first | (with_reducible assumption) | (with_reducible refine below_setRowN ?_ ?_ _) | (with_reducible refine Below.setCell ?_ ?_ _) | (with_reducible refine below_drewN' ?_ _) | (with_reducible refine Below.drew ?_) | (with_reducible refine Below.alloc ?_ ?_ _) | (with_reducible exact Below.refl _ _) | (with_reducible exact Nat.le_refl _) | (simp; done) | omega | (simp; omega))⟩
  · have hHI : (1 : Int) < (H : Int) := by omega
    have hHe : ((H : Int) == 1) = false := beq_eq_false_iff_ne.2 (by omega)
    go_enter Try.func5, Try.ntmps5
    go_upto_region 6 with (first
      | (go_at_call 10; ((with_reducible refine (HLV.out _).mono ?_); rintro e w1 ⟨rfl, hb1⟩; have hX1 := Below.at hb1 (alloc_new _) (by simp); have f1 := fun j => cell_at hX1 j; have hlx := block_lt hX1; have hB1 : Below w.heap.size w w1 := Below.trans ((Below.refl _ _).alloc (Nat.le_refl _) _) (hb1.mono (by simp)); have HX1 := Lib.hid hX1; have HB1 := Lib.hid hB1; clear hb1 hX1 hB1))
      | (go_at_call 21; ((with_reducible refine (HG.out _ HB1.out).mono ?_); rintro e w2 ⟨v2, rfl, hown2, hb2⟩; obtain ⟨p2, q2, rfl, -, -, hc2⟩ := CellsOff.own hown2 [] (by simp); clear f1 hlx; have hX2 := Below.at hb2 HX1.out (block_lt HX1.out); have f1 := fun j => cell_at hX2 j; have hlx := block_lt hX2; have hB2 : Below w.heap.size w w2 := HB1.out.trans (hb2.mono HB1.out.size); have HC2 := Lib.hid hc2; have HB2 := Lib.hid hB2; clear hown2 hb2 hX2 hB2 hc2))
      | (go_at_call 19; ((with_reducible refine (HW.out _ (HB2.out.alloc HB2.out.size _)).mono ?_); rintro e w3 ⟨v3, rfl, hown3, hb3⟩; obtain ⟨p3, q3, rfl, hq3, -, hc3⟩ := CellsOff.own hown3 [] (by simp); have hY3 := Below.at hb3 (alloc_new _) (by simp); have g3 := fun j => cell_at hY3 j; have hB3 : Below w.heap.size w w3 := (HB2.out.alloc HB2.out.size _).trans (hb3.mono (by have := HB2.out.size; simp; omega)); have HW3 := Lib.hid hc3; have HC3 := Lib.hid ((HC2.out.below ((Below.refl _ _).alloc (Nat.le_refl _) _)).below hb3); have HB3 := Lib.hid hB3; clear f1 hlx hown3 hb3 hY3 hB3 hc3)))
    obtain ⟨blk, off, rfl, -, hblk⟩ := uv_ptr HW3.out hwp
    obtain ⟨hbk, hof, rfl, -, c0⟩ := HC3.out _ _ HG0.out
    simp only [Nat.add_zero, Nat.zero_mul] at c0
    have c2 := HC3.out.cell _ _ (HG1.out h1)
    by_cases hn : n1 = n0
    · have hnb : (n1 == n0) = true := beq_iff_eq.2 hn
      clear hn
      go_wp2
      go_ret
      have hB := HB3.out
      have hs := hB.size
      exact ⟨rfl, by repeat' (first | (with_reducible assumption) | (with_reducible refine below_setRowN ?_ ?_ _) | (with_reducible refine Below.setCell ?_ ?_ _) | (with_reducible refine below_drewN' ?_ _) | (with_reducible refine Below.drew ?_) | (with_reducible refine Below.alloc ?_ ?_ _) | (with_reducible exact Below.refl _ _) | (with_reducible exact Nat.le_refl _) | (simp; done) | omega | (simp; omega))⟩
    · have hnb : (n1 == n0) = false := beq_eq_false_iff_ne.2 hn
      have hf1 := HF1.out h1 hn
      have KA1 : Hid (∀ w b B, LaneAt w b B ⟨64, W.drop 1, 0, 0, 0, true⟩ → Calls Try.prog 17 #[.pointer (some ⟨b, 0, none⟩)] w fun e w' => e = .returned (.int .i64 0) ∧ ∃ k, w' = w.drewN k) := fun w b B h => lane_phase w b B _ h
      have KA2 : Hid (∀ w b B, LaneAt w b B ⟨64, W.drop 1, 0, 0, 0, true⟩ → Calls Try.prog 23 #[.pointer (some ⟨b, 0, none⟩)] w fun e w' => e = .returned (.bool true) ∧ ∃ k, w' = w.drewN k) := fun w b B h => lane_copies w b B _ h
      have KA3 : Hid (∀ w b B pb, LaneAt w b B ⟨64, W.drop 1, 0, 0, 0, true⟩ → w.heap[pb]? = some (.cells #[.int .i64 (P : Int)] 3 (0, 0)) → Calls Try.prog 12 #[.pointer (some ⟨b, 0, none⟩), .int .i64 n0, .func (.func 43) #[] #[.pointer (some ⟨pb, 0, none⟩)]] w fun e w' => e = .returned (.bool true) ∧ LaneAt w' b B ⟨64, W.drop 1, 1, P, 0, true⟩ ∧ Only B w w') := fun w b B pb h hp => by
        have := lane_find w b B _ n0 P _ h (fun _ => ⟨pb, rfl, hp⟩)
        rw [hf1] at this
        exact this
      have KA4 : Hid (∀ w b B, LaneAt w b B ⟨64, W.drop 1, 1, P, 0, true⟩ → Calls Try.prog 17 #[.pointer (some ⟨b, 0, none⟩)] w fun e w' => e = .returned (.int .i64 1) ∧ ∃ k, w' = w.drewN k) := fun w b B h => lane_phase w b B _ h
      clear hn hf1
      go_upto_region 11 with (first
        | (go_at_call 11; ((with_reducible refine (K0.out _).mono ?_); rintro e w4 ⟨b, B, rfl, hL4, hF4, hb4⟩; have HL4 := Lib.hid hL4; have HFR := Lib.hid hF4; have hlt4 := hL4.lt; have HLT0 := Lib.hid hlt4; have HB34 := Lib.hid hb4; clear hL4 hF4 hb4 hlt4)))
      obtain ⟨base, hbase⟩ : ∃ base, base = w4.heap.size := ⟨_, rfl⟩
      have hbs : w3.heap.size ≤ base := by rw [hbase]; exact HB34.out.size
      have HLTB : Hid (∀ k ∈ B, k < base) := fun k hk => by rw [hbase]; exact HLT0.out k hk
      have HBS := Lib.hid hbase
      have HSA : Hid (∀ w', Below w3.heap.size w3 w' → ∀ m, m < W.length → w'.cell? ⟨blk, off + m, none⟩ = some (.int .u64 ((W.getD m 0 : Nat) : Int))) := fun w' hb m hm => (hb.cell (p := ⟨blk, _, none⟩) hblk).trans (uv_at HW3.out hm)
      have HX0 : Hid (∀ w', Below w3.heap.size w3 w' → w'.cell? ⟨blk, off, none⟩ = some (.int .u64 ((W.getD 0 0 : Nat) : Int))) := fun w' hb => HSA.out w' hb 0 hwp
      have HWC : Hid (∀ w', Below w3.heap.size w3 w' → CellsOff w' (some ⟨blk, off, none⟩) (W.map UV) []) := fun w' hb => HW3.out.below hb
      clear g3 c0 hblk hbase HLT0 HG0 HG1 HC3 c2
      go_wp2
      go_loopw [12] (fun i wr => ∃ m : Nat, m ≤ W.length ∧ i = .int .i64 (m : Int) ∧ LaneAt wr b B (inS W m) ∧ Only B w4 wr) (fun i _ => W.length - (intOf i).toNat)
      case atStart => exact ⟨0, by omega, rfl, by have hLL := HL4.out; (repeat (first | (with_reducible exact hLL) | (with_reducible refine LaneAt.drewN ?_ _) | (with_reducible refine LaneAt.drew ?_) | (with_reducible refine LaneAt.alloc ?_ _))), by first | exact Only.refl _ _ | exact (Only.refl _ _).drewN _⟩
      case round =>
        obtain ⟨m, hm, rfl, hL, hO⟩ := hrel
        have hBr : Below w3.heap.size w3 wr := HB34.out.trans (hO.below (B := w3.heap.size) (fun k hk => HFR.out k hk) HB34.out.size)
        by_cases hml : m < W.length
        · have hmI : (m : Int) < (W.length : Int) := by omega
          have c0 := HSA.out _ hBr m hml
          have HP := Lib.hid (K1.out m hml)
          have HL := Lib.hid hL
          have HO := Lib.hid hO
          clear hL hO hBr
          generalize W.getD m 0 = x at *
          go_wp2_with (first | (go_at_call 14; ((with_reducible refine (HP.out _ _ B (by have hLL := HL.out; (repeat (first | (with_reducible exact hLL) | (with_reducible refine LaneAt.drewN ?_ _) | (with_reducible refine LaneAt.drew ?_) | (with_reducible refine LaneAt.alloc ?_ _))))).mono ?_); rintro e w5 ⟨rfl, hL5, hO5⟩; have HL5 := Lib.hid hL5; have HO5 := Lib.hid (Only.trans (by (first | exact HO.out | exact Only.drewN HO.out _)) hO5); clear hL5 hO5)))
          go_roundw
          case rel => exact ⟨m + 1, by omega, by go_num, HL5.out, HO5.out⟩
          case measure => simp [intOf]; omega
        · obtain rfl : m = W.length := by omega
          have HL := Lib.hid hL
          have HO := Lib.hid hO
          clear hL hO hml hm hBr
          go_upto_region 19 with (first
            | (go_at_call 13; ((with_reducible refine (HBY.out _).mono ?_); rintro e w5 ⟨pb5, rfl, hp5, hpb5, hb5⟩; have hL5 : LaneAt w5 b B (inS W W.length) := LaneAt.below (by have hLL := HL.out; (repeat (first | (with_reducible exact hLL) | (with_reducible refine LaneAt.drewN ?_ _) | (with_reducible refine LaneAt.drew ?_) | (with_reducible refine LaneAt.alloc ?_ _)))) hb5; have hO5 : Only B w4 w5 := Only.trans (by (first | exact HO.out | exact Only.drewN HO.out _)) (Only.ofBelow hb5 B); have HP5 := Lib.hid hp5; have HL5 := Lib.hid hL5; have HO5 := Lib.hid hO5; clear hp5 hb5 hpb5 hL5 hO5))
            | (go_at_call 12; ((with_reducible refine (KF.out _ _ B _ HL5.out HP5.out).mono ?_); rintro e w6 ⟨rfl, hL6, hO6⟩; have HL6 := Lib.hid hL6; have HO6 := Lib.hid (HO5.out.trans hO6); clear hL6 hO6))
            | (go_at_call 17; ((with_reducible refine (KP1.out _ _ B (by have hLL := HL6.out; (repeat (first | (with_reducible exact hLL) | (with_reducible refine LaneAt.drewN ?_ _) | (with_reducible refine LaneAt.drew ?_) | (with_reducible refine LaneAt.alloc ?_ _))))).mono ?_); rintro e w' ⟨rfl, k, rfl⟩))
            | (go_at_call 22; ((with_reducible refine (KP2.out _ _ B (by have hLL := HL6.out; (repeat (first | (with_reducible exact hLL) | (with_reducible refine LaneAt.drewN ?_ _) | (with_reducible refine LaneAt.drew ?_) | (with_reducible refine LaneAt.alloc ?_ _))))).mono ?_); rintro e w' ⟨rfl, k, rfl⟩)))
          have HB6 := Lib.hid (HB34.out.trans (HO6.out.below (B := w3.heap.size) (fun k hk => HFR.out k hk) HB34.out.size))
          have hs6 : base ≤ w6.heap.size := by rw [HBS.out]; exact HO6.out.size
          have hon0 : onL W H 0 = [] := by unfold onL; split; rfl; rfl
          clear HL HO HL5 HO5 HP5 HL4
          go_wp2
          go_loopw [13, 14, 15] (fun v u i wr => ∃ m : Nat, m ≤ W.length ∧ i = .int .i64 (m : Int) ∧ LaneAt wr b B (stT W H P tl m) ∧ (Pair base 22 22 1 1 wr v u (hereL W H m).length (onL W H m).length ((hereL W H m).map UV) ((onL W H m).map UV)) ∧ Below w3.heap.size w3 wr ∧ base ≤ wr.heap.size) (fun _ _ i _ => W.length - (intOf i).toNat)
          case atStart => exact ⟨0, by omega, rfl, by rw [HST0.out]; have hLL := HL6.out; (repeat (first | (with_reducible exact hLL) | (with_reducible refine LaneAt.drewN ?_ _) | (with_reducible refine LaneAt.drew ?_) | (with_reducible refine LaneAt.alloc ?_ _))), by rw [hon0]; exact ⟨World.ownsRow_nil _ _ _ _, World.ownsRow_nil _ _ _ _, by intro k hk; simp [Value.ownBlock] at hk⟩, by have hBB := HB6.out; repeat' (first | (with_reducible assumption) | (with_reducible refine below_setRowN ?_ ?_ _) | (with_reducible refine Below.setCell ?_ ?_ _) | (with_reducible refine below_drewN' ?_ _) | (with_reducible refine Below.drew ?_) | (with_reducible refine Below.alloc ?_ ?_ _) | (with_reducible exact Below.refl _ _) | (with_reducible exact Nat.le_refl _) | (simp; done) | omega | (simp; omega)), by first | exact hs6 | (simp; omega)⟩
          case round =>
            clear HL6 HO6 HB6 hs6 hon0
            obtain ⟨m, hm, rfl, hL, hPR, hB, hsx⟩ := hrel
            by_cases hml : m < W.length
            · have hmI : (m : Int) < (W.length : Int) := by omega
              have HS : Hid (∀ w', Below w3.heap.size w3 w' → w'.cell? ⟨blk, off + m, none⟩ = some (.int .u64 ((W.getD m 0 : Nat) : Int))) := fun w' hb => HSA.out w' hb m hml
              have hn1 := hhl m hm
              have hn2 := hol m hm
              have HPT : Hid (∀ w b B, LaneAt w b B (preT W H P tl m) → Calls Try.prog 16 #[.pointer (some ⟨b, 0, none⟩)] w fun e w' => e = .returned (.tuple #[.agg #[.int .i64 (if H = 1 ∨ m = 0 then 0 else (P : Int)), .int .i64 (if H = 1 ∨ m = 0 then 0 else tl), .int .u64 ((W.getD m 0 : Nat) : Int), .bool (decide (H ≠ 1 ∧ H ≤ m)), .bool (decide (m + 1 = W.length))], .int .i64 0]) ∧ LaneAt w' b B (stT W H P tl (m + 1)) ∧ Only B w w') := KT.out m hml
              by_cases hm0 : m = 0
              · have HE1 : Hid (hereL W H (m + 1) = hereL W H m ++ [W.getD m 0]) := by unfold Hid; rw [hm0]; exact here_first W H hH1
                have HE2 : Hid (onL W H (m + 1) = onL W H m) := by unfold Hid; rw [hm0]; exact on_first W
                have hLp : LaneAt wr b B (preT W H P tl m) := by rw [hm0] at hL ⊢; rw [HST0.out] at hL; exact hL
                have hl2 : ((m : Int) + 1 == (W.length : Int)) = false := beq_eq_false_iff_ne.2 (by omega)
                have hmb : ((m : Int) == 1) = false := beq_eq_false_iff_ne.2 (by omega)
                have HP := HPT
                rw [if_pos (.inr hm0), if_pos (.inr hm0), decide_eq_false (show ¬ (H ≠ 1 ∧ H ≤ m) by omega), decide_eq_false (show ¬ m + 1 = W.length by omega)] at HP
                have HLx := Lib.hid hLp
                have HPRx := Lib.hid hPR
                have HBx := Lib.hid hB
                clear hL hPR hB hLp HPT hm0
                generalize W.getD m 0 = x at *
                go_upto_region 25 with (first | (go_at_call 16; ((with_reducible refine (HP.out _ _ B (by have hLL := HLx.out; (repeat (first | (with_reducible exact hLL) | (with_reducible refine LaneAt.drewN ?_ _) | (with_reducible refine LaneAt.drew ?_) | (with_reducible refine LaneAt.alloc ?_ _))))).mono ?_); rintro e w8 ⟨rfl, hL8, hO8'⟩; have hO8 : Only B wr w8 := Only.trans (by first | exact Only.refl _ _ | exact (Only.refl _ _).drewN _) hO8'; have HO8 := Lib.hid hO8; have HL8 := Lib.hid hL8; clear hO8 hO8' hL8)))
                have hB8 : Below w3.heap.size w3 w8 := HBx.out.trans (HO8.out.below (B := w3.heap.size) (fun k hk => HFR.out k hk) HBx.out.size)
                have c2 := HS.out w8 hB8
                have hlc2 := World.block_lt_of_cell? _ _ c2
                have hsc : base ≤ (w8.alloc (.cells #[.int .i64 0, .int .i64 0, .int .u64 (x : Int), .bool false, .bool false] 36)).heap.size := by have := HO8.out.size; simp; omega
                have hPc := (HPRx.out.off (w1 := w8) HO8.out (fun k hk hm => by have := (HPRx.out.fst.lt k hk).1; have := HLTB.out k hm; omega) (fun k hk hm => by have := (HPRx.out.snd.lt k hk).1; have := HLTB.out k hm; omega)).aft (w1 := w8.alloc (.cells #[.int .i64 0, .int .i64 0, .int .u64 (x : Int), .bool false, .bool false] 36)) ((Below.refl _ _).alloc (Nat.le_refl _) _)
                have hFc := alloc_new (w := w8) (.cells #[.int .i64 0, .int .i64 0, .int .u64 (x : Int), .bool false, .bool false] 36)
                have HLc := Lib.hid (HL8.out.alloc (.cells #[.int .i64 0, .int .i64 0, .int .u64 (x : Int), .bool false, .bool false] 36))
                have HBc := Lib.hid (hB8.alloc hB8.size (.cells #[.int .i64 0, .int .i64 0, .int .u64 (x : Int), .bool false, .bool false] 36))
                have HPc := Lib.hid hPc
                clear hB8 hPc
                go_quiet (fail)
                generalize w8.alloc (.cells #[.int .i64 0, .int .i64 0, .int .u64 (x : Int), .bool false, .bool false] 36) = wc at *
                have fc := fun j => cell_at hFc j
                have hlf := block_lt hFc
                have HFc := Lib.hid hFc
                clear hFc c2 hlc2
                go_upto_region 29 with (at_builtin; refine append_own (W0 := wc) [.int .u64 (x : Int)] base _ _ _ 1 8 infoU64p Try.underlying44 rfl (by decide) _ _ _ (by first | exact HPc.out.fst | exact ownsRow_drewN HPc.out.fst _) (by first | exact Below.refl _ _ | exact below_drewN' (Below.refl _ _) _) hsc rfl (by simp [Value.oneCell']) (by omega) (by decide) rfl _ _ rfl rfl rfl ?_; intro v1 w9 hown9 hb9 hg9' hor9; have hg9 : wc.grownBy w9 u13.ownBlock := ⟨hg9'.os, hg9'.tape, hg9'.output, hg9'.size, hg9'.block⟩; have HP9 := Lib.hid (HPc.out.first hg9 hor9 hown9); have hF9 := (hg9.block _ hlf (fun e => by have := (HPRx.out.fst.lt _ e.symm).2; have := HO8.out.size; omega)).trans HFc.out; have HF9 := Lib.hid hF9; have HL9 := Lib.hid (LaneAt.belowN HLc.out hb9 HLTB.out); have HB9 := Lib.hid (HBc.out.trans (hb9.mono hbs)); have hs9 : base ≤ w9.heap.size := Nat.le_trans hsc hb9.size; clear fc hlf hg9 hg9' hor9 hown9 hb9; have f9 := fun j => cell_at hF9 j; have hlf9 := block_lt hF9; clear hF9)
                go_wp2
                go_roundw
                case rel => exact ⟨m + 1, by omega, by go_num, by have hLL := HL9.out; (repeat (first | (with_reducible exact hLL) | (with_reducible refine LaneAt.drewN ?_ _) | (with_reducible refine LaneAt.drew ?_) | (with_reducible refine LaneAt.alloc ?_ _))), by rw [HE1.out, HE2.out, List.map_append, List.length_append]; first | exact HP9.out | exact Pair.aft HP9.out (below_drewN' (Below.refl _ _) _), by have hBB := HB9.out; repeat' (first | (with_reducible assumption) | (with_reducible refine below_setRowN ?_ ?_ _) | (with_reducible refine Below.setCell ?_ ?_ _) | (with_reducible refine below_drewN' ?_ _) | (with_reducible refine Below.drew ?_) | (with_reducible refine Below.alloc ?_ ?_ _) | (with_reducible exact Below.refl _ _) | (with_reducible exact Nat.le_refl _) | (simp; done) | omega | (simp; omega)), by first | exact hs9 | (simp; omega)⟩
                case measure => simp [intOf]; omega
              · have HE2 : Hid (onL W H (m + 1) = onL W H m ++ [W.getD m 0]) := on_more h1 (by omega) hml
                rw [if_neg (show ¬ (H = 1 ∨ m = 0) by omega), if_neg (show ¬ (H = 1 ∨ m = 0) by omega)] at HPT
                by_cases hmH : m < H
                · have HE1 : Hid (hereL W H (m + 1) = hereL W H m) := here_on (by omega) hmH
                  have hl2 : ((m : Int) + 1 == (W.length : Int)) = false := beq_eq_false_iff_ne.2 (by omega)
                  have HP := HPT
                  rw [decide_eq_false (show ¬ (H ≠ 1 ∧ H ≤ m) by omega), decide_eq_false (show ¬ m + 1 = W.length by omega)] at HP
                  by_cases hm1 : m = 1
                  · have hmb : ((m : Int) == 1) = true := beq_iff_eq.2 (by omega)
                    have hLp : LaneAt wr b B ⟨64, W.drop 1, 0, 0, 0, true⟩ := by
                      have e : stT W H P tl m = ⟨64, W.drop 1, 0, 0, 0, true⟩ := by unfold stT; rw [if_neg (by omega), if_pos ⟨by omega, hm1⟩]
                      rw [e] at hL; exact hL
                    have KA5 : Hid (∀ w b B, LaneAt w b B ⟨64, W.drop 1, 1, P, 0, true⟩ → Calls Try.prog 20 #[.pointer (some ⟨b, 0, none⟩), .int .i64 tl] w fun e w' => e = .returned (.bool true) ∧ LaneAt w' b B (preT W H P tl m) ∧ Only B w w') := fun w b B h => by
                      have := lane_give w b B _ tl h
                      have e : preT W H P tl m = ⟨64, W.drop 1, 2, P, tl, true⟩ := by unfold preT; rw [if_neg (by omega), hm1]
                      rw [e]
                      exact this
                    have HLq := Lib.hid hLp
                    have HPRq := Lib.hid hPR
                    have HBq := Lib.hid hB
                    have HLTb := HLTB
                    clear hL hPR hB hLp HPT hm1 hm0 hmH
                    generalize W.getD m 0 = x at *
                    go_upto_region 24 with (first
                      | (go_at_call 17; first
                          | ((with_reducible refine (KA1.out _ _ B ?_).mono ?_); (have hLL := HLq.out; (repeat (first | (with_reducible exact hLL) | (with_reducible refine LaneAt.drewN ?_ _) | (with_reducible refine LaneAt.drew ?_) | (with_reducible refine LaneAt.alloc ?_ _)))); rintro e w' ⟨rfl, k, rfl⟩)
                          | ((with_reducible refine (KA4.out _ _ B ?_).mono ?_); (have hLL := HL11.out; (repeat (first | (with_reducible exact hLL) | (with_reducible refine LaneAt.drewN ?_ _) | (with_reducible refine LaneAt.drew ?_) | (with_reducible refine LaneAt.alloc ?_ _)))); rintro e w' ⟨rfl, k, rfl⟩))
                      | (go_at_call 23; ((with_reducible refine (KA2.out _ _ B (by have hLL := HLq.out; (repeat (first | (with_reducible exact hLL) | (with_reducible refine LaneAt.drewN ?_ _) | (with_reducible refine LaneAt.drew ?_) | (with_reducible refine LaneAt.alloc ?_ _))))).mono ?_); rintro e w' ⟨rfl, k, rfl⟩))
                      | (go_at_call 13; ((with_reducible refine (HBY.out _).mono ?_); rintro e w5 ⟨pb5, rfl, hp5, hpb5, hb5⟩; have hL5 : LaneAt w5 b B ⟨64, W.drop 1, 0, 0, 0, true⟩ := LaneAt.below (by have hLL := HLq.out; (repeat (first | (with_reducible exact hLL) | (with_reducible refine LaneAt.drewN ?_ _) | (with_reducible refine LaneAt.drew ?_) | (with_reducible refine LaneAt.alloc ?_ _)))) hb5; have hb5' : Below wr.heap.size wr w5 := Below.trans (by first | exact Below.refl _ _ | exact below_drewN' (Below.refl _ _) _) hb5; have HP5 := Lib.hid hp5; have HL5 := Lib.hid hL5; have HB5 := Lib.hid hb5'; clear hp5 hb5 hpb5 hL5 hb5'))
                      | (go_at_call 12; ((with_reducible refine (KA3.out _ _ B _ HL5.out HP5.out).mono ?_); rintro e w11 ⟨rfl, hL11, hO11⟩; have HL11 := Lib.hid hL11; have HO11 := Lib.hid hO11; clear hL11 hO11))
                      | (go_at_call 20; ((with_reducible refine (KA5.out _ _ B ?_).mono ?_); (have hLL := HL11.out; (repeat (first | (with_reducible exact hLL) | (with_reducible refine LaneAt.drewN ?_ _) | (with_reducible refine LaneAt.drew ?_) | (with_reducible refine LaneAt.alloc ?_ _)))); rintro e w12 ⟨rfl, hL12, hO12⟩; have HLx := Lib.hid hL12; have HO12 := Lib.hid (HO11.out.trans (Only.trans (by first | exact Only.refl _ _ | exact (Only.refl _ _).drewN _) hO12)); clear hL12 hO12)))
                    have HPRx := Lib.hid ((HPRq.out.aft HB5.out).off (w1 := w12) HO12.out (fun k hk hm => by have := ((HPRq.out.aft HB5.out).fst.lt k hk).1; have := HLTB.out k hm; omega) (fun k hk hm => by have := ((HPRq.out.aft HB5.out).snd.lt k hk).1; have := HLTB.out k hm; omega))
                    have hb35 : Below w3.heap.size w3 w5 := HBq.out.trans (HB5.out.mono HBq.out.size)
                    have HBx := Lib.hid (hb35.trans (HO12.out.below (B := w3.heap.size) (fun k hk => HFR.out k hk) hb35.size))
                    have hsx' : base ≤ w12.heap.size := Nat.le_trans hsx (Nat.le_trans HB5.out.size HO12.out.size)
                    clear hsx hb35
                    go_upto_region 25 with (first | (go_at_call 16; ((with_reducible refine (HP.out _ _ B (by have hLL := HLx.out; (repeat (first | (with_reducible exact hLL) | (with_reducible refine LaneAt.drewN ?_ _) | (with_reducible refine LaneAt.drew ?_) | (with_reducible refine LaneAt.alloc ?_ _))))).mono ?_); rintro e w8 ⟨rfl, hL8, hO8'⟩; have hO8 : Only B w12 w8 := Only.trans (by first | exact Only.refl _ _ | exact (Only.refl _ _).drewN _) hO8'; have HO8 := Lib.hid hO8; have HL8 := Lib.hid hL8; clear hO8 hO8' hL8)))
                    have hB8 : Below w3.heap.size w3 w8 := HBx.out.trans (HO8.out.below (B := w3.heap.size) (fun k hk => HFR.out k hk) HBx.out.size)
                    have c2 := HS.out w8 hB8
                    have hlc2 := World.block_lt_of_cell? _ _ c2
                    have hsc : base ≤ (w8.alloc (.cells #[.int .i64 (P : Int), .int .i64 tl, .int .u64 (x : Int), .bool false, .bool false] 36)).heap.size := by have := HO8.out.size; simp; omega
                    have hPc := (HPRx.out.off (w1 := w8) HO8.out (fun k hk hm => by have := (HPRx.out.fst.lt k hk).1; have := HLTB.out k hm; omega) (fun k hk hm => by have := (HPRx.out.snd.lt k hk).1; have := HLTB.out k hm; omega)).aft (w1 := w8.alloc (.cells #[.int .i64 (P : Int), .int .i64 tl, .int .u64 (x : Int), .bool false, .bool false] 36)) ((Below.refl _ _).alloc (Nat.le_refl _) _)
                    have hFc := alloc_new (w := w8) (.cells #[.int .i64 (P : Int), .int .i64 tl, .int .u64 (x : Int), .bool false, .bool false] 36)
                    have HLc := Lib.hid (HL8.out.alloc (.cells #[.int .i64 (P : Int), .int .i64 tl, .int .u64 (x : Int), .bool false, .bool false] 36))
                    have HBc := Lib.hid (hB8.alloc hB8.size (.cells #[.int .i64 (P : Int), .int .i64 tl, .int .u64 (x : Int), .bool false, .bool false] 36))
                    have HPc := Lib.hid hPc
                    clear hB8 hPc
                    go_quiet (fail)
                    generalize w8.alloc (.cells #[.int .i64 (P : Int), .int .i64 tl, .int .u64 (x : Int), .bool false, .bool false] 36) = wc at *
                    have fc := fun j => cell_at hFc j
                    have hlf := block_lt hFc
                    have HFc := Lib.hid hFc
                    clear hFc c2 hlc2
                    go_upto_region 31 with (at_builtin; refine append_own (W0 := wc) [.int .u64 (x : Int)] base _ _ _ 1 8 infoU64p Try.underlying44 rfl (by decide) _ _ _ (by first | exact HPc.out.snd | exact ownsRow_drewN HPc.out.snd _) (by first | exact Below.refl _ _ | exact below_drewN' (Below.refl _ _) _) hsc rfl (by simp [Value.oneCell']) (by omega) (by decide) rfl _ _ rfl rfl rfl ?_; intro v2 w10 hown10 hb10 hg10' hor10; have hg10 : wc.grownBy w10 u14.ownBlock := ⟨hg10'.os, hg10'.tape, hg10'.output, hg10'.size, hg10'.block⟩; have HP10 := Lib.hid (HPc.out.second hg10 hor10 hown10); have hF10 := (hg10.block _ (block_lt HFc.out) (fun e => by have := (HPRx.out.snd.lt _ e.symm).2; have := HO8.out.size; omega)).trans HFc.out; have HL10 := Lib.hid (LaneAt.belowN HLc.out hb10 HLTB.out); have HB10 := Lib.hid (HBc.out.trans (hb10.mono hbs)); have hs10 : base ≤ w10.heap.size := Nat.le_trans hsc hb10.size; clear fc hlf hg10 hg10' hor10 hown10 hb10; have f10 := fun j => cell_at hF10 j; have hlf10 := block_lt hF10; clear hF10)
                    go_wp2
                    go_roundw
                    case rel => exact ⟨m + 1, by omega, by go_num, by have hLL := HL10.out; (repeat (first | (with_reducible exact hLL) | (with_reducible refine LaneAt.drewN ?_ _) | (with_reducible refine LaneAt.drew ?_) | (with_reducible refine LaneAt.alloc ?_ _))), by rw [HE1.out, HE2.out, List.map_append, List.length_append]; first | exact HP10.out | exact Pair.aft HP10.out (below_drewN' (Below.refl _ _) _), by have hBB := HB10.out; repeat' (first | (with_reducible assumption) | (with_reducible refine below_setRowN ?_ ?_ _) | (with_reducible refine Below.setCell ?_ ?_ _) | (with_reducible refine below_drewN' ?_ _) | (with_reducible refine Below.drew ?_) | (with_reducible refine Below.alloc ?_ ?_ _) | (with_reducible exact Below.refl _ _) | (with_reducible exact Nat.le_refl _) | (simp; done) | omega | (simp; omega)), by first | exact hs10 | (simp; omega)⟩
                    case measure => simp [intOf]; omega
                  · have hmb : ((m : Int) == 1) = false := beq_eq_false_iff_ne.2 (by omega)
                    have hLp : LaneAt wr b B (preT W H P tl m) := by
                      have e : stT W H P tl m = preT W H P tl m := by unfold stT; rw [if_neg (by omega), if_neg (fun h => hm1 h.2)]
                      rw [e] at hL; exact hL
                    have HLx := Lib.hid hLp
                    have HPRx := Lib.hid hPR
                    have HBx := Lib.hid hB
                    clear hL hPR hB hLp HPT
                    generalize W.getD m 0 = x at *
                    go_upto_region 25 with (first | (go_at_call 16; ((with_reducible refine (HP.out _ _ B (by have hLL := HLx.out; (repeat (first | (with_reducible exact hLL) | (with_reducible refine LaneAt.drewN ?_ _) | (with_reducible refine LaneAt.drew ?_) | (with_reducible refine LaneAt.alloc ?_ _))))).mono ?_); rintro e w8 ⟨rfl, hL8, hO8'⟩; have hO8 : Only B wr w8 := Only.trans (by first | exact Only.refl _ _ | exact (Only.refl _ _).drewN _) hO8'; have HO8 := Lib.hid hO8; have HL8 := Lib.hid hL8; clear hO8 hO8' hL8)))
                    have hB8 : Below w3.heap.size w3 w8 := HBx.out.trans (HO8.out.below (B := w3.heap.size) (fun k hk => HFR.out k hk) HBx.out.size)
                    have c2 := HS.out w8 hB8
                    have hlc2 := World.block_lt_of_cell? _ _ c2
                    have hsc : base ≤ (w8.alloc (.cells #[.int .i64 (P : Int), .int .i64 tl, .int .u64 (x : Int), .bool false, .bool false] 36)).heap.size := by have := HO8.out.size; simp; omega
                    have hPc := (HPRx.out.off (w1 := w8) HO8.out (fun k hk hm => by have := (HPRx.out.fst.lt k hk).1; have := HLTB.out k hm; omega) (fun k hk hm => by have := (HPRx.out.snd.lt k hk).1; have := HLTB.out k hm; omega)).aft (w1 := w8.alloc (.cells #[.int .i64 (P : Int), .int .i64 tl, .int .u64 (x : Int), .bool false, .bool false] 36)) ((Below.refl _ _).alloc (Nat.le_refl _) _)
                    have hFc := alloc_new (w := w8) (.cells #[.int .i64 (P : Int), .int .i64 tl, .int .u64 (x : Int), .bool false, .bool false] 36)
                    have HLc := Lib.hid (HL8.out.alloc (.cells #[.int .i64 (P : Int), .int .i64 tl, .int .u64 (x : Int), .bool false, .bool false] 36))
                    have HBc := Lib.hid (hB8.alloc hB8.size (.cells #[.int .i64 (P : Int), .int .i64 tl, .int .u64 (x : Int), .bool false, .bool false] 36))
                    have HPc := Lib.hid hPc
                    clear hB8 hPc
                    go_quiet (fail)
                    generalize w8.alloc (.cells #[.int .i64 (P : Int), .int .i64 tl, .int .u64 (x : Int), .bool false, .bool false] 36) = wc at *
                    have fc := fun j => cell_at hFc j
                    have hlf := block_lt hFc
                    have HFc := Lib.hid hFc
                    clear hFc c2 hlc2
                    go_upto_region 31 with (at_builtin; refine append_own (W0 := wc) [.int .u64 (x : Int)] base _ _ _ 1 8 infoU64p Try.underlying44 rfl (by decide) _ _ _ (by first | exact HPc.out.snd | exact ownsRow_drewN HPc.out.snd _) (by first | exact Below.refl _ _ | exact below_drewN' (Below.refl _ _) _) hsc rfl (by simp [Value.oneCell']) (by omega) (by decide) rfl _ _ rfl rfl rfl ?_; intro v2 w10 hown10 hb10 hg10' hor10; have hg10 : wc.grownBy w10 u14.ownBlock := ⟨hg10'.os, hg10'.tape, hg10'.output, hg10'.size, hg10'.block⟩; have HP10 := Lib.hid (HPc.out.second hg10 hor10 hown10); have hF10 := (hg10.block _ (block_lt HFc.out) (fun e => by have := (HPRx.out.snd.lt _ e.symm).2; have := HO8.out.size; omega)).trans HFc.out; have HL10 := Lib.hid (LaneAt.belowN HLc.out hb10 HLTB.out); have HB10 := Lib.hid (HBc.out.trans (hb10.mono hbs)); have hs10 : base ≤ w10.heap.size := Nat.le_trans hsc hb10.size; clear fc hlf hg10 hg10' hor10 hown10 hb10; have f10 := fun j => cell_at hF10 j; have hlf10 := block_lt hF10; clear hF10)
                    go_wp2
                    go_roundw
                    case rel => exact ⟨m + 1, by omega, by go_num, by have hLL := HL10.out; (repeat (first | (with_reducible exact hLL) | (with_reducible refine LaneAt.drewN ?_ _) | (with_reducible refine LaneAt.drew ?_) | (with_reducible refine LaneAt.alloc ?_ _))), by rw [HE1.out, HE2.out, List.map_append, List.length_append]; first | exact HP10.out | exact Pair.aft HP10.out (below_drewN' (Below.refl _ _) _), by have hBB := HB10.out; repeat' (first | (with_reducible assumption) | (with_reducible refine below_setRowN ?_ ?_ _) | (with_reducible refine Below.setCell ?_ ?_ _) | (with_reducible refine below_drewN' ?_ _) | (with_reducible refine Below.drew ?_) | (with_reducible refine Below.alloc ?_ ?_ _) | (with_reducible exact Below.refl _ _) | (with_reducible exact Nat.le_refl _) | (simp; done) | omega | (simp; omega)), by first | exact hs10 | (simp; omega)⟩
                    case measure => simp [intOf]; omega
                · have HE1 : Hid (hereL W H (m + 1) = hereL W H m ++ [W.getD m 0]) := here_more hH1 (by omega) hml
                  have hmb : ((m : Int) == 1) = false := beq_eq_false_iff_ne.2 (by omega)
                  have hLp : LaneAt wr b B (preT W H P tl m) := by
                    have e : stT W H P tl m = preT W H P tl m := by unfold stT; rw [if_neg (by omega), if_neg (by omega)]
                    rw [e] at hL; exact hL
                  have HP := HPT
                  rw [decide_eq_true (show H ≠ 1 ∧ H ≤ m by omega)] at HP
                  have HLx := Lib.hid hLp
                  have HPRx := Lib.hid hPR
                  have HBx := Lib.hid hB
                  clear hL hPR hB hLp HPT
                  generalize W.getD m 0 = x at *
                  by_cases hlast : m + 1 = W.length
                  · have hl2 : ((m : Int) + 1 == (W.length : Int)) = true := beq_iff_eq.2 (by omega)
                    rw [decide_eq_true hlast] at HP
                    go_upto_region 25 with (first | (go_at_call 16; ((with_reducible refine (HP.out _ _ B (by have hLL := HLx.out; (repeat (first | (with_reducible exact hLL) | (with_reducible refine LaneAt.drewN ?_ _) | (with_reducible refine LaneAt.drew ?_) | (with_reducible refine LaneAt.alloc ?_ _))))).mono ?_); rintro e w8 ⟨rfl, hL8, hO8'⟩; have hO8 : Only B wr w8 := Only.trans (by first | exact Only.refl _ _ | exact (Only.refl _ _).drewN _) hO8'; have HO8 := Lib.hid hO8; have HL8 := Lib.hid hL8; clear hO8 hO8' hL8)))
                    have hB8 : Below w3.heap.size w3 w8 := HBx.out.trans (HO8.out.below (B := w3.heap.size) (fun k hk => HFR.out k hk) HBx.out.size)
                    have c2 := HS.out w8 hB8
                    have hlc2 := World.block_lt_of_cell? _ _ c2
                    have hsc : base ≤ (w8.alloc (.cells #[.int .i64 (P : Int), .int .i64 tl, .int .u64 (x : Int), .bool true, .bool true] 36)).heap.size := by have := HO8.out.size; simp; omega
                    have hPc := (HPRx.out.off (w1 := w8) HO8.out (fun k hk hm => by have := (HPRx.out.fst.lt k hk).1; have := HLTB.out k hm; omega) (fun k hk hm => by have := (HPRx.out.snd.lt k hk).1; have := HLTB.out k hm; omega)).aft (w1 := w8.alloc (.cells #[.int .i64 (P : Int), .int .i64 tl, .int .u64 (x : Int), .bool true, .bool true] 36)) ((Below.refl _ _).alloc (Nat.le_refl _) _)
                    have hFc := alloc_new (w := w8) (.cells #[.int .i64 (P : Int), .int .i64 tl, .int .u64 (x : Int), .bool true, .bool true] 36)
                    have HLc := Lib.hid (HL8.out.alloc (.cells #[.int .i64 (P : Int), .int .i64 tl, .int .u64 (x : Int), .bool true, .bool true] 36))
                    have HBc := Lib.hid (hB8.alloc hB8.size (.cells #[.int .i64 (P : Int), .int .i64 tl, .int .u64 (x : Int), .bool true, .bool true] 36))
                    have HPc := Lib.hid hPc
                    clear hB8 hPc
                    go_quiet (fail)
                    generalize w8.alloc (.cells #[.int .i64 (P : Int), .int .i64 tl, .int .u64 (x : Int), .bool true, .bool true] 36) = wc at *
                    have fc := fun j => cell_at hFc j
                    have hlf := block_lt hFc
                    have HFc := Lib.hid hFc
                    clear hFc c2 hlc2
                    go_upto_region 29 with (at_builtin; refine append_own (W0 := wc) [.int .u64 (x : Int)] base _ _ _ 1 8 infoU64p Try.underlying44 rfl (by decide) _ _ _ (by first | exact HPc.out.fst | exact ownsRow_drewN HPc.out.fst _) (by first | exact Below.refl _ _ | exact below_drewN' (Below.refl _ _) _) hsc rfl (by simp [Value.oneCell']) (by omega) (by decide) rfl _ _ rfl rfl rfl ?_; intro v1 w9 hown9 hb9 hg9' hor9; have hg9 : wc.grownBy w9 u13.ownBlock := ⟨hg9'.os, hg9'.tape, hg9'.output, hg9'.size, hg9'.block⟩; have HP9 := Lib.hid (HPc.out.first hg9 hor9 hown9); have hF9 := (hg9.block _ hlf (fun e => by have := (HPRx.out.fst.lt _ e.symm).2; have := HO8.out.size; omega)).trans HFc.out; have HF9 := Lib.hid hF9; have HL9 := Lib.hid (LaneAt.belowN HLc.out hb9 HLTB.out); have HB9 := Lib.hid (HBc.out.trans (hb9.mono hbs)); have hs9 : base ≤ w9.heap.size := Nat.le_trans hsc hb9.size; clear fc hlf hg9 hg9' hor9 hown9 hb9; have f9 := fun j => cell_at hF9 j; have hlf9 := block_lt hF9; clear hF9)
                    go_upto_region 31 with (at_builtin; refine append_own (W0 := w9) [.int .u64 (x : Int)] base _ _ _ 1 8 infoU64p Try.underlying44 rfl (by decide) _ _ _ (by first | exact HP9.out.snd | exact ownsRow_drewN HP9.out.snd _) (by first | exact Below.refl _ _ | exact below_drewN' (Below.refl _ _) _) hs9 rfl (by simp [Value.oneCell']) (by omega) (by decide) rfl _ _ rfl rfl rfl ?_; intro v2 w10 hown10 hb10 hg10' hor10; have hg10 : w9.grownBy w10 u14.ownBlock := ⟨hg10'.os, hg10'.tape, hg10'.output, hg10'.size, hg10'.block⟩; have HP10 := Lib.hid (HP9.out.second hg10 hor10 hown10); have hF10 := (hg10.block _ (block_lt HF9.out) (fun e => by have := (HPRx.out.snd.lt _ e.symm).2; have := HO8.out.size; omega)).trans HF9.out; have HL10 := Lib.hid (LaneAt.belowN HL9.out hb10 HLTB.out); have HB10 := Lib.hid (HB9.out.trans (hb10.mono hbs)); have hs10 : base ≤ w10.heap.size := Nat.le_trans hs9 hb10.size; clear f9 hlf9 hg10 hg10' hor10 hown10 hb10; have f10 := fun j => cell_at hF10 j; have hlf10 := block_lt hF10; clear hF10)
                    go_wp2
                    go_roundw
                    case rel => exact ⟨m + 1, by omega, by go_num, by have hLL := HL10.out; (repeat (first | (with_reducible exact hLL) | (with_reducible refine LaneAt.drewN ?_ _) | (with_reducible refine LaneAt.drew ?_) | (with_reducible refine LaneAt.alloc ?_ _))), by rw [HE1.out, HE2.out, List.map_append, List.map_append, List.length_append, List.length_append]; first | exact HP10.out | exact Pair.aft HP10.out (below_drewN' (Below.refl _ _) _), by have hBB := HB10.out; repeat' (first | (with_reducible assumption) | (with_reducible refine below_setRowN ?_ ?_ _) | (with_reducible refine Below.setCell ?_ ?_ _) | (with_reducible refine below_drewN' ?_ _) | (with_reducible refine Below.drew ?_) | (with_reducible refine Below.alloc ?_ ?_ _) | (with_reducible exact Below.refl _ _) | (with_reducible exact Nat.le_refl _) | (simp; done) | omega | (simp; omega)), by first | exact hs10 | (simp; omega)⟩
                    case measure => simp [intOf]; omega
                  · have hl2 : ((m : Int) + 1 == (W.length : Int)) = false := beq_eq_false_iff_ne.2 (by omega)
                    rw [decide_eq_false hlast] at HP
                    go_upto_region 25 with (first | (go_at_call 16; ((with_reducible refine (HP.out _ _ B (by have hLL := HLx.out; (repeat (first | (with_reducible exact hLL) | (with_reducible refine LaneAt.drewN ?_ _) | (with_reducible refine LaneAt.drew ?_) | (with_reducible refine LaneAt.alloc ?_ _))))).mono ?_); rintro e w8 ⟨rfl, hL8, hO8'⟩; have hO8 : Only B wr w8 := Only.trans (by first | exact Only.refl _ _ | exact (Only.refl _ _).drewN _) hO8'; have HO8 := Lib.hid hO8; have HL8 := Lib.hid hL8; clear hO8 hO8' hL8)))
                    have hB8 : Below w3.heap.size w3 w8 := HBx.out.trans (HO8.out.below (B := w3.heap.size) (fun k hk => HFR.out k hk) HBx.out.size)
                    have c2 := HS.out w8 hB8
                    have hlc2 := World.block_lt_of_cell? _ _ c2
                    have hsc : base ≤ (w8.alloc (.cells #[.int .i64 (P : Int), .int .i64 tl, .int .u64 (x : Int), .bool true, .bool false] 36)).heap.size := by have := HO8.out.size; simp; omega
                    have hPc := (HPRx.out.off (w1 := w8) HO8.out (fun k hk hm => by have := (HPRx.out.fst.lt k hk).1; have := HLTB.out k hm; omega) (fun k hk hm => by have := (HPRx.out.snd.lt k hk).1; have := HLTB.out k hm; omega)).aft (w1 := w8.alloc (.cells #[.int .i64 (P : Int), .int .i64 tl, .int .u64 (x : Int), .bool true, .bool false] 36)) ((Below.refl _ _).alloc (Nat.le_refl _) _)
                    have hFc := alloc_new (w := w8) (.cells #[.int .i64 (P : Int), .int .i64 tl, .int .u64 (x : Int), .bool true, .bool false] 36)
                    have HLc := Lib.hid (HL8.out.alloc (.cells #[.int .i64 (P : Int), .int .i64 tl, .int .u64 (x : Int), .bool true, .bool false] 36))
                    have HBc := Lib.hid (hB8.alloc hB8.size (.cells #[.int .i64 (P : Int), .int .i64 tl, .int .u64 (x : Int), .bool true, .bool false] 36))
                    have HPc := Lib.hid hPc
                    clear hB8 hPc
                    go_quiet (fail)
                    generalize w8.alloc (.cells #[.int .i64 (P : Int), .int .i64 tl, .int .u64 (x : Int), .bool true, .bool false] 36) = wc at *
                    have fc := fun j => cell_at hFc j
                    have hlf := block_lt hFc
                    have HFc := Lib.hid hFc
                    clear hFc c2 hlc2
                    go_upto_region 29 with (at_builtin; refine append_own (W0 := wc) [.int .u64 (x : Int)] base _ _ _ 1 8 infoU64p Try.underlying44 rfl (by decide) _ _ _ (by first | exact HPc.out.fst | exact ownsRow_drewN HPc.out.fst _) (by first | exact Below.refl _ _ | exact below_drewN' (Below.refl _ _) _) hsc rfl (by simp [Value.oneCell']) (by omega) (by decide) rfl _ _ rfl rfl rfl ?_; intro v1 w9 hown9 hb9 hg9' hor9; have hg9 : wc.grownBy w9 u13.ownBlock := ⟨hg9'.os, hg9'.tape, hg9'.output, hg9'.size, hg9'.block⟩; have HP9 := Lib.hid (HPc.out.first hg9 hor9 hown9); have hF9 := (hg9.block _ hlf (fun e => by have := (HPRx.out.fst.lt _ e.symm).2; have := HO8.out.size; omega)).trans HFc.out; have HF9 := Lib.hid hF9; have HL9 := Lib.hid (LaneAt.belowN HLc.out hb9 HLTB.out); have HB9 := Lib.hid (HBc.out.trans (hb9.mono hbs)); have hs9 : base ≤ w9.heap.size := Nat.le_trans hsc hb9.size; clear fc hlf hg9 hg9' hor9 hown9 hb9; have f9 := fun j => cell_at hF9 j; have hlf9 := block_lt hF9; clear hF9)
                    go_upto_region 31 with (at_builtin; refine append_own (W0 := w9) [.int .u64 (x : Int)] base _ _ _ 1 8 infoU64p Try.underlying44 rfl (by decide) _ _ _ (by first | exact HP9.out.snd | exact ownsRow_drewN HP9.out.snd _) (by first | exact Below.refl _ _ | exact below_drewN' (Below.refl _ _) _) hs9 rfl (by simp [Value.oneCell']) (by omega) (by decide) rfl _ _ rfl rfl rfl ?_; intro v2 w10 hown10 hb10 hg10' hor10; have hg10 : w9.grownBy w10 u14.ownBlock := ⟨hg10'.os, hg10'.tape, hg10'.output, hg10'.size, hg10'.block⟩; have HP10 := Lib.hid (HP9.out.second hg10 hor10 hown10); have hF10 := (hg10.block _ (block_lt HF9.out) (fun e => by have := (HPRx.out.snd.lt _ e.symm).2; have := HO8.out.size; omega)).trans HF9.out; have HL10 := Lib.hid (LaneAt.belowN HL9.out hb10 HLTB.out); have HB10 := Lib.hid (HB9.out.trans (hb10.mono hbs)); have hs10 : base ≤ w10.heap.size := Nat.le_trans hs9 hb10.size; clear f9 hlf9 hg10 hg10' hor10 hown10 hb10; have f10 := fun j => cell_at hF10 j; have hlf10 := block_lt hF10; clear hF10)
                    go_wp2
                    go_roundw
                    case rel => exact ⟨m + 1, by omega, by go_num, by have hLL := HL10.out; (repeat (first | (with_reducible exact hLL) | (with_reducible refine LaneAt.drewN ?_ _) | (with_reducible refine LaneAt.drew ?_) | (with_reducible refine LaneAt.alloc ?_ _))), by rw [HE1.out, HE2.out, List.map_append, List.map_append, List.length_append, List.length_append]; first | exact HP10.out | exact Pair.aft HP10.out (below_drewN' (Below.refl _ _) _), by have hBB := HB10.out; repeat' (first | (with_reducible assumption) | (with_reducible refine below_setRowN ?_ ?_ _) | (with_reducible refine Below.setCell ?_ ?_ _) | (with_reducible refine below_drewN' ?_ _) | (with_reducible refine Below.drew ?_) | (with_reducible refine Below.alloc ?_ ?_ _) | (with_reducible exact Below.refl _ _) | (with_reducible exact Nat.le_refl _) | (simp; done) | omega | (simp; omega)), by first | exact hs10 | (simp; omega)⟩
                    case measure => simp [intOf]; omega
            · obtain rfl : m = W.length := by omega
              have hon := on_all (W := W) h1
              rw [hon] at hPR
              clear hon
              have hHe0 := here_all hH1 hHL
              rw [hHe0] at hPR
              clear hHe0
              skip
              generalize W.getD 0 0 = x0 at *
              obtain ⟨pv, cv, hv, -, -, hcv⟩ := CellsOff.own hPR.fst [] (by simp)
              obtain ⟨pu, cu, hu, -, -, hcu⟩ := CellsOff.own hPR.snd [] (by simp)
              clear hPR
              subst hv hu
              obtain ⟨wz, rfl⟩ : ∃ x : World, x = wr := ⟨_, rfl⟩
              have c0 := HX0.out wz hB
              have HCV := Lib.hid hcv
              have HCU := Lib.hid hcu
              have HBz := Lib.hid hB
              have HLz := Lib.hid hL
              have k1' : ¬ (q3 = H) := by omega
              have s1' : (H : Int) ≤ (W.length : Int) := by omega
              have t1 : ¬ (q3 - H = 0) := by omega
              have k2' : ¬ (q3 = 1) := by omega
              have s2' : (1 : Int) ≤ (W.length : Int) := by omega
              have t2 : ¬ (q3 - 1 = 0) := by omega
              clear hcv hcu hB hL hml hm hsx
              go_upto_region 35 with (at_builtin; refine append_own (W0 := wz) [.int .u64 (x0 : Int)] wz.heap.size _ _ _ 1 8 infoU64p Try.underlying44 rfl (by decide) _ _ _ (World.ownsRow_nil _ _ _ _) (by first | exact Below.refl _ _ | exact below_drewN' (Below.refl _ _) _) (by first | exact Nat.le_refl _ | (simp; done)) rfl (by simp [Value.oneCell']) (by omega) (by decide) rfl _ _ rfl rfl rfl ?_; intro v9 w9 hown9 hb9 hg9 hor9; have HO9 := Lib.hid hown9; have HB9 := Lib.hid hb9; clear hown9 hb9 hg9 hor9)
              have hW9 : CellsOff w9 (some ⟨blk, off + H, none⟩) ((W.drop H).map UV) [] := by
                have := (HWC.out w9 (HBz.out.trans (HB9.out.mono HBz.out.size))).dropAt H
                rwa [← List.map_drop] at this
              have HW9 := Lib.hid hW9
              clear hW9
              go_upto_region 36 with (at_builtin; refine append_rows (W0 := wz) ((W.drop H).map UV) (W.length - H) wz.heap.size _ _ _ 1 8 infoU64p Try.underlying44 rfl (by decide) _ _ _ (by first | exact HO9.out | exact ownsRow_drewN HO9.out _) (by first | exact HB9.out | exact below_drewN' HB9.out _) (by first | exact HB9.out.size) (some ⟨blk, off + H, none⟩) _ (by simp) (by first | exact HW9.out | exact HW9.out.drewN _) (by intro u hu; obtain ⟨y, _, rfl⟩ := List.mem_map.1 hu; rfl) (by omega) (by decide) rfl _ _ rfl rfl rfl ?_; intro v10 w10 hown10 hb10 hg10 hor10; obtain ⟨p10, c10, rfl, -, -, hc10⟩ := CellsOff.own hown10 [] (by simp); have hc10' : CellsOff w10 p10 ((x0 :: W.drop H).map UV) [] := hc10; have HC10 := Lib.hid hc10'; have HB10 := Lib.hid hb10; clear hc10'; clear hown10 hb10 hg10 hor10 hc10)
              have HLe := Lib.hid (HLz.out.below HB10.out)
              have HCVe := Lib.hid (HCV.out.below HB10.out)
              have HCUe := Lib.hid (HCU.out.below HB10.out)
              clear c0
              go_upto_region 38 with (first
                | (go_at_call 24; ((with_reducible refine (same_self (x0 :: W.drop H) _ _ (by simp) (by simp; omega) _ _ _ _ _ (by simp; omega) (by first | exact HCVe.out | exact HCVe.out.drewN _) (by first | exact HC10.out | exact HC10.out.drewN _)).mono ?_); rintro e w' ⟨rfl, ks, rfl⟩))
                | (go_at_call 17; ((with_reducible refine (KE1.out _ _ B (by have hLL := HLe.out; (repeat (first | (with_reducible exact hLL) | (with_reducible refine LaneAt.drewN ?_ _) | (with_reducible refine LaneAt.drew ?_) | (with_reducible refine LaneAt.alloc ?_ _))))).mono ?_); rintro e w' ⟨rfl, k, rfl⟩))
                | (go_at_call 23; ((with_reducible refine (KE2.out _ _ B (by have hLL := HLe.out; (repeat (first | (with_reducible exact hLL) | (with_reducible refine LaneAt.drewN ?_ _) | (with_reducible refine LaneAt.drew ?_) | (with_reducible refine LaneAt.alloc ?_ _))))).mono ?_); rintro e w' ⟨rfl, k, rfl⟩))
                | (go_at_call 18; ((with_reducible refine (KE3.out _ _ B (by have hLL := HLe.out; (repeat (first | (with_reducible exact hLL) | (with_reducible refine LaneAt.drewN ?_ _) | (with_reducible refine LaneAt.drew ?_) | (with_reducible refine LaneAt.alloc ?_ _))))).mono ?_); rintro e w' ⟨rfl, k, rfl⟩)))
              have hW1 : CellsOff w10 (some ⟨blk, off + 1, none⟩) ((W.drop 1).map UV) [] := by
                have := (HWC.out w10 (HBz.out.trans (HB10.out.mono HBz.out.size))).dropAt 1
                rwa [← List.map_drop] at this
              have HW1 := Lib.hid hW1
              clear hW1
              go_wp2_with (first
                | (go_at_call 24; ((with_reducible refine (same_self (W.drop 1) _ _ (by simp) (by simp) _ _ _ _ _ (by simp; omega) (by first | exact HCUe.out | exact HCUe.out.drewN _) (by first | exact HW1.out | exact HW1.out.drewN _)).mono ?_); rintro e w' ⟨rfl, ks, rfl⟩)))
              go_ret
              have h3 := HB3.out
              have hz : Below w.heap.size w wz := h3.trans (HBz.out.mono h3.size)
              have h10 : Below w.heap.size w w10 := hz.trans (HB10.out.mono hz.size)
              have hs10 := h10.size
              exact ⟨rfl, by repeat' (first | (with_reducible assumption) | (with_reducible refine below_setRowN ?_ ?_ _) | (with_reducible refine Below.setCell ?_ ?_ _) | (with_reducible refine below_drewN' ?_ _) | (with_reducible refine Below.drew ?_) | (with_reducible refine Below.alloc ?_ ?_ _) | (with_reducible exact Below.refl _ _) | (with_reducible exact Nat.le_refl _) | (simp; done) | omega | (simp; omega))⟩
end Go.Proofs.Ytpklblaenfhncaa
