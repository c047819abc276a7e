/- cut.Words. -/
import Derived.Test.YtmehfflomgldeabCutA
import Derived.Deep.DeepCutAuto
namespace Go.Proofs.Ytmehfflomgldeab
set_option linter.unusedVariables false
set_option linter.unusedSimpArgs false
open Go.RowKit
set_option maxRecDepth 100000 in
set_option maxHeartbeats 1000000 in
theorem cut_put (f : Fl) (hr : rightF f = true) (lb : Nat) (v : Value) (n : Nat) (xs : List Value) (w : World) (hl : w.heap[lb]? = some (.cells #[v] 61 (0, 0))) (hown : w.ownsRow (lb + 1) 33 1 v n xs) (hn : n ≤ 1000000) :
    Calls Try.prog 76 #[f.val, .pointer (some ⟨lb, 0, none⟩)] w fun e w' => e = .returned (.tuple #[]) ∧ ∃ v', w'.heap[lb]? = some (.cells #[v'] 61 (0, 0)) ∧ w'.ownsRow (lb + 1) 33 1 v' (n + 1) (xs ++ [UV (wordF f)]) ∧ Below lb w w' := by
  have hW := fun w => flit_write f w
  rw [writeF_right hr] at hW
  have hlw := block_lt hl
  obtain ⟨kind, src, dst, seq, len, more, cast, data⟩ := f
  generalize wordF ⟨kind, src, dst, seq, len, more, cast, data⟩ = x at *
  dsimp only [Fl.val] at *
  have HW := Lib.hid hW
  have HL := Lib.hid hl
  have HO := Lib.hid hown
  clear hW hl hown hr
  go_enter Try.func76, Try.ntmps76
  go_wp2_with (first
    | (go_at_call 77; ((with_reducible refine (HW.out _).mono ?_); rintro e w1 ⟨rfl, hb1⟩; have hL1 := Below.at hb1 (alloc_old HL.out _) (by simp; omega); have f1 := fun j => cell_at hL1 j; have hO1 := owns_aft (HO.out.alloc _) hb1; have hs1 := hb1.size; simp at hs1; have hs2 : lb + 1 ≤ w1.heap.size := (by omega); have HL1 := Lib.hid hL1; have HB1 := Lib.hid hb1; clear hb1 hL1))
    | (at_builtin; refine append_own (W0 := w1) [.int .u64 (x : Int)] (lb + 1) _ _ _ 1 8 infoU64p Try.underlying61 rfl (by decide) _ _ _ hO1 (Below.refl _ _) hs2 rfl (by simp [Value.oneCell']) (by omega) (by decide) rfl _ _ rfl rfl rfl ?_; intro v1 w4 hown4 hb4 hg4 hor4; obtain ⟨av, cv, rfl, -, -, -⟩ := CellsOff.own hown4 [] (by simp); have hL4 := Below.at hb4 HL1.out (by omega); have f4 := fun j => cell_at hL4 j; have u4 := fun j => frozen_at hL4 j; have HL4 := Lib.hid hL4; have HO4 := Lib.hid hown4; have HB4 := Lib.hid hb4; clear hown4 hb4 hg4 hor4 hL4))
  go_end0
  have hb1 : Below lb w w1 := Below.trans (by repeat' (first | (with_reducible assumption) | (with_reducible refine below_setRowN ?_ ?_ _) | (with_reducible refine Below.setCell ?_ ?_ _) | (with_reducible refine below_drewN' ?_ _) | (with_reducible refine Below.drew ?_) | (with_reducible refine Below.alloc ?_ ?_ _) | (with_reducible exact Below.refl _ _) | (with_reducible exact Nat.le_refl _) | (simp; done) | omega | (simp; omega))) (HB1.out.mono (by simp; omega))
  refine ⟨rfl, _, set_at HL4.out _ _, owns_off HO4.out (S := [lb]) ((Only.refl _ _).setCell (by simp) _) (fun k hk => by have := (HO4.out.lt k hk).1; simp; omega), ?_⟩
  exact Below.setCell (hb1.trans (HB4.out.mono (by omega))) (p := ⟨lb, 0, none⟩) (Nat.le_refl _) _
set_option maxRecDepth 100000 in
set_option maxHeartbeats 2000000 in
theorem cut_words (p : Pa) (a : Option Addr) (c : Nat) (w : World) (h : CellsOff w a (flatT p.heads) []) (hR : rightP p = true) :
    Calls Try.prog 44 #[p.val (.slice a p.heads.length c)] w fun e w' => ∃ v, e = .returned (.tuple #[v, .int .i64 0]) ∧ w'.ownsRow w.heap.size 33 1 v (wordsP p).length ((wordsP p).map UV) ∧ Below w.heap.size w w' := by
  obtain ⟨-, -, -, -, hn2, -, hd⟩ := right_parts hR
  have hC := fun w' hb => cut_right p a c w' (by unfold maxLen; omega) (h.below (w' := w') hb)
  rw [hR] at hC
  have hHr : ∀ i, i < p.heads.length → rightF (headFl p i) = true := fun i hi => head_right hR hi
  have hHv : ∀ i, (headFl p i).val = .agg #[.int .i64 1, .int .i64 p.src, .int .i64 (p.heads.getD i T2.zero).node, .int .i64 (p.heads.getD i T2.zero).seq, .int .i64 (p.data.size : Int), .bool (decide ((i : Int) + 1 < (p.heads.length : Int))), .bool p.cast, .string ⟨#[]⟩] := fun i => by
    rw [show decide ((i : Int) + 1 < (p.heads.length : Int)) = decide (i + 1 < p.heads.length) from decide_eq_decide.2 (by omega)]; rfl
  rw [wordsP_vs, wordsP_len]
  obtain ⟨src, cast, heads, data⟩ := p
  dsimp only at *
  have HCR := Lib.hid hC
  have HC := Lib.hid (fun i hi => head_cell (i := i) h hi)
  have HHR := Lib.hid hHr
  have HHV := Lib.hid hHv
  have hdI : (data.size : Int) ≤ 64 := by omega
  have hnI : (heads.length : Int) ≤ 4096 := by omega
  clear hC h hR hHr hHv
  unfold Pa.val at *
  go_enter Try.func44, Try.ntmps44
  go_wp2_with (go_at_call 49; ((with_reducible refine (HCR.out _ (by repeat' (first | (with_reducible assumption) | (with_reducible refine below_setRowN ?_ ?_ _) | (with_reducible refine Below.setCell ?_ ?_ _) | (with_reducible refine below_drewN' ?_ _) | (with_reducible refine Below.drew ?_) | (with_reducible refine Below.alloc ?_ ?_ _) | (with_reducible exact Below.refl _ _) | (with_reducible exact Nat.le_refl _) | (simp; done) | omega | (simp; omega)))).mono ?_); rintro e w1 ⟨rfl, hb1⟩; have hF1 := Below.at hb1 (alloc_new _) (by simp); have hlw := block_lt hF1; have f1 := fun j => cell_at hF1 j; have hB1 : Below w.heap.size w w1 := Below.trans ((Below.refl _ _).alloc (Nat.le_refl _) _) (hb1.mono (by simp)); have HF1 := Lib.hid hF1; have HB1 := Lib.hid hB1; clear hb1 hB1 hF1))
  go_loopw [22] (fun i wr => ∃ (m : Nat) (v : Value), m ≤ heads.length ∧ i = .int .i64 (m : Int) ∧ wr.heap[w1.heap.size]? = some (.cells #[v] 61 (0, 0)) ∧ wr.ownsRow (w1.heap.size + 1) 33 1 v m (headVs ⟨src, cast, heads, data⟩ m) ∧ Below w1.heap.size w1 wr) (fun i _ => heads.length - (intOf i).toNat)
  case atStart => exact ⟨0, _, by omega, rfl, alloc_new _, World.ownsRow_nil _ _ _ _, by repeat' (first | (with_reducible assumption) | (with_reducible refine below_setRowN ?_ ?_ _) | (with_reducible refine Below.setCell ?_ ?_ _) | (with_reducible refine below_drewN' ?_ _) | (with_reducible refine Below.drew ?_) | (with_reducible refine Below.alloc ?_ ?_ _) | (with_reducible exact Below.refl _ _) | (with_reducible exact Nat.le_refl _) | (simp; done) | omega | (simp; omega))⟩
  case round =>
  clear f1
  obtain ⟨m, v, hm, rfl, hl, hown, hb⟩ := hrel
  obtain ⟨wo, rfl⟩ : ∃ x : World, x = wr := ⟨_, rfl⟩
  have f1 := fun j => cell_at (Below.at hb HF1.out hlw) j
  have hso := hb.size
  have hlo : w.heap.size < wo.heap.size := by omega
  have hll := block_lt hl
  by_cases hml : m < heads.length
  · have hmI : (m : Int) < (heads.length : Int) := by omega
    obtain ⟨blk, off, rfl, hlt, c0, c1⟩ := HC.out m hml
    have d0 := ((HB1.out.trans (hb.mono HB1.out.size)).cell (p := ⟨blk, _, none⟩) hlt).trans c0
    have d1 := ((HB1.out.trans (hb.mono HB1.out.size)).cell (p := ⟨blk, _, none⟩) hlt).trans c1
    have hP := fun w' hl ho => cut_put (headFl ⟨src, cast, heads, data⟩ m) (HHR.out m hml) w1.heap.size v m (headVs ⟨src, cast, heads, data⟩ m) w' hl ho (by omega)
    rw [HHV.out m] at hP
    have HP := Lib.hid hP
    have HS := Lib.hid (headVs_succ ⟨src, cast, heads, data⟩ m)
    have HL := Lib.hid hl
    have HO := Lib.hid hown
    have HB := Lib.hid hb
    clear c0 c1 hP hl hown hb
    generalize wordF (headFl ⟨src, cast, heads, data⟩ m) = x at *
    generalize heads.getD m T2.zero = t at *
    go_wp2_with (go_at_call 76; ((with_reducible refine (HP.out _ ?_ ?_).mono ?_); exact alloc_old HL.out _; exact HO.out.alloc _; rintro e w2 ⟨rfl, v2, hl2, ho2, hb2⟩; have HL2 := Lib.hid hl2; have HO2 := Lib.hid ho2; have HB2 := Lib.hid hb2; clear hl2 ho2 hb2))
    go_roundw
    case rel => exact ⟨m + 1, v2, by omega, by go_num, HL2.out, by rw [HS.out]; exact HO2.out, Below.trans (by have := HB.out; repeat' (first | (with_reducible assumption) | (with_reducible refine below_setRowN ?_ ?_ _) | (with_reducible refine Below.setCell ?_ ?_ _) | (with_reducible refine below_drewN' ?_ _) | (with_reducible refine Below.drew ?_) | (with_reducible refine Below.alloc ?_ ?_ _) | (with_reducible exact Below.refl _ _) | (with_reducible exact Nat.le_refl _) | (simp; done) | omega | (simp; omega))) HB2.out⟩
    case measure => simp [intOf]; omega
  · obtain rfl : m = heads.length := by omega
    have HL := Lib.hid hl
    have HO := Lib.hid hown
    have HB := Lib.hid hb
    clear hl hown hb HHR HHV HC
    go_wp2
    go_loopw [8] (fun r wr => ∃ (k : Nat) (rs : ByteArray) (v : Value), k ≤ nBody data ∧ r = .string rs ∧ Hid (rs = data.extract (6 * k) data.size) ∧ rs.size + 6 * k = data.size ∧ wr.heap[w1.heap.size]? = some (.cells #[v] 61 (0, 0)) ∧ wr.ownsRow (w1.heap.size + 1) 33 1 v (heads.length + k) (headVs ⟨src, cast, heads, data⟩ heads.length ++ bodyVs data k) ∧ Below w1.heap.size w1 wr) (fun r _ => strLen r)
    case atStart => exact ⟨0, data, v, by omega, rfl, rest_start data, by omega, HL.out, by have := HO.out; simpa [bodyVs] using this, HB.out⟩
    case round =>
      clear HO HB HL f1 hll hlo hso
      obtain ⟨k, rs, v, hk, rfl, hE, hsz, hl, hown, hb⟩ := hrel
      obtain ⟨wl, rfl⟩ : ∃ x : World, x = wr := ⟨_, rfl⟩
      have hsl := hb.size
      have hll := block_lt hl
      have HL := Lib.hid hl
      have HO := Lib.hid hown
      have HB := Lib.hid hb
      by_cases hlt6 : 6 < rs.size
      · obtain ⟨e1, e2, hkn, e3, e4⟩ := rest_body hE.out hsz hlt6
        have hP := fun w' hl ho => cut_put (bodyFl data k) (body_right hkn) w1.heap.size v (heads.length + k) (headVs ⟨src, cast, heads, data⟩ heads.length ++ bodyVs data k) w' hl ho (by unfold nBody at hkn; omega)
        have hbv : (bodyFl data k).val = .agg #[.int .i64 2, .int .i64 0, .int .i64 0, .int .i64 0, .int .i64 0, .bool false, .bool false, .string (rs.extract 0 6)] := by rw [e1]; rfl
        rw [hbv] at hP
        have HP := Lib.hid hP
        have HS := Lib.hid (bodyVs_succ data k)
        have E2 := Lib.hid e2
        have E3 := Lib.hid e3
        have hlI : (6 : Int) < (rs.size : Int) := by omega
        have hsI : (rs.size : Int) ≤ 64 := by omega
        generalize wordF (bodyFl data k) = x at *
        clear e1 e2 e3 hP hbv hl hown hb
        go_wp2_with (go_at_call 76; ((with_reducible refine (HP.out _ ?_ ?_).mono ?_); exact HL.out; exact HO.out; rintro e w2 ⟨rfl, v2, hl2, ho2, hb2⟩; have HL2 := Lib.hid hl2; have HO2 := Lib.hid ho2; have HB2 := Lib.hid hb2; clear hl2 ho2 hb2))
        go_roundw
        case rel => exact ⟨k + 1, _, v2, by omega, rfl, E2.out, E3.out, HL2.out, by rw [HS.out, ← List.append_assoc]; exact HO2.out, HB.out.trans HB2.out⟩
        case measure => exact e4
      · obtain rfl := rest_tail hsz hk hlt6
        have hP := fun w' hl ho => cut_put (tailFl data) (tail_right data) w1.heap.size v (heads.length + nBody data) (headVs ⟨src, cast, heads, data⟩ heads.length ++ bodyVs data (nBody data)) w' hl ho (by unfold nBody; omega)
        have hbv : (tailFl data).val = .agg #[.int .i64 3, .int .i64 0, .int .i64 0, .int .i64 0, .int .i64 0, .bool false, .bool false, .string rs] := by rw [hE.out]; rfl
        rw [hbv] at hP
        obtain ⟨x, hx⟩ : ∃ x, x = wordF (tailFl data) := ⟨_, rfl⟩
        rw [← hx] at hP
        have HP := Lib.hid hP
        have HX := Lib.hid hx
        have hlI : ¬ ((6 : Int) < (rs.size : Int)) := by omega
        clear hP hbv hl hown hb hx
        go_wp2_with (go_at_call 76; ((with_reducible refine (HP.out _ ?_ ?_).mono ?_); exact HL.out; exact HO.out; rintro e w2 ⟨rfl, v2, hl2, ho2, hb2⟩; have f2 := fun j => cell_at hl2 j; have HL2 := Lib.hid hl2; have HO2 := Lib.hid ho2; have HB2 := Lib.hid hb2; clear hl2 ho2 hb2))
        go_ret2
        have hsw := HB1.out.size
        have ho := HO2.out
        rw [HX.out] at ho
        exact ⟨v2, rfl, owns_base ho (by omega), HB1.out.trans ((HB.out.trans HB2.out).mono hsw)⟩
/-- Words of any parcel: the words, or why there are none. -/
def wordsF (p : Pa) : List Nat × Int := if 64 < p.data.size then ([], 4) else if rightP p = true then (wordsP p, 0) else ([], 1)
theorem cut_words_any (p : Pa) (a : Option Addr) (c : Nat) (w : World) (hn : p.heads.length ≤ maxLen) (h : CellsOff w a (flatT p.heads) []) :
    Calls Try.prog 44 #[p.val (.slice a p.heads.length c)] w fun e w' => ∃ v, e = .returned (.tuple #[v, .int .i64 (wordsF p).2]) ∧ w'.ownsRow w.heap.size 33 1 v (wordsF p).1.length ((wordsF p).1.map UV) ∧ Below w.heap.size w w' := by
  unfold wordsF
  by_cases hd : 64 < p.data.size
  · rw [if_pos hd]
    obtain ⟨src, cast, heads, data⟩ := p
    dsimp only at hd ⊢
    have hdI : (64 : Int) < (data.size : Int) := by omega
    unfold Pa.val
    go_enter Try.func44, Try.ntmps44
    go_wp2
    go_ret2
    exact ⟨_, rfl, World.ownsRow_nil _ _ _ _, by repeat' (first | (with_reducible assumption) | (with_reducible refine below_setRowN ?_ ?_ _) | (with_reducible refine Below.setCell ?_ ?_ _) | (with_reducible refine below_drewN' ?_ _) | (with_reducible refine Below.drew ?_) | (with_reducible refine Below.alloc ?_ ?_ _) | (with_reducible exact Below.refl _ _) | (with_reducible exact Nat.le_refl _) | (simp; done) | omega | (simp; omega))⟩
  · rw [if_neg hd]
    by_cases hr : rightP p = true
    · rw [if_pos hr]; exact cut_words p a c w h hr
    · rw [if_neg hr]
      have hC := fun w' hb => cut_right p a c w' hn (h.below (w' := w') hb)
      have hrf : rightP p = false := by simpa using hr
      rw [hrf] at hC
      clear hr hrf h
      obtain ⟨src, cast, heads, data⟩ := p
      dsimp only at *
      have HCR := Lib.hid hC
      have hdI : (data.size : Int) ≤ 64 := by omega
      clear hC
      unfold Pa.val at *
      go_enter Try.func44, Try.ntmps44
      go_wp2_with (go_at_call 49; ((with_reducible refine (HCR.out _ (by repeat' (first | (with_reducible assumption) | (with_reducible refine below_setRowN ?_ ?_ _) | (with_reducible refine Below.setCell ?_ ?_ _) | (with_reducible refine below_drewN' ?_ _) | (with_reducible refine Below.drew ?_) | (with_reducible refine Below.alloc ?_ ?_ _) | (with_reducible exact Below.refl _ _) | (with_reducible exact Nat.le_refl _) | (simp; done) | omega | (simp; omega)))).mono ?_); rintro e w1 ⟨rfl, hb1⟩))
      go_ret2
      exact ⟨_, rfl, World.ownsRow_nil _ _ _ _, Below.trans ((Below.refl _ _).alloc (Nat.le_refl _) _) (hb1.mono (by simp))⟩
theorem rwords_any (p : Pa) (a : Option Addr) (c : Nat) (w : World) (hn : p.heads.length ≤ maxLen) (h : CellsOff w a (flatT p.heads) []) :
    Calls Try.prog 37 #[p.val (.slice a p.heads.length c)] w fun e w' => ∃ v, e = .returned (.tuple #[v, .int .i64 (wordsF p).2]) ∧ w'.ownsRow w.heap.size 33 1 v (wordsF p).1.length ((wordsF p).1.map UV) ∧ Below w.heap.size w w' := by
  unfold wordsF
  by_cases hd : 64 < p.data.size
  · rw [if_pos hd]
    obtain ⟨src, cast, heads, data⟩ := p
    dsimp only at hd ⊢
    have hdI : (64 : Int) < (data.size : Int) := by omega
    unfold Pa.val
    go_enter Try.func37, Try.ntmps37
    go_wp2
    go_ret2
    exact ⟨_, rfl, World.ownsRow_nil _ _ _ _, by repeat' (first | (with_reducible assumption) | (with_reducible refine below_setRowN ?_ ?_ _) | (with_reducible refine Below.setCell ?_ ?_ _) | (with_reducible refine below_drewN' ?_ _) | (with_reducible refine Below.drew ?_) | (with_reducible refine Below.alloc ?_ ?_ _) | (with_reducible exact Below.refl _ _) | (with_reducible exact Nat.le_refl _) | (simp; done) | omega | (simp; omega))⟩
  · rw [if_neg hd]
    by_cases hr : rightP p = true
    · rw [if_pos hr]; exact rwords10 p a c w h hr
    · rw [if_neg hr]
      have hC := fun w' hb => rright10 p a c w' hn (h.below (w' := w') hb)
      have hrf : rightP p = false := by simpa using hr
      rw [hrf] at hC
      clear hr hrf h
      obtain ⟨src, cast, heads, data⟩ := p
      dsimp only at *
      have HCR := Lib.hid hC
      have hdI : (data.size : Int) ≤ 64 := by omega
      clear hC
      unfold Pa.val at *
      go_enter Try.func37, Try.ntmps37
      go_wp2_with (go_at_call 50; ((with_reducible refine (HCR.out _ (by repeat' (first | (with_reducible assumption) | (with_reducible refine below_setRowN ?_ ?_ _) | (with_reducible refine Below.setCell ?_ ?_ _) | (with_reducible refine below_drewN' ?_ _) | (with_reducible refine Below.drew ?_) | (with_reducible refine Below.alloc ?_ ?_ _) | (with_reducible exact Below.refl _ _) | (with_reducible exact Nat.le_refl _) | (simp; done) | omega | (simp; omega)))).mono ?_); rintro e w1 ⟨rfl, hb1⟩))
      go_ret2
      exact ⟨_, rfl, World.ownsRow_nil _ _ _ _, Below.trans ((Below.refl _ _).alloc (Nat.le_refl _) _) (hb1.mono (by simp))⟩
end Go.Proofs.Ytmehfflomgldeab
