/- The reference's Read. -/
import Derived.Test.YtmehfflomgldeabCutF
namespace Go.Proofs.Ytmehfflomgldeab
set_option linter.unusedVariables false
set_option linter.unusedSimpArgs false
open Go.RowKit BM
set_option maxRecDepth 100000 in
set_option maxHeartbeats 4000000 in
theorem rread10 (l : List Nat) (a : Option Addr) (c : Nat) (w : World) (hl : l.length ≤ 100000) (h64 : ∀ x ∈ l, x < 2 ^ 64) (h : CellsOff w a (l.map UV) []) :
    Calls Try.prog 40 #[.slice a l.length c] w fun e w' => ∃ v, e = .returned (.tuple #[(readL l).1.val v, .int .i64 (readL l).2]) ∧ w'.ownsRow w.heap.size 115 2 v (readL l).1.heads.length (flatT (readL l).1.heads) ∧ Below w.heap.size w w' := by
  have HC := Lib.hid (fun i hi => u_cell (i := i) h hi)
  have HL := Lib.hid h64
  have HA := Lib.hid h
  clear h h64
  go_enter Try.func40, Try.ntmps40
  go_wp2
  go_loopw [5] (fun i wr => ∃ (m : Nat) (p : Pa) (v : Value), m ≤ l.length ∧ i = .int .i64 (m : Int) ∧ wr.heap[w.heap.size]? = some (.cells #[.int .i64 0, .bool false, .slice none 0 0, .string ⟨#[]⟩] 60 (0, 0)) ∧ wr.heap[w.heap.size + 1]? = some (.cells #[.int .i64 p.src, .bool p.cast, v, .string p.data] 60 (0, 0)) ∧ wr.ownsRow (w.heap.size + 1 + 1) 115 2 v p.heads.length (flatT p.heads) ∧ Hid (readGo Pa.zero l = readGo p (l.drop m)) ∧ p.data.size ≤ 6 * m ∧ p.heads.length ≤ m ∧ Below w.heap.size w wr) (fun i _ => l.length - (intOf i).toNat)
  case atStart =>
    refine ⟨0, Pa.zero, _, by omega, rfl, alloc_old (alloc_new _) _, alloc_at _ _ (by simp), World.ownsRow_nil _ _ _ _, Lib.hid rfl, by decide, by decide, by repeat' (first | (with_reducible assumption) | (with_reducible refine below_setRowN ?_ ?_ _) | (with_reducible refine Below.setCell ?_ ?_ _) | (with_reducible refine below_drewN' ?_ _) | (with_reducible refine Below.drew ?_) | (with_reducible refine Below.alloc ?_ ?_ _) | (with_reducible exact Below.refl _ _) | (with_reducible exact Nat.le_refl _) | (simp; done) | omega | (simp; omega))⟩
  case round =>
  obtain ⟨m, p, v, hm, rfl, hR, hP, hH, hG, hd, hn, hb⟩ := hrel
  obtain ⟨wo, rfl⟩ : ∃ x : World, x = wr := ⟨_, rfl⟩
  have hso := hb.size
  have hlp := block_lt hP
  have HR := Lib.hid hR
  have HP := Lib.hid hP
  have HH := Lib.hid hH
  have HBW := Lib.hid hb
  by_cases hml : m < l.length
  · have hmI : (m : Int) < (l.length : Int) := by omega
    obtain ⟨blk, off, rfl, hlt, c0⟩ := HC.out m hml
    have d0 := (hb.cell (p := ⟨blk, _, none⟩) hlt).trans c0
    have hx64 := HL.out (l.getD m 0) (by rw [List.getD_eq_getElem?_getD, List.getElem?_eq_getElem hml]; exact List.getElem_mem hml)
    have hRd := fun w => rflit_read (l.getD m 0) hx64 w
    have hG2 := hG.out
    rw [drop_cons hml 0, readGo_cons] at hG2
    have hsm := read_small (x := l.getD m 0)
    clear hG c0 hR hP hH hb
    generalize l.getD m 0 = x at *
    generalize readF x = rf at *
    obtain ⟨⟨kind, src, dst, seq, len, more, cast, data⟩, e⟩ := rf
    dsimp only at *
    have HRD := Lib.hid hRd
    have HG := Lib.hid hG2
    clear hRd hG2 hx64
    by_cases he : e = 0
    rotate_left
    · have heb : (e != 0) = true := bne_iff_ne.2 he
      have hg := HG.out
      rw [if_neg he] at hg
      have hrl : readL l = (Pa.zero, e) := by unfold readL; rw [hg, if_neg he]
      have HRL := Lib.hid hrl
      clear he hg hrl
      go_wp2_with ((go_at_call 75; ((with_reducible refine (HRD.out _).mono ?_); rintro e w1 ⟨rfl, hb1⟩; have hR1 := Below.at hb1 HR.out (block_lt HR.out); have hlr := block_lt hR1; have f1 := fun j => cell_at hR1 j; have u1 := fun j => frozen_at hR1 j; have HR1 := Lib.hid hR1; have HB1 := Lib.hid hb1; clear hb1 hR1)))
      have hb1 : Below w.heap.size w w1 := HBW.out.trans (HB1.out.mono hso)
      refine bodyPost_ret (res_row_tmp rfl _ _ w.heap.size 60 #[.int .i64 0, .bool false, .slice none 0 0, .string ⟨#[]⟩] (0, 0) _ rfl (by repeat' (first | (with_reducible exact alloc_new _) | (with_reducible assumption) | (with_reducible apply stored4) | (with_reducible refine alloc_old ?_ _) | (with_reducible refine drewN_at ?_ _) | (with_reducible refine set_other ?_ ?_ _ _) | (with_reducible exact HR1.out) | (simp; done) | omega | (simp; omega))) Try.underlying60 rfl (by kernel_rfl)) rfl ⟨.slice none 0 0, by rw [HRL.out]; rfl, by rw [HRL.out]; exact World.ownsRow_nil _ _ _ _, by repeat' (first | (with_reducible assumption) | (with_reducible refine below_setRowN ?_ ?_ _) | (with_reducible refine Below.setCell ?_ ?_ _) | (with_reducible refine below_drewN' ?_ _) | (with_reducible refine Below.drew ?_) | (with_reducible refine Below.alloc ?_ ?_ _) | (with_reducible exact Below.refl _ _) | (with_reducible exact Nat.le_refl _) | (simp; done) | omega | (simp; omega))⟩
    subst he
    have hg := HG.out
    rw [if_pos rfl] at hg
    have HG := Lib.hid hg
    clear hg
    have hst : readStep p ⟨kind, src, dst, seq, len, more, cast, data⟩ = if kind = 1 then ⟨src, cast, p.heads ++ [⟨dst, seq⟩], p.data ++ data⟩ else { p with data := p.data ++ data } := rfl
    have hsd : (readStep p ⟨kind, src, dst, seq, len, more, cast, data⟩).data = p.data ++ data := by rw [hst]; split <;> rfl
    go_upto_if 31 with ((go_at_call 75; ((with_reducible refine (HRD.out _).mono ?_); rintro e w1 ⟨rfl, hb1⟩; have hR1 := Below.at hb1 HR.out (block_lt HR.out); have hlr := block_lt hR1; have f1 := fun j => cell_at hR1 j; have u1 := fun j => frozen_at hR1 j; have HR1 := Lib.hid hR1; have HB1 := Lib.hid hb1; clear hb1 hR1)))
    have hF := alloc_new (w := w1) (.cells #[.int .i64 kind, .int .i64 src, .int .i64 dst, .int .i64 seq, .int .i64 len, .bool more, .bool cast, .string data] 79)
    have hR2 := alloc_old HR1.out (.cells #[.int .i64 kind, .int .i64 src, .int .i64 dst, .int .i64 seq, .int .i64 len, .bool more, .bool cast, .string data] 79)
    have hP2 := alloc_old (Below.at HB1.out HP.out (block_lt HP.out)) (.cells #[.int .i64 kind, .int .i64 src, .int .i64 dst, .int .i64 seq, .int .i64 len, .bool more, .bool cast, .string data] 79)
    have hH2 := (owns_aft HH.out HB1.out).alloc (.cells #[.int .i64 kind, .int .i64 src, .int .i64 dst, .int .i64 seq, .int .i64 len, .bool more, .bool cast, .string data] 79)
    have hb1 : Below w.heap.size w w1 := HBW.out.trans (HB1.out.mono hso)
    have hb2 : Below w.heap.size w (w1.alloc (.cells #[.int .i64 kind, .int .i64 src, .int .i64 dst, .int .i64 seq, .int .i64 len, .bool more, .bool cast, .string data] 79)) := hb1.alloc hb1.size _
    have hf3 : w.heap.size + 1 < w1.heap.size := by have h1 := HB1.out.size; omega
    clear f1 u1 hlr HR1 HB1 d0 HR HP HH HBW hso hb1 hlp
    generalize hwe : w1.alloc (.cells #[.int .i64 kind, .int .i64 src, .int .i64 dst, .int .i64 seq, .int .i64 len, .bool more, .bool cast, .string data] 79) = w2 at *
    clear hwe
    have fF := fun j => cell_at hF j
    have fP := fun j => cell_at hP2 j
    have uP := fun j => frozen_at hP2 j
    have hso2 := hb2.size
    have HF := Lib.hid hF
    have HR := Lib.hid hR2
    have HP := Lib.hid hP2
    have HH := Lib.hid hH2
    have HBW := Lib.hid hb2
    clear hF hR2 hP2 hH2 hb2
    go_cut [] (fun wx => ∃ v2, wx.heap[w.heap.size]? = some (.cells #[.int .i64 0, .bool false, .slice none 0 0, .string ⟨#[]⟩] 60 (0, 0)) ∧ wx.heap[w.heap.size + 1]? = some (.cells #[.int .i64 (readStep p ⟨kind, src, dst, seq, len, more, cast, data⟩).src, .bool (readStep p ⟨kind, src, dst, seq, len, more, cast, data⟩).cast, v2, .string p.data] 60 (0, 0)) ∧ wx.ownsRow (w.heap.size + 1 + 1) 115 2 v2 (readStep p ⟨kind, src, dst, seq, len, more, cast, data⟩).heads.length (flatT (readStep p ⟨kind, src, dst, seq, len, more, cast, data⟩).heads) ∧ wx.heap[w1.heap.size]? = some (.cells #[.int .i64 kind, .int .i64 src, .int .i64 dst, .int .i64 seq, .int .i64 len, .bool more, .bool cast, .string data] 79 (0, 0)) ∧ Below w.heap.size w wx)
    case first =>
      by_cases hk : kind = 1
      · subst hk
        rw [if_pos rfl] at hst
        have HST := Lib.hid hst
        clear hst hsd
        go_upto_region 11 with (fail)
        have ho3 : Only [w.heap.size + 1] w2 ((w2.setCell ⟨w.heap.size + 1, 0, none⟩ (.int .i64 src)).setCell ⟨w.heap.size + 1, 1, none⟩ (.bool cast)) := ((Only.refl _ _).setCell (by simp) _).setCell (by simp) _
        have hP3 : ((w2.setCell ⟨w.heap.size + 1, 0, none⟩ (.int .i64 src)).setCell ⟨w.heap.size + 1, 1, none⟩ (.bool cast)).heap[w.heap.size + 1]? = some (.cells #[.int .i64 src, .bool cast, v, .string p.data] 60 (0, 0)) := set_at (set_at HP.out _ _) _ _
        generalize (w2.setCell ⟨w.heap.size + 1, 0, none⟩ (.int .i64 src)).setCell ⟨w.heap.size + 1, 1, none⟩ (.bool cast) = w3 at *
        have hH3 := ownsRow_only HH.out ho3 (fun k hk => by simp at hk; omega)
        have hR3 := ho3.at HR.out (by simp)
        have hF3 := ho3.at HF.out (by simp; omega)
        have hs3 := ho3.size
        have hfo := own_other hH3 hF3 (by decide)
        have hbw3 : Below w.heap.size w w3 := HBW.out.trans (ho3.below (by simp) hso2)
        have hbs : w.heap.size + 1 + 1 ≤ w3.heap.size := by have := block_lt hP3; omega
        have fF := fun j => cell_at hF3 j
        have fP := fun j => cell_at hP3 j
        have HP3 := Lib.hid hP3
        have HR3 := Lib.hid hR3
        have HF3 := Lib.hid hF3
        have HFO := Lib.hid hfo
        have HW3 := Lib.hid hbw3
        have hF3l := block_lt hF3
        clear uP hP3 hR3 hF3 hfo hbw3 ho3 HR HP HH HF HBW
        go_wp2_with (at_builtin; refine append_own (W0 := w3) [.int .i64 dst, .int .i64 seq] (w.heap.size + 1 + 1) _ _ _ 2 16 infoT2 Try.underlying58 rfl (by decide) _ _ _ hH3 (Below.refl _ _) hbs rfl (by simp [Value.oneCell']) (by omega) (by decide) rfl _ _ rfl rfl rfl ?_; intro v4 w4 hown4 hb4 hg4 hor4; obtain ⟨av, cv, rfl, -, -, -⟩ := CellsOff.own hown4 [] (by simp); have hP4 := Below.at hb4 HP3.out (by omega); have fP := fun j => cell_at hP4 j; have uP := fun j => frozen_at hP4 j; have HP4 := Lib.hid hP4; have HO4 := Lib.hid hown4; have HB4 := Lib.hid hb4; have HG4 := Lib.hid hg4; clear hP4 hown4 hb4 hg4 hor4)
        go_meet
        rw [HST.out]
        have hF4 : w4.heap[w1.heap.size]? = _ := (HG4.out.block _ hF3l (fun e => HFO.out _ e.symm rfl)).trans HF3.out
        refine ⟨_, set_other (Below.at HB4.out HR3.out (by omega)) (by omega) _ _, set_at HP4.out _ _, ?_, set_other hF4 (by omega) _ _, ?_⟩
        · dsimp only
          rw [List.length_append, flatT_snoc]
          exact ownsRow_only HO4.out (S := [w.heap.size + 1]) ((Only.refl _ _).setCell (by simp) _) (fun k hk => by simp at hk; omega)
        · exact Below.setCell (HW3.out.trans (HB4.out.mono (by omega))) (p := ⟨w.heap.size + 1, 2, none⟩) (by simp) _
      · have hkb : (kind == 1) = false := beq_eq_false_iff_ne.2 hk
        rw [if_neg hk] at hst
        have HST := Lib.hid hst
        clear hk hst hsd
        go_wp2
        go_meet
        rw [HST.out]
        exact ⟨v, HR.out, HP.out, HH.out, HF.out, HBW.out⟩
    case rest =>
      obtain ⟨v2, hR, hP, hH, hF, hbw⟩ := hcut
      obtain ⟨w5, rfl⟩ : ∃ x : World, x = wc := ⟨_, rfl⟩
      have fF := fun j => cell_at hF j
      have fP := fun j => cell_at hP j
      have uP := fun j => frozen_at hP j
      have hln : (readStep p ⟨kind, src, dst, seq, len, more, cast, data⟩).heads.length ≤ m + 1 := by
        rw [hst]; split
        · simp; omega
        · show p.heads.length ≤ m + 1; omega
      have HSD := Lib.hid hsd
      have HR5 := Lib.hid hR
      have HP5 := Lib.hid hP
      have HH5 := Lib.hid hH
      have HW5 := Lib.hid hbw
      have hcat : p.data.size + data.size ≤ 1000000 := by omega
      clear hst hsd hR hP hH hF hbw HR HP HH HF HBW
      generalize readStep p ⟨kind, src, dst, seq, len, more, cast, data⟩ = p2 at *
      go_wp2
      go_roundw
      case rel =>
        refine ⟨m + 1, p2, v2, by omega, by go_num, set_other HR5.out (by omega) _ _, by rw [HSD.out]; exact set_at HP5.out _ _, ownsRow_only HH5.out (S := [w.heap.size + 1]) ((Only.refl _ _).setCell (by simp) _) (fun k hk => by simp at hk; omega), HG, ?_, hln, Below.setCell HW5.out (p := ⟨w.heap.size + 1, 3, none⟩) (by simp) _⟩
        rw [HSD.out, ByteArray.size_append]; omega
      case measure => simp [intOf]; omega
  · obtain rfl : m = l.length := by omega
    have hg := hG.out
    rw [List.drop_length] at hg
    have hg : readGo Pa.zero l = (p, 0) := hg
    have hrl : readL l = if (wordsF p).2 = 0 ∧ (wordsF p).1 = l then (p, 0) else (Pa.zero, 2) := by unfold readL; rw [hg]; rfl
    have hnm : p.heads.length ≤ maxLen := by unfold maxLen; omega
    obtain ⟨pa, ca, rfl, -, -, hc2⟩ := CellsOff.own hH [] (by simp)
    have hWd := rwords_any p pa ca wo hnm hc2
    have hwl := wordsF_len p
    have fP := fun j => cell_at hP j
    have HRL := Lib.hid hrl
    have HWD := Lib.hid hWd
    have HB := Lib.hid hb
    have HLC := Lib.hid (HA.out.below hb)
    clear hg hG hrl hR hP hH hb HC hWd hc2
    generalize wordsF p = wf at *
    obtain ⟨wl, we⟩ := wf
    dsimp only at *
    by_cases hwe : we = 0
    rotate_left
    · have hweb : (we != 0) = true := bne_iff_ne.2 hwe
      have hrl := HRL.out
      rw [if_neg (fun h => hwe h.1)] at hrl
      have HRL2 := Lib.hid hrl
      clear hrl hwe
      go_wp2_with ((go_at_call 37; ((with_reducible refine (HWD.out).mono ?_); rintro e w3 ⟨v3, rfl, hown3, hb3⟩; obtain ⟨p3, q3, rfl, -, -, hc3⟩ := CellsOff.own hown3 [] (by simp); have hR3 := Below.at hb3 HR.out (block_lt HR.out); have hP3 := Below.at hb3 HP.out (block_lt HP.out); have fP := fun j => cell_at hP3 j; have fR := fun j => cell_at hR3 j; have uR := fun j => frozen_at hR3 j; have hl3 := block_lt hR3; have HR3 := Lib.hid hR3; have HP3 := Lib.hid hP3; have HC3 := Lib.hid hc3; have HB3 := Lib.hid hb3; have HO3 := Lib.hid (owns_aft HH.out hb3); clear hown3 hb3 hc3 hR3 hP3)))
      refine bodyPost_ret (res_row_tmp rfl _ _ w.heap.size 60 #[.int .i64 0, .bool false, .slice none 0 0, .string ⟨#[]⟩] (0, 0) _ rfl (by repeat' (first | (with_reducible exact HR3.out) | (with_reducible apply stored4) | (with_reducible refine drewN_at ?_ _))) Try.underlying60 rfl (by kernel_rfl)) rfl ⟨.slice none 0 0, by rw [HRL2.out]; rfl, by rw [HRL2.out]; exact World.ownsRow_nil _ _ _ _, by have hb3 := HB.out.trans (HB3.out.mono HB.out.size); repeat' (first | (with_reducible assumption) | (with_reducible refine below_setRowN ?_ ?_ _) | (with_reducible refine Below.setCell ?_ ?_ _) | (with_reducible refine below_drewN' ?_ _) | (with_reducible refine Below.drew ?_) | (with_reducible refine Below.alloc ?_ ?_ _) | (with_reducible exact Below.refl _ _) | (with_reducible exact Nat.le_refl _) | (simp; done) | omega | (simp; omega))⟩
    subst hwe
    by_cases hlr : wl.length = l.length
    rotate_left
    · have hlrb : ((wl.length : Int) != (l.length : Int)) = true := bne_iff_ne.2 (by omega)
      have hrl := HRL.out
      rw [if_neg (fun h => hlr (by rw [h.2]))] at hrl
      have HRL2 := Lib.hid hrl
      clear hrl hlr
      go_wp2_with ((go_at_call 37; ((with_reducible refine (HWD.out).mono ?_); rintro e w3 ⟨v3, rfl, hown3, hb3⟩; obtain ⟨p3, q3, rfl, -, -, hc3⟩ := CellsOff.own hown3 [] (by simp); have hR3 := Below.at hb3 HR.out (block_lt HR.out); have hP3 := Below.at hb3 HP.out (block_lt HP.out); have fP := fun j => cell_at hP3 j; have fR := fun j => cell_at hR3 j; have uR := fun j => frozen_at hR3 j; have hl3 := block_lt hR3; have HR3 := Lib.hid hR3; have HP3 := Lib.hid hP3; have HC3 := Lib.hid hc3; have HB3 := Lib.hid hb3; have HO3 := Lib.hid (owns_aft HH.out hb3); clear hown3 hb3 hc3 hR3 hP3)))
      refine bodyPost_ret (res_row_tmp rfl _ _ w.heap.size 60 #[.int .i64 0, .bool false, .slice none 0 0, .string ⟨#[]⟩] (0, 0) _ rfl (by repeat' (first | (with_reducible exact HR3.out) | (with_reducible apply stored4) | (with_reducible refine drewN_at ?_ _))) Try.underlying60 rfl (by kernel_rfl)) rfl ⟨.slice none 0 0, by rw [HRL2.out]; rfl, by rw [HRL2.out]; exact World.ownsRow_nil _ _ _ _, by have hb3 := HB.out.trans (HB3.out.mono HB.out.size); repeat' (first | (with_reducible assumption) | (with_reducible refine below_setRowN ?_ ?_ _) | (with_reducible refine Below.setCell ?_ ?_ _) | (with_reducible refine below_drewN' ?_ _) | (with_reducible refine Below.drew ?_) | (with_reducible refine Below.alloc ?_ ?_ _) | (with_reducible exact Below.refl _ _) | (with_reducible exact Nat.le_refl _) | (simp; done) | omega | (simp; omega))⟩
    have hlrb : ((wl.length : Int) != (l.length : Int)) = false := by rw [bne_eq_false_iff_eq]; omega
    have hle : l.length ≤ wl.length := by omega
    have HLR := Lib.hid hlr
    clear hlr
    go_wp2_with ((go_at_call 37; ((with_reducible refine (HWD.out).mono ?_); rintro e w3 ⟨v3, rfl, hown3, hb3⟩; obtain ⟨p3, q3, rfl, -, -, hc3⟩ := CellsOff.own hown3 [] (by simp); have hR3 := Below.at hb3 HR.out (block_lt HR.out); have hP3 := Below.at hb3 HP.out (block_lt HP.out); have fP := fun j => cell_at hP3 j; have fR := fun j => cell_at hR3 j; have uR := fun j => frozen_at hR3 j; have hl3 := block_lt hR3; have HR3 := Lib.hid hR3; have HP3 := Lib.hid hP3; have HC3 := Lib.hid hc3; have HB3 := Lib.hid hb3; have HO3 := Lib.hid (owns_aft HH.out hb3); clear hown3 hb3 hc3 hR3 hP3)))
    have HU := Lib.hid (fun i hi => u_cell (i := i) HC3.out hi)
    have HV := Lib.hid (fun i hi => u_cell (i := i) (HLC.out.below HB3.out) hi)
    go_loopw [10] (fun i wr => ∃ (m n : Nat), m ≤ l.length ∧ i = .int .i64 (m : Int) ∧ Hid (wl.take m = l.take m) ∧ wr = w3.drewN n) (fun i _ => l.length - (intOf i).toNat)
    case atStart => exact ⟨0, 0, by omega, rfl, Lib.hid rfl, rfl⟩
    case round =>
      obtain ⟨m, n, hm, rfl, hE, rfl⟩ := hrel
      by_cases hml : m < l.length
      · have hmr : m < wl.length := by omega
        obtain ⟨blk, off, rfl, -, c0⟩ := HU.out m hmr
        obtain ⟨blk2, off2, rfl, -, e0⟩ := HV.out m hml
        have hmI : (m : Int) < (l.length : Int) := by omega
        have hmrI : (m : Int) < (wl.length : Int) := by omega
        have HN := Lib.hid (fun he => take_eq_succ (d := 0) hmr hml hE.out he)
        have HD := Lib.hid (fun he => eq_diff (l := wl) (r := l) (m := m) (d := 0) he)
        clear hE
        generalize wl.getD m 0 = x at *
        generalize l.getD m 0 = y at *
        by_cases hxy : y = x
        · subst hxy
          go_wp2
          go_quiet (fail)
          go_wp2
          go_roundw
          case rel => exact ⟨m + 1, _, by omega, by go_num, Lib.hid (HN.out (by first | rfl | trivial)), rfl⟩
          case measure => simp [intOf]; omega
        · have hxyb : ((y : Int) != (x : Int)) = true := bne_iff_ne.2 (by omega)
          have hrl := HRL.out
          rw [if_neg (fun h => HD.out (fun e => hxy e.symm) h.2)] at hrl
          have HRL2 := Lib.hid hrl
          clear hxy hrl
          go_wp2
          go_quiet (fail)
          go_wp2
          refine bodyPost_ret (res_row_tmp rfl _ _ w.heap.size 60 #[.int .i64 0, .bool false, .slice none 0 0, .string ⟨#[]⟩] (0, 0) _ rfl (by repeat' (first | (with_reducible exact HR3.out) | (with_reducible apply stored4) | (with_reducible refine drewN_at ?_ _))) Try.underlying60 rfl (by kernel_rfl)) rfl ⟨.slice none 0 0, by rw [HRL2.out]; rfl, by rw [HRL2.out]; exact World.ownsRow_nil _ _ _ _, by have hb3 := HB.out.trans (HB3.out.mono HB.out.size); repeat' (first | (with_reducible assumption) | (with_reducible refine below_setRowN ?_ ?_ _) | (with_reducible refine Below.setCell ?_ ?_ _) | (with_reducible refine below_drewN' ?_ _) | (with_reducible refine Below.drew ?_) | (with_reducible refine Below.alloc ?_ ?_ _) | (with_reducible exact Below.refl _ _) | (with_reducible exact Nat.le_refl _) | (simp; done) | omega | (simp; omega))⟩
      · obtain rfl : m = l.length := by omega
        have hrl := HRL.out
        rw [if_pos ⟨by first | trivial | rfl, eq_all HLR.out (by rw [HLR.out]; exact hE.out)⟩] at hrl
        have HRL2 := Lib.hid hrl
        clear hrl hE
        go_wp2
        refine bodyPost_ret (res_row_tmp rfl _ _ w.heap.size 60 #[.int .i64 p.src, .bool p.cast, .slice pa p.heads.length ca, .string p.data] (0, 0) _ rfl (by repeat' (first | (with_reducible exact HR3.out) | (with_reducible apply stored4) | (with_reducible refine drewN_at ?_ _))) Try.underlying60 rfl (by kernel_rfl)) rfl ⟨.slice pa p.heads.length ca, by rw [HRL2.out]; rfl, ?_, ?_⟩
        · rw [HRL2.out]
          exact owns_off (owns_base (b2 := w.heap.size) HO3.out (by omega)) (S := [w.heap.size]) (by repeat' (first | (with_reducible assumption) | (with_reducible refine only_setRowN ?_ ?_ _) | (with_reducible exact Only.refl _ _) | (with_reducible refine Only.setCell ?_ ?_ _) | (with_reducible refine Only.drewN ?_ _) | (with_reducible refine Only.drew ?_) | (with_reducible refine Only.alloc ?_ _) | (simp; done) | (simp; omega))) (fun k hk => by have := (HO3.out.lt k hk).1; simp; omega)
        · have hb3 := HB.out.trans (HB3.out.mono HB.out.size); repeat' (first | (with_reducible assumption) | (with_reducible refine below_setRowN ?_ ?_ _) | (with_reducible refine Below.setCell ?_ ?_ _) | (with_reducible refine below_drewN' ?_ _) | (with_reducible refine Below.drew ?_) | (with_reducible refine Below.alloc ?_ ?_ _) | (with_reducible exact Below.refl _ _) | (with_reducible exact Nat.le_refl _) | (simp; done) | omega | (simp; omega))
end Go.Proofs.Ytmehfflomgldeab
