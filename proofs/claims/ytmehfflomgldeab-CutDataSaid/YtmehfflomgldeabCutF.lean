/- cut.Read. -/
import Derived.Test.YtmehfflomgldeabCutE
import Derived.Test.YtmehfflomgldeabFlitH
namespace Go.Proofs.Ytmehfflomgldeab
set_option linter.unusedVariables false
set_option linter.unusedSimpArgs false
open Go.RowKit BM
def Pa.zero : Pa := ⟨0, false, [], ⟨#[]⟩⟩
def readStep (p : Pa) (f : Fl) : Pa := if f.kind = 1 then ⟨f.src, f.cast, p.heads ++ [⟨f.dst, f.seq⟩], p.data ++ f.data⟩ else { p with data := p.data ++ f.data }
def readGo (p : Pa) : List Nat → Pa × Int
  | [] => (p, 0)
  | x :: l => if (readF x).2 = 0 then readGo (readStep p (readF x).1) l else (Pa.zero, (readF x).2)
/-- The parcel of words, or why they are none's. -/
def readL (l : List Nat) : Pa × Int := if (readGo Pa.zero l).2 = 0 then (if (wordsF (readGo Pa.zero l).1).2 = 0 ∧ (wordsF (readGo Pa.zero l).1).1 = l then ((readGo Pa.zero l).1, 0) else (Pa.zero, 2)) else (Pa.zero, (readGo Pa.zero l).2)
theorem readGo_cons (p : Pa) (x : Nat) (l : List Nat) : readGo p (x :: l) = if (readF x).2 = 0 then readGo (readStep p (readF x).1) l else (Pa.zero, (readF x).2) := rfl
theorem read_small {x : Nat} : (readF x).1.data.size ≤ 6 := by
  unfold readF
  split
  · split
    · rename_i h2
      have hr : rightF (lookF x) = true := by
        unfold writeF at h2
        by_cases hr : rightF (lookF x) = true
        · exact hr
        · rw [if_neg hr] at h2; simp at h2
      unfold rightF at hr
      split at hr
      · simp only [headOk, decide_eq_true_eq] at hr; show (lookF x).data.size ≤ 6; omega
      · rw [Bool.and_eq_true] at hr
        simp only [sizeOk, bareOk, decide_eq_true_eq] at hr; show (lookF x).data.size ≤ 6; omega
    · show zeroFl.data.size ≤ 6; decide
  · show zeroFl.data.size ≤ 6; decide
theorem infoCT : (Try.prog.info? 92).map (fun i => (i.zero, i.size, i.bytes)) = some (some (.agg #[.int .i64 0, .int .i64 0]), 2, 16) := by kernel_rfl
theorem own_other {w : World} {B : Nat} {e T : TypeId} {s : Nat} {v : Value} {n : Nat} {xs : List Value} {b : Nat} {cs : Array Value} {fr : Nat × Nat} (h : w.ownsRow B e s v n xs) (hb : w.heap[b]? = some (.cells cs T fr)) (hne : T ≠ e) : ∀ k, v.ownBlock = some k → k ≠ b := fun k hk hkb => by
  subst hkb
  rcases h.2 with ⟨rfl, _⟩ | ⟨g1, cap, cur, rfl, _, h1, _⟩
  · simp [Value.ownBlock] at hk
  · simp [Value.ownBlock] at hk
    subst hk
    rw [h1] at hb
    simp at hb
    exact hne hb.2.1.symm
theorem BldAt.grown {w w' : World} {b : Nat} {v : Value} {bs : ByteArray} {row : Option Nat} (h : BldAt w b v bs) (hg : w.grownBy w' row) (hb : ∀ k, row = some k → k ≠ b) (hv : ∀ k, row = some k → k ∉ v.ownBlock.toList) : BldAt w' b v bs :=
  h.only (S := row.toList) (Only.grown (Only.refl _ _) hg (fun k hk => .inl (by simp [hk]))) (fun hm => by
    cases row with
    | none => simp at hm
    | some k => simp at hm; exact hb k rfl hm.symm) (fun k hk hm => by
    cases row with
    | none => simp at hm
    | some r => simp at hm; subst hm; exact hv k rfl (by simp [hk]))
theorem BldAt.own_lt {w : World} {b : Nat} {v : Value} {bs : ByteArray} (h : BldAt w b v bs) : ∀ k ∈ v.ownBlock.toList, b < k := fun k hk => by
  have := (h.own.lt k (by simpa using hk)).1; omega
theorem BldAt.lt {w : World} {b : Nat} {v : Value} {bs : ByteArray} (h : BldAt w b v bs) : b < w.heap.size := by
  obtain ⟨_, _, hc⟩ := h.cells; exact block_lt hc
theorem flatT_snoc (l : List T2) (t : T2) : flatT (l ++ [t]) = flatT l ++ [.int .i64 t.node, .int .i64 t.seq] := by unfold flatT; rw [flat_snoc]; rfl
theorem rows_apart {w : World} {B B2 : Nat} {e e2 : TypeId} {s : Nat} {v u : Value} {n m : Nat} {xs ys : List Value} (h : w.ownsRow B e s v n xs) (k : w.ownsRow B2 e2 1 u m ys) (hne : e ≠ e2) : ∀ g, v.ownBlock = some g → g ∉ u.ownBlock.toList := fun g hg hm => by
  rcases h.2 with ⟨rfl, _⟩ | ⟨g1, cap, cur, rfl, _, h1, _⟩
  · simp [Value.ownBlock] at hg
  · simp [Value.ownBlock] at hg
    subst hg
    exact Lib.ownBlock_ne k h1 hne (by simpa using hm)
theorem wordsF_len (p : Pa) : (wordsF p).1.length ≤ 1000000 := by
  unfold wordsF
  split
  · simp
  · split
    · rename_i hr
      obtain ⟨_, _, _, _, h1, _, h2⟩ := right_parts hr
      show (wordsP p).length ≤ 1000000
      rw [wordsP_len]; unfold nBody; omega
    · simp
set_option maxRecDepth 100000 in
set_option maxHeartbeats 4000000 in
theorem cut_read (l : List Nat) (a : Option Addr) (c : Nat) (w : World) (hl : l.length ≤ 100000) (h64 : ∀ x ∈ l, x < 2 ^ 64) (h : CellsOff w a (l.map UV) []) :
    Calls Try.prog 39 #[.slice a l.length c] w fun e w' => ∃ v, e = .returned (.tuple #[(readL l).1.val v, .int .i64 (readL l).2]) ∧ w'.ownsRow w.heap.size 92 2 v (readL l).1.heads.length (flatT (readL l).1.heads) ∧ Below w.heap.size w w' := by
  have HC := Lib.hid (fun i hi => u_cell (i := i) h hi)
  have HL := Lib.hid h64
  have HA := Lib.hid h
  clear h h64
  go_enter Try.func39, Try.ntmps39
  go_wp2
  go_loopw [14] (fun i wr => ∃ (m : Nat) (p : Pa) (v vb : Value), m ≤ l.length ∧ i = .int .i64 (m : Int) ∧ wr.heap[w.heap.size]? = some (.cells #[.int .i64 0, .bool false, .slice none 0 0, .string ⟨#[]⟩] 68 (0, 0)) ∧ wr.heap[w.heap.size + 1]? = some (.cells #[.int .i64 p.src, .bool p.cast, v, .string ⟨#[]⟩] 68 (0, 0)) ∧ wr.ownsRow (w.heap.size + 1 + 1 + 1) 92 2 v p.heads.length (flatT p.heads) ∧ BldAt wr (w.heap.size + 1 + 1) vb p.data ∧ Hid (readGo Pa.zero l = readGo p (l.drop m)) ∧ p.data.size ≤ 6 * m ∧ p.heads.length ≤ m ∧ Below w.heap.size w wr) (fun i _ => l.length - (intOf i).toNat)
  case atStart =>
    refine ⟨0, Pa.zero, _, .slice none 0 0, by omega, rfl, alloc_old (alloc_old (alloc_new _) _) _, alloc_old (alloc_at _ _ (by simp)) _, World.ownsRow_nil _ _ _ _, ⟨⟨_, .inl rfl, alloc_at _ _ (by simp)⟩, World.ownsRow_nil _ _ _ _⟩, Lib.hid rfl, by decide, by decide, by repeat' (first | (with_reducible assumption) | (with_reducible refine below_setRowN ?_ ?_ _) | (with_reducible refine Below.setCell ?_ ?_ _) | (with_reducible refine below_drewN' ?_ _) | (with_reducible refine Below.drew ?_) | (with_reducible refine Below.alloc ?_ ?_ _) | (with_reducible exact Below.refl _ _) | (with_reducible exact Nat.le_refl _) | (simp; done) | omega | (simp; omega))⟩
  case round =>
  obtain ⟨m, p, v, vb, hm, rfl, hR, hP, hH, hB, hG, hd, hn, hb⟩ := hrel
  obtain ⟨wo, rfl⟩ : ∃ x : World, x = wr := ⟨_, rfl⟩
  have hso := hb.size
  have HR := Lib.hid hR
  have HP := Lib.hid hP
  have HH := Lib.hid hH
  have HB := Lib.hid hB
  have HBW := Lib.hid hb
  by_cases hml : m < l.length
  · have hmI : (m : Int) < (l.length : Int) := by omega
    obtain ⟨blk, off, rfl, hlt, c0⟩ := HC.out m hml
    have d0 := (hb.cell (p := ⟨blk, _, none⟩) hlt).trans c0
    have hx64 := HL.out (l.getD m 0) (by rw [List.getD_eq_getElem?_getD, List.getElem?_eq_getElem hml]; exact List.getElem_mem hml)
    have hRd := fun w => flit_read (l.getD m 0) hx64 w
    have hG2 := hG.out
    rw [drop_cons hml 0, readGo_cons] at hG2
    have hsm := read_small (x := l.getD m 0)
    clear hG c0 hR hP hH hB hb
    generalize l.getD m 0 = x at *
    generalize readF x = rf at *
    obtain ⟨⟨kind, src, dst, seq, len, more, cast, data⟩, e⟩ := rf
    dsimp only at *
    have HRD := Lib.hid hRd
    have HG := Lib.hid hG2
    clear hRd hG2 hx64
    by_cases he : e = 0
    rotate_left
    · have heb : (e != 0) = true := bne_iff_ne.2 he
      have hg := HG.out
      rw [if_neg he] at hg
      have hrl : readL l = (Pa.zero, e) := by unfold readL; rw [hg, if_neg he]
      have HRL := Lib.hid hrl
      clear he hg hrl
      go_wp2_with ((go_at_call 45; ((with_reducible refine (HRD.out _).mono ?_); rintro e w1 ⟨rfl, hb1⟩; have hR1 := Below.at hb1 HR.out (block_lt HR.out); have hlr := block_lt hR1; have f1 := fun j => cell_at hR1 j; have u1 := fun j => frozen_at hR1 j; have HR1 := Lib.hid hR1; have HB1 := Lib.hid hb1; clear hb1 hR1)))
      have hb1 : Below w.heap.size w w1 := HBW.out.trans (HB1.out.mono hso)
      refine bodyPost_ret (res_row_tmp rfl _ _ w.heap.size 68 #[.int .i64 0, .bool false, .slice none 0 0, .string ⟨#[]⟩] (0, 0) _ rfl (by repeat' (first | (with_reducible exact alloc_new _) | (with_reducible assumption) | (with_reducible apply stored4) | (with_reducible refine alloc_old ?_ _) | (with_reducible refine drewN_at ?_ _) | (with_reducible refine set_other ?_ ?_ _ _) | (with_reducible exact HR1.out) | (simp; done) | omega | (simp; omega))) Try.underlying68 rfl (by kernel_rfl)) rfl ⟨.slice none 0 0, by rw [HRL.out]; rfl, by rw [HRL.out]; exact World.ownsRow_nil _ _ _ _, by repeat' (first | (with_reducible assumption) | (with_reducible refine below_setRowN ?_ ?_ _) | (with_reducible refine Below.setCell ?_ ?_ _) | (with_reducible refine below_drewN' ?_ _) | (with_reducible refine Below.drew ?_) | (with_reducible refine Below.alloc ?_ ?_ _) | (with_reducible exact Below.refl _ _) | (with_reducible exact Nat.le_refl _) | (simp; done) | omega | (simp; omega))⟩
    subst he
    have hg := HG.out
    rw [if_pos rfl] at hg
    have HG := Lib.hid hg
    clear hg
    have hst : readStep p ⟨kind, src, dst, seq, len, more, cast, data⟩ = if kind = 1 then ⟨src, cast, p.heads ++ [⟨dst, seq⟩], p.data ++ data⟩ else { p with data := p.data ++ data } := rfl
    have hsd : (readStep p ⟨kind, src, dst, seq, len, more, cast, data⟩).data = p.data ++ data := by rw [hst]; split <;> rfl
    go_upto_if 29 with ((go_at_call 45; ((with_reducible refine (HRD.out _).mono ?_); rintro e w1 ⟨rfl, hb1⟩; have hR1 := Below.at hb1 HR.out (block_lt HR.out); have hlr := block_lt hR1; have f1 := fun j => cell_at hR1 j; have u1 := fun j => frozen_at hR1 j; have HR1 := Lib.hid hR1; have HB1 := Lib.hid hb1; clear hb1 hR1)))
    have hF := alloc_new (w := w1) (.cells #[.int .i64 kind, .int .i64 src, .int .i64 dst, .int .i64 seq, .int .i64 len, .bool more, .bool cast, .string data] 79)
    have hR2 := alloc_old HR1.out (.cells #[.int .i64 kind, .int .i64 src, .int .i64 dst, .int .i64 seq, .int .i64 len, .bool more, .bool cast, .string data] 79)
    have hP2 := alloc_old (Below.at HB1.out HP.out (block_lt HP.out)) (.cells #[.int .i64 kind, .int .i64 src, .int .i64 dst, .int .i64 seq, .int .i64 len, .bool more, .bool cast, .string data] 79)
    have hH2 := (owns_aft HH.out HB1.out).alloc (.cells #[.int .i64 kind, .int .i64 src, .int .i64 dst, .int .i64 seq, .int .i64 len, .bool more, .bool cast, .string data] 79)
    have hB2 := (HB.out.aft HB1.out).aft ((Below.refl _ _).alloc (Nat.le_refl _) (.cells #[.int .i64 kind, .int .i64 src, .int .i64 dst, .int .i64 seq, .int .i64 len, .bool more, .bool cast, .string data] 79))
    have hb1 : Below w.heap.size w w1 := HBW.out.trans (HB1.out.mono hso)
    have hb2 : Below w.heap.size w (w1.alloc (.cells #[.int .i64 kind, .int .i64 src, .int .i64 dst, .int .i64 seq, .int .i64 len, .bool more, .bool cast, .string data] 79)) := hb1.alloc hb1.size _
    have hf3 : w.heap.size + 1 + 1 < w1.heap.size := by
      have h1 := HB1.out.size
      obtain ⟨_, _, hc⟩ := HB.out.cells
      have h2 := block_lt hc
      omega
    clear f1 u1 hlr HR1 HB1 d0 HR HP HH HB HBW hso hb1
    generalize hwe : w1.alloc (.cells #[.int .i64 kind, .int .i64 src, .int .i64 dst, .int .i64 seq, .int .i64 len, .bool more, .bool cast, .string data] 79) = w2 at *
    clear hwe
    have fF := fun j => cell_at hF j
    have fP := fun j => cell_at hP2 j
    have uP := fun j => frozen_at hP2 j
    have hso2 := hb2.size
    have HF := Lib.hid hF
    have HR := Lib.hid hR2
    have HP := Lib.hid hP2
    have HH := Lib.hid hH2
    have HB := Lib.hid hB2
    have HBW := Lib.hid hb2
    clear hF hR2 hP2 hH2 hB2 hb2
    go_cut [] (fun wx => ∃ v2, wx.heap[w.heap.size]? = some (.cells #[.int .i64 0, .bool false, .slice none 0 0, .string ⟨#[]⟩] 68 (0, 0)) ∧ wx.heap[w.heap.size + 1]? = some (.cells #[.int .i64 (readStep p ⟨kind, src, dst, seq, len, more, cast, data⟩).src, .bool (readStep p ⟨kind, src, dst, seq, len, more, cast, data⟩).cast, v2, .string ⟨#[]⟩] 68 (0, 0)) ∧ wx.ownsRow (w.heap.size + 1 + 1 + 1) 92 2 v2 (readStep p ⟨kind, src, dst, seq, len, more, cast, data⟩).heads.length (flatT (readStep p ⟨kind, src, dst, seq, len, more, cast, data⟩).heads) ∧ BldAt wx (w.heap.size + 1 + 1) vb p.data ∧ wx.heap[w1.heap.size]? = some (.cells #[.int .i64 kind, .int .i64 src, .int .i64 dst, .int .i64 seq, .int .i64 len, .bool more, .bool cast, .string data] 79 (0, 0)) ∧ Below w.heap.size w wx)
    case first =>
      by_cases hk : kind = 1
      · subst hk
        rw [if_pos rfl] at hst
        have HST := Lib.hid hst
        clear hst hsd
        go_upto_region 10 with (fail)
        go_cut [] (fun wx => wx.heap[w.heap.size + 1]? = some (.cells #[.int .i64 src, .bool cast, v, .string ⟨#[]⟩] 68 (0, 0)) ∧ Only [w.heap.size + 1] w2 wx)
        case first =>
          go_region
          all_goals go_wp2
          all_goals go_meet
          all_goals exact ⟨set_at (set_at HP.out _ _) _ _, (((Only.refl _ _).setCell (by simp) _).setCell (by simp) _).drew⟩
        case rest =>
          obtain ⟨hP3, ho3⟩ := hcut
          obtain ⟨w3, rfl⟩ : ∃ x : World, x = wc := ⟨_, rfl⟩
          have hH3 := ownsRow_only HH.out ho3 (fun k hk => by simp at hk; omega)
          have hR3 := ho3.at HR.out (by simp)
          have hF3 := ho3.at HF.out (by simp; omega)
          have hB3 := HB.out.only ho3 (by simp) (fun k hk => by have := HB.out.own_lt k (by simp [hk]); simp; omega)
          have hs3 := ho3.size
          have hap := rows_apart hH3 hB3.own (by decide)
          have hfo := own_other hH3 hF3 (by decide)
          have hbw3 : Below w.heap.size w w3 := HBW.out.trans (ho3.below (by simp) hso2)
          have hvl := fun k hk => (hH3.lt k hk).1
          have hbs : w.heap.size + 1 + 1 + 1 ≤ w3.heap.size := hB3.lt
          have fF := fun j => cell_at hF3 j
          have fP := fun j => cell_at hP3 j
          have HP3 := Lib.hid hP3
          have HR3 := Lib.hid hR3
          have HF3 := Lib.hid hF3
          have HB3 := Lib.hid hB3
          have HAP := Lib.hid hap
          have HFO := Lib.hid hfo
          have HW3 := Lib.hid hbw3
          have HVL := Lib.hid hvl
          have hF3l := block_lt hF3
          clear uP hP3 hR3 hF3 hB3 hap hfo hbw3 hvl ho3 HR HP HH HB HF HBW
          go_wp2_with (at_builtin; refine append_own (W0 := w3) [.int .i64 dst, .int .i64 seq] (w.heap.size + 1 + 1 + 1) _ _ _ 2 16 infoCT Try.underlying66 rfl (by decide) _ _ _ hH3 (Below.refl _ _) hbs rfl (by simp [Value.oneCell']) (by omega) (by decide) rfl _ _ rfl rfl rfl ?_; intro v4 w4 hown4 hb4 hg4 hor4; obtain ⟨av, cv, rfl, -, -, -⟩ := CellsOff.own hown4 [] (by simp); have hP4 := Below.at hb4 HP3.out (by omega); have fP := fun j => cell_at hP4 j; have uP := fun j => frozen_at hP4 j; have HP4 := Lib.hid hP4; have HO4 := Lib.hid hown4; have HB4 := Lib.hid hb4; have HG4 := Lib.hid hg4; clear hP4 hown4 hb4 hg4 hor4)
          go_meet
          rw [HST.out]
          have hB4 := HB3.out.grown HG4.out (fun k hk => by have := HVL.out k hk; omega) HAP.out
          have hF4 : w4.heap[w1.heap.size]? = _ := (HG4.out.block _ hF3l (fun e => HFO.out _ e.symm rfl)).trans HF3.out
          refine ⟨_, set_other (Below.at HB4.out HR3.out (by omega)) (by omega) _ _, set_at HP4.out _ _, ?_, hB4.only (S := [w.heap.size + 1]) ((Only.refl _ _).setCell (by simp) _) (by simp) (fun k hk => by have := hB4.own_lt k (by simp [hk]); simp; omega), set_other hF4 (by omega) _ _, ?_⟩
          · dsimp only
            rw [List.length_append, flatT_snoc]
            exact ownsRow_only HO4.out (S := [w.heap.size + 1]) ((Only.refl _ _).setCell (by simp) _) (fun k hk => by simp at hk; omega)
          · exact Below.setCell (HW3.out.trans (HB4.out.mono (by omega))) (p := ⟨w.heap.size + 1, 2, none⟩) (by simp) _
      · have hkb : (kind == 1) = false := beq_eq_false_iff_ne.2 hk
        rw [if_neg hk] at hst
        have HST := Lib.hid hst
        clear hk hst hsd
        go_wp2
        go_meet
        rw [HST.out]
        exact ⟨v, HR.out, HP.out, HH.out, HB.out, HF.out, HBW.out⟩
    case rest =>
      obtain ⟨v2, hR, hP, hH, hB, hF, hbw⟩ := hcut
      obtain ⟨w5, rfl⟩ : ∃ x : World, x = wc := ⟨_, rfl⟩
      have hWr := bld_write (w.heap.size + 1 + 1) vb p.data data w5 hB (by omega)
      have fF := fun j => cell_at hF j
      have hln : (readStep p ⟨kind, src, dst, seq, len, more, cast, data⟩).heads.length ≤ m + 1 := by
        rw [hst]; split
        · simp; omega
        · show p.heads.length ≤ m + 1; omega
      have HSD := Lib.hid hsd
      have HWR := Lib.hid hWr
      have HR5 := Lib.hid hR
      have HP5 := Lib.hid hP
      have HH5 := Lib.hid hH
      have HB5 := Lib.hid hB
      have HW5 := Lib.hid hbw
      clear hst hsd hWr hR hP hH hB hF hbw fP uP HR HP HH HB HF HBW
      generalize readStep p ⟨kind, src, dst, seq, len, more, cast, data⟩ = p2 at *
      go_wp2_with (go_at_call 72; ((with_reducible refine (HWR.out).mono ?_); rintro e w6 ⟨rfl, vb6, hb6, ho6⟩; have HB6 := Lib.hid hb6; have HO6 := Lib.hid ho6; clear hb6 ho6))
      go_roundw
      case rel =>
        have hol := HB5.out.own_lt
        have hap := rows_apart HH5.out HB5.out.own (by decide)
        refine ⟨m + 1, p2, v2, vb6, by omega, by go_num, HO6.out.at HR5.out ?_, HO6.out.at HP5.out ?_, owns_off HH5.out HO6.out (fun k hk hm => ?_), by rw [HSD.out]; exact HB6.out, HG, ?_, hln, ?_⟩
        · intro hm; rcases List.mem_cons.1 hm with h | h
          · omega
          · have := hol _ h; omega
        · intro hm; rcases List.mem_cons.1 hm with h | h
          · omega
          · have := hol _ h; omega
        · rcases List.mem_cons.1 hm with h | h
          · have := (HH5.out.lt k hk).1; omega
          · exact hap k hk h
        · rw [HSD.out, ByteArray.size_append]; omega
        · refine HW5.out.trans (HO6.out.below (fun k hk => ?_) HW5.out.size)
          rcases List.mem_cons.1 hk with h | h
          · omega
          · have := hol _ h; omega
      case measure => simp [intOf]; omega
  · obtain rfl : m = l.length := by omega
    have hg := hG.out
    rw [List.drop_length] at hg
    have hg : readGo Pa.zero l = (p, 0) := hg
    have hrl : readL l = if (wordsF p).2 = 0 ∧ (wordsF p).1 = l then (p, 0) else (Pa.zero, 2) := by unfold readL; rw [hg]; rfl
    have hSt := bld_string (w.heap.size + 1 + 1) vb p.data wo hB
    have hap := rows_apart hH hB.own (by decide)
    have hbl := hB.own_lt
    have hlb := hB.lt
    have hnm : p.heads.length ≤ maxLen := by unfold maxLen; omega
    obtain ⟨pa, ca, rfl, -, -, -⟩ := CellsOff.own hH [] (by simp)
    have hwl := wordsF_len p
    have HRL := Lib.hid hrl
    have HST := Lib.hid hSt
    have HAP := Lib.hid hap
    have HBL := Lib.hid hbl
    clear hg hG hrl hSt hap hbl hR hP hH hB hb HC
    go_upto_region 15 with (go_at_call 73; ((with_reducible refine (HST.out).mono ?_); rintro e w1 ⟨rfl, ho1⟩; have hP1 := ho1.at HP.out (fun hm => by have := HBL.out _ hm; omega); have fP := fun j => cell_at hP1 j; have uP := fun j => frozen_at hP1 j; have HO1 := Lib.hid ho1; have HP1 := Lib.hid hP1; clear ho1 hP1))
    have hb1 : Below w.heap.size w w1 := HBW.out.trans (HO1.out.below (fun k hk => by have := HBL.out k hk; omega) hso)
    have hs1 := HO1.out.size
    have ho2 : Only [w.heap.size + 1] w1 (w1.setCell ⟨w.heap.size + 1, 3, none⟩ (.string p.data)) := (Only.refl _ _).setCell (by simp) _
    have hP2 : (w1.setCell ⟨w.heap.size + 1, 3, none⟩ (.string p.data)).heap[w.heap.size + 1]? = some (.cells #[.int .i64 p.src, .bool p.cast, .slice pa p.heads.length ca, .string p.data] 68 (0, 0)) := set_at HP1.out _ _
    have hR2 := ho2.at (HO1.out.at HR.out (fun hm => by have := HBL.out _ hm; omega)) (by simp)
    have hH2 := ownsRow_only (owns_off HH.out HO1.out HAP.out) ho2 (fun k hk => by simp at hk; omega)
    have hb2 : Below w.heap.size w (w1.setCell ⟨w.heap.size + 1, 3, none⟩ (.string p.data)) := hb1.setCell (p := ⟨w.heap.size + 1, 3, none⟩) (by simp) _
    have hs2 : (w1.setCell ⟨w.heap.size + 1, 3, none⟩ (.string p.data)).heap.size = w1.heap.size := by simp
    have hs2 : w.heap.size + 1 + 1 < (w1.setCell ⟨w.heap.size + 1, 3, none⟩ (.string p.data)).heap.size := by omega
    clear fP uP HO1 HP1 HR HP HH HB HBW HST HAP HBL hb1 ho2 hs1 hlb hso
    generalize w1.setCell ⟨w.heap.size + 1, 3, none⟩ (.string p.data) = w2 at *
    obtain ⟨_, _, he2, -, -, hc2⟩ := CellsOff.own hH2 [] (by simp)
    simp only [Value.slice.injEq, true_and] at he2
    obtain ⟨rfl, rfl⟩ := he2
    have hWd := cut_words_any p pa ca w2 hnm hc2
    have fP := fun j => cell_at hP2 j
    have HWD := Lib.hid hWd
    have HR := Lib.hid hR2
    have HP := Lib.hid hP2
    have HH := Lib.hid hH2
    have HB := Lib.hid hb2
    have HLC := Lib.hid (HA.out.below hb2)
    clear hWd hR2 hP2 hH2 hb2 hc2
    generalize wordsF p = wf at *
    obtain ⟨wl, we⟩ := wf
    dsimp only at *
    have hEq := fun w' p q (h1 : CellsOff w' p (wl.map UV) []) (h2 : CellsOff w' a (l.map UV) []) => equal_words wl l p a q c w' hwl h1 h2
    obtain ⟨eqb, heq⟩ : ∃ b, b = decide (wl = l) := ⟨_, rfl⟩
    rw [← heq] at hEq
    have HEQ := Lib.hid hEq
    have HQ := Lib.hid heq
    clear hEq heq
    by_cases hwe : we = 0
    · subst hwe
      cases eqb with
      | true =>
        have hrl := HRL.out
        rw [if_pos ⟨rfl, of_decide_eq_true HQ.out.symm⟩] at hrl
        have HRL2 := Lib.hid hrl
        clear hrl
        go_wp2_with (first
          | (go_at_call 44; ((with_reducible refine (HWD.out).mono ?_); rintro e w3 ⟨v3, rfl, hown3, hb3⟩; obtain ⟨p3, q3, rfl, -, -, hc3⟩ := CellsOff.own hown3 [] (by simp); have hR3 := Below.at hb3 HR.out (block_lt HR.out); have hP3 := Below.at hb3 HP.out (block_lt HP.out); have fP := fun j => cell_at hP3 j; have fR := fun j => cell_at hR3 j; have uR := fun j => frozen_at hR3 j; have hl3 := block_lt hR3; have HR3 := Lib.hid hR3; have HC3 := Lib.hid hc3; have HB3 := Lib.hid hb3; have HO3 := Lib.hid (owns_aft HH.out hb3); clear hown3 hb3 hc3 hR3 hP3))
          | (go_at_call 74; ((with_reducible refine (HEQ.out _ _ _ HC3.out (HLC.out.below HB3.out)).mono ?_); rintro e w4 ⟨rfl, k4, rfl⟩)))
        refine bodyPost_ret (res_row_tmp rfl _ _ w.heap.size 68 #[.int .i64 p.src, .bool p.cast, .slice pa p.heads.length ca, .string p.data] (0, 0) _ rfl (by repeat' (first | (with_reducible exact HR3.out) | (with_reducible apply stored4) | (with_reducible refine drewN_at ?_ _))) Try.underlying68 rfl (by kernel_rfl)) rfl ⟨.slice pa p.heads.length ca, by rw [HRL2.out]; rfl, ?_, ?_⟩
        · rw [HRL2.out]
          exact owns_off (owns_base (b2 := w.heap.size) HO3.out (by omega)) (S := [w.heap.size]) (by repeat' (first | (with_reducible assumption) | (with_reducible refine only_setRowN ?_ ?_ _) | (with_reducible exact Only.refl _ _) | (with_reducible refine Only.setCell ?_ ?_ _) | (with_reducible refine Only.drewN ?_ _) | (with_reducible refine Only.drew ?_) | (with_reducible refine Only.alloc ?_ _) | (simp; done) | (simp; omega))) (fun k hk => by have := (HO3.out.lt k hk).1; simp; omega)
        · have hb3 := HB.out.trans (HB3.out.mono HB.out.size); repeat' (first | (with_reducible assumption) | (with_reducible refine below_setRowN ?_ ?_ _) | (with_reducible refine Below.setCell ?_ ?_ _) | (with_reducible refine below_drewN' ?_ _) | (with_reducible refine Below.drew ?_) | (with_reducible refine Below.alloc ?_ ?_ _) | (with_reducible exact Below.refl _ _) | (with_reducible exact Nat.le_refl _) | (simp; done) | omega | (simp; omega))
      | false =>
        have hrl := HRL.out
        rw [if_neg (fun h => by have := of_decide_eq_false HQ.out.symm; exact this h.2)] at hrl
        have HRL2 := Lib.hid hrl
        clear hrl
        go_wp2_with (first
          | (go_at_call 44; ((with_reducible refine (HWD.out).mono ?_); rintro e w3 ⟨v3, rfl, hown3, hb3⟩; obtain ⟨p3, q3, rfl, -, -, hc3⟩ := CellsOff.own hown3 [] (by simp); have hR3 := Below.at hb3 HR.out (block_lt HR.out); have hP3 := Below.at hb3 HP.out (block_lt HP.out); have fP := fun j => cell_at hP3 j; have fR := fun j => cell_at hR3 j; have uR := fun j => frozen_at hR3 j; have hl3 := block_lt hR3; have HR3 := Lib.hid hR3; have HC3 := Lib.hid hc3; have HB3 := Lib.hid hb3; have HO3 := Lib.hid (owns_aft HH.out hb3); clear hown3 hb3 hc3 hR3 hP3))
          | (go_at_call 74; ((with_reducible refine (HEQ.out _ _ _ HC3.out (HLC.out.below HB3.out)).mono ?_); rintro e w4 ⟨rfl, k4, rfl⟩)))
        refine bodyPost_ret (res_row_tmp rfl _ _ w.heap.size 68 #[.int .i64 0, .bool false, .slice none 0 0, .string ⟨#[]⟩] (0, 0) _ rfl (by repeat' (first | (with_reducible exact HR3.out) | (with_reducible apply stored4) | (with_reducible refine drewN_at ?_ _))) Try.underlying68 rfl (by kernel_rfl)) rfl ⟨.slice none 0 0, by rw [HRL2.out]; rfl, by rw [HRL2.out]; exact World.ownsRow_nil _ _ _ _, by have hb3 := HB.out.trans (HB3.out.mono HB.out.size); repeat' (first | (with_reducible assumption) | (with_reducible refine below_setRowN ?_ ?_ _) | (with_reducible refine Below.setCell ?_ ?_ _) | (with_reducible refine below_drewN' ?_ _) | (with_reducible refine Below.drew ?_) | (with_reducible refine Below.alloc ?_ ?_ _) | (with_reducible exact Below.refl _ _) | (with_reducible exact Nat.le_refl _) | (simp; done) | omega | (simp; omega))⟩
    · have hweb : (we != 0) = true := bne_iff_ne.2 hwe
      have hrl := HRL.out
      rw [if_neg (fun h => hwe h.1)] at hrl
      have HRL2 := Lib.hid hrl
      clear hrl hwe
      go_wp2_with (first
        | (go_at_call 44; ((with_reducible refine (HWD.out).mono ?_); rintro e w3 ⟨v3, rfl, hown3, hb3⟩; obtain ⟨p3, q3, rfl, -, -, hc3⟩ := CellsOff.own hown3 [] (by simp); have hR3 := Below.at hb3 HR.out (block_lt HR.out); have hP3 := Below.at hb3 HP.out (block_lt HP.out); have fP := fun j => cell_at hP3 j; have fR := fun j => cell_at hR3 j; have uR := fun j => frozen_at hR3 j; have hl3 := block_lt hR3; have HR3 := Lib.hid hR3; have HC3 := Lib.hid hc3; have HB3 := Lib.hid hb3; have HO3 := Lib.hid (owns_aft HH.out hb3); clear hown3 hb3 hc3 hR3 hP3))
        | (go_at_call 74; ((with_reducible refine (HEQ.out _ _ _ HC3.out (HLC.out.below HB3.out)).mono ?_); rintro e w4 ⟨rfl, k4, rfl⟩)))
      refine bodyPost_ret (res_row_tmp rfl _ _ w.heap.size 68 #[.int .i64 0, .bool false, .slice none 0 0, .string ⟨#[]⟩] (0, 0) _ rfl (by repeat' (first | (with_reducible exact HR3.out) | (with_reducible apply stored4) | (with_reducible refine drewN_at ?_ _))) Try.underlying68 rfl (by kernel_rfl)) rfl ⟨.slice none 0 0, by rw [HRL2.out]; rfl, by rw [HRL2.out]; exact World.ownsRow_nil _ _ _ _, by have hb3 := HB.out.trans (HB3.out.mono HB.out.size); repeat' (first | (with_reducible assumption) | (with_reducible refine below_setRowN ?_ ?_ _) | (with_reducible refine Below.setCell ?_ ?_ _) | (with_reducible refine below_drewN' ?_ _) | (with_reducible refine Below.drew ?_) | (with_reducible refine Below.alloc ?_ ?_ _) | (with_reducible exact Below.refl _ _) | (with_reducible exact Nat.le_refl _) | (simp; done) | omega | (simp; omega))⟩
end Go.Proofs.Ytmehfflomgldeab
