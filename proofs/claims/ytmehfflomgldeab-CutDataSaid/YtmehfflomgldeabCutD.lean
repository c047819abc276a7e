/- Same of two parcels, the program's and the reference's; cut.Packets. -/
import Derived.Test.YtmehfflomgldeabCutC
namespace Go.Proofs.Ytmehfflomgldeab
set_option linter.unusedVariables false
set_option linter.unusedSimpArgs false
open Go.RowKit
theorem toList_ne {a b : ByteArray} (h : ¬ a = b) : (a.toList == b.toList) = false := beq_eq_false_iff_ne.2 fun e => h (by rw [ByteArray.toList_eq, ByteArray.toList_eq] at e; cases a; cases b; congr; exact Array.ext' e)
def sameP (p q : Pa) : Bool := decide (p.src = q.src) && (p.cast == q.cast) && decide (p.heads = q.heads) && decide (p.data = q.data)
set_option maxRecDepth 100000 in
set_option maxHeartbeats 2000000 in
theorem cut_same (p q : Pa) (a b : Option Addr) (c d : Nat) (w : World) (hl : p.heads.length ≤ 1000000) (ha : CellsOff w a (flatT p.heads) []) (hb : CellsOff w b (flatT q.heads) []) :
    Calls Try.prog 51 #[p.val (.slice a p.heads.length c), q.val (.slice b q.heads.length d)] w fun e w' => e = .returned (.bool (sameP p q)) ∧ Below w.heap.size w w' := by
  have hE := fun w' hw => equal_heads p.heads q.heads a b c d w' hl (ha.below (w' := w') hw) (hb.below hw)
  unfold sameP
  obtain ⟨s1, k1, h1, d1⟩ := p
  obtain ⟨s2, k2, h2, d2⟩ := q
  dsimp only at *
  clear ha hb
  generalize decide (h1 = h2) = e3 at *
  have HE := Lib.hid hE
  clear hE
  unfold Pa.val
  by_cases x1 : s1 = s2
  · subst x1
    by_cases x2 : k1 = k2
    · subst x2
      by_cases x4 : d1 = d2
      · subst x4
        go_enter Try.func51, Try.ntmps51
        go_wp2_with (first | (go_at_call 85; ((with_reducible refine (HE.out _ (by repeat' (first | (with_reducible assumption) | (with_reducible refine below_setRowN ?_ ?_ _) | (with_reducible refine Below.setCell ?_ ?_ _) | (with_reducible refine below_drewN' ?_ _) | (with_reducible refine Below.drew ?_) | (with_reducible refine Below.alloc ?_ ?_ _) | (with_reducible exact Below.refl _ _) | (with_reducible exact Nat.le_refl _) | (simp; done) | omega | (simp; omega)))).mono ?_); rintro e w1 ⟨rfl, k, rfl⟩)))
        all_goals go_ret
        all_goals exact ⟨ret_bool (by simp_all), by repeat' (first | (with_reducible assumption) | (with_reducible refine below_setRowN ?_ ?_ _) | (with_reducible refine Below.setCell ?_ ?_ _) | (with_reducible refine below_drewN' ?_ _) | (with_reducible refine Below.drew ?_) | (with_reducible refine Below.alloc ?_ ?_ _) | (with_reducible exact Below.refl _ _) | (with_reducible exact Nat.le_refl _) | (simp; done) | omega | (simp; omega))⟩
      · have x4b := toList_ne x4
        go_enter Try.func51, Try.ntmps51
        go_wp2_with (first | (go_at_call 85; ((with_reducible refine (HE.out _ (by repeat' (first | (with_reducible assumption) | (with_reducible refine below_setRowN ?_ ?_ _) | (with_reducible refine Below.setCell ?_ ?_ _) | (with_reducible refine below_drewN' ?_ _) | (with_reducible refine Below.drew ?_) | (with_reducible refine Below.alloc ?_ ?_ _) | (with_reducible exact Below.refl _ _) | (with_reducible exact Nat.le_refl _) | (simp; done) | omega | (simp; omega)))).mono ?_); rintro e w1 ⟨rfl, k, rfl⟩)))
        all_goals go_ret
        all_goals exact ⟨ret_bool (by simp_all), by repeat' (first | (with_reducible assumption) | (with_reducible refine below_setRowN ?_ ?_ _) | (with_reducible refine Below.setCell ?_ ?_ _) | (with_reducible refine below_drewN' ?_ _) | (with_reducible refine Below.drew ?_) | (with_reducible refine Below.alloc ?_ ?_ _) | (with_reducible exact Below.refl _ _) | (with_reducible exact Nat.le_refl _) | (simp; done) | omega | (simp; omega))⟩
    · have x2b : (k1 == k2) = false := beq_eq_false_iff_ne.2 x2
      go_enter Try.func51, Try.ntmps51
      go_wp2_with (first | (go_at_call 85; ((with_reducible refine (HE.out _ (by repeat' (first | (with_reducible assumption) | (with_reducible refine below_setRowN ?_ ?_ _) | (with_reducible refine Below.setCell ?_ ?_ _) | (with_reducible refine below_drewN' ?_ _) | (with_reducible refine Below.drew ?_) | (with_reducible refine Below.alloc ?_ ?_ _) | (with_reducible exact Below.refl _ _) | (with_reducible exact Nat.le_refl _) | (simp; done) | omega | (simp; omega)))).mono ?_); rintro e w1 ⟨rfl, k, rfl⟩)))
      all_goals go_ret
      all_goals exact ⟨ret_bool (by simp_all), by repeat' (first | (with_reducible assumption) | (with_reducible refine below_setRowN ?_ ?_ _) | (with_reducible refine Below.setCell ?_ ?_ _) | (with_reducible refine below_drewN' ?_ _) | (with_reducible refine Below.drew ?_) | (with_reducible refine Below.alloc ?_ ?_ _) | (with_reducible exact Below.refl _ _) | (with_reducible exact Nat.le_refl _) | (simp; done) | omega | (simp; omega))⟩
  · have x1b : (s1 == s2) = false := beq_eq_false_iff_ne.2 x1
    go_enter Try.func51, Try.ntmps51
    go_wp2_with (first | (go_at_call 85; ((with_reducible refine (HE.out _ (by repeat' (first | (with_reducible assumption) | (with_reducible refine below_setRowN ?_ ?_ _) | (with_reducible refine Below.setCell ?_ ?_ _) | (with_reducible refine below_drewN' ?_ _) | (with_reducible refine Below.drew ?_) | (with_reducible refine Below.alloc ?_ ?_ _) | (with_reducible exact Below.refl _ _) | (with_reducible exact Nat.le_refl _) | (simp; done) | omega | (simp; omega)))).mono ?_); rintro e w1 ⟨rfl, k, rfl⟩)))
    all_goals go_ret
    all_goals exact ⟨ret_bool (by simp_all), by repeat' (first | (with_reducible assumption) | (with_reducible refine below_setRowN ?_ ?_ _) | (with_reducible refine Below.setCell ?_ ?_ _) | (with_reducible refine below_drewN' ?_ _) | (with_reducible refine Below.drew ?_) | (with_reducible refine Below.alloc ?_ ?_ _) | (with_reducible exact Below.refl _ _) | (with_reducible exact Nat.le_refl _) | (simp; done) | omega | (simp; omega))⟩
set_option maxRecDepth 100000 in
set_option maxHeartbeats 2000000 in
theorem rsame10 (p q : Pa) (a b : Option Addr) (c d : Nat) (w : World) (hl : p.heads.length ≤ 1000000) (ha : CellsOff w a (flatT p.heads) []) (hb : CellsOff w b (flatT q.heads) []) :
    Calls Try.prog 41 #[p.val (.slice a p.heads.length c), q.val (.slice b q.heads.length d)] w fun e w' => e = .returned (.bool (sameP p q)) ∧ Below w.heap.size w w' := by
  have HA := Lib.hid (fun i hi => head_cell (i := i) ha hi)
  have HB := Lib.hid (fun i hi => head_cell (i := i) hb hi)
  unfold sameP
  obtain ⟨s1, k1, h1, d1⟩ := p
  obtain ⟨s2, k2, h2, d2⟩ := q
  dsimp only at *
  clear ha hb
  unfold Pa.val
  by_cases x1 : s1 = s2
  rotate_left
  · have x1b : (s1 != s2) = true := bne_iff_ne.2 x1
    go_enter Try.func41, Try.ntmps41
    go_wp2
    all_goals go_ret
    all_goals exact ⟨ret_bool (by simp_all), by repeat' (first | (with_reducible assumption) | (with_reducible refine below_setRowN ?_ ?_ _) | (with_reducible refine Below.setCell ?_ ?_ _) | (with_reducible refine below_drewN' ?_ _) | (with_reducible refine Below.drew ?_) | (with_reducible refine Below.alloc ?_ ?_ _) | (with_reducible exact Below.refl _ _) | (with_reducible exact Nat.le_refl _) | (simp; done) | omega | (simp; omega))⟩
  by_cases x2 : k1 = k2
  rotate_left
  · have x2b : (k1 != k2) = true := bne_iff_ne.2 x2
    go_enter Try.func41, Try.ntmps41
    go_wp2
    all_goals go_ret
    all_goals exact ⟨ret_bool (by simp_all), by repeat' (first | (with_reducible assumption) | (with_reducible refine below_setRowN ?_ ?_ _) | (with_reducible refine Below.setCell ?_ ?_ _) | (with_reducible refine below_drewN' ?_ _) | (with_reducible refine Below.drew ?_) | (with_reducible refine Below.alloc ?_ ?_ _) | (with_reducible exact Below.refl _ _) | (with_reducible exact Nat.le_refl _) | (simp; done) | omega | (simp; omega))⟩
  by_cases x4 : d1 = d2
  rotate_left
  · have x4b := toList_ne x4
    go_enter Try.func41, Try.ntmps41
    go_wp2
    all_goals go_ret
    all_goals exact ⟨ret_bool (by simp_all), by repeat' (first | (with_reducible assumption) | (with_reducible refine below_setRowN ?_ ?_ _) | (with_reducible refine Below.setCell ?_ ?_ _) | (with_reducible refine below_drewN' ?_ _) | (with_reducible refine Below.drew ?_) | (with_reducible refine Below.alloc ?_ ?_ _) | (with_reducible exact Below.refl _ _) | (with_reducible exact Nat.le_refl _) | (simp; done) | omega | (simp; omega))⟩
  by_cases hlr : h1.length = h2.length
  rotate_left
  · have hlrb : ((h1.length : Int) != (h2.length : Int)) = true := bne_iff_ne.2 (by omega)
    have hd : decide (h1 = h2) = false := decide_eq_false (fun e => hlr (by rw [e]))
    have HD := Lib.hid hd
    clear hlr hd
    go_enter Try.func41, Try.ntmps41
    go_wp2
    all_goals go_ret
    all_goals exact ⟨ret_bool (by rw [HD.out]; simp), by repeat' (first | (with_reducible assumption) | (with_reducible refine below_setRowN ?_ ?_ _) | (with_reducible refine Below.setCell ?_ ?_ _) | (with_reducible refine below_drewN' ?_ _) | (with_reducible refine Below.drew ?_) | (with_reducible refine Below.alloc ?_ ?_ _) | (with_reducible exact Below.refl _ _) | (with_reducible exact Nat.le_refl _) | (simp; done) | omega | (simp; omega))⟩
  subst x1 x2 x4
  have hlrb : ((h1.length : Int) != (h2.length : Int)) = false := by rw [bne_eq_false_iff_eq]; omega
  have hle : h1.length ≤ h2.length := by omega
  have HLR := Lib.hid hlr
  clear hlr
  go_enter Try.func41, Try.ntmps41
  go_wp2
  go_loopw [5] (fun i wr => ∃ (m : Nat), m ≤ h1.length ∧ i = .int .i64 (m : Int) ∧ Hid (h1.take m = h2.take m) ∧ wr.heap[w.heap.size]? = some (.cells #[.int .i64 s1, .bool k1, .slice a h1.length c, .string d1] 60 (0, 0)) ∧ wr.heap[w.heap.size + 1]? = some (.cells #[.int .i64 s1, .bool k1, .slice b h2.length d, .string d1] 60 (0, 0)) ∧ Below w.heap.size w wr) (fun i _ => h1.length - (intOf i).toNat)
  case atStart => exact ⟨0, by omega, rfl, Lib.hid rfl, alloc_old (alloc_new _) _, alloc_at _ _ (by simp), by repeat' (first | (with_reducible assumption) | (with_reducible refine below_setRowN ?_ ?_ _) | (with_reducible refine Below.setCell ?_ ?_ _) | (with_reducible refine below_drewN' ?_ _) | (with_reducible refine Below.drew ?_) | (with_reducible refine Below.alloc ?_ ?_ _) | (with_reducible exact Below.refl _ _) | (with_reducible exact Nat.le_refl _) | (simp; done) | omega | (simp; omega))⟩
  case round =>
    obtain ⟨m, hm, rfl, hE, hF, hG, hbw⟩ := hrel
    obtain ⟨wo, rfl⟩ : ∃ x : World, x = wr := ⟨_, rfl⟩
    have f := fun j => cell_at hF j
    have g := fun j => cell_at hG j
    have HF := Lib.hid hF
    have HG := Lib.hid hG
    clear hF hG
    by_cases hml : m < h1.length
    · have hmr : m < h2.length := by omega
      obtain ⟨blk, off, rfl, hlt, c0, c1⟩ := HA.out m hml
      obtain ⟨blk2, off2, rfl, hlt2, e0, e1⟩ := HB.out m hmr
      have c0 := (hbw.cell (p := ⟨blk, _, none⟩) hlt).trans c0
      have c1 := (hbw.cell (p := ⟨blk, _, none⟩) hlt).trans c1
      have e0 := (hbw.cell (p := ⟨blk2, _, none⟩) hlt2).trans e0
      have e1 := (hbw.cell (p := ⟨blk2, _, none⟩) hlt2).trans e1
      have hmI : (m : Int) < (h1.length : Int) := by omega
      have hmrI : (m : Int) < (h2.length : Int) := by omega
      have HN := Lib.hid (fun he => take_eq_succ (d := T2.zero) hml hmr hE.out he)
      have HD := Lib.hid (fun he => eq_diff (l := h1) (r := h2) (m := m) (d := T2.zero) he)
      have HBW := Lib.hid hbw
      clear hE hbw
      generalize h1.getD m T2.zero = x at *
      generalize h2.getD m T2.zero = y at *
      obtain ⟨x0, x1⟩ := x
      obtain ⟨y0, y1⟩ := y
      dsimp only at c0 c1 e0 e1
      by_cases g0 : x0 = y0
      · subst g0
        by_cases g1 : x1 = y1
        · subst g1
          go_wp2
          go_quiet (fail)
          go_wp2
          go_roundw
          case rel => exact ⟨m + 1, by omega, by go_num, Lib.hid (HN.out (by first | rfl | trivial)), HF.out, HG.out, below_drewN' HBW.out _⟩
          case measure => simp [intOf]; omega
        · have g1b : (x1 == y1) = false := beq_eq_false_iff_ne.2 g1
          have hd : decide (h1 = h2) = false := decide_eq_false (HD.out (fun e => g1 (by injection e)))
          have HDD := Lib.hid hd
          clear hd g1
          go_wp2
          go_quiet (fail)
          go_wp2
          go_ret
          exact ⟨ret_bool (by rw [HDD.out]; simp), below_drewN' HBW.out _⟩
      · have g0b : (x0 == y0) = false := beq_eq_false_iff_ne.2 g0
        have hd : decide (h1 = h2) = false := decide_eq_false (HD.out (fun e => g0 (by injection e)))
        have HDD := Lib.hid hd
        clear hd g0
        go_wp2
        go_quiet (fail)
        go_wp2
        go_ret
        exact ⟨ret_bool (by rw [HDD.out]; simp), below_drewN' HBW.out _⟩
    · obtain rfl : m = h1.length := by omega
      have hd : decide (h1 = h2) = true := decide_eq_true (eq_all HLR.out hE.out)
      have HD := Lib.hid hd
      clear hd hE
      go_wp2
      go_ret
      exact ⟨ret_bool (by rw [HD.out]; simp), hbw⟩
theorem packets_snoc (p : Pa) (m : Nat) (hm : m < p.heads.length) : flatP ((packetsP p).take (m + 1)) = flatP ((packetsP p).take m) ++ [.int .i64 p.src, .int .i64 (p.heads.getD m T2.zero).node, .int .i64 (p.heads.getD m T2.zero).seq, .string p.data] := by
  have hl : m < (packetsP p).length := by unfold packetsP; rw [List.length_map]; exact hm
  rw [take_snocD hl Pk.zero]
  unfold flatP
  rw [flat_snoc]
  congr 1
  unfold packetsP
  rw [List.getD_eq_getElem?_getD, List.getElem?_map, List.getD_eq_getElem?_getD, List.getElem?_eq_getElem hm]
  rfl
set_option maxRecDepth 100000 in
set_option maxHeartbeats 2000000 in
theorem cut_packets (p : Pa) (a : Option Addr) (c : Nat) (w : World) (h : CellsOff w a (flatT p.heads) []) (hn : p.heads.length ≤ 4096) :
    Calls Try.prog 47 #[p.val (.slice a p.heads.length c)] w fun e w' => ∃ v, e = .returned v ∧ w'.ownsRow w.heap.size 88 4 v p.heads.length (flatP (packetsP p)) ∧ Below w.heap.size w w' := by
  have hP := packets_snoc p
  have hPE : flatP (packetsP p) = flatP ((packetsP p).take p.heads.length) := by
    rw [List.take_of_length_le (by unfold packetsP; rw [List.length_map]; exact Nat.le_refl _)]
  rw [hPE]
  generalize packetsP p = pk at *
  obtain ⟨src, cast, heads, data⟩ := p
  dsimp only at *
  have HC := Lib.hid (fun i hi => head_cell (i := i) h hi)
  have HP := Lib.hid hP
  clear h hP hPE
  have hnI : (heads.length : Int) ≤ 4096 := by omega
  unfold Pa.val
  go_enter Try.func47, Try.ntmps47
  go_wp2
  go_loopw [3, 9] (fun v i wr => ∃ m : Nat, m ≤ heads.length ∧ i = .int .i64 (m : Int) ∧ wr.ownsRow (w.heap.size + 1) 88 4 v m (flatP (pk.take m)) ∧ wr.heap[w.heap.size]? = some (.cells #[.int .i64 src, .bool cast, .slice a heads.length c, .string data] 68 (0, 0)) ∧ Below w.heap.size w wr) (fun _ i _ => heads.length - (intOf i).toNat)
  case atStart => exact ⟨0, by omega, rfl, by rw [List.take_zero]; exact World.ownsRow_nil _ _ _ _, alloc_new _, by repeat' (first | (with_reducible assumption) | (with_reducible refine below_setRowN ?_ ?_ _) | (with_reducible refine Below.setCell ?_ ?_ _) | (with_reducible refine below_drewN' ?_ _) | (with_reducible refine Below.drew ?_) | (with_reducible refine Below.alloc ?_ ?_ _) | (with_reducible exact Below.refl _ _) | (with_reducible exact Nat.le_refl _) | (simp; done) | omega | (simp; omega))⟩
  case round =>
    obtain ⟨m, hm, rfl, hown, hF, hb⟩ := hrel
    obtain ⟨wo, rfl⟩ : ∃ x : World, x = wr := ⟨_, rfl⟩
    have hsw := hb.size
    have hlw := block_lt hF
    have f0 := fun j => cell_at hF j
    by_cases hml : m < heads.length
    · obtain ⟨blk, off, rfl, hlt, c0, c1⟩ := HC.out m hml
      have d0 := (hb.cell (p := ⟨blk, _, none⟩) hlt).trans c0
      have d1 := (hb.cell (p := ⟨blk, _, none⟩) hlt).trans c1
      have hPm := HP.out m hml
      generalize heads.getD m T2.zero = t at *
      obtain ⟨x, y⟩ := t
      dsimp only at d0 d1 hPm
      have hmI : (m : Int) < (heads.length : Int) := by omega
      have HPm := Lib.hid hPm
      have hO1 := hown.alloc (.cells #[.int .i64 x, .int .i64 y] 92)
      have hO2 := hO1.alloc (.cells #[.int .i64 src, .int .i64 x, .int .i64 y, .string data] 88)
      have HB := Lib.hid hb
      have HF := Lib.hid hF
      have hz1 : w.heap.size + 1 ≤ (wo.alloc (.cells #[.int .i64 x, .int .i64 y] 92)).heap.size := by simp; omega
      clear c0 c1 hPm hown hb hF
      go_wp2_with (at_builtin; refine append_own (W0 := wo.alloc (.cells #[.int .i64 x, .int .i64 y] 92)) [.int .i64 src, .int .i64 x, .int .i64 y, .string data] (w.heap.size + 1) _ _ _ 4 40 infoPk Try.underlying84 rfl (by decide) _ _ _ hO1 (Below.refl _ _) hz1 rfl (by simp [Value.oneCell']) (by omega) (by decide) rfl _ _ rfl rfl (by rw [World.size_alloc]; rfl) ?_; intro v1 w4 hown4 hb4 hg4 hor4; have HO4 := Lib.hid hown4; have HB4 := Lib.hid hb4; clear hown4 hb4 hg4 hor4)
      go_roundw
      case rel => exact ⟨m + 1, by omega, by go_num, by rw [HPm.out]; exact HO4.out, Below.at HB4.out (alloc_old HF.out _) (by omega), Below.trans (by have := HB.out; repeat' (first | (with_reducible assumption) | (with_reducible refine below_setRowN ?_ ?_ _) | (with_reducible refine Below.setCell ?_ ?_ _) | (with_reducible refine below_drewN' ?_ _) | (with_reducible refine Below.drew ?_) | (with_reducible refine Below.alloc ?_ ?_ _) | (with_reducible exact Below.refl _ _) | (with_reducible exact Nat.le_refl _) | (simp; done) | omega | (simp; omega))) (HB4.out.mono (by omega))⟩
      case measure => simp [intOf]; omega
    · obtain rfl : m = heads.length := by omega
      have HO := Lib.hid hown
      have HB := Lib.hid hb
      clear hown hb
      go_wp2
      go_ret
      exact ⟨_, rfl, owns_base HO.out (by omega), HB.out⟩
end Go.Proofs.Ytmehfflomgldeab
