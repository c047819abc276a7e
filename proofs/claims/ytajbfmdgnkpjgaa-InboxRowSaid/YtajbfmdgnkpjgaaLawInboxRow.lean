/- The walk of InboxRow. -/
import Derived.Test.YtajbfmdgnkpjgaaInboxK
import Derived.Deep.CutBlock
import Derived.Deep.DeepCutAuto
namespace Go.Proofs.Ytajbfmdgnkpjgaa
set_option linter.unusedVariables false
set_option linter.unusedSimpArgs false
open Go.RowKit Go.ChangeMaps Go.WideShapes Go.WideMaps
theorem infoPkR : (Try.prog.info? 30).map (fun i => (i.zero, i.size, i.bytes)) = some (some (.agg #[.int .i64 0, .int .i64 0, .int .i64 0, .string ⟨#[]⟩]), 4, 40) := by kernel_rfl
/-- How many packets a source has. -/
def cntR (l : List Int) (s : Nat) : Nat := if s < l.length ∧ s < 5 then (wrap64 ((IntKind.u64.wrap (l.getD s 0)).tmod 6)).toNat else 0
theorem cntR_is {l : List Int} {s : Nat} (h : s < l.length) (h5 : s < 5) : wrap64 ((IntKind.u64.wrap (l.getD s 0)).tmod 6) = (cntR l s : Int) := by
  obtain ⟨M, h1, h2⟩ := mod_nat (l.getD s 0) 6 (by omega) (by omega)
  unfold cntR; rw [if_pos ⟨h, h5⟩, h1]; omega
theorem cntR_le (l : List Int) (s : Nat) : cntR l s ≤ 5 := by
  unfold cntR; split
  · obtain ⟨M, h1, h2⟩ := mod_nat (l.getD s 0) 6 (by omega) (by omega)
    rw [h1]; omega
  · omega
theorem cntR_none {l : List Int} {s : Nat} (h : ¬ (s < l.length ∧ s < 5)) : cntR l s = 0 := by unfold cntR; rw [if_neg h]
set_option maxRecDepth 100000 in
set_option maxHeartbeats 2000000 in
theorem inboxRow_walk (a : Option Addr) (c : Nat) (l : List Int) (a' : Option Addr) (c' : Nat) (l' : List Int) (room : Int) (w : World) (hl : l.length ≤ maxLen) (hc : l.length ≤ c) (hr : IntsAt .i64 w a l) (hl' : l'.length ≤ maxLen) (hc' : l'.length ≤ c') (hr' : IntsAt .i64 w a' l') :
    Calls Try.prog 3 #[.slice a l.length c, .slice a' l'.length c', .int .i64 room] w fun e w' => e = .returned (.bool true) ∧ Below w.heap.size w w' := by
  have HV := Lib.hid lives16_calls
  have hN := fun w => box_new room w
  obtain ⟨R, hR, hR1⟩ : ∃ R, IS.new room = ⟨R, [], [], []⟩ ∧ 1 ≤ R := ⟨_, rfl, (IS.new_ok room).n1⟩
  rw [hR] at hN
  have K0 := Lib.hid hN
  have HR := Lib.hid hr
  have HR' := Lib.hid hr'
  clear hN hr hr' hR
  go_enter Try.func3, Try.ntmps3
  go_upto_block 0 with (first
    | (go_at_call 11; ((with_reducible refine (HV.out _).mono ?_); rintro e w1 ⟨rfl, hb1⟩)) | (go_at_call 12; ((with_reducible refine (K0.out _).mono ?_); rintro e w2 ⟨b, B, rfl, hB2, hge, hb2⟩)))
  have hge2 : ∀ k ∈ B, w.heap.size ≤ k := fun k hk => Nat.le_trans hb1.size (hge k hk)
  have hbw := hb1.trans (hb2.mono hb1.size)
  have hcw : w.heap.size ≤ w2.heap.size := hbw.size
  have HG := Lib.hid hge2
  have HM5 := Lib.hid (cntR_le l)
  have HMI := Lib.hid (fun s => @cntR_is l s)
  have HMO : Hid (∀ t, min l.length 5 ≤ t → cntR l t = 0) := Lib.hid (fun t ht => cntR_none (by omega))
  have HB2 := Lib.hid hB2
  have HW2 := Lib.hid hbw
  clear hge hge2 hb1 hb2 HV K0 hB2 hbw
  generalize cntR l = M at *
  go_cut [8] (fun v8 wx => ∃ A : List Pk, A.length ≤ 25 ∧ Hid (RowInv M (fun _ => 0) A []) ∧ wx.ownsRow w2.heap.size 30 4 v8 A.length (flatK A) ∧ Below w2.heap.size w2 wx)
  case first =>
    go_wp2
    go_loopw [8, 9] (fun v iv wr => ∃ (s : Nat) (A : List Pk), s ≤ 5 ∧ s ≤ l.length ∧ iv = .int .i64 (s : Int) ∧ Hid (Made M s 0 A) ∧ wr.ownsRow w2.heap.size 30 4 v A.length (flatK A) ∧ Below w2.heap.size w2 wr) (fun _ iv _ => 5 - (intOf iv).toNat)
    case atStart => exact ⟨0, [], by omega, by omega, rfl, Lib.hid (Made.nil M), World.ownsRow_nil _ _ _ _, Below.refl _ _⟩
    case round =>
      obtain ⟨s, A, hs5, hsl, rfl, HA, hO, hb⟩ := hrel
      have HB := Lib.hid hb
      have HO := Lib.hid hO
      clear hb hO
      by_cases hs : s < l.length ∧ s < 5
      · obtain ⟨hsl2, hs52⟩ := hs
        have hsI : (s : Int) < (l.length : Int) := by omega
        have hs5I : (s : Int) < 5 := by omega
        obtain ⟨blk, off, rfl, hx⟩ := HR.out s hsl2
        have hblt := World.block_lt_of_cell? w _ hx
        dsimp only at hblt
        have hx0 := ((HW2.out.trans (HB.out.mono hcw)).cell (p := ⟨blk, off + s, none⟩) hblt).trans hx
        have hmi := HMI.out s hsl2 hs52
        have hm5 := HM5.out s
        generalize l.getD s 0 = y at *
        have HX : Hid (w2.cell? ⟨blk, off + s, none⟩ = some (.int .i64 y)) := Lib.hid ((HW2.out.cell (p := ⟨blk, off + s, none⟩) hblt).trans hx)
        clear hx hx0
        go_wp2
        go_loopw [8, 10] (fun v iv wr => ∃ (n : Nat) (A : List Pk), n ≤ M s ∧ iv = .int .i64 (n : Int) ∧ Hid (Made M s n A) ∧ wr.ownsRow w2.heap.size 30 4 v A.length (flatK A) ∧ Below w2.heap.size w2 wr) (fun _ iv _ => M s - (intOf iv).toNat)
        case atStart => exact ⟨0, A, by omega, rfl, HA, HO.out, HB.out⟩
        case round =>
          clear HA HB HO
          obtain ⟨n, A, hn, rfl, HA, hO, hb⟩ := hrel
          have HB := Lib.hid hb
          have HO := Lib.hid hO
          have hx := (HB.out.cell (p := ⟨blk, off + s, none⟩) (by show blk < _; omega)).trans HX.out
          have hal := HA.out.le
          clear hb hO
          by_cases hnm : n < M s
          · have hnI : (n : Int) < (M s : Int) := by omega
            have hsz2 : w2.heap.size ≤ (wr.alloc (.cells #[.int .u8 (97 + (n : Int))] 5)).heap.size := by have := HB.out.size; simp; omega
            have HS2 := Lib.hid hsz2
            clear hsz2
            go_wp2_with (first
              | ((with_reducible refine (show wpList _ _ _ (_ :: _) _ _ from ?_)); (refine conv_one 28 9 5 wr.heap.size (97 + n) _ rfl rfl rfl (by omega) Try.underlying28 Try.underlying5 Try.underlying9 (cell_at (alloc_new _) 0) ?_))
              | (at_builtin; refine append_own (W0 := w2) [.int .i64 (s : Int), .int .i64 0, .int .i64 (n : Int), .string (oneB (97 + n))] w2.heap.size _ _ _ 4 40 infoPkR Try.underlying26 rfl (by decide) _ _ _ (HO.out.alloc _) (HB.out.alloc HB.out.size _) HS2.out rfl (by simp [Value.oneCell']) (by omega) (by decide) rfl _ _ rfl rfl (by rw [World.size_alloc]; rfl) ?_; intro v1 w4 hown4 hb4 hg4 hor4; have HO4 := Lib.hid hown4; have HB4 := Lib.hid hb4; clear hown4 hb4 hg4 hor4))
            go_roundw
            case rel => exact ⟨n + 1, A ++ [Pd s n], by omega, by go_num, Lib.hid (HA.out.add hnm), by rw [List.length_append]; unfold flatK; rw [flat_snoc]; exact HO4.out, HB4.out⟩
            case measure => simp [intOf] <;> omega
          · have hnI : ¬ (n : Int) < (M s : Int) := by omega
            go_wp2
            go_roundw
            case rel => exact ⟨s + 1, _, by omega, by omega, by go_num, Lib.hid (HA.out.next hnm (by omega)), HO.out, HB.out⟩
            case measure => simp [intOf] <;> omega
      · have HA' := Lib.hid (HA.out.inv (fun t ht => HMO.out t (by omega)))
        have hal := HA.out.le
        clear HA HMI HR
        by_cases hs1 : s < l.length
        · have hsI : (s : Int) < (l.length : Int) := by omega
          have hs5I : ¬ ((s : Int) < 5) := by omega
          go_wp2
          go_meet
          exact ⟨A, by omega, HA', HO.out, HB.out⟩
        · have hsI : ¬ (s : Int) < (l.length : Int) := by omega
          go_wp2
          go_meet
          exact ⟨A, by omega, HA', HO.out, HB.out⟩
  case rest =>
    obtain ⟨w3, rfl⟩ : ∃ x : World, x = wc := ⟨_, rfl⟩
    obtain ⟨A0, hA25, HRI, hO, hb⟩ := hcut
    have hB3 := HB2.out.below hb
    have hw3 := HW2.out.trans (hb.mono hcw)
    have hwc := hw3.size
    have hbc := hb.size
    have hnB : ∀ k ∈ B, k < w2.heap.size := HB2.out.lt
    obtain ⟨p8, q8, rfl, hq8, -, hC8⟩ := CellsOff.own hO B hnB
    have hC9 := (hC8.fresh1 (Nat.le_refl w3.heap.size)).below ((Below.refl _ _).alloc (Nat.le_refl _) (.cells (nxA (fun _ => 0)) 31))
    have hnb : w3.heap.size ∉ B := fun hm => by have := hnB _ hm; omega
    have HNB := Lib.hid hnb
    have HC8 := Lib.hid hC9
    have HB := Lib.hid hB3
    have HWW := Lib.hid hw3
    have hwc2 : w.heap.size ≤ w3.heap.size := hwc
    have hAI : (A0.length : Int) ≤ 25 := by omega
    clear hO hC8 hC9 hB3 hw3 hb hnb HB2 HW2 HMI HR hwc
    go_wp2
    go_loopw [8, 13, 14] (fun v gv iv wr => ∃ (A ws : List Pk) (N : Nat → Nat) (nx : List (Int × Int)) (p : Option Addr) (q i G : Nat), i + A.length = A0.length ∧ iv = .int .i64 (i : Int) ∧ v = .slice p A.length q ∧ A.length ≤ q ∧ CellsOff wr p (flatK A) (w3.heap.size :: B) ∧ gv = .int .i64 (G : Int) ∧ A.length + ws.length + G = A0.length ∧ BoxAt wr b B ⟨R, [], ws, nx⟩ ∧ Hid (RowInv M N A ws ∧ NextIs N nx ∧ IS.ready ⟨R, [], ws, nx⟩ = none) ∧ Hid (wr.heap[w3.heap.size]? = some (.cells (nxA N) 31 (0, 0))) ∧ Below w.heap.size w wr) (fun _ _ iv _ => A0.length - (intOf iv).toNat)
    case atStart => exact ⟨A0, [], _, [], p8, q8, 0, 0, by omega, rfl, rfl, hq8, HC8.out, rfl, by simp, HB.out.alloc _, Lib.hid ⟨HRI.out, fun t => rfl, rfl⟩, Lib.hid (alloc_new _), HWW.out.alloc hwc2 _⟩
    case round =>
      clear HB HWW HC8 HRI
      obtain ⟨A, ws, N, nx, p, q, i, G, hi, rfl, rfl, hq, hC, rfl, hT, hB, HI, HX, hbw⟩ := hrel
      have HB := Lib.hid hB
      have HWW := Lib.hid hbw
      have HC := Lib.hid hC
      have hnl := block_lt HX.out
      clear hB hbw hC
      by_cases hil : i < A0.length
      · have hiI : (i : Int) < (A0.length : Int) := by omega
        go_upto_if 65 with (fail)
        go_cut [15] (fun v wx => ∃ k : Nat, v = .int .i64 (k : Int) ∧ k < A.length ∧ wr = wx)
        case first =>
          by_cases hr : i < l'.length
          · have hrI : (i : Int) < (l'.length : Int) := by omega
            obtain ⟨blk, off, rfl, hx⟩ := HR'.out i hr
            have hblt := World.block_lt_of_cell? w _ hx
            dsimp only at hblt
            have hx0 := (HWW.out.cell (p := ⟨blk, off + i, none⟩) hblt).trans hx
            obtain ⟨k, hk, hkl⟩ := mod_nat (l'.getD i 0) (A.length : Int) (by omega) (by omega)
            have hz : ¬ ((A.length : Int) = 0) := by omega
            generalize l'.getD i 0 = y at *
            clear hx
            go_wp2
            go_meet
            exact ⟨k, by first | rfl | rw [hk], by omega, rfl⟩
          · have hrI : ¬ (i : Int) < (l'.length : Int) := by omega
            go_wp2
            go_meet
            exact ⟨0, rfl, by omega, rfl⟩
        case rest =>
          obtain ⟨k, rfl, hkl, rfl⟩ := hcut
          obtain ⟨hRI, hNX, hrn⟩ := HI.out
          obtain ⟨s, m, hg, hs5, hm5, e1, hRI2⟩ := hRI.come HM5.out (fun t ht => HMO.out t (by omega)) hkl R nx
          obtain ⟨blk, off, rfl, hnS, hblt, hcell⟩ := CellsOff.elem Pk.clen Pk.zero HC.out (by omega) hkl
          rw [hg] at hcell
          have d0 : wr.cell? ⟨blk, off + k * 4, none⟩ = some (.int .i64 (s : Int)) := hcell 0 (by omega)
          have d1 : wr.cell? ⟨blk, off + k * 4 + 1, none⟩ = some (.int .i64 0) := hcell 1 (by omega)
          have d2 : wr.cell? ⟨blk, off + k * 4 + 2, none⟩ = some (.int .i64 (m : Int)) := hcell 2 (by omega)
          have d3 : wr.cell? ⟨blk, off + k * 4 + 3, none⟩ = some (.string (oneB (97 + m))) := hcell 3 (by omega)
          have F1 := fun w h => box_come (Pd s m) w b B ⟨R, [], ws, nx⟩ (wf_small (by show (0 : Int) ≤ (s : Int); omega) (by show (s : Int) < 65536; omega)) (wf_small (by show (0 : Int) ≤ (m : Int); omega) (by show (m : Int) < 65536; omega)) h
          rw [e1] at F1
          unfold Pd at F1
          dsimp only [Pk.val] at F1
          have K1 := Lib.hid F1
          have HI2 := Lib.hid (And.intro hRI2 hNX)
          have hkI : (k : Int) < (A.length : Int) := by omega
          have hqk : ¬ (q = k) := by omega
          clear F1 hRI hNX hrn HI hg e1 hRI2 hcell
          go_upto_region 24 with (first | (go_at_call 13; (with_reducible refine (K1.out _ HB.out).mono ?_); rintro e w4 ⟨rfl, hBn, hOn⟩; have HX4 := Lib.hid (hOn.at HX.out HNB.out); have HC4 := Lib.hid (HC.out.only hOn (fun x hx => List.mem_cons_of_mem _ hx)); have HB4 := Lib.hid hBn; have HW4 := Lib.hid (HWW.out.trans (only_below hOn HG.out HWW.out.size)); clear hBn hOn))
          clear d0 d1 d2 d3 K1 HX HB HWW HC hblt hnl
          go_upto_region 25 with (at_builtin; refine append_rows (W0 := w4) (flatK (A.take k)) k w4.heap.size 26 30 _ 4 40 infoPkR Try.underlying26 rfl (by decide) _ _ _ (World.ownsRow_nil _ _ _ _) (Below.refl _ _) (Nat.le_refl _) _ _ (by rw [flatK_len, List.length_take, Nat.min_eq_left (by omega)]; omega) (by rw [flatK_take]; exact (HC4.out.weak (by simp)).take (k * 4)) (oneCell_K _) (by omega) (by decide) rfl _ _ rfl rfl rfl ?_; intro v5 w5 hown5 hb5 hg5 hor5; rw [Nat.zero_add, List.nil_append] at hown5; obtain ⟨p5, q5, rfl, -, -, -⟩ := CellsOff.own hown5 [] (by simp); have HO5 := Lib.hid hown5; have HB5 := Lib.hid hb5; clear hown5 hb5 hg5 hor5)
          have hs5' : w4.heap.size ≤ w5.heap.size := HB5.out.size
          have HC5 := Lib.hid (HC4.out.below HB5.out)
          go_cut [8] (fun v8 wx => ∃ p6 q6, v8 = .slice p6 (A.length - 1) q6 ∧ A.length - 1 ≤ q6 ∧ CellsOff wx p6 (flatK (A.take k ++ A.drop (k + 1))) (w3.heap.size :: B) ∧ Below w4.heap.size w4 wx)
          case first =>
            have hS : ∀ x ∈ w3.heap.size :: B, x < w4.heap.size := fun x hx => by
              rcases List.mem_cons.1 hx with rfl | hx
              · exact block_lt HX4.out
              · exact HB4.out.lt x hx
            have HSL := Lib.hid hS
            clear hS
            by_cases hq1 : q = k + 1
            · subst hq1
              have hAk : A.length = k + 1 := by omega
              go_wp2_with (at_builtin; refine append_rows (W0 := w5) [] 0 w4.heap.size 26 30 _ 4 40 infoPkR Try.underlying26 rfl (by decide) _ _ _ HO5.out (Below.refl _ _) hs5' _ _ rfl CellsOff.nil (by simp) (by omega) (by decide) rfl _ _ rfl rfl rfl ?_; intro v6 w6 hown6 hb6 hg6 hor6; rw [Nat.add_zero, List.append_nil] at hown6; obtain ⟨p6, q6, rfl, hq6, -, hc6⟩ := CellsOff.own hown6 _ HSL.out; have HC6 := Lib.hid hc6; have HB6 := Lib.hid hb6; clear hown6 hb6 hg6 hor6 hc6)
              go_meet
              exact ⟨p6, q6, by rw [hAk]; rfl, by omega, by rw [List.drop_eq_nil_of_le (by omega), List.append_nil]; exact HC6.out, HB5.out.trans HB6.out⟩
            · have hq2 : k + 1 < q := by omega
              have hq3 : ¬ (q - (k + 1) = 0) := by omega
              go_wp2_with (at_builtin; refine append_rows (W0 := w5) (flatK (A.drop (k + 1))) (A.length - (k + 1)) w4.heap.size 26 30 _ 4 40 infoPkR Try.underlying26 rfl (by decide) _ _ _ HO5.out (Below.refl _ _) hs5' _ _ (by rw [flatK_len, List.length_drop]; omega) (by rw [flatK_drop]; exact (HC5.out.weak (by simp)).dropAt ((k + 1) * 4)) (oneCell_K _) (by omega) (by decide) rfl _ _ rfl rfl rfl ?_; intro v6 w6 hown6 hb6 hg6 hor6; obtain ⟨p6, q6, rfl, hq6, -, hc6⟩ := CellsOff.own hown6 _ HSL.out; have HC6 := Lib.hid hc6; have HB6 := Lib.hid hb6; clear hown6 hb6 hg6 hor6 hc6)
              go_meet
              exact ⟨p6, q6, by rw [show k + (A.length - (k + 1)) = A.length - 1 by omega], by omega, by rw [flatK_append]; exact HC6.out, HB5.out.trans HB6.out⟩
          case rest =>
          obtain ⟨p6, q6, rfl, hq6, hc6, hb6⟩ := hcut
          obtain ⟨w6, rfl⟩ : ∃ x : World, x = wc := ⟨_, rfl⟩
          have hlen : (A.take k ++ A.drop (k + 1)).length = A.length - 1 := by rw [List.length_append, List.length_take, List.length_drop]; omega
          have hX6 := Below.at hb6 HX4.out (block_lt HX4.out)
          have HB := Lib.hid (HB4.out.below hb6)
          have HWW := Lib.hid (HW4.out.trans (hb6.mono HW4.out.size))
          have HX := Lib.hid hX6
          have HC := Lib.hid hc6
          have hlw : (ws ++ [Pd s m]).length = ws.length + 1 := by simp
          have hB0 : Hid (BoxAt w6 b B ⟨R, [], ws ++ [Pd s m], nx⟩) := HB
          generalize A.take k ++ A.drop (k + 1) = A' at *
          generalize ws ++ [Pd s m] = ws' at *
          clear HB hX6 HB4 HW4 HX4 HC4 hb6 hc6 HO5 HB5 HC5 hs5' hkI hqk hnS
          have HIL := Lib.hid hlen
          go_wp2
          go_loopw [13] (fun gv wr => ∃ (ws : List Pk) (N : Nat → Nat) (nx : List (Int × Int)) (G : Nat), gv = .int .i64 (G : Int) ∧ A'.length + ws.length + G = A0.length ∧ BoxAt wr b B ⟨R, [], ws, nx⟩ ∧ Hid (RowInv M N A' ws ∧ NextIs N nx) ∧ Hid (wr.heap[w3.heap.size]? = some (.cells (nxA N) 31 (0, 0))) ∧ CellsOff wr p6 (flatK A') (w3.heap.size :: B) ∧ Below w.heap.size w wr) (fun gv _ => A0.length - (intOf gv).toNat)
          case atStart => exact ⟨ws', N, nx, G, rfl, by omega, hB0.out, HI2, HX, HC.out, HWW.out⟩
          case round =>
            clear hB0 HWW HC HX HI2 hlw hT
            obtain ⟨ws2, N2, nx2, G2, rfl, hT, hB, HI, HX, hC, hbw⟩ := hrel
            have HB := Lib.hid hB
            have HWW := Lib.hid hbw
            have HC := Lib.hid hC
            have hnl := block_lt HX.out
            clear hB hbw hC
            obtain ⟨hRI, hNX⟩ := HI.out
            cases hrd : IS.ready ⟨R, [], ws2, nx2⟩ with
            | none =>
              have F1 := fun w h => box_tell w b B ⟨R, [], ws2, nx2⟩ h
              rw [IS.tell_none hrd] at F1
              have K1 := Lib.hid F1
              clear F1
              have HR3 := Lib.hid (And.intro hRI (And.intro hNX hrd))
              clear hRI hNX hrd
              go_wp2_with (first | (go_at_call 14; (with_reducible refine (K1.out _ HB.out).mono ?_); rintro e w7 ⟨rfl, hBn, hOn⟩; have hX7 := hOn.at HX.out HNB.out; have HX := Lib.hid hX7; have HC := Lib.hid (HC.out.only hOn (fun x hx => List.mem_cons_of_mem _ hx)); have HB := Lib.hid hBn; have HWW := Lib.hid (HWW.out.trans (only_below hOn HG.out HWW.out.size)); clear hBn hOn hX7))
              go_roundw
              case rel => exact ⟨A', ws2, N2, nx2, p6, q6, i + 1, G2, by omega, by go_num, by rw [HIL.out], by omega, HC.out, rfl, by omega, HB.out, HR3, HX, HWW.out⟩
              case measure => simp [intOf] <;> omega
            | some pk =>
              obtain ⟨s2, nx', rfl, hs2, hn2, e1, hl2, hRI2, hNX2⟩ := hRI.tell HM5.out (fun t ht => HMO.out t (by omega)) hNX HB.out.ok.kd hR1 hrd
              have F1 := fun w h => box_tell w b B ⟨R, [], ws2, nx2⟩ h
              rw [e1] at F1
              generalize ws2.eraseP (keyEq (Pd s2 (N2 s2))) = ws3 at *
              have F2 := fun w h => box_recv w b B ⟨R, [Pd s2 (N2 s2)], ws3, nx'⟩ h
              rw [IS.recv_cons] at F2
              unfold Pd at F1 F2
              dsimp only [Pk.val] at F1 F2
              have K1 := Lib.hid F1
              have K2 := Lib.hid F2
              have HR4 := Lib.hid (And.intro hRI2 hNX2)
              have hs2I : (s2 : Int) < 5 := by omega
              clear F1 F2 e1 hRI hNX hRI2 hNX2 hrd HI
              go_upto_region 28 with (first | (go_at_call 14; (with_reducible refine (K1.out _ HB.out).mono ?_); rintro e w7 ⟨rfl, hBn, hOn⟩; have hX7 := hOn.at HX.out HNB.out; have HX := Lib.hid hX7; have HC := Lib.hid (HC.out.only hOn (fun x hx => List.mem_cons_of_mem _ hx)); have HB := Lib.hid hBn; have HWW := Lib.hid (HWW.out.trans (only_below hOn HG.out HWW.out.size)); clear hBn hOn hX7) | (go_at_call 15; (with_reducible refine (K2.out _ HB.out).mono ?_); rintro e w8 ⟨rfl, hBn, hOn⟩; have hX8 := hOn.at HX.out HNB.out; have fS := (cell_at hX8 s2).trans (nxA_get _ _ hs2); have fZ := frozen_at hX8 s2; have HX := Lib.hid hX8; have HC := Lib.hid (HC.out.only hOn (fun x hx => List.mem_cons_of_mem _ hx)); have HB := Lib.hid hBn; have HWW := Lib.hid (HWW.out.trans (only_below hOn HG.out HWW.out.size)); have hnl8 := block_lt hX8; clear hBn hOn hX8))
              obtain ⟨n2, hn2e⟩ : ∃ x : Nat, x = N2 s2 := ⟨_, rfl⟩
              have HNE := Lib.hid hn2e
              rw [← hn2e] at fS hn2 ⊢
              clear K1 K2 hn2e
              have hP9 : (w8.alloc (.cells #[.int .i64 (s2 : Int), .int .i64 0, .int .i64 (n2 : Int), .string (oneB (97 + n2))] 30)).heap[w8.heap.size]? = some (.cells #[.int .i64 (s2 : Int), .int .i64 0, .int .i64 (n2 : Int), .string (oneB (97 + n2))] 30 (0, 0)) := alloc_new _
              have hX9 := alloc_old HX.out (.cells #[.int .i64 (s2 : Int), .int .i64 0, .int .i64 (n2 : Int), .string (oneB (97 + n2))] 30)
              have hB9 := HB.out.alloc (.cells #[.int .i64 (s2 : Int), .int .i64 0, .int .i64 (n2 : Int), .string (oneB (97 + n2))] 30)
              have hC9 := HC.out.below ((Below.refl _ _).alloc (Nat.le_refl _) (.cells #[.int .i64 (s2 : Int), .int .i64 0, .int .i64 (n2 : Int), .string (oneB (97 + n2))] 30))
              have hw9 := HWW.out.alloc HWW.out.size (.cells #[.int .i64 (s2 : Int), .int .i64 0, .int .i64 (n2 : Int), .string (oneB (97 + n2))] 30)
              clear HX HB HC HWW fS fZ
              generalize w8.alloc (.cells #[.int .i64 (s2 : Int), .int .i64 0, .int .i64 (n2 : Int), .string (oneB (97 + n2))] 30) = w9 at *
              have fS : w9.cell? ⟨w3.heap.size, s2, none⟩ = some (.int .i64 (n2 : Int)) := (cell_at hX9 s2).trans ((nxA_get _ _ hs2).trans (by rw [HNE.out]))
              have HX := Lib.hid hX9
              have HB := Lib.hid hB9
              have HC := Lib.hid hC9
              have HWW := Lib.hid hw9
              have HP := Lib.hid hP9
              have hnl9 := block_lt hX9
              have hnl8' := block_lt hP9
              have f9 := fun j => cell_at hP9 j
              clear hX9 hB9 hC9 hw9 hP9
              have hV2 : IntKind.u8.wrap (IntKind.i64.wrap (97 + (n2 : Int))) = 97 + (n2 : Int) := by simp [IntKind.wrap, IntKind.bits, IntKind.signed]; omega
              refine wp_region_held_drew (S := (fun w' => (∀ j, w'.cell? ⟨w8.heap.size, j, none⟩ = (#[.int .i64 (s2 : Int), .int .i64 0, .int .i64 (n2 : Int), .string (oneB (97 + n2))] : Array Value)[j]?) ∧ w'.cell? ⟨w3.heap.size, s2, none⟩ = some (.int .i64 (n2 : Int)))) (by kernel_rfl) ?_ (fun hHeld0 => ?_)
              · (try dsimp only); first | exact ⟨f9, fS⟩ | with_reducible exact ⟨f10, fS10⟩ | exact ⟨f10, fS10⟩
              refine wpAnyH_take (i := 0) (v := ?_) rfl (by kernel_rfl) (by kernel_rfl) (by kernel_rfl) (fun _ _ _ h => h) (Or.inl ⟨by rfl, ?_⟩) (by assumption) ?_
              rotate_left
              · (intro w hSw; (try dsimp only at hSw); go_simp; try with_reducible rfl)
              (try simp only [Act.put, List.setIfInBounds_toArray, List.set_cons_zero, List.set_cons_succ, List.getElem_toArray, List.getElem_cons_zero, List.getElem_cons_succ])
              refine wpAnyH_take (i := 1) (v := ?_) rfl (by kernel_rfl) (by kernel_rfl) (by kernel_rfl) (fun _ _ _ h => h) (Or.inl ⟨by rfl, ?_⟩) (by assumption) ?_
              rotate_left
              · (intro w hSw; (try dsimp only at hSw); go_simp; try with_reducible rfl)
              (try simp only [Act.put, List.setIfInBounds_toArray, List.set_cons_zero, List.set_cons_succ, List.getElem_toArray, List.getElem_cons_zero, List.getElem_cons_succ])
              refine wpAnyH_take (i := 2) (v := ?_) rfl (by kernel_rfl) (by kernel_rfl) (by kernel_rfl) (fun _ _ _ h => h) (Or.inl ⟨by rfl, ?_⟩) (by assumption) ?_
              rotate_left
              · (intro w hSw; (try dsimp only at hSw); go_simp; try with_reducible rfl)
              (try simp only [Act.put, List.setIfInBounds_toArray, List.set_cons_zero, List.set_cons_succ, List.getElem_toArray, List.getElem_cons_zero, List.getElem_cons_succ])
              refine wpAnyH_take (i := 3) (v := ?_) rfl (by kernel_rfl) (by kernel_rfl) (by kernel_rfl) (fun _ _ _ h => h) (Or.inl ⟨by rfl, ?_⟩) (by assumption) ?_
              rotate_left
              · (intro w hSw; (try dsimp only at hSw); go_simp; try with_reducible rfl)
              (try simp only [Act.put, List.setIfInBounds_toArray, List.set_cons_zero, List.set_cons_succ, List.getElem_toArray, List.getElem_cons_zero, List.getElem_cons_succ])
              refine wpAnyH_take (i := 4) (v := ?_) rfl (by kernel_rfl) (by kernel_rfl) (by kernel_rfl) (fun _ _ _ h => h) (Or.inl ⟨by rfl, ?_⟩) (by assumption) ?_
              rotate_left
              · (intro w hSw; (try dsimp only at hSw); go_simp; try with_reducible rfl)
              (try simp only [Act.put, List.setIfInBounds_toArray, List.set_cons_zero, List.set_cons_succ, List.getElem_toArray, List.getElem_cons_zero, List.getElem_cons_succ])
              refine wpAnyH_take (i := 5) (v := ?_) rfl (by kernel_rfl) (by kernel_rfl) (by kernel_rfl) (fun _ _ _ h => h) (Or.inl ⟨by rfl, ?_⟩) (by assumption) ?_
              rotate_left
              · (intro w hSw; (try dsimp only at hSw); go_simp; try with_reducible rfl)
              (try simp only [Act.put, List.setIfInBounds_toArray, List.set_cons_zero, List.set_cons_succ, List.getElem_toArray, List.getElem_cons_zero, List.getElem_cons_succ])
              refine wpAnyH_take (i := 6) (v := ?_) rfl (by kernel_rfl) (by kernel_rfl) (by kernel_rfl) (fun _ _ _ h => h) (Or.inl ⟨by rfl, ?_⟩) (by assumption) ?_
              rotate_left
              · (intro w hSw; (try dsimp only at hSw); go_simp; try with_reducible rfl)
              (try simp only [Act.put, List.setIfInBounds_toArray, List.set_cons_zero, List.set_cons_succ, List.getElem_toArray, List.getElem_cons_zero, List.getElem_cons_succ])
              refine wpAnyH_take (i := 7) (v := ?_) rfl (by kernel_rfl) (by kernel_rfl) (by kernel_rfl) (fun _ _ _ h => h) (Or.inl ⟨by rfl, ?_⟩) (by assumption) ?_
              rotate_left
              · (intro w hSw; (try dsimp only at hSw); go_simp; try with_reducible rfl)
              (try simp only [Act.put, List.setIfInBounds_toArray, List.set_cons_zero, List.set_cons_succ, List.getElem_toArray, List.getElem_cons_zero, List.getElem_cons_succ])
              refine wpAnyH_take (i := 8) (v := ?_) rfl (by kernel_rfl) (by kernel_rfl) (by kernel_rfl) (fun _ _ _ h => h) (Or.inl ⟨by rfl, ?_⟩) (by assumption) ?_
              rotate_left
              · (intro w hSw; (try dsimp only at hSw); go_simp; try with_reducible rfl)
              (try simp only [Act.put, List.setIfInBounds_toArray, List.set_cons_zero, List.set_cons_succ, List.getElem_toArray, List.getElem_cons_zero, List.getElem_cons_succ])
              refine wpAnyH_take (i := 9) (v := ?_) rfl (by kernel_rfl) (by kernel_rfl) (by kernel_rfl) (fun _ _ _ h => h) (Or.inl ⟨by rfl, ?_⟩) (by assumption) ?_
              rotate_left
              · (intro w hSw; (try dsimp only at hSw); go_simp; try with_reducible rfl)
              (try simp only [Act.put, List.setIfInBounds_toArray, List.set_cons_zero, List.set_cons_succ, List.getElem_toArray, List.getElem_cons_zero, List.getElem_cons_succ])
              refine wpAnyH_take (i := 10) (v := ?_) rfl (by kernel_rfl) (by kernel_rfl) (by kernel_rfl) (fun _ _ _ h => h) (Or.inl ⟨by rfl, ?_⟩) (by assumption) ?_
              rotate_left
              · (intro w hSw; (try dsimp only at hSw); go_simp; try with_reducible rfl)
              (try simp only [Act.put, List.setIfInBounds_toArray, List.set_cons_zero, List.set_cons_succ, List.getElem_toArray, List.getElem_cons_zero, List.getElem_cons_succ])
              refine wpAnyH_take (i := 11) (v := ?_) rfl (by kernel_rfl) (by kernel_rfl) (by kernel_rfl) (fun _ _ _ h => h) (Or.inl ⟨by rfl, ?_⟩) (by assumption) ?_
              rotate_left
              · (intro w hSw; (try dsimp only at hSw); go_simp; try with_reducible rfl)
              (try simp only [Act.put, List.setIfInBounds_toArray, List.set_cons_zero, List.set_cons_succ, List.getElem_toArray, List.getElem_cons_zero, List.getElem_cons_succ])
              refine wpAnyH_take (i := 12) (v := ?_) rfl (by kernel_rfl) (by kernel_rfl) (by kernel_rfl) (fun _ _ _ h => h) (Or.inl ⟨by rfl, ?_⟩) (by assumption) ?_
              rotate_left
              · (intro w hSw; (try dsimp only at hSw); go_simp; try with_reducible rfl)
              (try simp only [Act.put, List.setIfInBounds_toArray, List.set_cons_zero, List.set_cons_succ, List.getElem_toArray, List.getElem_cons_zero, List.getElem_cons_succ])
              refine wpAnyH_take (i := 13) (v := ?_) rfl (by kernel_rfl) (by kernel_rfl) (by kernel_rfl) (fun _ _ _ h => h) (Or.inl ⟨by rfl, ?_⟩) (by assumption) ?_
              rotate_left
              · (intro w hSw; (try dsimp only at hSw); go_simp; try with_reducible rfl)
              (try simp only [Act.put, List.setIfInBounds_toArray, List.set_cons_zero, List.set_cons_succ, List.getElem_toArray, List.getElem_cons_zero, List.getElem_cons_succ])
              refine wpAnyH_take (i := 14) (v := ?_) rfl (by kernel_rfl) (by kernel_rfl) (by kernel_rfl) (fun _ _ _ h => h) (Or.inl ⟨by rfl, ?_⟩) (by assumption) ?_
              rotate_left
              · (intro w hSw; (try dsimp only at hSw); go_simp; try with_reducible rfl)
              (try simp only [Act.put, List.setIfInBounds_toArray, List.set_cons_zero, List.set_cons_succ, List.getElem_toArray, List.getElem_cons_zero, List.getElem_cons_succ])
              refine wpAnyH_take (i := 15) (v := ?_) rfl (by kernel_rfl) (by kernel_rfl) (by kernel_rfl) (fun _ _ _ h => h) (Or.inl ⟨by rfl, ?_⟩) (by assumption) ?_
              rotate_left
              · (intro w hSw; (try dsimp only at hSw); go_simp; try with_reducible rfl)
              (try simp only [Act.put, List.setIfInBounds_toArray, List.set_cons_zero, List.set_cons_succ, List.getElem_toArray, List.getElem_cons_zero, List.getElem_cons_succ])
              refine wpAnyH_take (i := 16) (v := ?_) rfl (by kernel_rfl) (by kernel_rfl) (by kernel_rfl) (fun _ _ _ h => h) (Or.inl ⟨by rfl, ?_⟩) (by assumption) ?_
              rotate_left
              · (intro w hSw; (try dsimp only at hSw); go_simp; try with_reducible rfl)
              (try simp only [Act.put, List.setIfInBounds_toArray, List.set_cons_zero, List.set_cons_succ, List.getElem_toArray, List.getElem_cons_zero, List.getElem_cons_succ])
              refine wpAnyH_take (i := 17) (v := ?_) rfl (by kernel_rfl) (by kernel_rfl) (by kernel_rfl) (fun _ _ _ h => h) (Or.inl ⟨by rfl, ?_⟩) (by assumption) ?_
              rotate_left
              · (intro w hSw; (try dsimp only at hSw); go_simp; try with_reducible rfl)
              (try simp only [Act.put, List.setIfInBounds_toArray, List.set_cons_zero, List.set_cons_succ, List.getElem_toArray, List.getElem_cons_zero, List.getElem_cons_succ])
              refine wpAnyH_ready (rs := [18]) (by kernel_rfl) (by simp) ?_
              refine AllReadyH.cons rfl (fun K hK => ?_) ?_
              · (go_simp; have fB : (w9.alloc (.cells #[.int .u8 (97 + (n2 : Int))] 5)).drew.cell? ⟨w9.heap.size, 0, none⟩ = some (.int .u8 ((97 + n2 : Nat) : Int)) := cell_at (alloc_new (w := w9) _) 0; have f10 : ∀ j, (w9.alloc (.cells #[.int .u8 (97 + (n2 : Int))] 5)).drew.cell? ⟨w8.heap.size, j, none⟩ = (#[.int .i64 (s2 : Int), .int .i64 0, .int .i64 (n2 : Int), .string (oneB (97 + n2))] : Array Value)[j]? := fun j => cell_at (alloc_old (w := w9) HP.out (.cells #[.int .u8 (97 + (n2 : Int))] 5)) j; have fS10 : (w9.alloc (.cells #[.int .u8 (97 + (n2 : Int))] 5)).drew.cell? ⟨w3.heap.size, s2, none⟩ = some (.int .i64 (n2 : Int)) := (cell_at (alloc_old (w := w9) HX.out (.cells #[.int .u8 (97 + (n2 : Int))] 5)) s2).trans ((nxA_get _ _ hs2).trans (by rw [HNE.out])))
                refine hK.out _ _ ?_ (fun hHeld1 => ?_)
                · (try dsimp only); first | exact ⟨f9, fS⟩ | with_reducible exact ⟨f10, fS10⟩ | exact ⟨f10, fS10⟩
                clear hK K hHeld0
                (try simp only [Act.put, List.setIfInBounds_toArray, List.set_cons_zero, List.set_cons_succ, List.getElem_toArray, List.getElem_cons_zero, List.getElem_cons_succ])
                refine wpAnyH_ready (rs := [19]) (by kernel_rfl) (by simp) ?_
                refine AllReadyH.cons rfl (fun K hK => ?_) ?_
                · (refine conv_one_wp 28 9 5 w9.heap.size (97 + n2) _ rfl rfl (by omega) Try.underlying28 Try.underlying5 Try.underlying9 fB ?_)
                  refine hK.out _ _ ?_ (fun hHeld2 => ?_)
                  · (try dsimp only); first | exact ⟨f9, fS⟩ | with_reducible exact ⟨f10, fS10⟩ | exact ⟨f10, fS10⟩
                  clear hK K hHeld1
                  (try simp only [Act.put, List.setIfInBounds_toArray, List.set_cons_zero, List.set_cons_succ, List.getElem_toArray, List.getElem_cons_zero, List.getElem_cons_succ])
                  refine wpAnyH_take (i := 20) (v := ?_) rfl (by kernel_rfl) (by kernel_rfl) (by kernel_rfl) (fun _ _ _ h => h) (Or.inl ⟨by rfl, ?_⟩) (by assumption) ?_
                  rotate_left
                  · (intro w hSw; (try dsimp only at hSw); go_simp; try with_reducible rfl)
                  (try simp only [Act.put, List.setIfInBounds_toArray, List.set_cons_zero, List.set_cons_succ, List.getElem_toArray, List.getElem_cons_zero, List.getElem_cons_succ])
                  refine wpAnyH_take (i := 21) (v := ?_) rfl (by kernel_rfl) (by kernel_rfl) (by kernel_rfl) (fun _ _ _ h => h) (Or.inl ⟨by rfl, ?_⟩) (by assumption) ?_
                  rotate_left
                  · (intro w hSw; (try dsimp only at hSw); go_simp; try with_reducible rfl)
                  (try simp only [Act.put, List.setIfInBounds_toArray, List.set_cons_zero, List.set_cons_succ, List.getElem_toArray, List.getElem_cons_zero, List.getElem_cons_succ])
                  refine wpAnyH_done (by kernel_rfl) ?_ _
                  have fZ10 : (w9.alloc (.cells #[.int .u8 (97 + (n2 : Int))] 5)).drew.frozen? ⟨w3.heap.size, s2, none⟩ = false := frozen_at (alloc_old (w := w9) HX.out (.cells #[.int .u8 (97 + (n2 : Int))] 5)) s2
                  have hX10 : (w9.alloc (.cells #[.int .u8 (97 + (n2 : Int))] 5)).drew.heap[w3.heap.size]? = _ := alloc_old (w := w9) HX.out (.cells #[.int .u8 (97 + (n2 : Int))] 5)
                  have hB10 := (HB.out.alloc (.cells #[.int .u8 (97 + (n2 : Int))] 5)).drew
                  have hC10 : CellsOff (w9.alloc (.cells #[.int .u8 (97 + (n2 : Int))] 5)).drew p6 (flatK A') (w3.heap.size :: B) := HC.out.below (((Below.refl _ _).alloc (Nat.le_refl _) (.cells #[.int .u8 (97 + (n2 : Int))] 5)).drew)
                  have hw10 := (HWW.out.alloc HWW.out.size (.cells #[.int .u8 (97 + (n2 : Int))] 5)).drew
                  clear HX HB HC HWW HP fS f9 fB hHeld2
                  generalize (w9.alloc (.cells #[.int .u8 (97 + (n2 : Int))] 5)).drew = wz at *
                  have HX := Lib.hid hX10
                  have HB := Lib.hid hB10
                  have HC := Lib.hid hC10
                  have HWW := Lib.hid hw10
                  have hG2 : (G2 : Int) ≤ 25 := by omega
                  clear hX10 hB10 hC10 hw10 hV2
                  go_wp2
                  go_roundw
                  case rel =>
                    have ho : Only [w3.heap.size] wz (wz.setCell ⟨w3.heap.size, s2, none⟩ (.int .i64 ((n2 : Int) + 1))) := Only.setCell (p := ⟨w3.heap.size, s2, none⟩) (Only.refl _ _) (List.mem_singleton.2 rfl) _
                    have hx := set_at HX.out s2 (.int .i64 ((n2 : Int) + 1))
                    rw [HNE.out, nxA_set] at hx
                    refine ⟨ws3, (fun t => if t = s2 then N2 s2 + 1 else N2 t), nx', G2 + 1, by go_num, by omega, HB.out.only ho (fun k hk hm => HNB.out (List.mem_singleton.1 hm ▸ hk)), HR4, Lib.hid ?_, HC.out.only ho (fun x hx => List.mem_singleton.1 hx ▸ List.mem_cons_self ..), HWW.out.trans (only_below ho (fun k hk => List.mem_singleton.1 hk ▸ hwc2) HWW.out.size)⟩
                    rw [HNE.out]
                    exact hx
                  case measure => simp [intOf] <;> omega
                exact AllReadyH.nil
              exact AllReadyH.nil
      · have hiI : ¬ (i : Int) < (A0.length : Int) := by omega
        have hA0 : A = [] := List.eq_nil_of_length_eq_zero (by omega)
        subst hA0
        obtain ⟨hRI, hNX, hrn⟩ := HI.out
        have hw0 := hRI.done hNX hrn
        subst hw0
        obtain rfl : G = A0.length := by simpa using hT
        have K3 := Lib.hid (fun w h => box_waits w b B ⟨R, [], [], nx⟩ h)
        have K4 := Lib.hid (fun w h => box_len w b B ⟨R, [], [], nx⟩ h)
        clear HI hRI hNX hrn HC HX HR'
        go_wp2_with (first | (go_at_call 16; ((with_reducible refine (K3.out _ (by first | exact HB.out | exact HB.out.drewN _ | exact HB.out.drew)).mono ?_); rintro e w' ⟨rfl, k, rfl⟩)) | (go_at_call 17; ((with_reducible refine (K4.out _ (by first | exact HB.out | exact HB.out.drewN _ | exact HB.out.drew | exact (HB.out.drewN _).drewN _)).mono ?_); rintro e w' ⟨rfl, k, rfl⟩)))
        go_ret
        exact ⟨rfl, by first | exact HWW.out | exact below_drewN' HWW.out _ | exact below_drewN' (below_drewN' HWW.out _) _⟩
end Go.Proofs.Ytajbfmdgnkpjgaa
