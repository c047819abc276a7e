/- The walk of InboxApart. -/
import Derived.Test.YtajbfmdgnkpjgaaInboxJ
namespace Go.Proofs.Ytajbfmdgnkpjgaa
set_option linter.unusedVariables false
set_option linter.unusedSimpArgs false
open Go.RowKit Go.ChangeMaps Go.WideShapes Go.WideMaps
/-- How many packets a source has. -/
def cntA (l : List Int) (s : Nat) : Nat := if s < l.length then (wrap64 ((IntKind.u64.wrap (l.getD s 0)).tmod 5)).toNat else 0
theorem cntA_is {l : List Int} {s : Nat} (h : s < l.length) : wrap64 ((IntKind.u64.wrap (l.getD s 0)).tmod 5) = (cntA l s : Int) := by
  obtain ⟨M, h1, h2⟩ := mod_nat (l.getD s 0) 5 (by omega) (by omega)
  unfold cntA; rw [if_pos h, h1]; omega
theorem cntA_lt (l : List Int) (s : Nat) : cntA l s < 5 := by
  unfold cntA; split
  · obtain ⟨M, h1, h2⟩ := mod_nat (l.getD s 0) 5 (by omega) (by omega)
    rw [h1]; omega
  · omega
theorem cntA_none {l : List Int} {s : Nat} (h : ¬ s < l.length) : cntA l s = 0 := by unfold cntA; rw [if_neg h]
/-- The counts, as far as they are laid. -/
def cnA (C : Nat → Nat) (s : Nat) : Array Value := ((List.range 4).map (fun j => Value.int .i64 ((if j < s then C j else 0 : Nat) : Int))).toArray
theorem cnA_get (C : Nat → Nat) (s j : Nat) (h : j < 4) : (cnA C s)[j]? = some (.int .i64 ((if j < s then C j else 0 : Nat) : Int)) := by
  unfold cnA; rw [List.getElem?_toArray, List.getElem?_map, List.getElem?_range h]; rfl
theorem cnA_set (C : Nat → Nat) (s : Nat) : (cnA C s).setIfInBounds s (.int .i64 (C s : Int)) = cnA C (s + 1) := by
  apply Array.ext_getElem?
  intro j
  rw [Array.getElem?_setIfInBounds]
  by_cases h4 : j < 4
  · rw [cnA_get _ _ _ h4]
    split
    · rename_i e
      subst e
      rw [if_pos (by unfold cnA; simp; omega), cnA_get _ _ _ h4, if_pos (by omega)]
    · rename_i e
      rw [cnA_get _ _ _ h4]
      by_cases h : j < s
      · rw [if_pos h, if_pos (by omega)]
      · rw [if_neg h, if_neg (by omega)]
  · have hn : ∀ t, (cnA C t)[j]? = none := fun t => by unfold cnA; rw [List.getElem?_toArray, List.getElem?_eq_none]; simp; omega
    rw [hn, hn]
    split
    · rename_i e
      rw [if_neg (by unfold cnA; simp; omega)]
    · rfl
theorem cnA_same {C : Nat → Nat} {s : Nat} (h : C s = 0) : cnA C s = cnA C (s + 1) := by
  rw [← cnA_set, h]
  apply Array.ext_getElem?
  intro j
  rw [Array.getElem?_setIfInBounds]
  split
  · rename_i e
    subst e
    split
    · rw [cnA_get _ _ _ (by have h5 := ‹s < (cnA C s).size›; unfold cnA at h5; simpa using h5), if_neg (Nat.lt_irrefl _)]
    · rw [Array.getElem?_eq_none (Nat.le_of_not_lt ‹_›)]
  · rfl
set_option maxRecDepth 100000 in
set_option maxHeartbeats 2000000 in
theorem inboxApart_walk (a : Option Addr) (c : Nat) (l : List Int) (gap : Int) (w : World) (hl : l.length ≤ maxLen) (hc : l.length ≤ c) (hr : IntsAt .i64 w a l) :
    Calls Try.prog 4 #[.slice a l.length c, .int .i64 gap] w fun e w' => e = .returned (.bool true) ∧ Below w.heap.size w w' := by
  obtain ⟨g, hg, hg4⟩ := mod_nat gap 4 (by omega) (by omega)
  have HV := Lib.hid lives16_calls
  have hN := fun w => box_new 64 w
  rw [show IS.new 64 = ⟨64, [], [], []⟩ from rfl] at hN
  have K0 := Lib.hid hN
  have HR := Lib.hid hr
  clear hN hr
  go_enter Try.func4, Try.ntmps4
  go_wp2_with (first
    | (go_at_call 11; ((with_reducible refine (HV.out _).mono ?_); rintro e w1 ⟨rfl, hb1⟩)) | (go_at_call 12; ((with_reducible refine (K0.out _).mono ?_); rintro e w2 ⟨b, B, rfl, hB2, hge, hb2⟩)))
  have hge2 : ∀ k ∈ B, w.heap.size ≤ k := fun k hk => Nat.le_trans hb1.size (hge k hk)
  have hbw := hb1.trans (hb2.mono hb1.size)
  have hcB : w2.heap.size ∉ B := fun hm => Nat.lt_irrefl _ (hB2.lt _ hm)
  have hcw : w.heap.size ≤ w2.heap.size := hbw.size
  have HG := Lib.hid hge2
  have HCB := Lib.hid hcB
  have HCN := Lib.hid (cntA_lt l)
  have HCI := Lib.hid (fun s => @cntA_is l s)
  have HCO := Lib.hid (fun s => @cntA_none l s)
  clear hge hge2 hb1 hb2 HV K0 hcB
  generalize cntA l = C at *
  rw [hg]
  clear hg
  go_loopw [7] (fun iv wr => ∃ (s : Nat) (ws : List Pk), s ≤ 4 ∧ iv = .int .i64 (s : Int) ∧ BoxAt wr b B ⟨64, [], ws, []⟩ ∧ Hid (Came C g s 0 ws) ∧ Hid (wr.heap[w2.heap.size]? = some (.cells (cnA C s) 38 (0, 0))) ∧ Below w.heap.size w wr) (fun iv _ => 4 - (intOf iv).toNat)
  case atStart => exact ⟨0, [], by omega, rfl, hB2.alloc _, Lib.hid (fun p => ⟨fun h => by simp at h, fun ⟨t, k, _, _, _, _, h⟩ => by omega⟩), Lib.hid (alloc_new _), hbw.alloc hcw _⟩
  case round =>
    clear hB2 hbw
    obtain ⟨s, ws, hs, rfl, hB, HCA, HX, hbw⟩ := hrel
    have HB := Lib.hid hB
    have HWW := Lib.hid hbw
    clear hB hbw
    by_cases hs4 : s < 4
    · have hsI : (s : Int) < 4 := by omega
      by_cases hsl : s < l.length
      · obtain ⟨blk, off, rfl, hx⟩ := HR.out s hsl
        have hx2 := (HWW.out.cell (p := ⟨blk, off + s, none⟩) (World.block_lt_of_cell? w _ hx)).trans hx
        have hlI : (s : Int) < (l.length : Int) := by omega
        have hci := HCI.out s hsl
        have fz := frozen_at HX.out s
        have fc := (cell_at HX.out s).trans (cnA_get _ _ _ hs4)
        have hne : blk ≠ w2.heap.size := fun e => by have := World.block_lt_of_cell? w _ hx; dsimp only at this; omega
        generalize l.getD s 0 = y at *
        clear hx
        go_wp2
        have hX2 : (wr.setCell ⟨w2.heap.size, s, none⟩ (.int .i64 (C s : Int))).heap[w2.heap.size]? = some (.cells (cnA C (s + 1)) 38 (0, 0)) := by
          have h := set_at HX.out s (.int .i64 (C s : Int))
          rw [cnA_set] at h
          exact h
        have ho : Only [w2.heap.size] wr (wr.setCell ⟨w2.heap.size, s, none⟩ (.int .i64 (C s : Int))) := Only.setCell (p := ⟨w2.heap.size, s, none⟩) (Only.refl _ _) (List.mem_singleton.2 rfl) _
        have hB3 : BoxAt (wr.setCell ⟨w2.heap.size, s, none⟩ (.int .i64 (C s : Int))) b B ⟨64, [], ws, []⟩ := HB.out.only ho (fun k hk hm => HCB.out (List.mem_singleton.1 hm ▸ hk))
        have hb3 := HWW.out.trans (only_below ho (fun k hk => List.mem_singleton.1 hk ▸ hcw) HWW.out.size)
        clear ho fz fc hne hx2 hci HX HB HWW
        generalize wr.setCell ⟨w2.heap.size, s, none⟩ (.int .i64 (C s : Int)) = w3 at *
        go_loopw [8] (fun iv wt => ∃ (n : Nat) (wt' : List Pk), n ≤ C s ∧ iv = .int .i64 (n : Int) ∧ BoxAt wt b B ⟨64, [], wt', []⟩ ∧ Hid (Came C g s n wt') ∧ Hid (wt.heap[w2.heap.size]? = some (.cells (cnA C (s + 1)) 38 (0, 0))) ∧ Below w.heap.size w wt) (fun iv _ => C s - (intOf iv).toNat)
        case atStart => exact ⟨0, ws, by omega, rfl, hB3, HCA, Lib.hid hX2, hb3⟩
        case round =>
          clear hB3 hX2 hb3 HCA
          obtain ⟨n, wt, hn, rfl, hB, HCT, HX, hbw⟩ := hrel
          have HB := Lib.hid hB
          have HWW := Lib.hid hbw
          have fc := (cell_at HX.out s).trans ((cnA_get _ _ _ hs4).trans (by rw [if_pos (Nat.lt_succ_self s)]))
          clear hB hbw
          have hC5 := HCN.out s
          by_cases hnC : n < C s
          · have hnI : (n : Int) < (C s : Int) := by omega
            by_cases hsg : s = g
            · have hb1 : ((s : Int) == (g : Int)) = true := beq_iff_eq.2 (by omega)
              by_cases hn0 : n = 0
              · have hb2 : ((n : Int) == 0) = true := beq_iff_eq.2 (by omega)
                have HS := Lib.hid (And.intro hsg hn0)
                clear hsg hn0
                go_wp2
                go_roundw
                case rel => exact ⟨n + 1, _, by omega, by go_num, HB.out, Lib.hid (HCT.out.skip HS.out), HX, HWW.out⟩
                case measure => simp [intOf] <;> omega
              · have hb2 : ((n : Int) == 0) = false := beq_eq_false_iff_ne.2 (by omega)
                have HS : Hid (¬ (s = g ∧ n = 0)) := Lib.hid (by omega)
                clear hsg hn0
                have F1 := fun w h => box_come (Ps s n) w b B ⟨64, [], wt, []⟩ (wf_small (by show (0 : Int) ≤ (s : Int); omega) (by show (s : Int) < 65536; omega)) (wf_small (by show (0 : Int) ≤ (n : Int); omega) (by show (n : Int) < 65536; omega)) h
                rw [HCT.out.come hs4 (by omega)] at F1
                unfold Ps at F1
                dsimp only [Pk.val] at F1
                have K1 := Lib.hid F1
                clear F1
                go_wp2_with (first | (go_at_call 13; (with_reducible refine (K1.out _ HB.out).mono ?_); rintro e w4 ⟨rfl, hBn, hOn⟩; have HX4 := Lib.hid (hOn.at HX.out HCB.out); have HB := Lib.hid hBn; have HWW := Lib.hid (HWW.out.trans (only_below hOn HG.out HWW.out.size)); clear hBn hOn))
                go_roundw
                case rel => exact ⟨n + 1, _, by omega, by go_num, HB.out, Lib.hid (HCT.out.add hs4 hnC HS.out), HX4, HWW.out⟩
                case measure => simp [intOf] <;> omega
            · have hb1 : ((s : Int) == (g : Int)) = false := beq_eq_false_iff_ne.2 (by omega)
              have HS : Hid (¬ (s = g ∧ n = 0)) := Lib.hid (by omega)
              clear hsg
              have F1 := fun w h => box_come (Ps s n) w b B ⟨64, [], wt, []⟩ (wf_small (by show (0 : Int) ≤ (s : Int); omega) (by show (s : Int) < 65536; omega)) (wf_small (by show (0 : Int) ≤ (n : Int); omega) (by show (n : Int) < 65536; omega)) h
              rw [HCT.out.come hs4 (by omega)] at F1
              unfold Ps at F1
              dsimp only [Pk.val] at F1
              have K1 := Lib.hid F1
              clear F1
              go_wp2_with (first | (go_at_call 13; (with_reducible refine (K1.out _ HB.out).mono ?_); rintro e w4 ⟨rfl, hBn, hOn⟩; have HX4 := Lib.hid (hOn.at HX.out HCB.out); have HB := Lib.hid hBn; have HWW := Lib.hid (HWW.out.trans (only_below hOn HG.out HWW.out.size)); clear hBn hOn))
              go_roundw
              case rel => exact ⟨n + 1, _, by omega, by go_num, HB.out, Lib.hid (HCT.out.add hs4 hnC HS.out), HX4, HWW.out⟩
              case measure => simp [intOf] <;> omega
          · have hnI : ¬ (n : Int) < (C s : Int) := by omega
            go_wp2
            go_roundw
            case rel => exact ⟨s + 1, _, by omega, by go_num, HB.out, Lib.hid (HCT.out.next hnC), HX, HWW.out⟩
            case measure => simp [intOf] <;> omega
      · have hlI : ¬ ((s : Int) < (l.length : Int)) := by omega
        have hX2 := HX.out
        rw [cnA_same (HCO.out s hsl)] at hX2
        have hB3 := HB.out
        have hb3 := HWW.out
        clear HX HB HWW
        go_wp2
        go_loopw [8] (fun iv wt => ∃ (n : Nat) (wt' : List Pk), n ≤ C s ∧ iv = .int .i64 (n : Int) ∧ BoxAt wt b B ⟨64, [], wt', []⟩ ∧ Hid (Came C g s n wt') ∧ Hid (wt.heap[w2.heap.size]? = some (.cells (cnA C (s + 1)) 38 (0, 0))) ∧ Below w.heap.size w wt) (fun iv _ => C s - (intOf iv).toNat)
        case atStart => exact ⟨0, ws, by omega, rfl, hB3, HCA, Lib.hid hX2, hb3⟩
        case round =>
          clear hB3 hX2 hb3 HCA
          obtain ⟨n, wt, hn, rfl, hB, HCT, HX, hbw⟩ := hrel
          have HB := Lib.hid hB
          have HWW := Lib.hid hbw
          have fc := (cell_at HX.out s).trans ((cnA_get _ _ _ hs4).trans (by rw [if_pos (Nat.lt_succ_self s)]))
          clear hB hbw
          have hC5 := HCN.out s
          by_cases hnC : n < C s
          · have hnI : (n : Int) < (C s : Int) := by omega
            by_cases hsg : s = g
            · have hb1 : ((s : Int) == (g : Int)) = true := beq_iff_eq.2 (by omega)
              by_cases hn0 : n = 0
              · have hb2 : ((n : Int) == 0) = true := beq_iff_eq.2 (by omega)
                have HS := Lib.hid (And.intro hsg hn0)
                clear hsg hn0
                go_wp2
                go_roundw
                case rel => exact ⟨n + 1, _, by omega, by go_num, HB.out, Lib.hid (HCT.out.skip HS.out), HX, HWW.out⟩
                case measure => simp [intOf] <;> omega
              · have hb2 : ((n : Int) == 0) = false := beq_eq_false_iff_ne.2 (by omega)
                have HS : Hid (¬ (s = g ∧ n = 0)) := Lib.hid (by omega)
                clear hsg hn0
                have F1 := fun w h => box_come (Ps s n) w b B ⟨64, [], wt, []⟩ (wf_small (by show (0 : Int) ≤ (s : Int); omega) (by show (s : Int) < 65536; omega)) (wf_small (by show (0 : Int) ≤ (n : Int); omega) (by show (n : Int) < 65536; omega)) h
                rw [HCT.out.come hs4 (by omega)] at F1
                unfold Ps at F1
                dsimp only [Pk.val] at F1
                have K1 := Lib.hid F1
                clear F1
                go_wp2_with (first | (go_at_call 13; (with_reducible refine (K1.out _ HB.out).mono ?_); rintro e w4 ⟨rfl, hBn, hOn⟩; have HX4 := Lib.hid (hOn.at HX.out HCB.out); have HB := Lib.hid hBn; have HWW := Lib.hid (HWW.out.trans (only_below hOn HG.out HWW.out.size)); clear hBn hOn))
                go_roundw
                case rel => exact ⟨n + 1, _, by omega, by go_num, HB.out, Lib.hid (HCT.out.add hs4 hnC HS.out), HX4, HWW.out⟩
                case measure => simp [intOf] <;> omega
            · have hb1 : ((s : Int) == (g : Int)) = false := beq_eq_false_iff_ne.2 (by omega)
              have HS : Hid (¬ (s = g ∧ n = 0)) := Lib.hid (by omega)
              clear hsg
              have F1 := fun w h => box_come (Ps s n) w b B ⟨64, [], wt, []⟩ (wf_small (by show (0 : Int) ≤ (s : Int); omega) (by show (s : Int) < 65536; omega)) (wf_small (by show (0 : Int) ≤ (n : Int); omega) (by show (n : Int) < 65536; omega)) h
              rw [HCT.out.come hs4 (by omega)] at F1
              unfold Ps at F1
              dsimp only [Pk.val] at F1
              have K1 := Lib.hid F1
              clear F1
              go_wp2_with (first | (go_at_call 13; (with_reducible refine (K1.out _ HB.out).mono ?_); rintro e w4 ⟨rfl, hBn, hOn⟩; have HX4 := Lib.hid (hOn.at HX.out HCB.out); have HB := Lib.hid hBn; have HWW := Lib.hid (HWW.out.trans (only_below hOn HG.out HWW.out.size)); clear hBn hOn))
              go_roundw
              case rel => exact ⟨n + 1, _, by omega, by go_num, HB.out, Lib.hid (HCT.out.add hs4 hnC HS.out), HX4, HWW.out⟩
              case measure => simp [intOf] <;> omega
          · have hnI : ¬ (n : Int) < (C s : Int) := by omega
            go_wp2
            go_roundw
            case rel => exact ⟨s + 1, _, by omega, by go_num, HB.out, Lib.hid (HCT.out.next hnC), HX, HWW.out⟩
            case measure => simp [intOf] <;> omega
    · have hsI : ¬ ((s : Int) < 4) := by omega
      have e4 : s = 4 := by omega
      rw [e4] at HX HCA
      have HL0 := Lib.hid HCA.out.left
      clear e4 HCA HR
      go_wp2
      go_loopw [9] (fun iv wr => ∃ (s : Nat) (ws : List Pk) (nx : List (Int × Int)), s ≤ 4 ∧ iv = .int .i64 (s : Int) ∧ BoxAt wr b B ⟨64, [], ws, nx⟩ ∧ Hid (Left C g s 0 ws nx) ∧ Hid (wr.heap[w2.heap.size]? = some (.cells (cnA C 4) 38 (0, 0))) ∧ Below w.heap.size w wr) (fun iv _ => 4 - (intOf iv).toNat)
      case atStart => exact ⟨0, ws, [], by omega, rfl, HB.out, HL0, HX, HWW.out⟩
      case round =>
        clear HB HWW HX HL0 hs hsI hs4
        obtain ⟨s, ws, nx, hs, rfl, hB, HL, HX, hbw⟩ := hrel
        have HB := Lib.hid hB
        have HWW := Lib.hid hbw
        clear hB hbw
        by_cases hs4 : s < 4
        · have hsI : (s : Int) < 4 := by omega
          go_wp2
          go_loopw [10] (fun iv wr => ∃ (n : Nat) (ws : List Pk) (nx : List (Int × Int)), n ≤ C s ∧ (s = g → n = 0) ∧ iv = .int .i64 (n : Int) ∧ BoxAt wr b B ⟨64, [], ws, nx⟩ ∧ Hid (Left C g s n ws nx) ∧ Hid (wr.heap[w2.heap.size]? = some (.cells (cnA C 4) 38 (0, 0))) ∧ Below w.heap.size w wr) (fun iv _ => C s - (intOf iv).toNat)
          case atStart => exact ⟨0, ws, nx, by omega, fun _ => rfl, rfl, HB.out, HL, HX, HWW.out⟩
          case round =>
            clear HB HWW HX HL
            obtain ⟨n, wt, nt, hn, hng, rfl, hB, HL, HX, hbw⟩ := hrel
            have HB := Lib.hid hB
            have HWW := Lib.hid hbw
            have fc := (cell_at HX.out s).trans ((cnA_get _ _ _ hs4).trans (by rw [if_pos hs4]))
            clear hB hbw
            have hC5 := HCN.out s
            by_cases hnC : n < C s
            · have hnI : (n : Int) < (C s : Int) := by omega
              by_cases hsg : s = g
              · have hb1 : ((s : Int) != (g : Int)) = false := by rw [hsg]; simp
                have HE := Lib.hid (And.intro hsg (hng hsg))
                clear hsg hng
                go_wp2
                go_roundw
                case rel => exact ⟨s + 1, _, _, by omega, by go_num, HB.out, Lib.hid (HL.out.next hn (.inr HE.out)), HX, HWW.out⟩
                case measure => simp [intOf] <;> omega
              · have hb1 : ((s : Int) != (g : Int)) = true := bne_iff_ne.2 (by omega)
                obtain ⟨ws', nx', e1, HL2⟩ := HL.out.told (N := 64) HB.out.ok.kd hs4 hnC hC5 hsg (by omega)
                have F1 := fun w h => box_tell w b B ⟨64, [], wt, nt⟩ h
                rw [e1] at F1
                have F2 := fun w h => box_recv w b B ⟨64, [Ps s n], ws', nx'⟩ h
                rw [IS.recv_cons] at F2
                unfold Ps at F1 F2
                dsimp only [Pk.val] at F1 F2
                have K1 := Lib.hid F1
                have K2 := Lib.hid F2
                have HL := Lib.hid HL2
                have HSG := Lib.hid hsg
                clear F1 F2 e1 HL2 hng hsg
                go_wp2_with (first | (go_at_call 14; (with_reducible refine (K1.out _ HB.out).mono ?_); rintro e w4 ⟨rfl, hBn, hOn⟩; have HX4 := hOn.at HX.out HCB.out; have HX := Lib.hid HX4; have HB := Lib.hid hBn; have HWW := Lib.hid (HWW.out.trans (only_below hOn HG.out HWW.out.size)); clear hBn hOn HX4) | (go_at_call 15; (with_reducible refine (K2.out _ HB.out).mono ?_); rintro e w5 ⟨rfl, hBn, hOn⟩; have HX4 := hOn.at HX.out HCB.out; have HX := Lib.hid HX4; have HB := Lib.hid hBn; have HWW := Lib.hid (HWW.out.trans (only_below hOn HG.out HWW.out.size)); clear hBn hOn HX4))
                go_roundw
                case rel => exact ⟨n + 1, _, _, by omega, fun e => absurd e HSG.out, by go_num, HB.out.alloc _, HL, Lib.hid (alloc_old HX.out _), HWW.out.alloc HWW.out.size _⟩
                case measure => simp [intOf] <;> omega
            · have hnI : ¬ ((n : Int) < (C s : Int)) := by omega
              go_wp2
              go_roundw
              case rel => exact ⟨s + 1, _, _, by omega, by go_num, HB.out, Lib.hid (HL.out.next hn (.inl hnC)), HX, HWW.out⟩
              case measure => simp [intOf] <;> omega
        · have hsI : ¬ ((s : Int) < 4) := by omega
          have e4 : s = 4 := by omega
          rw [e4] at HL
          clear e4
          have hgN : g < 4 := by omega
          have hC5 := HCN.out g
          have hwr : ((C g - 1 : Nat) : Int) = max (IntKind.i64.wrap ((C g : Int) - 1)) 0 := by
            have e : IntKind.i64.wrap ((C g : Int) - 1) = (C g : Int) - 1 := by simp [IntKind.wrap, IntKind.bits, IntKind.signed]; omega
            rw [e]; omega
          obtain ⟨er, el, en⟩ := HL.out.stop (N := 64) (q := []) HB.out.ok.kd hgN
          have fc := (cell_at HX.out g).trans ((cnA_get _ _ _ hgN).trans (by rw [if_pos hgN]))
          have F1 := fun w h => box_tell w b B ⟨64, [], ws, nx⟩ h
          rw [IS.tell_none er] at F1
          have F2 := fun w h => box_isready w b B ⟨64, [], ws, nx⟩ h
          rw [er] at F2
          dsimp only [Option.isSome_none] at F2
          have F3 := fun w h => box_waits w b B ⟨64, [], ws, nx⟩ h
          have F4 := fun w h => box_next w b B ⟨64, [], ws, nx⟩ (g : Int) (wf_small (by omega) (by omega)) h
          unfold IS.next at F4
          dsimp only at F3 F4
          rw [en] at F4
          rw [el, hwr] at F3
          have K1 := Lib.hid F1
          have K2 := Lib.hid F2
          have K3 := Lib.hid F3
          have K4 := Lib.hid F4
          clear F1 F2 F3 F4 er el en hwr
          go_upto_region 28 with (fail)
          clear HL HCI HCO hs4 hsI hs hcw
          refine wp_region_held_drew (S := (fun w' => w'.cell? ⟨w2.heap.size, g, none⟩ = some (.int .i64 (C g : Int)))) (by kernel_rfl) ?_ (fun hHeld0 => ?_)
          · (try dsimp only); first | exact f5 | exact fc
          refine wpAnyH_take (i := 0) (v := ?_) rfl (by kernel_rfl) (by kernel_rfl) (by kernel_rfl) (fun _ _ _ h => h) (Or.inl ⟨by rfl, ?_⟩) (by assumption) ?_
          rotate_left
          · (intro w hSw; (try dsimp only at hSw); go_simp; try with_reducible rfl)
          (try simp only [Act.put, List.setIfInBounds_toArray, List.set_cons_zero, List.set_cons_succ, List.getElem_toArray, List.getElem_cons_zero, List.getElem_cons_succ])
          refine wpAnyH_ready (rs := [1]) (by kernel_rfl) (by simp) ?_
          refine AllReadyH.cons rfl (fun K hK => ?_) ?_
          · (go_simp; go_at_call 14; ((with_reducible refine (K1.out _ (by first | exact HB.out | exact HB.out.drew | exact HB.out.drewN _ | exact HB.out.drew.drewN _ | exact (HB.out.drewN _).drewN _)).mono ?_); rintro e w4 ⟨rfl, hBn, hOn⟩; have hX4 := hOn.at (by first | exact HX.out | exact drewN_at HX.out _) HCB.out; have f5 := (cell_at hX4 g).trans ((cnA_get _ _ _ hgN).trans (by rw [if_pos hgN])); have HX := Lib.hid hX4; have HB := Lib.hid hBn; have HW4 : Hid (Below w.heap.size w w4) := Lib.hid (HWW.out.drew.trans (only_below hOn HG.out HWW.out.size)); clear hBn hOn hX4))
            refine hK.out _ _ ?_ (fun hHeld1 => ?_)
            · (try dsimp only); first | exact f5 | exact fc
            clear hK K hHeld0
            (try simp only [Act.put, List.setIfInBounds_toArray, List.set_cons_zero, List.set_cons_succ, List.getElem_toArray, List.getElem_cons_zero, List.getElem_cons_succ])
            refine wpAnyH_take (i := 2) (v := ?_) rfl (by kernel_rfl) (by kernel_rfl) (by kernel_rfl) (fun _ _ _ h => h) (Or.inl ⟨by rfl, ?_⟩) (by assumption) ?_
            rotate_left
            · (intro w hSw; (try dsimp only at hSw); go_simp; try with_reducible rfl)
            (try simp only [Act.put, List.setIfInBounds_toArray, List.set_cons_zero, List.set_cons_succ, List.getElem_toArray, List.getElem_cons_zero, List.getElem_cons_succ])
            refine wpAnyH_take (i := 3) (v := ?_) rfl (by kernel_rfl) (by kernel_rfl) (by kernel_rfl) (fun _ _ _ h => h) (Or.inl ⟨by rfl, ?_⟩) (by assumption) ?_
            rotate_left
            · (intro w hSw; (try dsimp only at hSw); go_simp; try with_reducible rfl)
            (try simp only [Act.put, List.setIfInBounds_toArray, List.set_cons_zero, List.set_cons_succ, List.getElem_toArray, List.getElem_cons_zero, List.getElem_cons_succ])
            refine wpAnyH_take (i := 4) (v := ?_) rfl (by kernel_rfl) (by kernel_rfl) (by kernel_rfl) (fun _ _ _ h => h) (Or.inl ⟨by rfl, ?_⟩) (by assumption) ?_
            rotate_left
            · (intro w hSw; (try dsimp only at hSw); go_simp; try with_reducible rfl)
            (try simp only [Act.put, List.setIfInBounds_toArray, List.set_cons_zero, List.set_cons_succ, List.getElem_toArray, List.getElem_cons_zero, List.getElem_cons_succ])
            refine wpAnyH_ready (rs := [5]) (by kernel_rfl) (by simp) ?_
            refine AllReadyH.cons rfl (fun K hK => ?_) ?_
            · (go_simp; go_at_call 18; ((with_reducible refine (K2.out _ (by first | exact HB.out | exact HB.out.drew | exact HB.out.drewN _ | exact HB.out.drew.drewN _ | exact (HB.out.drewN _).drewN _)).mono ?_); rintro e w5 ⟨rfl, hb5⟩; have hX5 := Below.at hb5 (by first | exact HX.out | exact drewN_at HX.out _) (block_lt HX.out); have f5 := (cell_at hX5 g).trans ((cnA_get _ _ _ hgN).trans (by rw [if_pos hgN])); have HX := Lib.hid hX5; have hB5 := BoxAt.below (by first | exact HB.out | exact HB.out.drew | exact HB.out.drewN _ | exact HB.out.drew.drewN _ | exact (HB.out.drewN _).drewN _) hb5; have HB := Lib.hid hB5; have hw5 := HW4.out.trans (hb5.mono HW4.out.size); have HW5 := Lib.hid hw5; clear hb5 hX5 hB5 hw5))
              refine hK.out _ _ ?_ (fun hHeld2 => ?_)
              · (try dsimp only); first | exact f5 | exact fc
              clear hK K hHeld1
              (try simp only [Act.put, List.setIfInBounds_toArray, List.set_cons_zero, List.set_cons_succ, List.getElem_toArray, List.getElem_cons_zero, List.getElem_cons_succ])
              refine wpAnyH_take (i := 6) (v := ?_) rfl (by kernel_rfl) (by kernel_rfl) (by kernel_rfl) (fun _ _ _ h => h) (Or.inl ⟨by rfl, ?_⟩) (by assumption) ?_
              rotate_left
              · (intro w hSw; (try dsimp only at hSw); go_simp; try with_reducible rfl)
              (try simp only [Act.put, List.setIfInBounds_toArray, List.set_cons_zero, List.set_cons_succ, List.getElem_toArray, List.getElem_cons_zero, List.getElem_cons_succ])
              refine wpAnyH_take (i := 7) (v := ?_) rfl (by kernel_rfl) (by kernel_rfl) (by kernel_rfl) (fun _ _ _ h => h) (Or.inl ⟨by rfl, ?_⟩) (by assumption) ?_
              rotate_left
              · (intro w hSw; (try dsimp only at hSw); go_simp; try with_reducible rfl)
              (try simp only [Act.put, List.setIfInBounds_toArray, List.set_cons_zero, List.set_cons_succ, List.getElem_toArray, List.getElem_cons_zero, List.getElem_cons_succ])
              refine wpAnyH_take (i := 8) (v := ?_) rfl (by kernel_rfl) (by kernel_rfl) (by kernel_rfl) (fun _ _ _ h => h) (Or.inl ⟨by rfl, ?_⟩) (by assumption) ?_
              rotate_left
              · (intro w hSw; (try dsimp only at hSw); go_simp; try with_reducible rfl)
              (try simp only [Act.put, List.setIfInBounds_toArray, List.set_cons_zero, List.set_cons_succ, List.getElem_toArray, List.getElem_cons_zero, List.getElem_cons_succ])
              refine wpAnyH_take (i := 9) (v := ?_) rfl (by kernel_rfl) (by kernel_rfl) (by kernel_rfl) (fun _ _ _ h => h) (Or.inl ⟨by rfl, ?_⟩) (by assumption) ?_
              rotate_left
              · (intro w hSw; (try dsimp only at hSw); go_simp; try with_reducible rfl)
              (try simp only [Act.put, List.setIfInBounds_toArray, List.set_cons_zero, List.set_cons_succ, List.getElem_toArray, List.getElem_cons_zero, List.getElem_cons_succ])
              refine wpAnyH_take (i := 11) (v := ?_) rfl (by kernel_rfl) (by kernel_rfl) (by kernel_rfl) (fun _ _ _ h => h) (Or.inl ⟨by rfl, ?_⟩) (by assumption) ?_
              rotate_left
              · (intro w hSw; (try dsimp only at hSw); go_simp; try with_reducible rfl)
              (try simp only [Act.put, List.setIfInBounds_toArray, List.set_cons_zero, List.set_cons_succ, List.getElem_toArray, List.getElem_cons_zero, List.getElem_cons_succ])
              refine wpAnyH_take (i := 12) (v := ?_) rfl (by kernel_rfl) (by kernel_rfl) (by kernel_rfl) (fun _ _ _ h => h) (Or.inl ⟨by rfl, ?_⟩) (by assumption) ?_
              rotate_left
              · (intro w hSw; (try dsimp only at hSw); go_simp; try with_reducible rfl)
              (try simp only [Act.put, List.setIfInBounds_toArray, List.set_cons_zero, List.set_cons_succ, List.getElem_toArray, List.getElem_cons_zero, List.getElem_cons_succ])
              refine wpAnyH_take (i := 13) (v := ?_) rfl (by kernel_rfl) (by kernel_rfl) (by kernel_rfl) (fun _ _ _ h => h) (Or.inl ⟨by rfl, ?_⟩) (by assumption) ?_
              rotate_left
              · (intro w hSw; (try dsimp only at hSw); go_simp; try with_reducible rfl)
              (try simp only [Act.put, List.setIfInBounds_toArray, List.set_cons_zero, List.set_cons_succ, List.getElem_toArray, List.getElem_cons_zero, List.getElem_cons_succ])
              refine wpAnyH_take (i := 14) (v := ?_) rfl (by kernel_rfl) (by kernel_rfl) (by kernel_rfl) (fun _ _ _ h => h) (Or.inl ⟨by rfl, ?_⟩) (by assumption) ?_
              rotate_left
              · (intro w hSw; (try dsimp only at hSw); go_simp; try with_reducible rfl)
              (try simp only [Act.put, List.setIfInBounds_toArray, List.set_cons_zero, List.set_cons_succ, List.getElem_toArray, List.getElem_cons_zero, List.getElem_cons_succ])
              refine wpAnyH_take (i := 15) (v := ?_) rfl (by kernel_rfl) (by kernel_rfl) (by kernel_rfl) (fun _ _ _ h => h) (Or.inl ⟨by rfl, ?_⟩) (by assumption) ?_
              rotate_left
              · (intro w hSw; (try dsimp only at hSw); go_simp; try with_reducible rfl)
              (try simp only [Act.put, List.setIfInBounds_toArray, List.set_cons_zero, List.set_cons_succ, List.getElem_toArray, List.getElem_cons_zero, List.getElem_cons_succ])
              refine wpAnyH_ready (rs := [10]) (by kernel_rfl) (by simp) ?_
              refine AllReadyH.cons rfl (fun K hK => ?_) ?_
              · (go_simp; (go_at_call 16; ((with_reducible refine (K3.out _ (by first | exact HB.out | exact HB.out.drew | exact HB.out.drewN _ | exact HB.out.drew.drewN _ | exact (HB.out.drewN _).drewN _)).mono ?_); rintro e w' ⟨rfl, k, rfl⟩)))
                refine hK.out _ _ ?_ (fun hHeld3 => ?_)
                · (try dsimp only); first | exact f5 | exact fc
                clear hK K hHeld2
                (try simp only [Act.put, List.setIfInBounds_toArray, List.set_cons_zero, List.set_cons_succ, List.getElem_toArray, List.getElem_cons_zero, List.getElem_cons_succ])
                refine wpAnyH_take (i := 16) (v := ?_) rfl (by kernel_rfl) (by kernel_rfl) (by kernel_rfl) (fun _ _ _ h => h) (Or.inl ⟨by rfl, ?_⟩) (by assumption) ?_
                rotate_left
                · (intro w hSw; (try dsimp only at hSw); go_simp; try with_reducible rfl)
                (try simp only [Act.put, List.setIfInBounds_toArray, List.set_cons_zero, List.set_cons_succ, List.getElem_toArray, List.getElem_cons_zero, List.getElem_cons_succ])
                refine wpAnyH_take (i := 17) (v := ?_) rfl (by kernel_rfl) (by kernel_rfl) (by kernel_rfl) (fun _ _ _ h => h) (Or.inl ⟨by rfl, ?_⟩) (by assumption) ?_
                rotate_left
                · (intro w hSw; (try dsimp only at hSw); go_simp; try with_reducible rfl)
                (try simp only [Act.put, List.setIfInBounds_toArray, List.set_cons_zero, List.set_cons_succ, List.getElem_toArray, List.getElem_cons_zero, List.getElem_cons_succ])
                refine wpAnyH_take (i := 18) (v := ?_) rfl (by kernel_rfl) (by kernel_rfl) (by kernel_rfl) (fun _ _ _ h => h) (Or.inl ⟨by rfl, ?_⟩) (by assumption) ?_
                rotate_left
                · (intro w hSw; (try dsimp only at hSw); go_simp; try with_reducible rfl)
                (try simp only [Act.put, List.setIfInBounds_toArray, List.set_cons_zero, List.set_cons_succ, List.getElem_toArray, List.getElem_cons_zero, List.getElem_cons_succ])
                refine wpAnyH_take (i := 19) (v := ?_) rfl (by kernel_rfl) (by kernel_rfl) (by kernel_rfl) (fun _ _ _ h => h) (Or.inl ⟨by rfl, ?_⟩) (by assumption) ?_
                rotate_left
                · (intro w hSw; (try dsimp only at hSw); go_simp; try with_reducible rfl)
                (try simp only [Act.put, List.setIfInBounds_toArray, List.set_cons_zero, List.set_cons_succ, List.getElem_toArray, List.getElem_cons_zero, List.getElem_cons_succ])
                refine wpAnyH_take (i := 20) (v := ?_) rfl (by kernel_rfl) (by kernel_rfl) (by kernel_rfl) (fun _ _ _ h => h) (Or.inl ⟨by rfl, ?_⟩) (by assumption) ?_
                rotate_left
                · (intro w hSw; (try dsimp only at hSw); go_simp; try with_reducible rfl)
                (try simp only [Act.put, List.setIfInBounds_toArray, List.set_cons_zero, List.set_cons_succ, List.getElem_toArray, List.getElem_cons_zero, List.getElem_cons_succ])
                refine wpAnyH_ready (rs := [21]) (by kernel_rfl) (by simp) ?_
                refine AllReadyH.cons rfl (fun K hK => ?_) ?_
                · (go_simp; (go_at_call 19; ((with_reducible refine (K4.out _ (by first | exact HB.out | exact HB.out.drew | exact HB.out.drewN _ | exact HB.out.drew.drewN _ | exact (HB.out.drewN _).drewN _)).mono ?_); rintro e w' ⟨rfl, k, rfl⟩)))
                  refine hK.out _ _ ?_ (fun hHeld4 => ?_)
                  · (try dsimp only); first | exact f5 | exact fc
                  clear hK K hHeld3
                  (try simp only [Act.put, List.setIfInBounds_toArray, List.set_cons_zero, List.set_cons_succ, List.getElem_toArray, List.getElem_cons_zero, List.getElem_cons_succ])
                  refine wpAnyH_take (i := 22) (v := ?_) rfl (by kernel_rfl) (by kernel_rfl) (by kernel_rfl) (fun _ _ _ h => h) (Or.inl ⟨by rfl, ?_⟩) (by assumption) ?_
                  rotate_left
                  · (intro w hSw; (try dsimp only at hSw); go_simp; try with_reducible rfl)
                  (try simp only [Act.put, List.setIfInBounds_toArray, List.set_cons_zero, List.set_cons_succ, List.getElem_toArray, List.getElem_cons_zero, List.getElem_cons_succ])
                  refine wpAnyH_take (i := 23) (v := ?_) rfl (by kernel_rfl) (by kernel_rfl) (by kernel_rfl) (fun _ _ _ h => h) (Or.inl ⟨by rfl, ?_⟩) (by assumption) ?_
                  rotate_left
                  · (intro w hSw; (try dsimp only at hSw); go_simp; try with_reducible rfl)
                  (try simp only [Act.put, List.setIfInBounds_toArray, List.set_cons_zero, List.set_cons_succ, List.getElem_toArray, List.getElem_cons_zero, List.getElem_cons_succ])
                  refine wpAnyH_take (i := 24) (v := ?_) rfl (by kernel_rfl) (by kernel_rfl) (by kernel_rfl) (fun _ _ _ h => h) (Or.inl ⟨by rfl, ?_⟩) (by assumption) ?_
                  rotate_left
                  · (intro w hSw; (try dsimp only at hSw); go_simp; try with_reducible rfl)
                  (try simp only [Act.put, List.setIfInBounds_toArray, List.set_cons_zero, List.set_cons_succ, List.getElem_toArray, List.getElem_cons_zero, List.getElem_cons_succ])
                  refine wpAnyH_done (by kernel_rfl) ?_ _
                  go_wp2
                  go_ret
                  exact ⟨rfl, by first | exact HW5.out | exact below_drewN' HW5.out _⟩
                exact AllReadyH.nil
              exact AllReadyH.nil
            exact AllReadyH.nil
          exact AllReadyH.nil
end Go.Proofs.Ytajbfmdgnkpjgaa
