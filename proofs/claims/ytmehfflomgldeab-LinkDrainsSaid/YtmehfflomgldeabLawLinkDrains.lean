/- The walk of LinkDrains. -/
import Derived.Test.YtmehfflomgldeabScript13
import Derived.BigQuiet
namespace Go.Proofs.Ytmehfflomgldeab
set_option linter.unusedVariables false
open Go.RowKit
theorem send_keep (s : LS) (c : Cl) : (s.send c).1.lanes = s.lanes ∧ (s.send c).1.depth = s.depth ∧ (s.send c).1.size = s.size := by
  unfold LS.send; split
  · split
    · exact ⟨rfl, rfl, rfl⟩
    · split <;> exact ⟨rfl, rfl, rfl⟩
  · exact ⟨rfl, rfl, rfl⟩
theorem carry_keep (s : LS) : s.carry.1.lanes = s.lanes ∧ s.carry.1.depth = s.depth ∧ s.carry.1.size = s.size := by
  unfold LS.carry; split <;> exact ⟨rfl, rfl, rfl⟩
theorem taken_keep (s : LS) (k : Int) : (s.taken k).1.lanes = s.lanes ∧ (s.taken k).1.depth = s.depth ∧ (s.taken k).1.size = s.size := by
  unfold LS.taken; split
  · split <;> exact ⟨rfl, rfl, rfl⟩
  · exact ⟨rfl, rfl, rfl⟩
theorem credit_keep (s : LS) : s.credit.1.lanes = s.lanes ∧ s.credit.1.depth = s.depth ∧ s.credit.1.size = s.size := by
  unfold LS.credit; split <;> exact ⟨rfl, rfl, rfl⟩
theorem step_keep (s : LS) (k l x : Int) : (stepS s k l x).1.lanes = s.lanes ∧ (stepS s k l x).1.depth = s.depth ∧ (stepS s k l x).1.size = s.size := by
  unfold stepS; split
  · exact send_keep s _
  · exact carry_keep s
  · exact taken_keep s l
  · exact credit_keep s
theorem step_ok {s : LS} (h : s.Ok) (k l x : Int) : (stepS s k l x).1.Ok := by
  unfold stepS; split
  · exact h.send _
  · exact h.carry
  · exact h.taken l
  · exact h.credit
structure DS (s : LS) (L D : Nat) : Prop where
  ok : s.Ok
  la : s.lanes = L
  de : s.depth = D
theorem ds_step {s : LS} {L D : Nat} (h : DS s L D) (k l x : Int) : DS (stepS s k l x).1 L D :=
  ⟨step_ok h.ok k l x, (step_keep s k l x).1.trans h.la, (step_keep s k l x).2.1.trans h.de⟩
theorem ds_carry {s : LS} {L D i : Nat} (h : DS s L D) (hw : s.wd.length ≤ 64 - i) : DS s.carry.1 L D ∧ s.carry.1.wd.length ≤ 64 - (i + 1) := by
  refine ⟨⟨h.ok.carry, (carry_keep s).1.trans h.la, (carry_keep s).2.1.trans h.de⟩, ?_⟩
  unfold LS.carry
  split
  · rename_i e; rw [e]; simp
  · rename_i c l e
    rw [e] at hw
    show l.length ≤ _
    simp at hw; omega
theorem ds_taken {s : LS} {L D k i : Nat} (h : DS s L D) (hk : k < L) (hw : s.wd = []) (hj : ∀ j, j < k → s.fa.getD j 0 = 0) (hi : s.fa.getD k 0 ≤ D - i) :
    DS (s.taken k).1 L D ∧ (s.taken k).1.wd = [] ∧ (∀ j, j < k → (s.taken k).1.fa.getD j 0 = 0) ∧ (s.taken k).1.fa.getD k 0 ≤ D - (i + 1) := by
  refine ⟨⟨h.ok.taken k, (taken_keep s k).1.trans h.la, (taken_keep s k).2.1.trans h.de⟩, ?_⟩
  have his : s.is k = true := LS.is_iff.2 ⟨by omega, by have := h.la; omega⟩
  have hf := h.ok.fal
  have hl := h.la
  unfold LS.taken
  rw [if_pos his, Int.toNat_natCast]
  by_cases e : s.fa.getD k 0 = 0
  · rw [if_pos e]
    exact ⟨hw, hj, by show s.fa.getD k 0 ≤ _; omega⟩
  · rw [if_neg e]
    refine ⟨hw, fun j hj2 => ?_, ?_⟩
    · show (s.fa.set k _).getD j 0 = 0
      rw [LS.getD_setN (by omega), if_neg (by omega)]
      exact hj j hj2
    · show (s.fa.set k _).getD k 0 ≤ _
      rw [LS.getD_setN (by omega), if_pos rfl]
      omega
theorem ds_credit {s : LS} {L D n i : Nat} (h : DS s L D) (hw : s.wd = []) (hj : ∀ j, j < L → s.fa.getD j 0 = 0) (hb : s.bk.length ≤ n - i) :
    DS s.credit.1 L D ∧ s.credit.1.wd = [] ∧ (∀ j, j < L → s.credit.1.fa.getD j 0 = 0) ∧ s.credit.1.bk.length ≤ n - (i + 1) := by
  refine ⟨⟨h.ok.credit, (credit_keep s).1.trans h.la, (credit_keep s).2.1.trans h.de⟩, ?_⟩
  unfold LS.credit
  split
  · rename_i e
    exact ⟨hw, hj, by rw [e]; simp⟩
  · rename_i k l e
    rw [e] at hb
    exact ⟨hw, hj, by show l.length ≤ _; simp at hb; omega⟩
theorem sum_zero_lt : ∀ (l : List Nat), (∀ j, j < l.length → l.getD j 0 = 0) → l.sum = 0
  | [], _ => rfl
  | a :: l, h => by
    have h0 := h 0 (by simp)
    have := sum_zero_lt l (fun i hi => by have := h (i + 1) (by simp; omega); simpa using this)
    simp at h0
    rw [List.sum_cons, h0, this]
theorem ds_end {s : LS} {L D : Nat} (h : DS s L D) (hw : s.wd = []) (hj : ∀ j, j < L → s.fa.getD j 0 = 0) (hb : s.bk = []) :
    (∀ k : Nat, k < L → s.crI k = D ∧ s.taken k = (s, 13)) ∧ s.idle = true ∧ s.credit = (s, 8) := by
  refine ⟨fun k hk => ?_, ?_, by unfold LS.credit; rw [hb]⟩
  · have hl := h.la
    have hd := h.de
    have his : s.is k = true := LS.is_iff.2 ⟨by omega, by omega⟩
    have hs := h.ok.sum k (by omega)
    have hf := hj k hk
    have h1 : s.fly k = 0 := by unfold LS.fly; rw [hw]; rfl
    have h2 : s.com k = 0 := by unfold LS.com; rw [hb]; rfl
    refine ⟨?_, ?_⟩
    · unfold LS.crI; rw [if_pos his, Int.toNat_natCast]; omega
    · unfold LS.taken; rw [if_pos his, Int.toNat_natCast, if_pos hf]
  · unfold LS.idle
    rw [hw, hb, sum_zero_lt s.fa (fun j hj2 => hj j (by have := h.ok.fal; have := h.la; omega))]; rfl
set_option maxRecDepth 100000 in
set_option maxHeartbeats 2000000 in
theorem linkDrains_walk (p q r : Int) (a : Option Addr) (c : Nat) (l : List O13) (w : World) (hl : l.length ≤ maxLen) (hc : l.length ≤ c) (hr : Script13 w a l) :
    Calls Try.prog 6 #[.agg #[.int .i64 p, .int .i64 q, .int .i64 r], .slice a l.length c] w fun e w' => e = .returned (.bool true) ∧ Below w.heap.size w w' := by
  obtain ⟨L, hL, hL1, hL4⟩ := lanes_mod p
  obtain ⟨D, hD, hD1, hD5⟩ := five_mod q
  have HE := Lib.hid (fun w => early13_calls a l.length c w hl hc)
  have hs := hr.take 150
  have hlt : (l.take 150).length = min l.length 150 := by rw [List.length_take]; omega
  rw [← hlt] at HE
  have hc2 : (l.take 150).length ≤ c := by omega
  have hl2 : (l.take 150).length ≤ 150 := by omega
  generalize l.take 150 = ls at *
  clear hr hlt
  unfold maxLen at hl
  have HV := Lib.hid lives13_calls
  have hN := fun w => link_new (L : Int) (D : Int) r w
  rw [show clampN (L : Int) 8 = L from by unfold clampN; omega, show clampN (D : Int) 64 = D from by unfold clampN; omega] at hN
  have HN := Lib.hid hN
  have HZ : Hid (1 ≤ clampN r 64 ∧ clampN r 64 ≤ 64) := by unfold Hid clampN; omega
  have m1 : 1 ≤ L * D := Nat.le_trans (by decide) (Nat.mul_le_mul hL1 hD1)
  have m2 : L * D ≤ 20 := Nat.le_trans (Nat.mul_le_mul hL4 hD5) (by decide)
  have hm : IntKind.i64.wrap ((L : Int) * (D : Int)) = ((L * D : Nat) : Int) := by
    have e : (L : Int) * (D : Int) = ((L * D : Nat) : Int) := by simp
    rw [e]
    exact IntWalk.i64_in _ (by omega)
  have HI := Lib.hid (LS.new_ok (lanes := L) (depth := D) (size := clampN r 64) hL1 (by omega) hD1 (by omega) HZ.out.1 HZ.out.2)
  have hI : DS (LS.new L D (clampN r 64)) L D := ⟨HI.out, rfl, rfl⟩
  have HI := Lib.hid hI
  have hble : ∀ s : LS, DS s L D → s.bk.length ≤ L * D := fun s h => by have := h.ok.ble; rw [h.la, h.de] at this; exact this
  have HBL := Lib.hid hble
  obtain ⟨LD, hLD⟩ : ∃ LD, LD = L * D := ⟨_, rfl⟩
  rw [← hLD] at m1 m2 hm HBL
  have HMM := Lib.hid hm
  clear hN hI hLD hble
  generalize LS.new L D (clampN r 64) = s0 at *
  go_enter Try.func6, Try.ntmps6
  go_wp2_with (first
    | (go_at_call 15; ((with_reducible refine (HV.out _).mono ?_); rintro e w1 ⟨rfl, hb1⟩; have hF := Below.at hb1 (alloc_new _) (by simp); have f0 := cell_at hF 0; have f1 := cell_at hF 1; have f2 := cell_at hF 2; have hb1' : Below w.heap.size w w1 := (Below.trans ((Below.refl _ _).alloc (Nat.le_refl _) _) (hb1.mono (by simp))); have hb1s := hb1'.size; clear hF hb1)))
  go_quiet (fail)
  go_wp2_with (first
    | (go_at_call 16; ((with_reducible refine (HN.out _).mono ?_); rintro e w2 ⟨b, B, rfl, hK, hB, hb2⟩))
    | (go_at_call 18; ((with_reducible refine (HE.out _).mono ?_); rintro e w' ⟨rfl, k, rfl⟩)))
  have h2 : Below w.heap.size w w2 := (Below.trans (below_drewN' hb1' _) (hb2.mono (by simpa using hb1s)))
  have hB0 : ∀ k ∈ B, w.heap.size ≤ k := fun k hk => Nat.le_trans (by simpa using hb1s) (hB k hk)
  have HB0 := Lib.hid hB0
  have HS := Lib.hid hs
  have K0 := Lib.hid hK
  have H2 := Lib.hid h2
  clear hb1' hb2 hB hB0 HV HN HE f0 f1 f2 hb1s hs hK h2
  have hlsI : ((ls.length : Nat) : Int) ≤ 150 := by omega
  clear hm
  go_loopw [8] (fun i wr => ∃ (m : Nat) (s : LS), m ≤ ls.length ∧ i = .int .i64 (m : Int) ∧ LinkAt wr b B s ∧ Hid (DS s L D) ∧ Below w.heap.size w wr) (fun i _ => ls.length - (intOf i).toNat)
  case atStart => exact ⟨0, s0, by omega, rfl, K0.out.drewN _, HI, below_drewN' H2.out _⟩
  case round =>
    clear K0 HI H2
    obtain ⟨m, s, hm, rfl, hK, hI, hbw⟩ := hrel
    by_cases hlm : m < ls.length
    · obtain ⟨blk, off, o, -, rfl, q0, q1, q2⟩ := HS.out m hlm
      obtain ⟨ok, ol, ox⟩ := o
      dsimp only at q0 q1 q2
      have c0 := (hbw.cell (World.block_lt_of_cell? w _ q0)).trans q0
      have c1 := (hbw.cell (World.block_lt_of_cell? w _ q1)).trans q1
      have c2 := (hbw.cell (World.block_lt_of_cell? w _ q2)).trans q2
      have F1 := fun w h => step_calls ok ol ox w b B s h
      have hI2 := ds_step hI.out ok ol ox
      generalize (stepS s ok ol ox).2 = es at *
      generalize (stepS s ok ol ox).1 = s2 at *
      obtain ⟨⟨e1, e2⟩, e3⟩ := es
      have F1 := Lib.hid F1
      have K1 := Lib.hid hK
      have GW := Lib.hid hbw
      have GI := Lib.hid hI2
      have hlmI : (m : Int) < (ls.length : Int) := by omega
      clear hK hbw hI hI2 q0 q1 q2
      go_wp2_with (first
        | (go_at_call 19; ((with_reducible refine (F1.out _ K1.out).mono ?_); rintro e w3 ⟨rfl, hK3, hO3⟩; have K3 := Lib.hid hK3; have O3 := Lib.hid hO3; clear hK3 hO3)))
      go_roundw
      case rel => exact ⟨m + 1, s2, by omega, by go_num, K3.out, GI.out, GW.out.trans (O3.out.below (fun k hk => HB0.out k hk) GW.out.size)⟩
      case measure => simp [intOf] <;> omega
    · have hmI : ¬ ((m : Int) < (ls.length : Int)) := by omega
      have K0 := Lib.hid hK
      have HI0 := Lib.hid hI
      have GW0 := Lib.hid hbw
      clear hK hI hbw HS
      go_wp2
      go_loopw [9] (fun i wr => ∃ (j : Nat) (s : LS), j ≤ 70 ∧ i = .int .i64 (j : Int) ∧ LinkAt wr b B s ∧ Hid (DS s L D ∧ s.wd.length ≤ 64 - j) ∧ Below w.heap.size w wr) (fun i _ => 70 - (intOf i).toNat)
      case atStart => exact ⟨0, s, by omega, rfl, K0.out, ⟨HI0.out.out, Nat.le_trans HI0.out.out.ok.wle HI0.out.out.ok.s64⟩, GW0.out⟩
      case round =>
        clear K0 HI0 GW0 hmI
        obtain ⟨j, s, hj, rfl, hK, hI, hbw⟩ := hrel
        by_cases hjl : j < 70
        · have F1 := fun w h => link_carry w b B s h
          have hI2 := ds_carry hI.out.1 hI.out.2
          generalize s.carry.2 = es at *
          generalize s.carry.1 = s2 at *
          obtain ⟨⟨e1, e2⟩, e3⟩ := es
          have F1 := Lib.hid F1
          have K1 := Lib.hid hK
          have GW := Lib.hid hbw
          have GI := Lib.hid hI2
          have hjI : (j : Int) < 70 := by omega
          clear hK hbw hI hI2
          go_wp2_with (first
            | (go_at_call 31; ((with_reducible refine (F1.out _ K1.out).mono ?_); rintro e w3 ⟨rfl, hK3, hO3⟩; have K3 := Lib.hid hK3; have O3 := Lib.hid hO3; clear hK3 hO3)))
          go_roundw
          case rel => exact ⟨j + 1, s2, by omega, by go_num, K3.out, GI.out, GW.out.trans (O3.out.below (fun k hk => HB0.out k hk) GW.out.size)⟩
          case measure => simp [intOf] <;> omega
        · have hjI : ¬ ((j : Int) < 70) := by omega
          have hwd : s.wd = [] := List.eq_nil_of_length_eq_zero (by have := hI.out.2; omega)
          have K0 := Lib.hid hK
          have HI0 := Lib.hid (And.intro hI.out.1 hwd)
          have GW0 := Lib.hid hbw
          clear hK hI hbw hwd
          go_wp2
          go_loopw [10] (fun i wr => ∃ (k : Nat) (s : LS), k ≤ L ∧ i = .int .i64 (k : Int) ∧ LinkAt wr b B s ∧ Hid (DS s L D ∧ s.wd = [] ∧ ∀ x, x < k → s.fa.getD x 0 = 0) ∧ Below w.heap.size w wr) (fun i _ => L - (intOf i).toNat)
          case atStart => exact ⟨0, s, by omega, rfl, K0.out, ⟨HI0.out.1, HI0.out.2, fun x hx => by omega⟩, GW0.out⟩
          case round =>
            clear K0 HI0 GW0 hjI
            obtain ⟨k, s, hk, rfl, hK, hI, hbw⟩ := hrel
            by_cases hkl : k < L
            · have hkI : (k : Int) < (L : Int) := by omega
              have K0 := Lib.hid hK
              have GW0 := Lib.hid hbw
              clear hK hbw
              go_wp2
              go_loopw [11] (fun i wr => ∃ (j : Nat) (s : LS), j ≤ D ∧ i = .int .i64 (j : Int) ∧ LinkAt wr b B s ∧ Hid (DS s L D ∧ s.wd = [] ∧ (∀ x, x < k → s.fa.getD x 0 = 0) ∧ s.fa.getD k 0 ≤ D - j) ∧ Below w.heap.size w wr) (fun i _ => D - (intOf i).toNat)
              case atStart => exact ⟨0, s, by omega, rfl, K0.out, ⟨hI.out.1, hI.out.2.1, hI.out.2.2, by have h1 := hI.out.1.ok.sum k (by rw [hI.out.1.la]; exact hkl); have h2 := hI.out.1.de; omega⟩, GW0.out⟩
              case round =>
                clear K0 GW0 hI
                obtain ⟨j, s, hj, rfl, hK, hI, hbw⟩ := hrel
                by_cases hjd : j < D
                · have F1 := fun w h => link_taken w b B s (k : Int) h
                  have hI2 := ds_taken hI.out.1 hkl hI.out.2.1 hI.out.2.2.1 hI.out.2.2.2
                  generalize (s.taken k).2 = es at *
                  generalize (s.taken k).1 = s2 at *
                  have F1 := Lib.hid F1
                  have K1 := Lib.hid hK
                  have GW := Lib.hid hbw
                  have GI := Lib.hid hI2
                  have hjI : (j : Int) < (D : Int) := by omega
                  clear hK hbw hI hI2
                  go_wp2_with (first
                    | (go_at_call 32; ((with_reducible refine (F1.out _ K1.out).mono ?_); rintro e w3 ⟨rfl, hK3, hO3⟩; have K3 := Lib.hid hK3; have O3 := Lib.hid hO3; clear hK3 hO3)))
                  go_roundw
                  case rel => exact ⟨j + 1, s2, by omega, by go_num, K3.out, GI.out, GW.out.trans (O3.out.below (fun k hk => HB0.out k hk) GW.out.size)⟩
                  case measure => simp [intOf] <;> omega
                · have hjI : ¬ ((j : Int) < (D : Int)) := by omega
                  have K0 := Lib.hid hK
                  have GW0 := Lib.hid hbw
                  clear hK hbw
                  go_wp2
                  go_roundw
                  case rel => exact ⟨k + 1, s, by omega, by go_num, K0.out, ⟨hI.out.1, hI.out.2.1, fun x hx => by
                    by_cases hxk : x = k
                    · have := hI.out.2.2.2; rw [hxk]; omega
                    · exact hI.out.2.2.1 x (by omega)⟩, GW0.out⟩
                  case measure => simp [intOf] <;> omega
            · have hkI : ¬ ((k : Int) < (L : Int)) := by omega
              obtain rfl : L = k := by omega
              have K0 := Lib.hid hK
              have GW0 := Lib.hid hbw
              have hm2 := HMM.out
              clear hK hbw
              go_wp2
              go_loopw [12] (fun i wr => ∃ (j : Nat) (s : LS), j ≤ LD ∧ i = .int .i64 (j : Int) ∧ LinkAt wr b B s ∧ Hid (DS s L D ∧ s.wd = [] ∧ (∀ x, x < L → s.fa.getD x 0 = 0) ∧ s.bk.length ≤ LD - j) ∧ Below w.heap.size w wr) (fun i _ => LD - (intOf i).toNat)
              case atStart => exact ⟨0, s, by omega, rfl, K0.out, ⟨hI.out.1, hI.out.2.1, hI.out.2.2, HBL.out s hI.out.1⟩, GW0.out⟩
              case round =>
                clear K0 GW0 hI
                obtain ⟨j, s, hj, rfl, hK, hI, hbw⟩ := hrel
                by_cases hjd : j < LD
                · have F1 := fun w h => link_credit w b B s h
                  have hI2 := ds_credit hI.out.1 hI.out.2.1 hI.out.2.2.1 hI.out.2.2.2
                  generalize s.credit.2 = es at *
                  generalize s.credit.1 = s2 at *
                  have F1 := Lib.hid F1
                  have K1 := Lib.hid hK
                  have GW := Lib.hid hbw
                  have GI := Lib.hid hI2
                  have hjI : (j : Int) < (LD : Int) := by omega
                  clear hK hbw hI hI2
                  go_wp2_with (first
                    | (go_at_call 33; ((with_reducible refine (F1.out _ K1.out).mono ?_); rintro e w3 ⟨rfl, hK3, hO3⟩; have K3 := Lib.hid hK3; have O3 := Lib.hid hO3; clear hK3 hO3)))
                  go_roundw
                  case rel => exact ⟨j + 1, s2, by omega, by go_num, K3.out, GI.out, GW.out.trans (O3.out.below (fun k hk => HB0.out k hk) GW.out.size)⟩
                  case measure => simp [intOf] <;> omega
                · have hjI : ¬ ((j : Int) < (LD : Int)) := by omega
                  have hbk : s.bk = [] := List.eq_nil_of_length_eq_zero (by have := hI.out.2.2.2; omega)
                  obtain ⟨z1, z2, z3⟩ := ds_end hI.out.1 hI.out.2.1 hI.out.2.2.1 hbk
                  have F3 := fun w h => link_idle w b B s h
                  have F4 := fun w h => link_credit w b B s h
                  rw [z2] at F3
                  rw [z3] at F4
                  have F3 := Lib.hid F3
                  have F4 := Lib.hid F4
                  have Z1 := Lib.hid z1
                  have K0 := Lib.hid hK
                  have GW0 := Lib.hid hbw
                  clear hK hbw hI hbk z1 z2 z3
                  go_wp2
                  go_loopw [13] (fun i wr => ∃ (k : Nat), k ≤ L ∧ i = .int .i64 (k : Int) ∧ LinkAt wr b B s ∧ Below w.heap.size w wr) (fun i _ => L - (intOf i).toNat)
                  case atStart => exact ⟨0, by omega, rfl, K0.out, GW0.out⟩
                  case round =>
                    clear K0 GW0
                    obtain ⟨k, hk, rfl, hK, hbw⟩ := hrel
                    by_cases hkl : k < L
                    · obtain ⟨y1, y2⟩ := Z1.out k hkl
                      have F1 := fun w h => link_credits w b B s (k : Int) h
                      have F2 := fun w h => link_taken w b B s (k : Int) h
                      rw [y1] at F1
                      rw [y2] at F2
                      have F1 := Lib.hid F1
                      have F2 := Lib.hid F2
                      have K1 := Lib.hid hK
                      have GW := Lib.hid hbw
                      have hkI : (k : Int) < (L : Int) := by omega
                      clear hK hbw y1 y2
                      go_wp2_with (first
                        | (go_at_call 21; ((with_reducible refine (F1.out _ K1.out).mono ?_); rintro e w' ⟨rfl, nd, rfl⟩; have K2 := Lib.hid (K1.out.drewN nd)))
                        | (go_at_call 32; ((with_reducible refine (F2.out _ K2.out).mono ?_); rintro e w3 ⟨rfl, hK3, hO3⟩; have K3 := Lib.hid hK3; have O3 := Lib.hid hO3; clear hK3 hO3)))
                      go_roundw
                      case rel => exact ⟨k + 1, by omega, by go_num, K3.out, (below_drewN' GW.out nd).trans (O3.out.below (fun k hk => HB0.out k hk) (below_drewN' GW.out nd).size)⟩
                      case measure => simp [intOf] <;> omega
                    · have hkI : ¬ ((k : Int) < (L : Int)) := by omega
                      have K0 := Lib.hid hK
                      have GW0 := Lib.hid hbw
                      clear hK hbw
                      go_wp2_with (first
                        | (go_at_call 34; ((with_reducible refine (F3.out _ K0.out).mono ?_); rintro e w3 ⟨rfl, hb3⟩; have K3 := Lib.hid (K0.out.below hb3); have B3 := Lib.hid hb3; clear hb3))
                        | (go_at_call 33; ((with_reducible refine (F4.out _ K3.out).mono ?_); rintro e w4 ⟨rfl, hK4, hO4⟩)))
                      go_ret
                      have h3 := GW0.out.trans (B3.out.mono GW0.out.size)
                      exact ⟨rfl, h3.trans (hO4.below (fun k hk => HB0.out k hk) h3.size)⟩
end Go.Proofs.Ytmehfflomgldeab
