/- The walk of LinkSums. -/
import Derived.Test.YtmehfflomgldeabScript13
import Derived.BigQuiet
namespace Go.Proofs.Ytmehfflomgldeab
set_option linter.unusedVariables false
open Go.RowKit
theorem stepS0 {k : Int} (h : kindN k = 0) (s : LS) (l x : Int) : stepS s k l x = ((s.send ⟨l, x⟩).1, Cl.zero, (s.send ⟨l, x⟩).2) := by unfold stepS; rw [h]; rfl
theorem stepS_ok {s : LS} (h : s.Ok) (k l x : Int) : (stepS s k l x).1.Ok := by
  unfold stepS; split
  · exact h.send _
  · exact h.carry
  · exact h.taken l
  · exact h.credit
theorem stepS_keep (s : LS) (k l x : Int) : (stepS s k l x).1.lanes = s.lanes ∧ (stepS s k l x).1.depth = s.depth ∧ (stepS s k l x).1.size = s.size := by
  unfold stepS; split
  · show (s.send _).1.lanes = _ ∧ _
    unfold LS.send; split
    · split
      · exact ⟨rfl, rfl, rfl⟩
      · split <;> exact ⟨rfl, rfl, rfl⟩
    · exact ⟨rfl, rfl, rfl⟩
  · unfold LS.carry; split <;> exact ⟨rfl, rfl, rfl⟩
  · show (s.taken _).1.lanes = _ ∧ _
    unfold LS.taken; split
    · split <;> exact ⟨rfl, rfl, rfl⟩
    · exact ⟨rfl, rfl, rfl⟩
  · show s.credit.1.lanes = _ ∧ _
    unfold LS.credit; split <;> exact ⟨rfl, rfl, rfl⟩
theorem send_may {s : LS} (h : s.Ok) (c : Cl) : (((s.send c).2 : Int) == 0) = s.may c.lane := by
  have hw := h.wle
  unfold LS.send LS.may
  by_cases h1 : s.is c.lane = true
  · rw [if_pos h1, h1]
    by_cases h2 : s.cr.getD c.lane.toNat 0 = 0
    · rw [if_pos h2, h2]; rfl
    · rw [if_neg h2, decide_eq_true (by omega : 0 < s.cr.getD c.lane.toNat 0)]
      by_cases h3 : s.wd.length = s.size
      · rw [if_pos h3, decide_eq_false (by omega : ¬ s.wd.length < s.size)]; rfl
      · rw [if_neg h3, decide_eq_true (by omega : s.wd.length < s.size)]; rfl
  · rw [if_neg h1, Bool.eq_false_iff.2 h1]; rfl
structure SInv (s : LS) (L D Z : Nat) : Prop where
  ok : s.Ok
  la : s.lanes = L
  de : s.depth = D
  si : s.size = Z
theorem sinv_step {s : LS} {L D Z : Nat} (h : SInv s L D Z) (k l x : Int) : SInv (stepS s k l x).1 L D Z :=
  ⟨stepS_ok h.ok k l x, (stepS_keep s k l x).1.trans h.la, (stepS_keep s k l x).2.1.trans h.de, (stepS_keep s k l x).2.2.trans h.si⟩
theorem sinv_lane {s : LS} {L D Z : Nat} (h : SInv s L D Z) {k : Nat} (hk : k < L) : s.crI k + s.flyI k + s.faI k + s.comI k = D ∧ s.flyI k = s.fly k := by
  have his : s.is k = true := LS.is_iff.2 ⟨by omega, by have := h.la; omega⟩
  have hs := h.ok.sum k (by have := h.la; omega)
  have hd := h.de
  unfold LS.crI LS.flyI LS.faI LS.comI
  rw [if_pos his, if_pos his, if_pos his, if_pos his, Int.toNat_natCast]
  omega
set_option maxRecDepth 100000 in
set_option maxHeartbeats 4000000 in
theorem linkSums_walk (p q r : Int) (a : Option Addr) (c : Nat) (l : List O13) (w : World) (hl : l.length ≤ maxLen) (hc : l.length ≤ c) (hr : Script13 w a l) :
    Calls Try.prog 4 #[.agg #[.int .i64 p, .int .i64 q, .int .i64 r], .slice a l.length c] w fun e w' => e = .returned (.bool true) ∧ Below w.heap.size w w' := by
  obtain ⟨L, hL, hL1, hL4⟩ := lanes_mod p
  obtain ⟨D, hD, hD1, hD5⟩ := five_mod q
  obtain ⟨Z, hZ, hZ1, hZ5⟩ := five_mod r
  have HE := Lib.hid (fun w => early13_calls a l.length c w hl hc)
  have hs := hr.take 150
  have hlt : (l.take 150).length = min l.length 150 := by rw [List.length_take]; omega
  rw [← hlt] at HE
  have hc2 : (l.take 150).length ≤ c := by omega
  have hl2 : (l.take 150).length ≤ 150 := by omega
  generalize l.take 150 = ls at *
  clear hr hlt
  unfold maxLen at hl
  have HV := Lib.hid lives13_calls
  have hN := fun w => link_new (L : Int) (D : Int) (Z : Int) w
  rw [show clampN (L : Int) 8 = L from by unfold clampN; omega, show clampN (D : Int) 64 = D from by unfold clampN; omega, show clampN (Z : Int) 64 = Z from by unfold clampN; omega] at hN
  have HN := Lib.hid hN
  have hI : SInv (LS.new L D Z) L D Z := ⟨LS.new_ok (lanes := L) (depth := D) (size := Z) hL1 (by omega) hD1 (by omega) hZ1 (by omega), rfl, rfl, rfl⟩
  have HI := Lib.hid hI
  clear hN hI
  generalize LS.new L D Z = s0 at *
  go_enter Try.func4, Try.ntmps4
  go_wp2_with (first
    | (go_at_call 15; ((with_reducible refine (HV.out _).mono ?_); rintro e w1 ⟨rfl, hb1⟩; have hF := Below.at hb1 (alloc_new _) (by simp); have f0 := cell_at hF 0; have f1 := cell_at hF 1; have f2 := cell_at hF 2; have hb1' : Below w.heap.size w w1 := (Below.trans ((Below.refl _ _).alloc (Nat.le_refl _) _) (hb1.mono (by simp))); have hb1s := hb1'.size; clear hF hb1)))
  go_quiet (fail)
  go_wp2_with (first
    | (go_at_call 16; ((with_reducible refine (HN.out _).mono ?_); rintro e w2 ⟨b, B, rfl, hK, hB, hb2⟩))
    | (go_at_call 18; ((with_reducible refine (HE.out _).mono ?_); rintro e w' ⟨rfl, k, rfl⟩)))
  have h2 : Below w.heap.size w w2 := (Below.trans (below_drewN' hb1' _) (hb2.mono (by simpa using hb1s)))
  have hB0 : ∀ k ∈ B, w.heap.size ≤ k := fun k hk => Nat.le_trans (by simpa using hb1s) (hB k hk)
  have HB0 := Lib.hid hB0
  have HS := Lib.hid hs
  have K0 := Lib.hid hK
  have H2 := Lib.hid h2
  clear hb1' hb2 hB hB0 HV HN HE f0 f1 f2 hb1s hs hK h2
  have hlsI : ((ls.length : Nat) : Int) ≤ 150 := by omega
  go_loopw [9] (fun i wr => ∃ (m : Nat) (s : LS), m ≤ ls.length ∧ i = .int .i64 (m : Int) ∧ LinkAt wr b B s ∧ Hid (SInv s L D Z) ∧ Below w.heap.size w wr) (fun i _ => ls.length - (intOf i).toNat)
  case atStart => exact ⟨0, s0, by omega, rfl, K0.out.drewN _, HI, below_drewN' H2.out _⟩
  case round =>
    clear K0 HI H2
    obtain ⟨m, s, hm, rfl, hK, hI, hbw⟩ := hrel
    by_cases hlm : m < ls.length
    · obtain ⟨blk, off, o, -, rfl, q0, q1, q2⟩ := HS.out m hlm
      obtain ⟨ok, ol, ox⟩ := o
      dsimp only at q0 q1 q2
      have c0 := (hbw.cell (World.block_lt_of_cell? w _ q0)).trans q0
      have c1 := (hbw.cell (World.block_lt_of_cell? w _ q1)).trans q1
      have c2 := (hbw.cell (World.block_lt_of_cell? w _ q2)).trans q2
      obtain ⟨kk, hkk, hkL⟩ := lane_mod ol L hL1 (by omega)
      have hI2 := sinv_step hI.out ok kk ox
      have F1 := fun w h => step_calls ok kk ox w b B s h
      have F0 := fun w h => link_may w b B s (kk : Int) h
      have FK := Lib.hid (fun w => kind13_calls ok kk ox w)
      have hmay := send_may hI.out.ok ⟨kk, ox⟩
      have hst := fun h => stepS0 h s (kk : Int) ox (k := ok)
      have hlmI : (m : Int) < (ls.length : Int) := by omega
      have hws := hbw.size
      have hoB : wr.heap.size ∉ B := fun hm => Nat.lt_irrefl _ (hK.lt _ hm)
      have hA1 : LinkAt (wr.alloc (.cells #[.int .i64 ok, .int .i64 (kk : Int), .int .u64 ox] 40)) b B s := hK.alloc _
      have hA2 : (wr.alloc (.cells #[.int .i64 ok, .int .i64 (kk : Int), .int .u64 ox] 40)).heap[wr.heap.size]? = some (.cells #[.int .i64 ok, .int .i64 (kk : Int), .int .u64 ox] 40 (0, 0)) := alloc_new _
      have hA3 : Below w.heap.size w (wr.alloc (.cells #[.int .i64 ok, .int .i64 (kk : Int), .int .u64 ox] 40)) := by repeat' (first | (with_reducible assumption) | (with_reducible refine Below.setCell ?_ ?_ _) | (with_reducible refine below_drewN' ?_ _) | (with_reducible refine Below.drew ?_) | (with_reducible refine Below.alloc ?_ ?_ _) | (with_reducible exact Below.refl _ _) | (with_reducible exact Nat.le_refl _) | omega | (simp; done) | (simp; omega))
      have HA1 := Lib.hid hA1
      have HA2 := Lib.hid hA2
      have HA3 := Lib.hid hA3
      clear hA1 hA2 hA3 hK hbw hI q0 q1 q2
      by_cases hk0 : kindN ok = 0
      · rw [hst hk0] at F1 hI2
        rw [hk0] at FK
        dsimp only at F1 hI2 hmay
        generalize (s.send ⟨(kk : Int), ox⟩).2 = es at *
        generalize (s.send ⟨(kk : Int), ox⟩).1 = s2 at *
        generalize s.may (kk : Int) = mb at *
        have F1 := Lib.hid F1
        have F0 := Lib.hid F0
        have GI := Lib.hid hI2
        clear hI2 hst hk0
        go_wp2_with (first
          | (go_at_call 28; ((with_reducible refine (F0.out _ HA1.out).mono ?_); rintro e w' ⟨rfl, nd, rfl⟩; have KC := Lib.hid (HA1.out.drewN nd); have GC := Lib.hid (below_drewN' HA3.out nd); have HO := Lib.hid (drewN_at HA2.out nd); have hO := HO.out; have f0 := cell_at hO 0; have f1 := cell_at hO 1; have f2 := cell_at hO 2; clear hO))
          | (go_at_call 19; ((with_reducible refine (F1.out _ KC.out).mono ?_); rintro e w3 ⟨rfl, hK3, hO3⟩; have GC := Lib.hid (GC.out.trans (hO3.below (fun k hk => HB0.out k hk) GC.out.size)); have hO := hO3.at HO.out hoB; have hz3 := block_lt hO; clear f0 f1 f2; have f0 := cell_at hO 0; have f1 := cell_at hO 1; have f2 := cell_at hO 2; have KC := Lib.hid hK3; clear hK3 hO3 hO))
          | (go_at_call 29; ((with_reducible refine (FK.out _).mono ?_); rintro e w4 ⟨rfl, hb4⟩; have KC := Lib.hid ((KC.out.alloc _).below hb4); have GC := Lib.hid (Below.trans (GC.out.alloc GC.out.size _) (hb4.mono (by have := GC.out.size; simp; omega))); clear hb4)))
        go_loopw [14, 15] (fun v i wx => ∃ (j : Nat), j ≤ L ∧ i = .int .i64 (j : Int) ∧ v = .int .i64 ((LS.tot (fun i => s2.fly i) j : Nat) : Int) ∧ LinkAt wx b B s2 ∧ Below w.heap.size w wx) (fun _ i _ => L - (intOf i).toNat)
        case atStart => exact ⟨0, by omega, rfl, rfl, KC.out, GC.out⟩
        case round =>
          clear KC GC
          obtain ⟨j, hj, rfl, rfl, hK, hbx⟩ := hrel
          by_cases hjl : j < L
          · obtain ⟨v1, v2⟩ := sinv_lane GI.out hjl
            have v3 : LS.tot (fun i => s2.fly i) (j + 1) = LS.tot (fun i => s2.fly i) j + s2.fly j := rfl
            have v4 := crI_le hK.ok (j : Int)
            have v5 := flyI_le hK.ok (j : Int)
            have v6 := faI_le hK.ok (j : Int)
            have v7 := comI_le hK.ok (j : Int)
            have v8 : LS.tot (fun i => s2.fly i) j ≤ j * 64 := LS.tot_le j (fun i hi => by
              have := GI.out.ok.sum i (by have := GI.out.la; omega)
              have := GI.out.ok.d64
              omega)
            rw [← v2] at v3
            have G1 := fun w h => link_credits w b B s2 (j : Int) h
            have G2 := fun w h => link_flying w b B s2 (j : Int) h
            have G3 := fun w h => link_far w b B s2 (j : Int) h
            have G4 := fun w h => link_coming w b B s2 (j : Int) h
            have G5 := fun w h => link_sum w b B s2 (j : Int) h
            rw [v1] at G5
            have V3 := Lib.hid v3
            clear v2 v3
            generalize s2.crI (j : Int) = q1 at *
            generalize s2.flyI (j : Int) = q2 at *
            generalize s2.faI (j : Int) = q3 at *
            generalize s2.comI (j : Int) = q4 at *
            generalize LS.tot (fun i => s2.fly i) j = qt at *
            have i1 : (q1 : Int) ≤ 64 := by omega
            have i2 : (q2 : Int) ≤ 64 := by omega
            have i3 : (q3 : Int) ≤ 64 := by omega
            have i4 : (q4 : Int) ≤ 64 := by omega
            have i5 : (qt : Int) ≤ 512 := by omega
            have i7 : (q1 : Int) + (q2 : Int) + (q3 : Int) + (q4 : Int) = (D : Int) := by omega
            have i8 : ¬ (min (min (min (q1 : Int) q2) q3) q4 < 0) := by omega
            have G1 := Lib.hid G1
            have G2 := Lib.hid G2
            have G3 := Lib.hid G3
            have G4 := Lib.hid G4
            have G5 := Lib.hid G5
            have KC := Lib.hid hK
            have GC := Lib.hid hbx
            have hjI : (j : Int) < (L : Int) := by omega
            clear hK hbx v1 v4 v5 v6 v7 v8
            go_wp2_with (first
              | (go_at_call 21; ((with_reducible refine (G1.out _ KC.out).mono ?_); rintro e w' ⟨rfl, nd, rfl⟩; have KC := Lib.hid (KC.out.drewN nd); have GC := Lib.hid (below_drewN' GC.out nd)))
              | (go_at_call 23; ((with_reducible refine (G3.out _ KC.out).mono ?_); rintro e w' ⟨rfl, nd, rfl⟩; have KC := Lib.hid (KC.out.drewN nd); have GC := Lib.hid (below_drewN' GC.out nd)))
              | (go_at_call 24; ((with_reducible refine (G2.out _ KC.out).mono ?_); rintro e w6 ⟨rfl, hb6⟩; have KC := Lib.hid (KC.out.below hb6); have GC := Lib.hid (GC.out.trans (hb6.mono GC.out.size)); clear hb6))
              | (go_at_call 26; ((with_reducible refine (G4.out _ KC.out).mono ?_); rintro e w6 ⟨rfl, hb6⟩; have KC := Lib.hid (KC.out.below hb6); have GC := Lib.hid (GC.out.trans (hb6.mono GC.out.size)); clear hb6))
              | (go_at_call 30; ((with_reducible refine (G5.out _ KC.out).mono ?_); rintro e w6 ⟨rfl, hb6⟩; have KC := Lib.hid (KC.out.below hb6); have GC := Lib.hid (GC.out.trans (hb6.mono GC.out.size)); clear hb6)))
            go_roundw
            case rel => exact ⟨j + 1, by omega, by go_num, by rw [V3.out]; first | done | rfl | go_num, KC.out, GC.out⟩
            case measure => simp [intOf] <;> omega
          · have hjI : ¬ ((j : Int) < (L : Int)) := by omega
            obtain rfl : L = j := by omega
            have v1 := GI.out.ok.flys
            rw [GI.out.la] at v1
            have v2 := GI.out.ok.wle
            rw [GI.out.si] at v2
            have v3 : ((LS.tot (fun i => s2.fly i) L : Nat) : Int) ≤ (Z : Int) := by omega
            have v4 : ¬ ((Z : Int) < ((LS.tot (fun i => s2.fly i) L : Nat) : Int)) := by omega
            generalize LS.tot (fun i => s2.fly i) L = qt at *
            have KC := Lib.hid hK
            have GC := Lib.hid hbx
            clear hK hbx v1 v2
            go_wp2
            go_roundw
            case rel => exact ⟨m + 1, s2, by omega, by go_num, KC.out, GI.out, GC.out⟩
            case measure => simp [intOf] <;> omega
      · have hkd : (((kindN ok : Nat) : Int) == 0) = false := beq_eq_false_iff_ne.2 (by omega)
        generalize (stepS s ok (kk : Int) ox).2 = es at *
        generalize (stepS s ok (kk : Int) ox).1 = s2 at *
        obtain ⟨⟨e1, e2⟩, e3⟩ := es
        generalize kindN ok = kd at *
        generalize s.may (kk : Int) = mb at *
        have F1 := Lib.hid F1
        have F0 := Lib.hid F0
        have GI := Lib.hid hI2
        clear hI2 hst hk0 hmay
        go_wp2_with (first
          | (go_at_call 28; ((with_reducible refine (F0.out _ HA1.out).mono ?_); rintro e w' ⟨rfl, nd, rfl⟩; have KC := Lib.hid (HA1.out.drewN nd); have GC := Lib.hid (below_drewN' HA3.out nd); have HO := Lib.hid (drewN_at HA2.out nd); have hO := HO.out; have f0 := cell_at hO 0; have f1 := cell_at hO 1; have f2 := cell_at hO 2; clear hO))
          | (go_at_call 19; ((with_reducible refine (F1.out _ KC.out).mono ?_); rintro e w3 ⟨rfl, hK3, hO3⟩; have GC := Lib.hid (GC.out.trans (hO3.below (fun k hk => HB0.out k hk) GC.out.size)); have hO := hO3.at HO.out hoB; have hz3 := block_lt hO; clear f0 f1 f2; have f0 := cell_at hO 0; have f1 := cell_at hO 1; have f2 := cell_at hO 2; have KC := Lib.hid hK3; clear hK3 hO3 hO))
          | (go_at_call 29; ((with_reducible refine (FK.out _).mono ?_); rintro e w4 ⟨rfl, hb4⟩; have KC := Lib.hid ((KC.out.alloc _).below hb4); have GC := Lib.hid (Below.trans (GC.out.alloc GC.out.size _) (hb4.mono (by have := GC.out.size; simp; omega))); clear hb4)))
        go_loopw [14, 15] (fun v i wx => ∃ (j : Nat), j ≤ L ∧ i = .int .i64 (j : Int) ∧ v = .int .i64 ((LS.tot (fun i => s2.fly i) j : Nat) : Int) ∧ LinkAt wx b B s2 ∧ Below w.heap.size w wx) (fun _ i _ => L - (intOf i).toNat)
        case atStart => exact ⟨0, by omega, rfl, rfl, KC.out, GC.out⟩
        case round =>
          clear KC GC
          obtain ⟨j, hj, rfl, rfl, hK, hbx⟩ := hrel
          by_cases hjl : j < L
          · obtain ⟨v1, v2⟩ := sinv_lane GI.out hjl
            have v3 : LS.tot (fun i => s2.fly i) (j + 1) = LS.tot (fun i => s2.fly i) j + s2.fly j := rfl
            have v4 := crI_le hK.ok (j : Int)
            have v5 := flyI_le hK.ok (j : Int)
            have v6 := faI_le hK.ok (j : Int)
            have v7 := comI_le hK.ok (j : Int)
            have v8 : LS.tot (fun i => s2.fly i) j ≤ j * 64 := LS.tot_le j (fun i hi => by
              have := GI.out.ok.sum i (by have := GI.out.la; omega)
              have := GI.out.ok.d64
              omega)
            rw [← v2] at v3
            have G1 := fun w h => link_credits w b B s2 (j : Int) h
            have G2 := fun w h => link_flying w b B s2 (j : Int) h
            have G3 := fun w h => link_far w b B s2 (j : Int) h
            have G4 := fun w h => link_coming w b B s2 (j : Int) h
            have G5 := fun w h => link_sum w b B s2 (j : Int) h
            rw [v1] at G5
            have V3 := Lib.hid v3
            clear v2 v3
            generalize s2.crI (j : Int) = q1 at *
            generalize s2.flyI (j : Int) = q2 at *
            generalize s2.faI (j : Int) = q3 at *
            generalize s2.comI (j : Int) = q4 at *
            generalize LS.tot (fun i => s2.fly i) j = qt at *
            have i1 : (q1 : Int) ≤ 64 := by omega
            have i2 : (q2 : Int) ≤ 64 := by omega
            have i3 : (q3 : Int) ≤ 64 := by omega
            have i4 : (q4 : Int) ≤ 64 := by omega
            have i5 : (qt : Int) ≤ 512 := by omega
            have i7 : (q1 : Int) + (q2 : Int) + (q3 : Int) + (q4 : Int) = (D : Int) := by omega
            have i8 : ¬ (min (min (min (q1 : Int) q2) q3) q4 < 0) := by omega
            have G1 := Lib.hid G1
            have G2 := Lib.hid G2
            have G3 := Lib.hid G3
            have G4 := Lib.hid G4
            have G5 := Lib.hid G5
            have KC := Lib.hid hK
            have GC := Lib.hid hbx
            have hjI : (j : Int) < (L : Int) := by omega
            clear hK hbx v1 v4 v5 v6 v7 v8
            go_wp2_with (first
              | (go_at_call 21; ((with_reducible refine (G1.out _ KC.out).mono ?_); rintro e w' ⟨rfl, nd, rfl⟩; have KC := Lib.hid (KC.out.drewN nd); have GC := Lib.hid (below_drewN' GC.out nd)))
              | (go_at_call 23; ((with_reducible refine (G3.out _ KC.out).mono ?_); rintro e w' ⟨rfl, nd, rfl⟩; have KC := Lib.hid (KC.out.drewN nd); have GC := Lib.hid (below_drewN' GC.out nd)))
              | (go_at_call 24; ((with_reducible refine (G2.out _ KC.out).mono ?_); rintro e w6 ⟨rfl, hb6⟩; have KC := Lib.hid (KC.out.below hb6); have GC := Lib.hid (GC.out.trans (hb6.mono GC.out.size)); clear hb6))
              | (go_at_call 26; ((with_reducible refine (G4.out _ KC.out).mono ?_); rintro e w6 ⟨rfl, hb6⟩; have KC := Lib.hid (KC.out.below hb6); have GC := Lib.hid (GC.out.trans (hb6.mono GC.out.size)); clear hb6))
              | (go_at_call 30; ((with_reducible refine (G5.out _ KC.out).mono ?_); rintro e w6 ⟨rfl, hb6⟩; have KC := Lib.hid (KC.out.below hb6); have GC := Lib.hid (GC.out.trans (hb6.mono GC.out.size)); clear hb6)))
            go_roundw
            case rel => exact ⟨j + 1, by omega, by go_num, by rw [V3.out]; first | done | rfl | go_num, KC.out, GC.out⟩
            case measure => simp [intOf] <;> omega
          · have hjI : ¬ ((j : Int) < (L : Int)) := by omega
            obtain rfl : L = j := by omega
            have v1 := GI.out.ok.flys
            rw [GI.out.la] at v1
            have v2 := GI.out.ok.wle
            rw [GI.out.si] at v2
            have v3 : ((LS.tot (fun i => s2.fly i) L : Nat) : Int) ≤ (Z : Int) := by omega
            have v4 : ¬ ((Z : Int) < ((LS.tot (fun i => s2.fly i) L : Nat) : Int)) := by omega
            generalize LS.tot (fun i => s2.fly i) L = qt at *
            have KC := Lib.hid hK
            have GC := Lib.hid hbx
            clear hK hbx v1 v2
            go_wp2
            go_roundw
            case rel => exact ⟨m + 1, s2, by omega, by go_num, KC.out, GI.out, GC.out⟩
            case measure => simp [intOf] <;> omega
    · have hmI : ¬ ((m : Int) < (ls.length : Int)) := by omega
      have GC := Lib.hid hbw
      clear hK hbw
      go_wp2
      go_ret
      exact ⟨rfl, GC.out⟩
end Go.Proofs.Ytmehfflomgldeab
