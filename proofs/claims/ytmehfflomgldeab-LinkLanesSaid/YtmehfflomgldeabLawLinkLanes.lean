/- The walk of LinkLanes. -/
import Derived.Test.YtmehfflomgldeabLinkH
import Derived.BigQuiet
namespace Go.Proofs.Ytmehfflomgldeab
set_option linter.unusedVariables false
open Go.RowKit
theorem lanes2_mod (x : Int) : ∃ L : Nat, 2 + wrap64 ((IntKind.u64.wrap x).tmod 4) = (L : Int) ∧ 2 ≤ L ∧ L ≤ 5 := by
  have h : IntKind.u64.wrap x = x % 18446744073709551616 := by simp [IntKind.wrap, IntKind.bits, IntKind.signed]
  refine ⟨(2 + wrap64 ((IntKind.u64.wrap x).tmod 4)).toNat, ?_⟩
  rw [h, Int.tmod_eq_emod_of_nonneg (by omega)]
  unfold wrap64
  omega
structure LInv (s : LS) (L D n : Nat) (j : Nat) : Prop where
  ok : s.Ok
  la : s.lanes = L
  de : s.depth = D
  si : s.size = 64
  nl : n < L
  wl : s.wd.length = j
  cr : s.cr.getD n 0 + j = D
  fl : s.fly n = j
theorem linv_new {L D n : Nat} (h1 : 1 ≤ L) (h2 : L ≤ 8) (h3 : 1 ≤ D) (h4 : D ≤ 64) (hn : n < L) : LInv (LS.new L D 64) L D n 0 :=
  ⟨LS.new_ok h1 h2 h3 h4 (by omega) (by omega), rfl, rfl, rfl, hn, rfl, by show (List.replicate L D).getD n 0 + 0 = D; rw [LS.getD_repN hn]; rfl, rfl⟩
theorem linv_is {s : LS} {L D n j : Nat} (h : LInv s L D n j) : s.is n = true := LS.is_iff.2 ⟨by omega, by have := h.nl; have := h.la; omega⟩
theorem linv_vals {s : LS} {L D n : Nat} (h : LInv s L D n 0) : s.crI n = D ∧ s.flyI n + s.faI n + s.comI n = 0 := by
  have his := linv_is h
  have hs := h.ok.sum n (by have := h.nl; have := h.la; omega)
  have := h.cr; have := h.de
  unfold LS.crI LS.flyI LS.faI LS.comI
  rw [if_pos his, if_pos his, if_pos his, if_pos his, Int.toNat_natCast]
  omega
theorem linv_other {s : LS} {L D n : Nat} (h : LInv s L D n 0) {k : Nat} (hk : k ≠ n) (x : Int) : LInv (s.send ⟨k, x⟩).1.carry.1 L D n 0 := by
  have hwd : s.wd = [] := List.eq_nil_of_length_eq_zero h.wl
  have o1 := (h.ok.send ⟨k, x⟩).carry
  unfold LS.send at o1 ⊢
  by_cases h1 : s.is (k : Int) = true
  · rw [if_pos h1] at o1 ⊢
    by_cases h2 : s.cr.getD ((k : Int)).toNat 0 = 0
    · rw [if_pos h2] at o1 ⊢
      have e : s.carry.1 = s := by unfold LS.carry; rw [hwd]
      show LInv s.carry.1 L D n 0
      rw [e]; exact h
    · rw [if_neg h2] at o1 ⊢
      by_cases h3 : s.wd.length = s.size
      · rw [if_pos h3] at o1 ⊢
        have e : s.carry.1 = s := by unfold LS.carry; rw [hwd]
        show LInv s.carry.1 L D n 0
        rw [e]; exact h
      · rw [if_neg h3] at o1 ⊢
        have e : ({ s with cr := s.cr.set ((k : Int)).toNat (s.cr.getD ((k : Int)).toNat 0 - 1), wd := s.wd ++ [(⟨k, x⟩ : Cl)] } : LS).carry.1 = ({ s with cr := s.cr.set k (s.cr.getD k 0 - 1), wd := [], fa := s.fa.set k (s.fa.getD k 0 + 1) } : LS) := by
          rw [hwd]; rfl
        have o2 := o1
        rw [show (({ s with cr := s.cr.set ((k : Int)).toNat (s.cr.getD ((k : Int)).toNat 0 - 1), wd := s.wd ++ [(⟨k, x⟩ : Cl)] } : LS), (0 : Int)).1.carry.1 = ({ s with cr := s.cr.set k (s.cr.getD k 0 - 1), wd := [], fa := s.fa.set k (s.fa.getD k 0 + 1) } : LS) from e] at o2 ⊢
        have hk2 := LS.is_iff.1 h1
        refine ⟨o2, h.la, h.de, h.si, h.nl, rfl, ?_, rfl⟩
        show (s.cr.set k _).getD n 0 + 0 = D
        rw [LS.getD_setN (by rw [h.ok.crl]; omega), if_neg hk]
        exact h.cr
  · rw [if_neg h1] at o1 ⊢
    have e : s.carry.1 = s := by unfold LS.carry; rw [hwd]
    show LInv s.carry.1 L D n 0
    rw [e]; exact h
theorem linv_send {s : LS} {L D n j : Nat} (h : LInv s L D n j) (hj : j < D) (hD : D ≤ 5) (x : Int) : ∃ s', s.send ⟨n, x⟩ = (s', 0) ∧ LInv s' L D n (j + 1) := by
  have his := linv_is h
  have hcr := h.cr
  have hne : ¬ s.cr.getD n 0 = 0 := by omega
  have hwl := h.wl
  have hsi := h.si
  have e1 : s.send ⟨n, x⟩ = (({ s with cr := s.cr.set n (s.cr.getD n 0 - 1), wd := s.wd ++ [(⟨n, x⟩ : Cl)] } : LS), (0 : Int)) := by
    unfold LS.send
    rw [if_pos his]
    show (if s.cr.getD n 0 = 0 then (s, (8 : Int)) else if s.wd.length = s.size then (s, 7) else (({ s with cr := s.cr.set n (s.cr.getD n 0 - 1), wd := s.wd ++ [(⟨n, x⟩ : Cl)] } : LS), (0 : Int))) = _
    rw [if_neg hne, if_neg (by omega)]
  have o1 := h.ok.send ⟨n, x⟩
  rw [e1] at o1
  refine ⟨_, e1, o1, h.la, h.de, h.si, h.nl, ?_, ?_, ?_⟩
  · show (s.wd ++ [_]).length = j + 1
    rw [List.length_append, hwl]; rfl
  · show (s.cr.set n _).getD n 0 + (j + 1) = D
    rw [LS.getD_setN (by rw [h.ok.crl, h.la]; exact h.nl), if_pos rfl]
    omega
  · show ((s.wd ++ [(⟨n, x⟩ : Cl)]).map Cl.lane).count (n : Int) = j + 1
    have hf := h.fl
    unfold LS.fly at hf
    rw [List.map_append, List.map_singleton, LS.count_snoc, hf, if_pos rfl]
theorem linv_end {s : LS} {L D n : Nat} (h : LInv s L D n D) (x : Int) : s.send ⟨n, x⟩ = (s, 8) ∧ s.may n = false ∧ s.flyI n = D := by
  have his := linv_is h
  have hcr := h.cr
  have h0 : s.cr.getD n 0 = 0 := by omega
  refine ⟨?_, ?_, ?_⟩
  · unfold LS.send
    rw [if_pos his]
    show (if s.cr.getD n 0 = 0 then (s, (8 : Int)) else _) = _
    rw [if_pos h0]
  · unfold LS.may
    rw [Int.toNat_natCast, h0]; simp
  · unfold LS.flyI; rw [if_pos his, h.fl]
set_option maxRecDepth 100000 in
set_option maxHeartbeats 2000000 in
theorem linkLanes_walk (p q lane : Int) (a : Option Addr) (c : Nat) (l : List Int) (w : World) (hl : l.length ≤ maxLen) (hc : l.length ≤ c) (hr : IntsAt .i64 w a l) :
    Calls Try.prog 8 #[.agg #[.int .i64 p, .int .i64 q], .int .i64 lane, .slice a l.length c] w fun e w' => e = .returned (.bool true) ∧ Below w.heap.size w w' := by
  obtain ⟨L, hL, hL2, hL5⟩ := lanes2_mod p
  obtain ⟨D, hD, hD1, hD5⟩ := five_mod q
  obtain ⟨n, hn, hnL⟩ := lane_mod lane L (by omega) (by omega)
  unfold maxLen at hl
  have HV := Lib.hid lives13_calls
  have hN := fun w => link_new (L : Int) (D : Int) 64 w
  rw [show clampN (L : Int) 8 = L from by unfold clampN; omega, show clampN (D : Int) 64 = D from by unfold clampN; omega, show clampN 64 64 = 64 from by decide] at hN
  have HN := Lib.hid hN
  clear hN
  go_enter Try.func8, Try.ntmps8
  go_wp2_with (first
    | (go_at_call 15; ((with_reducible refine (HV.out _).mono ?_); rintro e w1 ⟨rfl, hb1⟩; have hF := Below.at hb1 (alloc_new _) (by simp); have f0 := cell_at hF 0; have f1 := cell_at hF 1; have hb1' : Below w.heap.size w w1 := (Below.trans ((Below.refl _ _).alloc (Nat.le_refl _) _) (hb1.mono (by simp))); have hb1s := hb1'.size; clear hF hb1)))
  go_quiet (fail)
  go_wp2_with (first
    | (go_at_call 16; ((with_reducible refine (HN.out _).mono ?_); rintro e w2 ⟨b, B, rfl, hK, hB, hb2⟩)))
  have h2 : Below w.heap.size w w2 := (Below.trans (below_drewN' hb1' _) (hb2.mono (by simpa using hb1s)))
  have hB0 : ∀ k ∈ B, w.heap.size ≤ k := fun k hk => Nat.le_trans (by simpa using hb1s) (hB k hk)
  have HB0 := Lib.hid hB0
  have HI := Lib.hid (linv_new (L := L) (D := D) (n := n) (by omega) (by omega) hD1 (by omega) hnL)
  clear hb1' hb2 hB hB0 HV HN f0 f1 hb1s
  generalize LS.new L D 64 = s0 at *
  go_loopw [10] (fun i wr => ∃ (m : Nat) (s : LS), m ≤ l.length ∧ m ≤ 20 ∧ i = .int .i64 (m : Int) ∧ LinkAt wr b B s ∧ Hid (LInv s L D n 0) ∧ Below w.heap.size w wr) (fun i _ => l.length - (intOf i).toNat)
  case atStart => exact ⟨0, s0, by omega, by omega, rfl, hK, HI, h2⟩
  case round =>
    clear hK HI h2
    obtain ⟨m, s, hm, hm20, rfl, hK, hI, hbw⟩ := hrel
    by_cases hlm : m < l.length
    · by_cases h20 : m < 20
      · obtain ⟨blk, off, rfl, hcell⟩ := hr m hlm
        have hlt : blk < w.heap.size := World.block_lt_of_cell? w _ hcell
        have HC : Hid (∀ w', Below w.heap.size w w' → w'.cell? ⟨blk, off + m, none⟩ = some (.int .i64 (l.getD m 0))) := fun w' h => (h.cell (p := ⟨blk, off + m, none⟩) hlt).trans hcell
        generalize l.getD m 0 = x at HC
        clear hcell hlt
        have c0 := HC.out wr hbw
        obtain ⟨kk, hk, hkL⟩ := lane_mod x L (by omega) (by omega)
        have hlmI : (m : Int) < (l.length : Int) := by omega
        have GW := Lib.hid hbw
        clear hbw
        by_cases hkn : kk = n
        · subst hkn
          obtain ⟨v1, v2⟩ := linv_vals hI.out
          have G1 := fun w h => link_credits w b B s kk h
          have G2 := fun w h => link_flying w b B s kk h
          have G3 := fun w h => link_far w b B s kk h
          have G4 := fun w h => link_coming w b B s kk h
          rw [v1] at G1
          rw [show s.flyI kk = 0 from by omega] at G2
          rw [show s.faI kk = 0 from by omega] at G3
          rw [show s.comI kk = 0 from by omega] at G4
          have KS := Lib.hid hK
          have G1 := Lib.hid G1
          have G2 := Lib.hid G2
          have G3 := Lib.hid G3
          have G4 := Lib.hid G4
          clear hK v1 v2
          go_wp2_with (first
            | (go_at_call 21; ((with_reducible refine (G1.out _ KS.out).mono ?_); rintro e w' ⟨rfl, nd, rfl⟩; have K5 := Lib.hid (KS.out.drewN nd)))
            | (go_at_call 24; ((with_reducible refine (G2.out _ K5.out).mono ?_); rintro e w6 ⟨rfl, hb6⟩; have K6 := Lib.hid (K5.out.below hb6)))
            | (go_at_call 23; ((with_reducible refine (G3.out _ K6.out).mono ?_); rintro e w' ⟨rfl, ne, rfl⟩; have K7 := Lib.hid (K6.out.drewN ne)))
            | (go_at_call 26; ((with_reducible refine (G4.out _ K7.out).mono ?_); rintro e w8 ⟨rfl, hb8⟩; have K8 := Lib.hid (K7.out.below hb8))))
          go_roundw
          case rel =>
            have h6 := (below_drewN' GW.out nd).trans (hb6.mono (below_drewN' GW.out nd).size)
            have h8 := (below_drewN' h6 ne).trans (hb8.mono (below_drewN' h6 ne).size)
            exact ⟨m + 1, s, by omega, by omega, by go_num, K8.out, hI, h8⟩
          case measure => simp [intOf] <;> omega
        · have hI2 := linv_other hI.out hkn 1
          have hknI : ((kk : Int) == (n : Int)) = false := beq_eq_false_iff_ne.2 (by omega)
          have hknJ : ¬ ((kk : Int) = (n : Int)) := by omega
          have F1 := fun w h => link_send w b B s ⟨kk, 1⟩ h
          have F2 := fun w h => link_carry w b B (s.send ⟨kk, 1⟩).1 h
          generalize (s.send ⟨kk, 1⟩).1 = s1 at *
          generalize (s.send ⟨kk, 1⟩).2 = es at *
          generalize s1.carry.2 = ec at *
          generalize s1.carry.1 = s2 at *
          obtain ⟨⟨ec1, ec2⟩, ec3⟩ := ec
          obtain ⟨v1, v2⟩ := linv_vals hI2
          have G1 := fun w h => link_credits w b B s2 n h
          have G2 := fun w h => link_flying w b B s2 n h
          have G3 := fun w h => link_far w b B s2 n h
          have G4 := fun w h => link_coming w b B s2 n h
          rw [v1] at G1
          rw [show s2.flyI n = 0 from by omega] at G2
          rw [show s2.faI n = 0 from by omega] at G3
          rw [show s2.comI n = 0 from by omega] at G4
          have K0 := Lib.hid hK
          have F1 := Lib.hid F1
          have F2 := Lib.hid F2
          have G1 := Lib.hid G1
          have G2 := Lib.hid G2
          have G3 := Lib.hid G3
          have G4 := Lib.hid G4
          have GI := Lib.hid hI2
          clear hK v1 v2 hI2 hI hkn
          go_wp2_with (first
          | (go_at_call 35; ((with_reducible refine (F1.out _ K0.out).mono ?_); rintro e w3 ⟨rfl, hK3, hO3⟩; have K3 := Lib.hid hK3; have O3 := Lib.hid hO3; clear hK3 hO3))
          | (go_at_call 31; ((with_reducible refine (F2.out _ K3.out).mono ?_); rintro e w4 ⟨rfl, hK4, hO4⟩; have KS := Lib.hid hK4; have O4 := Lib.hid hO4; clear hK4 hO4))
            | (go_at_call 21; ((with_reducible refine (G1.out _ KS.out).mono ?_); rintro e w' ⟨rfl, nd, rfl⟩; have K5 := Lib.hid (KS.out.drewN nd)))
            | (go_at_call 24; ((with_reducible refine (G2.out _ K5.out).mono ?_); rintro e w6 ⟨rfl, hb6⟩; have K6 := Lib.hid (K5.out.below hb6)))
            | (go_at_call 23; ((with_reducible refine (G3.out _ K6.out).mono ?_); rintro e w' ⟨rfl, ne, rfl⟩; have K7 := Lib.hid (K6.out.drewN ne)))
            | (go_at_call 26; ((with_reducible refine (G4.out _ K7.out).mono ?_); rintro e w8 ⟨rfl, hb8⟩; have K8 := Lib.hid (K7.out.below hb8))))
          go_roundw
          case rel =>
            have h4 := GW.out.trans ((O3.out.trans O4.out).below (fun k hk => HB0.out k hk) GW.out.size)
            have h6 := (below_drewN' h4 nd).trans (hb6.mono (below_drewN' h4 nd).size)
            have h8 := (below_drewN' h6 ne).trans (hb8.mono (below_drewN' h6 ne).size)
            exact ⟨m + 1, s2, by omega, by omega, by go_num, K8.out, GI.out, h8⟩
          case measure => simp [intOf] <;> omega
      · skip
        have hmn : ¬ ((m : Int) < (l.length : Int) ∧ (m : Int) < 20) := by omega
        have K0 := Lib.hid hK
        have GW := Lib.hid hbw
        clear hK hbw
        go_wp2
        go_loopw [12] (fun i wx => ∃ (j : Nat) (s' : LS), j ≤ D ∧ i = .int .i64 (j : Int) ∧ LinkAt wx b B s' ∧ Hid (LInv s' L D n j) ∧ Below w.heap.size w wx) (fun i _ => D - (intOf i).toNat)
        case atStart => exact ⟨0, s, by omega, rfl, K0.out, hI, GW.out⟩
        case round =>
          clear K0 hI GW
          obtain ⟨j, s', hj, rfl, hK, hI, hbx⟩ := hrel
          by_cases hjd : j < D
          · obtain ⟨s2, e1, hI2⟩ := linv_send hI.out hjd hD5 (j : Int)
            have F1 := fun w h => link_send w b B s' ⟨n, (j : Int)⟩ h
            rw [e1] at F1
            have F1 := Lib.hid F1
            have K0 := Lib.hid hK
            have GW := Lib.hid hbx
            have GI := Lib.hid hI2
            have hjI : (j : Int) < (D : Int) := by omega
            clear e1 hK hbx hI2 hI
            go_wp2_with (first
              | (go_at_call 35; ((with_reducible refine (F1.out _ K0.out).mono ?_); rintro e w3 ⟨rfl, hK3, hO3⟩; have K3 := Lib.hid hK3; have O3 := Lib.hid hO3; clear hK3 hO3)))
            go_roundw
            case rel => exact ⟨j + 1, s2, by omega, by go_num, K3.out, GI.out, GW.out.trans (O3.out.below (fun k hk => HB0.out k hk) GW.out.size)⟩
            case measure => simp [intOf] <;> omega
          · obtain rfl : j = D := by omega
            obtain ⟨e1, e2, e3⟩ := linv_end hI.out 0
            have F1 := fun w h => link_send w b B s' ⟨n, 0⟩ h
            have F2 := fun w h => link_may w b B s' n h
            have F3 := fun w h => link_flying w b B s' n h
            rw [e1] at F1
            rw [e2] at F2
            rw [e3] at F3
            have F1 := Lib.hid F1
            have F2 := Lib.hid F2
            have F3 := Lib.hid F3
            have K0 := Lib.hid hK
            have GW := Lib.hid hbx
            clear e1 e2 e3 hK hbx hI
            go_wp2_with (first
              | (go_at_call 35; ((with_reducible refine (F1.out _ K0.out).mono ?_); rintro e w3 ⟨rfl, hK3, hO3⟩; have K3 := Lib.hid hK3; have O3 := Lib.hid hO3; clear hK3 hO3))
              | (go_at_call 28; ((with_reducible refine (F2.out _ K3.out).mono ?_); rintro e w' ⟨rfl, nd, rfl⟩; have K4 := Lib.hid (K3.out.drewN nd)))
              | (go_at_call 24; ((with_reducible refine (F3.out _ K4.out).mono ?_); rintro e w6 ⟨rfl, hb6⟩)))
            go_ret
            have h3 := GW.out.trans (O3.out.below (fun k hk => HB0.out k hk) GW.out.size)
            exact ⟨rfl, (below_drewN' h3 nd).trans (hb6.mono (below_drewN' h3 nd).size)⟩
    · skip
      have hmn : ¬ ((m : Int) < (l.length : Int) ∧ (m : Int) < 20) := by omega
      have K0 := Lib.hid hK
      have GW := Lib.hid hbw
      clear hK hbw
      go_wp2
      go_loopw [12] (fun i wx => ∃ (j : Nat) (s' : LS), j ≤ D ∧ i = .int .i64 (j : Int) ∧ LinkAt wx b B s' ∧ Hid (LInv s' L D n j) ∧ Below w.heap.size w wx) (fun i _ => D - (intOf i).toNat)
      case atStart => exact ⟨0, s, by omega, rfl, K0.out, hI, GW.out⟩
      case round =>
        clear K0 hI GW
        obtain ⟨j, s', hj, rfl, hK, hI, hbx⟩ := hrel
        by_cases hjd : j < D
        · obtain ⟨s2, e1, hI2⟩ := linv_send hI.out hjd hD5 (j : Int)
          have F1 := fun w h => link_send w b B s' ⟨n, (j : Int)⟩ h
          rw [e1] at F1
          have F1 := Lib.hid F1
          have K0 := Lib.hid hK
          have GW := Lib.hid hbx
          have GI := Lib.hid hI2
          have hjI : (j : Int) < (D : Int) := by omega
          clear e1 hK hbx hI2 hI
          go_wp2_with (first
            | (go_at_call 35; ((with_reducible refine (F1.out _ K0.out).mono ?_); rintro e w3 ⟨rfl, hK3, hO3⟩; have K3 := Lib.hid hK3; have O3 := Lib.hid hO3; clear hK3 hO3)))
          go_roundw
          case rel => exact ⟨j + 1, s2, by omega, by go_num, K3.out, GI.out, GW.out.trans (O3.out.below (fun k hk => HB0.out k hk) GW.out.size)⟩
          case measure => simp [intOf] <;> omega
        · obtain rfl : j = D := by omega
          obtain ⟨e1, e2, e3⟩ := linv_end hI.out 0
          have F1 := fun w h => link_send w b B s' ⟨n, 0⟩ h
          have F2 := fun w h => link_may w b B s' n h
          have F3 := fun w h => link_flying w b B s' n h
          rw [e1] at F1
          rw [e2] at F2
          rw [e3] at F3
          have F1 := Lib.hid F1
          have F2 := Lib.hid F2
          have F3 := Lib.hid F3
          have K0 := Lib.hid hK
          have GW := Lib.hid hbx
          clear e1 e2 e3 hK hbx hI
          go_wp2_with (first
            | (go_at_call 35; ((with_reducible refine (F1.out _ K0.out).mono ?_); rintro e w3 ⟨rfl, hK3, hO3⟩; have K3 := Lib.hid hK3; have O3 := Lib.hid hO3; clear hK3 hO3))
            | (go_at_call 28; ((with_reducible refine (F2.out _ K3.out).mono ?_); rintro e w' ⟨rfl, nd, rfl⟩; have K4 := Lib.hid (K3.out.drewN nd)))
            | (go_at_call 24; ((with_reducible refine (F3.out _ K4.out).mono ?_); rintro e w6 ⟨rfl, hb6⟩)))
          go_ret
          have h3 := GW.out.trans (O3.out.below (fun k hk => HB0.out k hk) GW.out.size)
          exact ⟨rfl, (below_drewN' h3 nd).trans (hb6.mono (below_drewN' h3 nd).size)⟩
end Go.Proofs.Ytmehfflomgldeab
