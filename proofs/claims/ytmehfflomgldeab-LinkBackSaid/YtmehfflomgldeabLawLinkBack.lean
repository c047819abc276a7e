/- The walk of LinkBack. -/
import Derived.Test.YtmehfflomgldeabLinkH
namespace Go.Proofs.Ytmehfflomgldeab
set_option linter.unusedVariables false
open Go.RowKit
theorem intsNew_only {k : IntKind} {B : Nat} {w w' : World} {a : Option Addr} {l : List Int} {S : List Nat} (h : IntsNew B k w a l) (ho : Only S w w') (hS : ∀ x ∈ S, x < B) : IntsNew B k w' a l := fun i hi => by
  obtain ⟨blk, e, hb, hc⟩ := h i hi
  exact ⟨blk, e, hb, only_cell ho (fun hm => Nat.lt_irrefl _ (Nat.lt_of_lt_of_le (hS _ hm) hb)) hc⟩
structure BInv (s : LS) (L : Nat) (t : List Int) : Prop where
  ok : s.Ok
  la : s.lanes = L
  de : s.depth = 64
  si : s.size = 64
  wd : s.wd = []
  fa : ∀ i, s.fa.getD i 0 = 0
  bk : s.bk = t
theorem binv_new {L : Nat} (h1 : 1 ≤ L) (h2 : L ≤ 8) : BInv (LS.new L 64 64) L [] :=
  ⟨LS.new_ok h1 h2 (by omega) (by omega) (by omega) (by omega), rfl, rfl, rfl, rfl, fun i => by
    show (List.replicate L 0).getD i 0 = 0
    rw [List.getD_eq_getElem?_getD, List.getElem?_replicate]; split <;> rfl, rfl⟩
theorem binv_step {s : LS} {L : Nat} {t : List Int} {k : Nat} (h : BInv s L t) (hk : k < L) (ht : t.length < 40) :
    ∃ s1 s2 s3, s.send ⟨k, 0⟩ = (s1, 0) ∧ s1.carry = (s2, ⟨k, 0⟩, 0) ∧ s2.taken k = (s3, 0) ∧ BInv s3 L (t ++ [(k : Int)]) ∧ s3.crI k + s3.comI k = 64 := by
  have hsum := h.ok.sum k (by rw [h.la]; exact hk)
  have hcl := h.ok.crl
  have hfl := h.ok.fal
  have hcom : s.com k ≤ t.length := by unfold LS.com; rw [h.bk]; exact List.count_le_length ..
  have hfly : s.fly k = 0 := by unfold LS.fly; rw [h.wd]; rfl
  rw [hfly, h.fa, h.de] at hsum
  have hlk : k < s.lanes := by rw [h.la]; exact hk
  have his : s.is k = true := LS.is_iff.2 ⟨by omega, by omega⟩
  have hcr : ¬ s.cr.getD k 0 = 0 := by omega
  have e1 : s.send ⟨k, 0⟩ = (({ s with cr := s.cr.set k (s.cr.getD k 0 - 1), wd := [(⟨k, 0⟩ : Cl)] } : LS), (0 : Int)) := by
    unfold LS.send
    rw [if_pos his]
    show (if s.cr.getD k 0 = 0 then (s, (8 : Int)) else if s.wd.length = s.size then (s, 7) else (({ s with cr := s.cr.set k (s.cr.getD k 0 - 1), wd := s.wd ++ [(⟨k, 0⟩ : Cl)] } : LS), (0 : Int))) = _
    rw [if_neg hcr, if_neg (by rw [h.wd, h.si]; decide), h.wd]; rfl
  have o1 := h.ok.send ⟨k, 0⟩
  rw [e1] at o1
  have e2 : ({ s with cr := s.cr.set k (s.cr.getD k 0 - 1), wd := [(⟨k, 0⟩ : Cl)] } : LS).carry = (({ s with cr := s.cr.set k (s.cr.getD k 0 - 1), wd := [], fa := s.fa.set k 1 } : LS), (⟨k, 0⟩ : Cl), (0 : Int)) := by
    show (({ s with cr := s.cr.set k (s.cr.getD k 0 - 1), wd := [], fa := s.fa.set k (s.fa.getD k 0 + 1) } : LS), (⟨k, 0⟩ : Cl), (0 : Int)) = _
    rw [h.fa]
  have o2 := o1.carry
  rw [e2] at o2
  have e3 : ({ s with cr := s.cr.set k (s.cr.getD k 0 - 1), wd := [], fa := s.fa.set k 1 } : LS).taken k = (({ s with cr := s.cr.set k (s.cr.getD k 0 - 1), wd := [], fa := (s.fa.set k 1).set k 0, bk := t ++ [(k : Int)] } : LS), (0 : Int)) := by
    unfold LS.taken
    have i2 : ({ s with cr := s.cr.set k (s.cr.getD k 0 - 1), wd := [], fa := s.fa.set k 1 } : LS).is k = true := his
    rw [if_pos i2]
    show (if (s.fa.set k 1).getD k 0 = 0 then _ else (({ s with cr := s.cr.set k (s.cr.getD k 0 - 1), wd := [], fa := (s.fa.set k 1).set k ((s.fa.set k 1).getD k 0 - 1), bk := s.bk ++ [(k : Int)] } : LS), (0 : Int))) = _
    rw [LS.getD_setN (by omega), if_pos rfl, if_neg (by decide), h.bk]
  have o3 := o2.taken k
  rw [e3] at o3
  have b3 : BInv ({ s with cr := s.cr.set k (s.cr.getD k 0 - 1), wd := [], fa := (s.fa.set k 1).set k 0, bk := t ++ [(k : Int)] } : LS) L (t ++ [(k : Int)]) := ⟨o3, h.la, h.de, h.si, rfl, fun i => by
    show ((s.fa.set k 1).set k 0).getD i 0 = 0
    rw [LS.getD_setN (by rw [List.length_set]; omega)]
    split
    · rfl
    · rename_i hn
      rw [LS.getD_setN (by omega), if_neg hn, h.fa], rfl⟩
  refine ⟨_, _, _, e1, e2, e3, b3, ?_⟩
  have s3 := o3.sum k hlk
  have f3 := b3.fa k
  have hd3 := b3.de
  have i3 : ({ s with cr := s.cr.set k (s.cr.getD k 0 - 1), wd := [], fa := (s.fa.set k 1).set k 0, bk := t ++ [(k : Int)] } : LS).is k = true := his
  have hf0 : ({ s with cr := s.cr.set k (s.cr.getD k 0 - 1), wd := [], fa := (s.fa.set k 1).set k 0, bk := t ++ [(k : Int)] } : LS).fly k = 0 := rfl
  clear e3 o3 b3
  generalize ({ s with cr := s.cr.set k (s.cr.getD k 0 - 1), wd := [], fa := (s.fa.set k 1).set k 0, bk := t ++ [(k : Int)] } : LS) = z at *
  unfold LS.crI LS.comI
  rw [if_pos i3, if_pos i3, Int.toNat_natCast]
  rw [hf0, f3, hd3] at s3
  omega
theorem binv_credit {s : LS} {L : Nat} {t : List Int} {k : Int} (h : BInv s L (k :: t)) : ∃ s', s.credit = (s', 0) ∧ BInv s' L t ∧ s'.crI k = s.crI k + 1 := by
  have hb := h.ok.bin k (by rw [h.bk]; exact List.mem_cons_self ..)
  have e1 : s.credit = (({ s with bk := t, cr := s.cr.set k.toNat (s.cr.getD k.toNat 0 + 1) } : LS), (0 : Int)) := by unfold LS.credit; rw [h.bk]
  have o1 := h.ok.credit
  rw [e1] at o1
  refine ⟨_, e1, ⟨o1, h.la, h.de, h.si, h.wd, h.fa, rfl⟩, ?_⟩
  have his : s.is k = true := LS.is_iff.2 hb
  have i2 : ({ s with bk := t, cr := s.cr.set k.toNat (s.cr.getD k.toNat 0 + 1) } : LS).is k = true := his
  unfold LS.crI
  rw [if_pos his, if_pos i2]
  have := h.ok.crl
  show (s.cr.set k.toNat _).getD k.toNat 0 = _
  rw [LS.getD_setN (by omega), if_pos rfl]
theorem sum_zero : ∀ l : List Nat, (∀ i, l.getD i 0 = 0) → l.sum = 0
  | [], _ => rfl
  | a :: l, h => by
    have h0 := h 0
    have := sum_zero l (fun i => by have := h (i + 1); simpa using this)
    simp at h0
    rw [List.sum_cons, h0, this]
theorem binv_end {s : LS} {L : Nat} (h : BInv s L []) : s.credit = (s, 8) ∧ s.idle = true := by
  refine ⟨by unfold LS.credit; rw [h.bk], ?_⟩
  unfold LS.idle
  rw [h.wd, h.bk, sum_zero _ h.fa]; rfl
set_option maxRecDepth 100000 in
set_option maxHeartbeats 2000000 in
theorem linkBack_walk (lanes : Int) (a : Option Addr) (c : Nat) (l : List Int) (w : World) (hl : l.length ≤ maxLen) (hc : l.length ≤ c) (hr : IntsAt .i64 w a l) (hw : ∀ x ∈ l, (Lit.int .i64 x).wf = true) :
    Calls Try.prog 9 #[.int .i64 lanes, .slice a l.length c] w fun e w' => e = .returned (.bool true) ∧ Below w.heap.size w w' := by
  obtain ⟨L, hL, hL1, hL4⟩ := lanes_mod lanes
  unfold maxLen at hl
  have HV := Lib.hid lives13_calls
  have hN := fun w => link_new (L : Int) 64 64 w
  rw [show clampN (L : Int) 8 = L from by unfold clampN; omega, show clampN 64 64 = 64 from by decide] at hN
  have HN := Lib.hid hN
  clear hN
  go_enter Try.func9, Try.ntmps9
  go_wp2_with (first
    | (go_at_call 15; ((with_reducible refine (HV.out _).mono ?_); rintro e w1 ⟨rfl, hb1⟩))
    | (go_at_call 16; ((with_reducible refine (HN.out _).mono ?_); rintro e w2 ⟨b, B, rfl, hK, hB, hb2⟩)))
  have h1 : Below w.heap.size w w1 := hb1
  have h2 : Below w.heap.size w w2 := h1.trans (hb2.mono h1.size)
  have hBl := hK.lt
  have HB := Lib.hid (And.intro hB (And.intro hBl h2))
  have hB0 : ∀ k ∈ B, w.heap.size ≤ k := fun k hk => Nat.le_trans h1.size (hB k hk)
  have HB0 := Lib.hid hB0
  have HI := Lib.hid (binv_new (L := L) hL1 (by omega))
  have h2s := h2.size
  clear hb1 hb2 h1 h2 hB hBl hB0 HV HN
  generalize LS.new L 64 64 = s0 at *
  go_loopw [6, 7] (fun v i wr => ∃ (m : Nat) (s : LS) (t : List Int), m ≤ l.length ∧ m ≤ 40 ∧ i = .int .i64 (m : Int) ∧ t.length = m ∧ LinkAt wr b B s ∧ Hid (BInv s L t) ∧ wr.ownsRow w2.heap.size 3 1 v m (t.map (Value.int .i64)) ∧ Below w.heap.size w wr ∧ w2.heap.size ≤ wr.heap.size) (fun _ i _ => l.length - (intOf i).toNat)
  case atStart => exact ⟨0, s0, [], by omega, by omega, rfl, rfl, hK, HI, World.ownsRow_nil _ _ _ _, HB.out.2.2, Nat.le_refl _⟩
  case round =>
    obtain ⟨m, s, t, hm, hm40, rfl, htm, hK, hI, hown, hbw, hws⟩ := hrel
    have HTM := Lib.hid htm
    clear htm
    by_cases hlm : m < l.length
    · by_cases h40 : m < 40
      · obtain ⟨blk, off, rfl, hcell⟩ := hr m hlm
        have hlt : blk < w.heap.size := World.block_lt_of_cell? w _ hcell
        have HC : Hid (∀ w', Below w.heap.size w w' → w'.cell? ⟨blk, off + m, none⟩ = some (.int .i64 (l.getD m 0))) := fun w' h => (h.cell (p := ⟨blk, off + m, none⟩) hlt).trans hcell
        generalize l.getD m 0 = x at HC
        clear hcell hlt
        have c0 := HC.out wr hbw
        obtain ⟨kk, hk, hkL⟩ := lane_mod x L hL1 (by omega)
        obtain ⟨s1, s2, s3, e1, e2, e3, hI3, hcc⟩ := binv_step hI.out hkL (by rw [HTM.out]; exact h40)
        have H1 := fun w h => link_send w b B s ⟨kk, 0⟩ h
        have H2 := fun w h => link_carry w b B s1 h
        have H3 := fun w h => link_taken w b B s2 kk h
        rw [e1] at H1
        rw [e2] at H2
        rw [e3] at H3
        have H4 := fun w h => link_credits w b B s3 kk h
        have H5 := fun w h => link_coming w b B s3 kk h
        generalize s3.crI kk = q1 at *
        generalize s3.comI kk = q2 at *
        have hq : (q1 : Int) + (q2 : Int) = 64 := by omega
        have G1 := Lib.hid H1
        have G2 := Lib.hid H2
        have G3 := Lib.hid H3
        have G4 := Lib.hid H4
        have G5 := Lib.hid H5
        have GI := Lib.hid hI3
        have GK := Lib.hid hK
        clear H1 H2 H3 H4 H5 hI3 hcc e1 e2 e3 hK
        have hlmI : (m : Int) < (l.length : Int) := by omega
        go_wp2_with (first
          | (go_at_call 35; ((with_reducible refine (G1.out _ GK.out).mono ?_); rintro e w3 ⟨rfl, hK3, hO3⟩; have K3 := Lib.hid hK3; clear hK3))
          | (go_at_call 31; ((with_reducible refine (G2.out _ K3.out).mono ?_); rintro e w4 ⟨rfl, hK4, hO4⟩; have K4 := Lib.hid hK4; clear hK4))
          | (go_at_call 32; ((with_reducible refine (G3.out _ K4.out).mono ?_); rintro e w5 ⟨rfl, hK5, hO5⟩; have K5 := Lib.hid hK5; clear hK5))
          | (go_at_call 21; ((with_reducible refine (G4.out _ K5.out).mono ?_); rintro e w' ⟨rfl, k, rfl⟩))
          | (go_at_call 26; ((with_reducible refine (G5.out _ (K5.out.drewN _)).mono ?_); rintro e w6 ⟨rfl, hb6⟩; have K6 := Lib.hid ((K5.out.drewN _).below hb6); have hO35 := hO3.trans (hO4.trans hO5); have hown6 := ownsRow_below (ownsRow_drewN (ownsRow_only hown hO35 HB.out.2.1) _) hb6; have hs35 := hO35.size; have hs6 := hb6.size; have hs26 : w2.heap.size ≤ w6.heap.size := (by simp at hs6; omega); have HO35 := Lib.hid hO35; clear hown hO35))
          | (at_builtin; refine append_own (W0 := w6) [.int .i64 (kk : Int)] w2.heap.size _ _ _ 1 8 infoInt Try.underlying27 rfl (by decide) _ _ _ hown6 (Below.refl _ _) hs26 rfl (by simp [Value.oneCell']) (by omega) (by decide) rfl _ _ rfl rfl rfl ?_; intro v1 w7 hown7 hb7 hg7 hor7; clear hg7 hor7 hown6))
        go_roundw
        case rel =>
          have hw5 : Below w.heap.size w _ := hbw.trans (HO35.out.below (fun k hk => HB0.out k hk) hbw.size)
          have hw6 := Below.trans (below_drewN' hw5 _) (hb6.mono (by have := hw5.size; simpa using this))
          have hw7 := hw6.trans (hb7.mono h2s)
          exact ⟨m + 1, s3, t ++ [(kk : Int)], by omega, by omega, by go_num, by rw [List.length_append, HTM.out]; rfl, K6.out.belowN hb7 HB.out.2.1, GI.out, by rw [List.map_append]; exact hown7, hw7, by have := hb7.size; omega⟩
        case measure => simp [intOf] <;> omega
      · skip
        have htm := HTM.out
        subst htm
        obtain ⟨a2, c2, rfl, hrow⟩ := IntsNew.own hown
        have HROW := Lib.hid hrow
        have HK0 := Lib.hid hK
        have HI0 := Lib.hid hI
        have HBW := Lib.hid hbw
        have htl : ((t.length : Nat) : Int) ≤ 40 := by omega
        have hmn : ¬ (((t.length : Nat) : Int) < (l.length : Int) ∧ ((t.length : Nat) : Int) < 40) := by omega
        clear hown hrow hK hI hbw
        go_wp2
        go_loopw [9] (fun i wx => ∃ (j : Nat) (s' : LS), j ≤ t.length ∧ i = .int .i64 (j : Int) ∧ LinkAt wx b B s' ∧ Hid (BInv s' L (t.drop j)) ∧ Hid (IntsNew w2.heap.size .i64 wx a2 t) ∧ Below w.heap.size w wx) (fun i _ => t.length - (intOf i).toNat)
        case atStart => exact ⟨0, s, by omega, rfl, HK0.out, HI0.out, HROW.out, HBW.out⟩
        case round =>
          obtain ⟨j, s', hj, rfl, hK, hI, hrow, hbx⟩ := hrel
          by_cases hjl : j < t.length
          · obtain ⟨blk, rfl, hbk, hcell⟩ := hrow.out j hjl
            have hd := drop_cons hjl (0 : Int)
            obtain ⟨s2, e1, hI2, hcr⟩ := binv_credit (hd ▸ hI.out)
            have hcI := crI_le hK.ok (t.getD j 0)
            generalize t.getD j 0 = y at *
            have H1 := fun w h => link_credits w b B s' y h
            have H2 := fun w h => link_credit w b B s' h
            have H3 := fun w h => link_credits w b B s2 y h
            rw [e1] at H2
            rw [hcr] at H3
            generalize s'.crI y = q at *
            have hqI : (q : Int) ≤ 64 := by omega
            have G1 := Lib.hid H1
            have G2 := Lib.hid H2
            have G3 := Lib.hid H3
            have GI := Lib.hid hI2
            have GK := Lib.hid hK
            have GB := Lib.hid hbx
            have hnB : blk ∉ B := fun hm => Nat.lt_irrefl _ (Nat.lt_of_lt_of_le (HB.out.2.1 _ hm) hbk)
            have hjI : (j : Int) < (t.length : Int) := by omega
            clear H1 H2 H3 e1 hcr hI hI2 hK hd hcI hbx
            go_wp2_with (first
              | (go_at_call 21; first
                  | ((with_reducible refine (G1.out _ GK.out).mono ?_); rintro e w' ⟨rfl, k, rfl⟩)
                  | ((with_reducible refine (G3.out _ K4.out).mono ?_); rintro e w' ⟨rfl, k, rfl⟩))
              | (go_at_call 33; ((with_reducible refine (G2.out _ (GK.out.drewN _)).mono ?_); rintro e w4 ⟨rfl, hK4, hO4⟩; have K4 := Lib.hid hK4; have c4 := only_cell hO4 hnB (show World.cell? (World.drewN _ _) _ = _ from hcell); have O4 := Lib.hid hO4; clear hK4 hO4)))
            go_roundw
            case rel => exact ⟨j + 1, s2, by omega, by go_num, K4.out.drewN _, GI.out, intsNew_only hrow.out (((Only.refl _ _).drewN _).trans (O4.out.drewN _)) HB.out.2.1, (below_drewN' GB.out _).trans (below_drewN' (O4.out.below (fun k hk => HB0.out k hk) (by have := GB.out.size; simpa using this)) _)⟩
            case measure => simp [intOf] <;> omega
          · obtain rfl : j = t.length := by omega
            have hI' := hI.out
            rw [List.drop_length] at hI'
            obtain ⟨e1, e2⟩ := binv_end hI'
            have H1 := fun w h => link_credit w b B s' h
            have H2 := fun w h => link_idle w b B s' h
            rw [e1] at H1
            rw [e2] at H2
            have G1 := Lib.hid H1
            have G2 := Lib.hid H2
            have GK := Lib.hid hK
            have GB := Lib.hid hbx
            clear H1 H2 e1 e2 hI hI' hK hbx
            go_wp2_with (first
              | (go_at_call 33; ((with_reducible refine (G1.out _ GK.out).mono ?_); rintro e w4 ⟨rfl, hK4, hO4⟩; have K4 := Lib.hid hK4; have O4 := Lib.hid hO4; clear hK4 hO4))
              | (go_at_call 34; ((with_reducible refine (G2.out _ K4.out).mono ?_); rintro e w5 ⟨rfl, hb5⟩)))
            go_ret
            have h4 := GB.out.trans (O4.out.below (fun k hk => HB0.out k hk) GB.out.size)
            exact ⟨rfl, h4.trans (hb5.mono h4.size)⟩
    · skip
      have htm := HTM.out
      subst htm
      obtain ⟨a2, c2, rfl, hrow⟩ := IntsNew.own hown
      have HROW := Lib.hid hrow
      have HK0 := Lib.hid hK
      have HI0 := Lib.hid hI
      have HBW := Lib.hid hbw
      have htl : ((t.length : Nat) : Int) ≤ 40 := by omega
      have hmn : ¬ (((t.length : Nat) : Int) < (l.length : Int) ∧ ((t.length : Nat) : Int) < 40) := by omega
      clear hown hrow hK hI hbw
      go_wp2
      go_loopw [9] (fun i wx => ∃ (j : Nat) (s' : LS), j ≤ t.length ∧ i = .int .i64 (j : Int) ∧ LinkAt wx b B s' ∧ Hid (BInv s' L (t.drop j)) ∧ Hid (IntsNew w2.heap.size .i64 wx a2 t) ∧ Below w.heap.size w wx) (fun i _ => t.length - (intOf i).toNat)
      case atStart => exact ⟨0, s, by omega, rfl, HK0.out, HI0.out, HROW.out, HBW.out⟩
      case round =>
        obtain ⟨j, s', hj, rfl, hK, hI, hrow, hbx⟩ := hrel
        by_cases hjl : j < t.length
        · obtain ⟨blk, rfl, hbk, hcell⟩ := hrow.out j hjl
          have hd := drop_cons hjl (0 : Int)
          obtain ⟨s2, e1, hI2, hcr⟩ := binv_credit (hd ▸ hI.out)
          have hcI := crI_le hK.ok (t.getD j 0)
          generalize t.getD j 0 = y at *
          have H1 := fun w h => link_credits w b B s' y h
          have H2 := fun w h => link_credit w b B s' h
          have H3 := fun w h => link_credits w b B s2 y h
          rw [e1] at H2
          rw [hcr] at H3
          generalize s'.crI y = q at *
          have hqI : (q : Int) ≤ 64 := by omega
          have G1 := Lib.hid H1
          have G2 := Lib.hid H2
          have G3 := Lib.hid H3
          have GI := Lib.hid hI2
          have GK := Lib.hid hK
          have GB := Lib.hid hbx
          have hnB : blk ∉ B := fun hm => Nat.lt_irrefl _ (Nat.lt_of_lt_of_le (HB.out.2.1 _ hm) hbk)
          have hjI : (j : Int) < (t.length : Int) := by omega
          clear H1 H2 H3 e1 hcr hI hI2 hK hd hcI hbx
          go_wp2_with (first
            | (go_at_call 21; first
                | ((with_reducible refine (G1.out _ GK.out).mono ?_); rintro e w' ⟨rfl, k, rfl⟩)
                | ((with_reducible refine (G3.out _ K4.out).mono ?_); rintro e w' ⟨rfl, k, rfl⟩))
            | (go_at_call 33; ((with_reducible refine (G2.out _ (GK.out.drewN _)).mono ?_); rintro e w4 ⟨rfl, hK4, hO4⟩; have K4 := Lib.hid hK4; have c4 := only_cell hO4 hnB (show World.cell? (World.drewN _ _) _ = _ from hcell); have O4 := Lib.hid hO4; clear hK4 hO4)))
          go_roundw
          case rel => exact ⟨j + 1, s2, by omega, by go_num, K4.out.drewN _, GI.out, intsNew_only hrow.out (((Only.refl _ _).drewN _).trans (O4.out.drewN _)) HB.out.2.1, (below_drewN' GB.out _).trans (below_drewN' (O4.out.below (fun k hk => HB0.out k hk) (by have := GB.out.size; simpa using this)) _)⟩
          case measure => simp [intOf] <;> omega
        · obtain rfl : j = t.length := by omega
          have hI' := hI.out
          rw [List.drop_length] at hI'
          obtain ⟨e1, e2⟩ := binv_end hI'
          have H1 := fun w h => link_credit w b B s' h
          have H2 := fun w h => link_idle w b B s' h
          rw [e1] at H1
          rw [e2] at H2
          have G1 := Lib.hid H1
          have G2 := Lib.hid H2
          have GK := Lib.hid hK
          have GB := Lib.hid hbx
          clear H1 H2 e1 e2 hI hI' hK hbx
          go_wp2_with (first
            | (go_at_call 33; ((with_reducible refine (G1.out _ GK.out).mono ?_); rintro e w4 ⟨rfl, hK4, hO4⟩; have K4 := Lib.hid hK4; have O4 := Lib.hid hO4; clear hK4 hO4))
            | (go_at_call 34; ((with_reducible refine (G2.out _ K4.out).mono ?_); rintro e w5 ⟨rfl, hb5⟩)))
          go_ret
          have h4 := GB.out.trans (O4.out.below (fun k hk => HB0.out k hk) GB.out.size)
          exact ⟨rfl, h4.trans (hb5.mono h4.size)⟩
end Go.Proofs.Ytmehfflomgldeab
