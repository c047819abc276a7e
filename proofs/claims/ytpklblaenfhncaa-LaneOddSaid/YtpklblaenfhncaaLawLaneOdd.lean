/- The walk of LaneOdd. -/
import Derived.Test.YtpklblaenfhncaaLaneD
namespace Go.Proofs.Ytpklblaenfhncaa
set_option linter.unusedVariables false
set_option linter.unusedSimpArgs false
open Go.RowKit BM
/-- What is found of the word. -/
theorem odd_find (x : Nat) (kind src dst seq len : Int) (more cast : Bool) (data : ByteArray) (e node port : Int) (h : readF x = (⟨kind, src, dst, seq, len, more, cast, data⟩, e)) :
    ∃ s : LN, s.q.length = 1 ∧
    ((e = 0 ∧ kind = 1 ∧ dst = node ∧ LN.find (⟨2, [x], 0, 0, 0, false⟩ : LN) node port = (s, true) ∧ s.ph = 2) ∨
    (e = 0 ∧ kind = 1 ∧ dst ≠ node ∧ 1 ≤ port ∧ port ≤ 4 ∧ LN.find (⟨2, [x], 0, 0, 0, false⟩ : LN) node port = (s, true) ∧ s.ph = 1) ∨
    (e = 0 ∧ kind = 1 ∧ dst ≠ node ∧ port < 1 ∧ LN.find (⟨2, [x], 0, 0, 0, false⟩ : LN) node port = (s, false) ∧ s.ph = 0) ∨
    (e = 0 ∧ kind = 1 ∧ dst ≠ node ∧ 1 ≤ port ∧ 4 < port ∧ LN.find (⟨2, [x], 0, 0, 0, false⟩ : LN) node port = (s, false) ∧ s.ph = 0) ∨
    (e = 0 ∧ kind ≠ 1 ∧ LN.find (⟨2, [x], 0, 0, 0, false⟩ : LN) node port = (s, false) ∧ s.ph = 0) ∨
    (e ≠ 0 ∧ LN.find (⟨2, [x], 0, 0, 0, false⟩ : LN) node port = (s, false) ∧ s.ph = 0)) := by
  have e0 : LN.find (⟨2, [x], 0, 0, 0, false⟩ : LN) node port = LN.findF (⟨2, [x], 0, 0, 0, false⟩ : LN) (readF x) node port := rfl
  rw [e0, h]
  unfold LN.findF
  by_cases h1 : e ≠ 0
  · exact ⟨(⟨2, [x], 0, 0, 0, false⟩ : LN), rfl, .inr (.inr (.inr (.inr (.inr ⟨h1, if_pos h1, rfl⟩))))⟩
  have h1' : e = 0 := by omega
  rw [if_neg h1]
  by_cases h2 : kind ≠ 1
  · exact ⟨(⟨2, [x], 0, 0, 0, false⟩ : LN), rfl, .inr (.inr (.inr (.inr (.inl ⟨h1', h2, if_pos h2, rfl⟩))))⟩
  have h2' : kind = 1 := by omega
  rw [if_neg h2]
  by_cases h3 : dst = node
  · exact ⟨_, rfl, .inl ⟨h1', h2', h3, if_pos h3, rfl⟩⟩
  rw [if_neg h3]
  by_cases h4 : port ≤ 0
  · exact ⟨(⟨2, [x], 0, 0, 0, false⟩ : LN), rfl, .inr (.inr (.inl ⟨h1', h2', h3, by omega, if_pos h4, rfl⟩))⟩
  rw [if_neg h4]
  by_cases h5 : 5 ≤ port
  · exact ⟨(⟨2, [x], 0, 0, 0, false⟩ : LN), rfl, .inr (.inr (.inr (.inl ⟨h1', h2', h3, by omega, by omega, if_pos h5, rfl⟩)))⟩
  rw [if_neg h5]
  exact ⟨_, rfl, .inr (.inl ⟨h1', h2', h3, by omega, by omega, rfl, rfl⟩)⟩
set_option maxRecDepth 100000 in
set_option maxHeartbeats 8000000 in
theorem laneOdd_walk (x : Int) (node port : Int) (w : World) (hx0 : 0 ≤ x) (hx1 : x < 2 ^ 64) :
    Calls Try.prog 3 #[.int .u64 x, .int .i64 node, .int .i64 port] w fun e w' => e = .returned (.bool true) ∧ Below w.heap.size w w' := by
  obtain ⟨x, rfl⟩ := Int.eq_ofNat_of_zero_le hx0
  have hx : x < 2 ^ 64 := by omega
  have HLV := Lib.hid (fun w => lives14_calls w)
  have HBY := Lib.hid (fun w => by_calls port w)
  have K0 : Hid (∀ w, Calls Try.prog 11 #[.int .i64 2] w fun e w' => ∃ b B, e = .returned (.pointer (some ⟨b, 0, none⟩)) ∧ LaneAt w' b B (⟨2, [], 0, 0, 0, false⟩ : LN) ∧ (∀ k ∈ B, w.heap.size ≤ k) ∧ Below w.heap.size w w') := fun w => lane_new 2 w
  have K1 : Hid (∀ w b B pb, LaneAt w b B (⟨2, [], 0, 0, 0, false⟩ : LN) → w.heap[pb]? = some (.cells #[.int .i64 port] 3 (0, 0)) → Calls Try.prog 12 #[.pointer (some ⟨b, 0, none⟩), .int .i64 node, .func (.func 43) #[] #[.pointer (some ⟨pb, 0, none⟩)]] w fun e w' => e = .returned (.bool false) ∧ LaneAt w' b B (⟨2, [], 0, 0, 0, false⟩ : LN) ∧ Only B w w') := fun w b B pb h hp => lane_find w b B _ node port _ h (fun _ => ⟨pb, rfl, hp⟩)
  have K2 : Hid (∀ w b B, LaneAt w b B (⟨2, [], 0, 0, 0, false⟩ : LN) → Calls Try.prog 14 #[.pointer (some ⟨b, 0, none⟩), .int .u64 (x : Int)] w fun e w' => e = .returned (.int .i64 0) ∧ LaneAt w' b B (⟨2, [x], 0, 0, 0, false⟩ : LN) ∧ Only B w w') := fun w b B h => lane_put x hx w b B _ h
  have K3 : Hid (∀ w b B, LaneAt w b B (⟨2, [x], 0, 0, 0, false⟩ : LN) → Calls Try.prog 16 #[.pointer (some ⟨b, 0, none⟩)] w fun e w' => e = .returned (.tuple #[.agg #[.int .i64 0, .int .i64 0, .int .u64 0, .bool false, .bool false], .int .i64 13]) ∧ LaneAt w' b B (⟨2, [x], 0, 0, 0, false⟩ : LN) ∧ Only B w w') := fun w b B h => lane_take w b B _ h
  have hRD := fun w => rflit_read x hx w
  have hof := fun kind src dst seq len more cast data e h => odd_find x kind src dst seq len more cast data e node port h
  generalize hr : readF x = r at *
  obtain ⟨⟨kind, src, dst, seq, len, more, cast, data⟩, e⟩ := r
  dsimp only [Fl.val] at hRD
  have HRD := Lib.hid hRD
  obtain ⟨s, hs1, hc⟩ := hof _ _ _ _ _ _ _ _ _ rfl
  have HLN : Hid (∀ w b B, LaneAt w b B s → Calls Try.prog 18 #[.pointer (some ⟨b, 0, none⟩)] w fun e w' => e = .returned (.int .i64 1) ∧ ∃ k, w' = w.drewN k) := fun w b B h => by
    have := lane_len w b B _ h
    rw [hs1] at this
    exact this
  clear hRD hof hx0 hx1 hs1 hr
  rcases hc with ⟨rfl, rfl, hd, hfs, hph⟩ | ⟨rfl, rfl, hd, hp1, hp4, hfs, hph⟩ | ⟨rfl, rfl, hd, hp1, hfs, hph⟩ | ⟨rfl, rfl, hd, hp1, hp4, hfs, hph⟩ | ⟨rfl, hk, hfs, hph⟩ | ⟨he, hfs, hph⟩
  · have hdb : (dst == node) = true := beq_iff_eq.2 hd
    clear hd
    have HF2 : Hid (∀ w b B pb, LaneAt w b B (⟨2, [x], 0, 0, 0, false⟩ : LN) → w.heap[pb]? = some (.cells #[.int .i64 port] 3 (0, 0)) → Calls Try.prog 12 #[.pointer (some ⟨b, 0, none⟩), .int .i64 node, .func (.func 43) #[] #[.pointer (some ⟨pb, 0, none⟩)]] w fun e w' => e = .returned (.bool true) ∧ LaneAt w' b B s ∧ Only B w w') := fun w b B pb h hp => by
      have := lane_find w b B _ node port _ h (fun _ => ⟨pb, rfl, hp⟩)
      rw [hfs] at this
      exact this
    have HPH : Hid (∀ w b B, LaneAt w b B s → Calls Try.prog 17 #[.pointer (some ⟨b, 0, none⟩)] w fun e w' => e = .returned (.int .i64 2) ∧ ∃ k, w' = w.drewN k) := fun w b B h => by
      have := lane_phase w b B _ h
      rw [hph] at this
      exact this
    clear hfs hph
    go_enter Try.func3, Try.ntmps3
    go_upto_region 8 with (first
      | (go_at_call 10; ((with_reducible refine (HLV.out _).mono ?_); rintro e w1 ⟨rfl, hb1⟩; have HB1 := Lib.hid hb1; clear hb1))
      | (go_at_call 11; ((with_reducible refine (K0.out _).mono ?_); rintro e w2 ⟨b, B, rfl, hL2, hF2, hb2⟩; have HL2 := Lib.hid hL2; have HFR := Lib.hid hF2; have hB2 : Below w.heap.size w w2 := HB1.out.trans (hb2.mono HB1.out.size); have HB2 := Lib.hid hB2; clear hL2 hF2 hb2 hB2))
      | (go_at_call 13; ((with_reducible refine (HBY.out _).mono ?_); rintro e w3 ⟨pb, rfl, hp3, hpb3, hb3⟩; have HP3 := Lib.hid hp3; have HL3 := Lib.hid (HL2.out.below hb3); have HB3 := Lib.hid (Only.ofBelow hb3 B); clear hp3 hb3 hpb3))
      | (go_at_call 12; ((with_reducible refine (K1.out _ _ B _ HL3.out HP3.out).mono ?_); rintro e w4 ⟨rfl, hL4, hO4⟩; have HL4 := Lib.hid hL4; have HO4 := Lib.hid (HB3.out.trans hO4); clear hL4 hO4))
      | (go_at_call 14; ((with_reducible refine (K2.out _ _ B HL4.out).mono ?_); rintro e w5 ⟨rfl, hL5, hO5⟩; have HL5 := Lib.hid hL5; have HO5 := Lib.hid (HO4.out.trans hO5); clear hL5 hO5))
      | (go_at_call 15; ((with_reducible refine (HRD.out _).mono ?_); rintro e w6 ⟨rfl, hb6⟩; have hL6 := HL5.out.below hb6; have hn6 : w6.heap.size ∉ B := fun hm => Nat.lt_irrefl _ (hL6.lt _ hm); have HO6 := Lib.hid (HO5.out.trans (Only.ofBelow hb6 B)); have HL6 := Lib.hid hL6; clear hb6 hL6))
      | (go_at_call 16; ((with_reducible refine (K3.out _ _ B (HL6.out.alloc _)).mono ?_); rintro e w7 ⟨rfl, hL7, hO7⟩; have hf7 := hO7.at (alloc_new _) hn6; have HF7 := Lib.hid hf7; have f7 := fun j => cell_at hf7 j; have hl7 := block_lt hf7; have HL7 := Lib.hid hL7; have HO7 := Lib.hid ((HO6.out.alloc _).trans hO7); clear hL7 hO7 hf7)))
    go_upto_region 9 with (fail)
    clear f7 hl7
    go_upto_region 10 with (first
      | (go_at_call 13; ((with_reducible refine (HBY.out _).mono ?_); rintro e w8 ⟨pb8, rfl, hp8, hpb8, hb8⟩; have hf8 := Below.at hb8 (alloc_old HF7.out _) (by have := block_lt HF7.out; simp; omega); have HF8 := Lib.hid hf8; have HP8 := Lib.hid hp8; have HL8 := Lib.hid ((HL7.out.alloc _).below hb8); have HO8 := Lib.hid ((HO7.out.alloc _).trans (Only.ofBelow hb8 B)); clear hp8 hb8 hpb8 hf8))
      | (go_at_call 12; ((with_reducible refine (HF2.out _ _ B _ HL8.out HP8.out).mono ?_); rintro e w9 ⟨rfl, hL9, hO9⟩; have hf9 := hO9.at HF8.out hn6; have f9 := fun j => cell_at hf9 j; have hl9 := block_lt hf9; have HL9 := Lib.hid hL9; have HO9 := Lib.hid (HO8.out.trans hO9); clear hL9 hO9 hf9)))
    go_wp2_with (first
      | (go_at_call 17; ((with_reducible refine (HPH.out _ _ B (by have hLL := HL9.out; (repeat (first | (with_reducible exact hLL) | (with_reducible refine LaneAt.drewN ?_ _) | (with_reducible refine LaneAt.drew ?_) | (with_reducible refine LaneAt.alloc ?_ _))))).mono ?_); rintro e w' ⟨rfl, k, rfl⟩))
      | (go_at_call 18; ((with_reducible refine (HLN.out _ _ B (by have hLL := HL9.out; (repeat (first | (with_reducible exact hLL) | (with_reducible refine LaneAt.drewN ?_ _) | (with_reducible refine LaneAt.drew ?_) | (with_reducible refine LaneAt.alloc ?_ _))))).mono ?_); rintro e w' ⟨rfl, kk, rfl⟩)))
    go_ret
    have h9 : Below w.heap.size w w9 := HB2.out.trans ((HO9.out.below (B := w.heap.size) (fun k hk => by have := HFR.out k hk; have := HB1.out.size; omega) HB2.out.size))
    exact ⟨by first | rfl | exact ret_bool (show (!decide (port ≤ 4)) = true by simp; omega), by repeat' (first | (with_reducible assumption) | (with_reducible refine below_setRowN ?_ ?_ _) | (with_reducible refine Below.setCell ?_ ?_ _) | (with_reducible refine below_drewN' ?_ _) | (with_reducible refine Below.drew ?_) | (with_reducible refine Below.alloc ?_ ?_ _) | (with_reducible exact Below.refl _ _) | (with_reducible exact Nat.le_refl _) | (simp; done) | omega | (simp; omega))⟩
  · have hdb : (dst == node) = false := beq_eq_false_iff_ne.2 hd
    clear hd
    have HF2 : Hid (∀ w b B pb, LaneAt w b B (⟨2, [x], 0, 0, 0, false⟩ : LN) → w.heap[pb]? = some (.cells #[.int .i64 port] 3 (0, 0)) → Calls Try.prog 12 #[.pointer (some ⟨b, 0, none⟩), .int .i64 node, .func (.func 43) #[] #[.pointer (some ⟨pb, 0, none⟩)]] w fun e w' => e = .returned (.bool true) ∧ LaneAt w' b B s ∧ Only B w w') := fun w b B pb h hp => by
      have := lane_find w b B _ node port _ h (fun _ => ⟨pb, rfl, hp⟩)
      rw [hfs] at this
      exact this
    have HPH : Hid (∀ w b B, LaneAt w b B s → Calls Try.prog 17 #[.pointer (some ⟨b, 0, none⟩)] w fun e w' => e = .returned (.int .i64 1) ∧ ∃ k, w' = w.drewN k) := fun w b B h => by
      have := lane_phase w b B _ h
      rw [hph] at this
      exact this
    clear hfs hph
    go_enter Try.func3, Try.ntmps3
    go_upto_region 8 with (first
      | (go_at_call 10; ((with_reducible refine (HLV.out _).mono ?_); rintro e w1 ⟨rfl, hb1⟩; have HB1 := Lib.hid hb1; clear hb1))
      | (go_at_call 11; ((with_reducible refine (K0.out _).mono ?_); rintro e w2 ⟨b, B, rfl, hL2, hF2, hb2⟩; have HL2 := Lib.hid hL2; have HFR := Lib.hid hF2; have hB2 : Below w.heap.size w w2 := HB1.out.trans (hb2.mono HB1.out.size); have HB2 := Lib.hid hB2; clear hL2 hF2 hb2 hB2))
      | (go_at_call 13; ((with_reducible refine (HBY.out _).mono ?_); rintro e w3 ⟨pb, rfl, hp3, hpb3, hb3⟩; have HP3 := Lib.hid hp3; have HL3 := Lib.hid (HL2.out.below hb3); have HB3 := Lib.hid (Only.ofBelow hb3 B); clear hp3 hb3 hpb3))
      | (go_at_call 12; ((with_reducible refine (K1.out _ _ B _ HL3.out HP3.out).mono ?_); rintro e w4 ⟨rfl, hL4, hO4⟩; have HL4 := Lib.hid hL4; have HO4 := Lib.hid (HB3.out.trans hO4); clear hL4 hO4))
      | (go_at_call 14; ((with_reducible refine (K2.out _ _ B HL4.out).mono ?_); rintro e w5 ⟨rfl, hL5, hO5⟩; have HL5 := Lib.hid hL5; have HO5 := Lib.hid (HO4.out.trans hO5); clear hL5 hO5))
      | (go_at_call 15; ((with_reducible refine (HRD.out _).mono ?_); rintro e w6 ⟨rfl, hb6⟩; have hL6 := HL5.out.below hb6; have hn6 : w6.heap.size ∉ B := fun hm => Nat.lt_irrefl _ (hL6.lt _ hm); have HO6 := Lib.hid (HO5.out.trans (Only.ofBelow hb6 B)); have HL6 := Lib.hid hL6; clear hb6 hL6))
      | (go_at_call 16; ((with_reducible refine (K3.out _ _ B (HL6.out.alloc _)).mono ?_); rintro e w7 ⟨rfl, hL7, hO7⟩; have hf7 := hO7.at (alloc_new _) hn6; have HF7 := Lib.hid hf7; have f7 := fun j => cell_at hf7 j; have hl7 := block_lt hf7; have HL7 := Lib.hid hL7; have HO7 := Lib.hid ((HO6.out.alloc _).trans hO7); clear hL7 hO7 hf7)))
    go_upto_region 9 with (fail)
    clear f7 hl7
    go_upto_region 10 with (first
      | (go_at_call 13; ((with_reducible refine (HBY.out _).mono ?_); rintro e w8 ⟨pb8, rfl, hp8, hpb8, hb8⟩; have hf8 := Below.at hb8 (alloc_old HF7.out _) (by have := block_lt HF7.out; simp; omega); have HF8 := Lib.hid hf8; have HP8 := Lib.hid hp8; have HL8 := Lib.hid ((HL7.out.alloc _).below hb8); have HO8 := Lib.hid ((HO7.out.alloc _).trans (Only.ofBelow hb8 B)); clear hp8 hb8 hpb8 hf8))
      | (go_at_call 12; ((with_reducible refine (HF2.out _ _ B _ HL8.out HP8.out).mono ?_); rintro e w9 ⟨rfl, hL9, hO9⟩; have hf9 := hO9.at HF8.out hn6; have f9 := fun j => cell_at hf9 j; have hl9 := block_lt hf9; have HL9 := Lib.hid hL9; have HO9 := Lib.hid (HO8.out.trans hO9); clear hL9 hO9 hf9)))
    go_wp2_with (first
      | (go_at_call 17; ((with_reducible refine (HPH.out _ _ B (by have hLL := HL9.out; (repeat (first | (with_reducible exact hLL) | (with_reducible refine LaneAt.drewN ?_ _) | (with_reducible refine LaneAt.drew ?_) | (with_reducible refine LaneAt.alloc ?_ _))))).mono ?_); rintro e w' ⟨rfl, k, rfl⟩))
      | (go_at_call 18; ((with_reducible refine (HLN.out _ _ B (by have hLL := HL9.out; (repeat (first | (with_reducible exact hLL) | (with_reducible refine LaneAt.drewN ?_ _) | (with_reducible refine LaneAt.drew ?_) | (with_reducible refine LaneAt.alloc ?_ _))))).mono ?_); rintro e w' ⟨rfl, kk, rfl⟩)))
    go_ret
    have h9 : Below w.heap.size w w9 := HB2.out.trans ((HO9.out.below (B := w.heap.size) (fun k hk => by have := HFR.out k hk; have := HB1.out.size; omega) HB2.out.size))
    exact ⟨by first | rfl | exact ret_bool (show (!decide (port ≤ 4)) = true by simp; omega), by repeat' (first | (with_reducible assumption) | (with_reducible refine below_setRowN ?_ ?_ _) | (with_reducible refine Below.setCell ?_ ?_ _) | (with_reducible refine below_drewN' ?_ _) | (with_reducible refine Below.drew ?_) | (with_reducible refine Below.alloc ?_ ?_ _) | (with_reducible exact Below.refl _ _) | (with_reducible exact Nat.le_refl _) | (simp; done) | omega | (simp; omega))⟩
  · have hdb : (dst == node) = false := beq_eq_false_iff_ne.2 hd
    have hp1' : ¬ (1 : Int) ≤ port := by omega
    clear hd
    have HF2 : Hid (∀ w b B pb, LaneAt w b B (⟨2, [x], 0, 0, 0, false⟩ : LN) → w.heap[pb]? = some (.cells #[.int .i64 port] 3 (0, 0)) → Calls Try.prog 12 #[.pointer (some ⟨b, 0, none⟩), .int .i64 node, .func (.func 43) #[] #[.pointer (some ⟨pb, 0, none⟩)]] w fun e w' => e = .returned (.bool false) ∧ LaneAt w' b B s ∧ Only B w w') := fun w b B pb h hp => by
      have := lane_find w b B _ node port _ h (fun _ => ⟨pb, rfl, hp⟩)
      rw [hfs] at this
      exact this
    have HPH : Hid (∀ w b B, LaneAt w b B s → Calls Try.prog 17 #[.pointer (some ⟨b, 0, none⟩)] w fun e w' => e = .returned (.int .i64 0) ∧ ∃ k, w' = w.drewN k) := fun w b B h => by
      have := lane_phase w b B _ h
      rw [hph] at this
      exact this
    clear hfs hph
    go_enter Try.func3, Try.ntmps3
    go_upto_region 8 with (first
      | (go_at_call 10; ((with_reducible refine (HLV.out _).mono ?_); rintro e w1 ⟨rfl, hb1⟩; have HB1 := Lib.hid hb1; clear hb1))
      | (go_at_call 11; ((with_reducible refine (K0.out _).mono ?_); rintro e w2 ⟨b, B, rfl, hL2, hF2, hb2⟩; have HL2 := Lib.hid hL2; have HFR := Lib.hid hF2; have hB2 : Below w.heap.size w w2 := HB1.out.trans (hb2.mono HB1.out.size); have HB2 := Lib.hid hB2; clear hL2 hF2 hb2 hB2))
      | (go_at_call 13; ((with_reducible refine (HBY.out _).mono ?_); rintro e w3 ⟨pb, rfl, hp3, hpb3, hb3⟩; have HP3 := Lib.hid hp3; have HL3 := Lib.hid (HL2.out.below hb3); have HB3 := Lib.hid (Only.ofBelow hb3 B); clear hp3 hb3 hpb3))
      | (go_at_call 12; ((with_reducible refine (K1.out _ _ B _ HL3.out HP3.out).mono ?_); rintro e w4 ⟨rfl, hL4, hO4⟩; have HL4 := Lib.hid hL4; have HO4 := Lib.hid (HB3.out.trans hO4); clear hL4 hO4))
      | (go_at_call 14; ((with_reducible refine (K2.out _ _ B HL4.out).mono ?_); rintro e w5 ⟨rfl, hL5, hO5⟩; have HL5 := Lib.hid hL5; have HO5 := Lib.hid (HO4.out.trans hO5); clear hL5 hO5))
      | (go_at_call 15; ((with_reducible refine (HRD.out _).mono ?_); rintro e w6 ⟨rfl, hb6⟩; have hL6 := HL5.out.below hb6; have hn6 : w6.heap.size ∉ B := fun hm => Nat.lt_irrefl _ (hL6.lt _ hm); have HO6 := Lib.hid (HO5.out.trans (Only.ofBelow hb6 B)); have HL6 := Lib.hid hL6; clear hb6 hL6))
      | (go_at_call 16; ((with_reducible refine (K3.out _ _ B (HL6.out.alloc _)).mono ?_); rintro e w7 ⟨rfl, hL7, hO7⟩; have hf7 := hO7.at (alloc_new _) hn6; have HF7 := Lib.hid hf7; have f7 := fun j => cell_at hf7 j; have hl7 := block_lt hf7; have HL7 := Lib.hid hL7; have HO7 := Lib.hid ((HO6.out.alloc _).trans hO7); clear hL7 hO7 hf7)))
    go_upto_region 9 with (fail)
    clear f7 hl7
    go_upto_region 10 with (first
      | (go_at_call 13; ((with_reducible refine (HBY.out _).mono ?_); rintro e w8 ⟨pb8, rfl, hp8, hpb8, hb8⟩; have hf8 := Below.at hb8 (alloc_old HF7.out _) (by have := block_lt HF7.out; simp; omega); have HF8 := Lib.hid hf8; have HP8 := Lib.hid hp8; have HL8 := Lib.hid ((HL7.out.alloc _).below hb8); have HO8 := Lib.hid ((HO7.out.alloc _).trans (Only.ofBelow hb8 B)); clear hp8 hb8 hpb8 hf8))
      | (go_at_call 12; ((with_reducible refine (HF2.out _ _ B _ HL8.out HP8.out).mono ?_); rintro e w9 ⟨rfl, hL9, hO9⟩; have hf9 := hO9.at HF8.out hn6; have f9 := fun j => cell_at hf9 j; have hl9 := block_lt hf9; have HL9 := Lib.hid hL9; have HO9 := Lib.hid (HO8.out.trans hO9); clear hL9 hO9 hf9)))
    go_wp2_with (first
      | (go_at_call 17; ((with_reducible refine (HPH.out _ _ B (by have hLL := HL9.out; (repeat (first | (with_reducible exact hLL) | (with_reducible refine LaneAt.drewN ?_ _) | (with_reducible refine LaneAt.drew ?_) | (with_reducible refine LaneAt.alloc ?_ _))))).mono ?_); rintro e w' ⟨rfl, k, rfl⟩))
      | (go_at_call 18; ((with_reducible refine (HLN.out _ _ B (by have hLL := HL9.out; (repeat (first | (with_reducible exact hLL) | (with_reducible refine LaneAt.drewN ?_ _) | (with_reducible refine LaneAt.drew ?_) | (with_reducible refine LaneAt.alloc ?_ _))))).mono ?_); rintro e w' ⟨rfl, kk, rfl⟩)))
    go_ret
    have h9 : Below w.heap.size w w9 := HB2.out.trans ((HO9.out.below (B := w.heap.size) (fun k hk => by have := HFR.out k hk; have := HB1.out.size; omega) HB2.out.size))
    exact ⟨by first | rfl | exact ret_bool (show (!decide (port ≤ 4)) = true by simp; omega), by repeat' (first | (with_reducible assumption) | (with_reducible refine below_setRowN ?_ ?_ _) | (with_reducible refine Below.setCell ?_ ?_ _) | (with_reducible refine below_drewN' ?_ _) | (with_reducible refine Below.drew ?_) | (with_reducible refine Below.alloc ?_ ?_ _) | (with_reducible exact Below.refl _ _) | (with_reducible exact Nat.le_refl _) | (simp; done) | omega | (simp; omega))⟩
  · have hdb : (dst == node) = false := beq_eq_false_iff_ne.2 hd
    have hp4' : ¬ port ≤ 4 := by omega
    clear hd
    have HF2 : Hid (∀ w b B pb, LaneAt w b B (⟨2, [x], 0, 0, 0, false⟩ : LN) → w.heap[pb]? = some (.cells #[.int .i64 port] 3 (0, 0)) → Calls Try.prog 12 #[.pointer (some ⟨b, 0, none⟩), .int .i64 node, .func (.func 43) #[] #[.pointer (some ⟨pb, 0, none⟩)]] w fun e w' => e = .returned (.bool false) ∧ LaneAt w' b B s ∧ Only B w w') := fun w b B pb h hp => by
      have := lane_find w b B _ node port _ h (fun _ => ⟨pb, rfl, hp⟩)
      rw [hfs] at this
      exact this
    have HPH : Hid (∀ w b B, LaneAt w b B s → Calls Try.prog 17 #[.pointer (some ⟨b, 0, none⟩)] w fun e w' => e = .returned (.int .i64 0) ∧ ∃ k, w' = w.drewN k) := fun w b B h => by
      have := lane_phase w b B _ h
      rw [hph] at this
      exact this
    clear hfs hph
    go_enter Try.func3, Try.ntmps3
    go_upto_region 8 with (first
      | (go_at_call 10; ((with_reducible refine (HLV.out _).mono ?_); rintro e w1 ⟨rfl, hb1⟩; have HB1 := Lib.hid hb1; clear hb1))
      | (go_at_call 11; ((with_reducible refine (K0.out _).mono ?_); rintro e w2 ⟨b, B, rfl, hL2, hF2, hb2⟩; have HL2 := Lib.hid hL2; have HFR := Lib.hid hF2; have hB2 : Below w.heap.size w w2 := HB1.out.trans (hb2.mono HB1.out.size); have HB2 := Lib.hid hB2; clear hL2 hF2 hb2 hB2))
      | (go_at_call 13; ((with_reducible refine (HBY.out _).mono ?_); rintro e w3 ⟨pb, rfl, hp3, hpb3, hb3⟩; have HP3 := Lib.hid hp3; have HL3 := Lib.hid (HL2.out.below hb3); have HB3 := Lib.hid (Only.ofBelow hb3 B); clear hp3 hb3 hpb3))
      | (go_at_call 12; ((with_reducible refine (K1.out _ _ B _ HL3.out HP3.out).mono ?_); rintro e w4 ⟨rfl, hL4, hO4⟩; have HL4 := Lib.hid hL4; have HO4 := Lib.hid (HB3.out.trans hO4); clear hL4 hO4))
      | (go_at_call 14; ((with_reducible refine (K2.out _ _ B HL4.out).mono ?_); rintro e w5 ⟨rfl, hL5, hO5⟩; have HL5 := Lib.hid hL5; have HO5 := Lib.hid (HO4.out.trans hO5); clear hL5 hO5))
      | (go_at_call 15; ((with_reducible refine (HRD.out _).mono ?_); rintro e w6 ⟨rfl, hb6⟩; have hL6 := HL5.out.below hb6; have hn6 : w6.heap.size ∉ B := fun hm => Nat.lt_irrefl _ (hL6.lt _ hm); have HO6 := Lib.hid (HO5.out.trans (Only.ofBelow hb6 B)); have HL6 := Lib.hid hL6; clear hb6 hL6))
      | (go_at_call 16; ((with_reducible refine (K3.out _ _ B (HL6.out.alloc _)).mono ?_); rintro e w7 ⟨rfl, hL7, hO7⟩; have hf7 := hO7.at (alloc_new _) hn6; have HF7 := Lib.hid hf7; have f7 := fun j => cell_at hf7 j; have hl7 := block_lt hf7; have HL7 := Lib.hid hL7; have HO7 := Lib.hid ((HO6.out.alloc _).trans hO7); clear hL7 hO7 hf7)))
    go_upto_region 9 with (fail)
    clear f7 hl7
    go_upto_region 10 with (first
      | (go_at_call 13; ((with_reducible refine (HBY.out _).mono ?_); rintro e w8 ⟨pb8, rfl, hp8, hpb8, hb8⟩; have hf8 := Below.at hb8 (alloc_old HF7.out _) (by have := block_lt HF7.out; simp; omega); have HF8 := Lib.hid hf8; have HP8 := Lib.hid hp8; have HL8 := Lib.hid ((HL7.out.alloc _).below hb8); have HO8 := Lib.hid ((HO7.out.alloc _).trans (Only.ofBelow hb8 B)); clear hp8 hb8 hpb8 hf8))
      | (go_at_call 12; ((with_reducible refine (HF2.out _ _ B _ HL8.out HP8.out).mono ?_); rintro e w9 ⟨rfl, hL9, hO9⟩; have hf9 := hO9.at HF8.out hn6; have f9 := fun j => cell_at hf9 j; have hl9 := block_lt hf9; have HL9 := Lib.hid hL9; have HO9 := Lib.hid (HO8.out.trans hO9); clear hL9 hO9 hf9)))
    go_wp2_with (first
      | (go_at_call 17; ((with_reducible refine (HPH.out _ _ B (by have hLL := HL9.out; (repeat (first | (with_reducible exact hLL) | (with_reducible refine LaneAt.drewN ?_ _) | (with_reducible refine LaneAt.drew ?_) | (with_reducible refine LaneAt.alloc ?_ _))))).mono ?_); rintro e w' ⟨rfl, k, rfl⟩))
      | (go_at_call 18; ((with_reducible refine (HLN.out _ _ B (by have hLL := HL9.out; (repeat (first | (with_reducible exact hLL) | (with_reducible refine LaneAt.drewN ?_ _) | (with_reducible refine LaneAt.drew ?_) | (with_reducible refine LaneAt.alloc ?_ _))))).mono ?_); rintro e w' ⟨rfl, kk, rfl⟩)))
    go_ret
    have h9 : Below w.heap.size w w9 := HB2.out.trans ((HO9.out.below (B := w.heap.size) (fun k hk => by have := HFR.out k hk; have := HB1.out.size; omega) HB2.out.size))
    exact ⟨by first | rfl | exact ret_bool (show (!decide (port ≤ 4)) = true by simp; omega), by repeat' (first | (with_reducible assumption) | (with_reducible refine below_setRowN ?_ ?_ _) | (with_reducible refine Below.setCell ?_ ?_ _) | (with_reducible refine below_drewN' ?_ _) | (with_reducible refine Below.drew ?_) | (with_reducible refine Below.alloc ?_ ?_ _) | (with_reducible exact Below.refl _ _) | (with_reducible exact Nat.le_refl _) | (simp; done) | omega | (simp; omega))⟩
  · have hkb : (kind == 1) = false := beq_eq_false_iff_ne.2 hk
    clear hk
    have HF2 : Hid (∀ w b B pb, LaneAt w b B (⟨2, [x], 0, 0, 0, false⟩ : LN) → w.heap[pb]? = some (.cells #[.int .i64 port] 3 (0, 0)) → Calls Try.prog 12 #[.pointer (some ⟨b, 0, none⟩), .int .i64 node, .func (.func 43) #[] #[.pointer (some ⟨pb, 0, none⟩)]] w fun e w' => e = .returned (.bool false) ∧ LaneAt w' b B s ∧ Only B w w') := fun w b B pb h hp => by
      have := lane_find w b B _ node port _ h (fun _ => ⟨pb, rfl, hp⟩)
      rw [hfs] at this
      exact this
    have HPH : Hid (∀ w b B, LaneAt w b B s → Calls Try.prog 17 #[.pointer (some ⟨b, 0, none⟩)] w fun e w' => e = .returned (.int .i64 0) ∧ ∃ k, w' = w.drewN k) := fun w b B h => by
      have := lane_phase w b B _ h
      rw [hph] at this
      exact this
    clear hfs hph
    go_enter Try.func3, Try.ntmps3
    go_upto_region 8 with (first
      | (go_at_call 10; ((with_reducible refine (HLV.out _).mono ?_); rintro e w1 ⟨rfl, hb1⟩; have HB1 := Lib.hid hb1; clear hb1))
      | (go_at_call 11; ((with_reducible refine (K0.out _).mono ?_); rintro e w2 ⟨b, B, rfl, hL2, hF2, hb2⟩; have HL2 := Lib.hid hL2; have HFR := Lib.hid hF2; have hB2 : Below w.heap.size w w2 := HB1.out.trans (hb2.mono HB1.out.size); have HB2 := Lib.hid hB2; clear hL2 hF2 hb2 hB2))
      | (go_at_call 13; ((with_reducible refine (HBY.out _).mono ?_); rintro e w3 ⟨pb, rfl, hp3, hpb3, hb3⟩; have HP3 := Lib.hid hp3; have HL3 := Lib.hid (HL2.out.below hb3); have HB3 := Lib.hid (Only.ofBelow hb3 B); clear hp3 hb3 hpb3))
      | (go_at_call 12; ((with_reducible refine (K1.out _ _ B _ HL3.out HP3.out).mono ?_); rintro e w4 ⟨rfl, hL4, hO4⟩; have HL4 := Lib.hid hL4; have HO4 := Lib.hid (HB3.out.trans hO4); clear hL4 hO4))
      | (go_at_call 14; ((with_reducible refine (K2.out _ _ B HL4.out).mono ?_); rintro e w5 ⟨rfl, hL5, hO5⟩; have HL5 := Lib.hid hL5; have HO5 := Lib.hid (HO4.out.trans hO5); clear hL5 hO5))
      | (go_at_call 15; ((with_reducible refine (HRD.out _).mono ?_); rintro e w6 ⟨rfl, hb6⟩; have hL6 := HL5.out.below hb6; have hn6 : w6.heap.size ∉ B := fun hm => Nat.lt_irrefl _ (hL6.lt _ hm); have HO6 := Lib.hid (HO5.out.trans (Only.ofBelow hb6 B)); have HL6 := Lib.hid hL6; clear hb6 hL6))
      | (go_at_call 16; ((with_reducible refine (K3.out _ _ B (HL6.out.alloc _)).mono ?_); rintro e w7 ⟨rfl, hL7, hO7⟩; have hf7 := hO7.at (alloc_new _) hn6; have HF7 := Lib.hid hf7; have f7 := fun j => cell_at hf7 j; have hl7 := block_lt hf7; have HL7 := Lib.hid hL7; have HO7 := Lib.hid ((HO6.out.alloc _).trans hO7); clear hL7 hO7 hf7)))
    go_upto_region 9 with (fail)
    clear f7 hl7
    go_upto_region 10 with (first
      | (go_at_call 13; ((with_reducible refine (HBY.out _).mono ?_); rintro e w8 ⟨pb8, rfl, hp8, hpb8, hb8⟩; have hf8 := Below.at hb8 (alloc_old HF7.out _) (by have := block_lt HF7.out; simp; omega); have HF8 := Lib.hid hf8; have HP8 := Lib.hid hp8; have HL8 := Lib.hid ((HL7.out.alloc _).below hb8); have HO8 := Lib.hid ((HO7.out.alloc _).trans (Only.ofBelow hb8 B)); clear hp8 hb8 hpb8 hf8))
      | (go_at_call 12; ((with_reducible refine (HF2.out _ _ B _ HL8.out HP8.out).mono ?_); rintro e w9 ⟨rfl, hL9, hO9⟩; have hf9 := hO9.at HF8.out hn6; have f9 := fun j => cell_at hf9 j; have hl9 := block_lt hf9; have HL9 := Lib.hid hL9; have HO9 := Lib.hid (HO8.out.trans hO9); clear hL9 hO9 hf9)))
    go_wp2_with (first
      | (go_at_call 17; ((with_reducible refine (HPH.out _ _ B (by have hLL := HL9.out; (repeat (first | (with_reducible exact hLL) | (with_reducible refine LaneAt.drewN ?_ _) | (with_reducible refine LaneAt.drew ?_) | (with_reducible refine LaneAt.alloc ?_ _))))).mono ?_); rintro e w' ⟨rfl, k, rfl⟩))
      | (go_at_call 18; ((with_reducible refine (HLN.out _ _ B (by have hLL := HL9.out; (repeat (first | (with_reducible exact hLL) | (with_reducible refine LaneAt.drewN ?_ _) | (with_reducible refine LaneAt.drew ?_) | (with_reducible refine LaneAt.alloc ?_ _))))).mono ?_); rintro e w' ⟨rfl, kk, rfl⟩)))
    go_ret
    have h9 : Below w.heap.size w w9 := HB2.out.trans ((HO9.out.below (B := w.heap.size) (fun k hk => by have := HFR.out k hk; have := HB1.out.size; omega) HB2.out.size))
    exact ⟨by first | rfl | exact ret_bool (show (!decide (port ≤ 4)) = true by simp; omega), by repeat' (first | (with_reducible assumption) | (with_reducible refine below_setRowN ?_ ?_ _) | (with_reducible refine Below.setCell ?_ ?_ _) | (with_reducible refine below_drewN' ?_ _) | (with_reducible refine Below.drew ?_) | (with_reducible refine Below.alloc ?_ ?_ _) | (with_reducible exact Below.refl _ _) | (with_reducible exact Nat.le_refl _) | (simp; done) | omega | (simp; omega))⟩
  · have heb : (e == 0) = false := beq_eq_false_iff_ne.2 he
    clear he
    have HF2 : Hid (∀ w b B pb, LaneAt w b B (⟨2, [x], 0, 0, 0, false⟩ : LN) → w.heap[pb]? = some (.cells #[.int .i64 port] 3 (0, 0)) → Calls Try.prog 12 #[.pointer (some ⟨b, 0, none⟩), .int .i64 node, .func (.func 43) #[] #[.pointer (some ⟨pb, 0, none⟩)]] w fun e w' => e = .returned (.bool false) ∧ LaneAt w' b B s ∧ Only B w w') := fun w b B pb h hp => by
      have := lane_find w b B _ node port _ h (fun _ => ⟨pb, rfl, hp⟩)
      rw [hfs] at this
      exact this
    have HPH : Hid (∀ w b B, LaneAt w b B s → Calls Try.prog 17 #[.pointer (some ⟨b, 0, none⟩)] w fun e w' => e = .returned (.int .i64 0) ∧ ∃ k, w' = w.drewN k) := fun w b B h => by
      have := lane_phase w b B _ h
      rw [hph] at this
      exact this
    clear hfs hph
    go_enter Try.func3, Try.ntmps3
    go_upto_region 8 with (first
      | (go_at_call 10; ((with_reducible refine (HLV.out _).mono ?_); rintro e w1 ⟨rfl, hb1⟩; have HB1 := Lib.hid hb1; clear hb1))
      | (go_at_call 11; ((with_reducible refine (K0.out _).mono ?_); rintro e w2 ⟨b, B, rfl, hL2, hF2, hb2⟩; have HL2 := Lib.hid hL2; have HFR := Lib.hid hF2; have hB2 : Below w.heap.size w w2 := HB1.out.trans (hb2.mono HB1.out.size); have HB2 := Lib.hid hB2; clear hL2 hF2 hb2 hB2))
      | (go_at_call 13; ((with_reducible refine (HBY.out _).mono ?_); rintro e w3 ⟨pb, rfl, hp3, hpb3, hb3⟩; have HP3 := Lib.hid hp3; have HL3 := Lib.hid (HL2.out.below hb3); have HB3 := Lib.hid (Only.ofBelow hb3 B); clear hp3 hb3 hpb3))
      | (go_at_call 12; ((with_reducible refine (K1.out _ _ B _ HL3.out HP3.out).mono ?_); rintro e w4 ⟨rfl, hL4, hO4⟩; have HL4 := Lib.hid hL4; have HO4 := Lib.hid (HB3.out.trans hO4); clear hL4 hO4))
      | (go_at_call 14; ((with_reducible refine (K2.out _ _ B HL4.out).mono ?_); rintro e w5 ⟨rfl, hL5, hO5⟩; have HL5 := Lib.hid hL5; have HO5 := Lib.hid (HO4.out.trans hO5); clear hL5 hO5))
      | (go_at_call 15; ((with_reducible refine (HRD.out _).mono ?_); rintro e w6 ⟨rfl, hb6⟩; have hL6 := HL5.out.below hb6; have hn6 : w6.heap.size ∉ B := fun hm => Nat.lt_irrefl _ (hL6.lt _ hm); have HO6 := Lib.hid (HO5.out.trans (Only.ofBelow hb6 B)); have HL6 := Lib.hid hL6; clear hb6 hL6))
      | (go_at_call 16; ((with_reducible refine (K3.out _ _ B (HL6.out.alloc _)).mono ?_); rintro e w7 ⟨rfl, hL7, hO7⟩; have hf7 := hO7.at (alloc_new _) hn6; have HF7 := Lib.hid hf7; have f7 := fun j => cell_at hf7 j; have hl7 := block_lt hf7; have HL7 := Lib.hid hL7; have HO7 := Lib.hid ((HO6.out.alloc _).trans hO7); clear hL7 hO7 hf7)))
    go_upto_region 9 with (fail)
    clear f7 hl7
    go_upto_region 10 with (first
      | (go_at_call 13; ((with_reducible refine (HBY.out _).mono ?_); rintro e w8 ⟨pb8, rfl, hp8, hpb8, hb8⟩; have hf8 := Below.at hb8 (alloc_old HF7.out _) (by have := block_lt HF7.out; simp; omega); have HF8 := Lib.hid hf8; have HP8 := Lib.hid hp8; have HL8 := Lib.hid ((HL7.out.alloc _).below hb8); have HO8 := Lib.hid ((HO7.out.alloc _).trans (Only.ofBelow hb8 B)); clear hp8 hb8 hpb8 hf8))
      | (go_at_call 12; ((with_reducible refine (HF2.out _ _ B _ HL8.out HP8.out).mono ?_); rintro e w9 ⟨rfl, hL9, hO9⟩; have hf9 := hO9.at HF8.out hn6; have f9 := fun j => cell_at hf9 j; have hl9 := block_lt hf9; have HL9 := Lib.hid hL9; have HO9 := Lib.hid (HO8.out.trans hO9); clear hL9 hO9 hf9)))
    go_wp2_with (first
      | (go_at_call 17; ((with_reducible refine (HPH.out _ _ B (by have hLL := HL9.out; (repeat (first | (with_reducible exact hLL) | (with_reducible refine LaneAt.drewN ?_ _) | (with_reducible refine LaneAt.drew ?_) | (with_reducible refine LaneAt.alloc ?_ _))))).mono ?_); rintro e w' ⟨rfl, k, rfl⟩))
      | (go_at_call 18; ((with_reducible refine (HLN.out _ _ B (by have hLL := HL9.out; (repeat (first | (with_reducible exact hLL) | (with_reducible refine LaneAt.drewN ?_ _) | (with_reducible refine LaneAt.drew ?_) | (with_reducible refine LaneAt.alloc ?_ _))))).mono ?_); rintro e w' ⟨rfl, kk, rfl⟩)))
    go_ret
    have h9 : Below w.heap.size w w9 := HB2.out.trans ((HO9.out.below (B := w.heap.size) (fun k hk => by have := HFR.out k hk; have := HB1.out.size; omega) HB2.out.size))
    exact ⟨by first | rfl | exact ret_bool (show (!decide (port ≤ 4)) = true by simp; omega), by repeat' (first | (with_reducible assumption) | (with_reducible refine below_setRowN ?_ ?_ _) | (with_reducible refine Below.setCell ?_ ?_ _) | (with_reducible refine below_drewN' ?_ _) | (with_reducible refine Below.drew ?_) | (with_reducible refine Below.alloc ?_ ?_ _) | (with_reducible exact Below.refl _ _) | (with_reducible exact Nat.le_refl _) | (simp; done) | omega | (simp; omega))⟩
end Go.Proofs.Ytpklblaenfhncaa
