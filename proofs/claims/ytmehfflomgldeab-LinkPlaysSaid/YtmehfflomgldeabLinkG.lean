/- A link law's head (lives) and step. -/
import Derived.Test.YtmehfflomgldeabLinkF
import Derived.Test.YtmehfflomgldeabLinkNil
namespace Go.Proofs.Ytmehfflomgldeab
set_option linter.unusedVariables false
open Go.RowKit
def lv0 : LS := LS.new 1 1 4
def lv1 : LS := (lv0.send ⟨0, 7⟩).1
def lv2 : LS := lv1.carry.1
def lv4 : LS := (lv2.taken 0).1
def lv5 : LS := lv4.credit.1
set_option maxRecDepth 100000 in
set_option maxHeartbeats 1000000 in
theorem lives13_calls (w : World) : Calls Try.prog 15 #[] w fun e w' => e = .returned (.bool true) ∧ Below w.heap.size w w' := by
  have H0 : ∀ w, Calls Try.prog 16 #[.int .i64 1, .int .i64 1, .int .i64 4] w fun e w' => ∃ b B, e = .returned (.pointer (some ⟨b, 0, none⟩)) ∧ LinkAt w' b B lv0 ∧ (∀ k ∈ B, w.heap.size ≤ k) ∧ Below w.heap.size w w' := fun w => link_new 1 1 4 w
  have H1 : ∀ w b B, LinkAt w b B lv0 → Calls Try.prog 35 #[.pointer (some ⟨b, 0, none⟩), .agg #[.int .i64 0, .int .u64 7]] w fun e w' => e = .returned (.int .i64 0) ∧ LinkAt w' b B lv1 ∧ Only B w w' := fun w b B h => link_send w b B lv0 ⟨0, 7⟩ h
  have H2 : ∀ w b B, LinkAt w b B lv1 → Calls Try.prog 31 #[.pointer (some ⟨b, 0, none⟩)] w fun e w' => e = .returned (.tuple #[.agg #[.int .i64 0, .int .u64 7], .int .i64 0]) ∧ LinkAt w' b B lv2 ∧ Only B w w' := fun w b B h => link_carry w b B lv1 h
  have H3 : ∀ w b B, LinkAt w b B lv2 → Calls Try.prog 35 #[.pointer (some ⟨b, 0, none⟩), .agg #[.int .i64 0, .int .u64 8]] w fun e w' => e = .returned (.int .i64 8) ∧ LinkAt w' b B lv2 ∧ Only B w w' := fun w b B h => link_send w b B lv2 ⟨0, 8⟩ h
  have H4 : ∀ w b B, LinkAt w b B lv2 → Calls Try.prog 32 #[.pointer (some ⟨b, 0, none⟩), .int .i64 0] w fun e w' => e = .returned (.int .i64 0) ∧ LinkAt w' b B lv4 ∧ Only B w w' := fun w b B h => link_taken w b B lv2 0 h
  have H5 : ∀ w b B, LinkAt w b B lv4 → Calls Try.prog 33 #[.pointer (some ⟨b, 0, none⟩)] w fun e w' => e = .returned (.int .i64 0) ∧ LinkAt w' b B lv5 ∧ Only B w w' := fun w b B h => link_credit w b B lv4 h
  have H6 : ∀ w b B, LinkAt w b B lv5 → Calls Try.prog 28 #[.pointer (some ⟨b, 0, none⟩), .int .i64 0] w fun e w' => e = .returned (.bool true) ∧ ∃ n, w' = w.drewN n := fun w b B h => link_may w b B lv5 0 h
  have H7 : ∀ w b B, LinkAt w b B lv5 → Calls Try.prog 30 #[.pointer (some ⟨b, 0, none⟩), .int .i64 0] w fun e w' => e = .returned (.int .i64 1) ∧ Below w.heap.size w w' := fun w b B h => link_sum w b B lv5 0 h
  have H8 : ∀ w b B, LinkAt w b B lv5 → Calls Try.prog 34 #[.pointer (some ⟨b, 0, none⟩)] w fun e w' => e = .returned (.bool true) ∧ Below w.heap.size w w' := fun w b B h => link_idle w b B lv5 h
  have K0 := Lib.hid H0
  have K1 := Lib.hid H1
  have K2 := Lib.hid H2
  have K3 := Lib.hid H3
  have K4 := Lib.hid H4
  have K5 := Lib.hid H5
  have K6 := Lib.hid H6
  have K7 := Lib.hid H7
  have K8 := Lib.hid H8
  clear H0 H1 H2 H3 H4 H5 H6 H7 H8
  go_enter Try.func15, Try.ntmps15
  go_wp2_with (first
    | (go_at_call 16; ((with_reducible refine (K0.out _).mono ?_); rintro e w1 ⟨b, B, rfl, hL1, hB, hb1⟩; have HB := Lib.hid hB; have HL1 := Lib.hid hL1; clear hB hL1))
    | (go_at_call 35; first
        | ((with_reducible refine (K1.out _ _ B HL1.out).mono ?_); rintro e w2 ⟨rfl, hL2, hO2⟩; have HL2 := Lib.hid hL2; clear hL2)
        | ((with_reducible refine (K3.out _ _ B (HL3.out.alloc _)).mono ?_); rintro e w4 ⟨rfl, hL4, hO4⟩; have HL4 := Lib.hid hL4; have hF4 := hO4.at (alloc_new _) (fun hm => Nat.lt_irrefl _ (HL3.out.lt _ hm)); have HF4 := Lib.hid hF4; clear hL4 hF4))
    | (go_at_call 31; ((with_reducible refine (K2.out _ _ B HL2.out).mono ?_); rintro e w3 ⟨rfl, hL3, hO3⟩; have HL3 := Lib.hid hL3; clear hL3))
    | (go_at_call 32; ((with_reducible refine (K4.out _ _ B HL4.out).mono ?_); rintro e w5 ⟨rfl, hL5, hO5⟩; have HL5 := Lib.hid hL5; have hF5 := hO5.at HF4.out (fun hm => Nat.lt_irrefl _ (HL3.out.lt _ hm)); have HF5 := Lib.hid hF5; clear hL5 hF5))
    | (go_at_call 33; ((with_reducible refine (K5.out _ _ B HL5.out).mono ?_); rintro e w6 ⟨rfl, hL6, hO6⟩; have HL6 := Lib.hid hL6; have hF6 := hO6.at HF5.out (fun hm => Nat.lt_irrefl _ (HL3.out.lt _ hm)); have f1 := cell_at hF6 1; clear hL6 hF6))
    | (go_at_call 28; ((with_reducible refine (K6.out _ _ B HL6.out).mono ?_); rintro e w' ⟨rfl, k, rfl⟩))
    | (go_at_call 30; ((with_reducible refine (K7.out _ _ B (HL6.out.drewN _)).mono ?_); rintro e w7 ⟨rfl, hb7⟩; have HL7 := Lib.hid ((HL6.out.drewN _).below hb7)))
    | (go_at_call 34; ((with_reducible refine (K8.out _ _ B HL7.out).mono ?_); rintro e w8 ⟨rfl, hb8⟩)))
  go_ret
  refine ⟨rfl, ?_⟩
  have hA : Only B w1 w6 := hO2.trans (hO3.trans (((Only.refl B w3).alloc _).trans (hO4.trans (hO5.trans hO6))))
  have h6 : Below w.heap.size w w6 := hb1.trans (hA.below HB.out hb1.size)
  have s6 := h6.size
  have h7 : Below w.heap.size w w7 := h6.trans ((Below.trans (by repeat' (first | (with_reducible assumption) | (with_reducible refine Below.setCell ?_ ?_ _) | (with_reducible refine below_drewN' ?_ _) | (with_reducible refine Below.drew ?_) | (with_reducible refine Below.alloc ?_ ?_ _) | (with_reducible exact Below.refl _ _) | (with_reducible exact Nat.le_refl _) | omega | (simp; done) | (simp; omega))) hb7).mono s6)
  exact h7.trans (hb8.mono h7.size)
/-- a step: Send, Carry, Taken, Credit -/
def stepS (s : LS) (k l x : Int) : LS × Cl × Int :=
  match kindN k with
  | 0 => ((s.send ⟨l, x⟩).1, Cl.zero, (s.send ⟨l, x⟩).2)
  | 1 => s.carry
  | 2 => ((s.taken l).1, Cl.zero, (s.taken l).2)
  | _ => (s.credit.1, Cl.zero, s.credit.2)
set_option maxRecDepth 100000 in
set_option maxHeartbeats 1000000 in
theorem step_calls (k l x : Int) (w : World) (b : Nat) (B : List Nat) (s : LS) (h : LinkAt w b B s) : Calls Try.prog 19 #[.pointer (some ⟨b, 0, none⟩), .agg #[.int .i64 k, .int .i64 l, .int .u64 x]] w fun e w' => e = .returned (.tuple #[(stepS s k l x).2.1.val, .int .i64 (stepS s k l x).2.2]) ∧ LinkAt w' b B (stepS s k l x).1 ∧ Only B w w' := by
  have HK := Lib.hid (fun w => kind13_calls k l x w)
  have HS0 := fun w h => link_send w b B s ⟨l, x⟩ h
  have HC0 := fun w h => link_carry w b B s h
  have HT0 := fun w h => link_taken w b B s l h
  have HD0 := fun w h => link_credit w b B s h
  have hk := kind_lt k
  unfold stepS
  generalize kindN k = kd at *
  have h4 : kd = 0 ∨ kd = 1 ∨ kd = 2 ∨ kd = 3 := by omega
  have hnB : w.heap.size ∉ B := fun hm => Nat.lt_irrefl _ (h.lt _ hm)
  have hnB1 : w.heap.size + 1 ∉ B := fun hm => by have := h.lt _ hm; omega
  have HX : Hid (∀ w1, Below (w.heap.size + 1 + 1) ((w.alloc (.cells #[.int .i64 k, .int .i64 l, .int .u64 x] 40)).alloc (.cells #[.int .i64 0, .int .u64 0] 35)) w1 → w1.heap[w.heap.size]? = some (.cells #[.int .i64 k, .int .i64 l, .int .u64 x] 40 (0, 0)) ∧ w1.heap[w.heap.size + 1]? = some (.cells #[.int .i64 0, .int .u64 0] 35 (0, 0)) ∧ Below w.heap.size w w1) := fun w1 hb =>
    ⟨Below.at hb (alloc_old (alloc_new _) _) (by omega), Below.at hb (alloc_at _ _ (by simp)) (by omega), Below.trans (((Below.refl _ _).alloc (Nat.le_refl _) _).alloc (by simp) _) (hb.mono (by omega))⟩
  have hs0 : (s.send ⟨l, x⟩).2 = (s.send ⟨l, x⟩).2 := rfl
  generalize s.send ⟨l, x⟩ = rs at *
  generalize s.carry = rc at *
  generalize s.taken l = rt at *
  generalize s.credit = rd at *
  obtain ⟨rs1, rs2⟩ := rs
  obtain ⟨rc1, ⟨rcl, rcw⟩, rc2⟩ := rc
  obtain ⟨rt1, rt2⟩ := rt
  obtain ⟨rd1, rd2⟩ := rd
  dsimp only at HS0 HC0 HT0 HD0
  have HS := Lib.hid HS0
  have HC := Lib.hid HC0
  have HT := Lib.hid HT0
  have HD := Lib.hid HD0
  have HH := Lib.hid h
  clear HS0 HC0 HT0 HD0 hs0 h
  rcases h4 with rfl | rfl | rfl | rfl
  all_goals
    go_enter Try.func19, Try.ntmps19
    go_wp2_with (first
      | (go_at_call 29; ((with_reducible refine (HK.out _).mono ?_); rintro e w1 ⟨rfl, hb1⟩; have hb1' : Below (w.heap.size + 1 + 1) ((w.alloc (.cells #[.int .i64 k, .int .i64 l, .int .u64 x] 40)).alloc (.cells #[.int .i64 0, .int .u64 0] 35)) w1 := (by simpa using hb1); have hF := (HX.out _ hb1').1; have hG := (HX.out _ hb1').2.1; have f1 := cell_at hF 1; have f2 := cell_at hF 2; have g0 := cell_at hG 0; have g1 := cell_at hG 1; have g2 := frozen_at hG 0; have g3 := frozen_at hG 1; have HB1 := Lib.hid (HX.out _ hb1').2.2; have HL1 := Lib.hid (HH.out.below (HX.out _ hb1').2.2); have HG := Lib.hid hG; have hs1 := hb1'.size; clear hb1 hb1' hF hG))
      | (go_at_call 35; ((with_reducible refine (HS.out _ HL1.out).mono ?_); rintro e w2 ⟨rfl, hL2, hO2⟩; have hG2 := hO2.at HG.out hnB1; clear g0 g1 g2 g3; have g0 := cell_at hG2 0; have g1 := cell_at hG2 1; have g2 := frozen_at hG2 0; have g3 := frozen_at hG2 1; have HG2 := Lib.hid hG2; have HL2 := Lib.hid hL2; clear hG2 hL2))
      | (go_at_call 31; ((with_reducible refine (HC.out _ HL1.out).mono ?_); rintro e w2 ⟨rfl, hL2, hO2⟩; have hG2 := hO2.at HG.out hnB1; clear g0 g1 g2 g3; have g0 := cell_at hG2 0; have g1 := cell_at hG2 1; have g2 := frozen_at hG2 0; have g3 := frozen_at hG2 1; have HG2 := Lib.hid hG2; have HL2 := Lib.hid hL2; clear hG2 hL2))
      | (go_at_call 32; ((with_reducible refine (HT.out _ HL1.out).mono ?_); rintro e w2 ⟨rfl, hL2, hO2⟩; have hG2 := hO2.at HG.out hnB1; clear g0 g1 g2 g3; have g0 := cell_at hG2 0; have g1 := cell_at hG2 1; have g2 := frozen_at hG2 0; have g3 := frozen_at hG2 1; have HG2 := Lib.hid hG2; have HL2 := Lib.hid hL2; clear hG2 hL2))
      | (go_at_call 33; ((with_reducible refine (HD.out _ HL1.out).mono ?_); rintro e w2 ⟨rfl, hL2, hO2⟩; have hG2 := hO2.at HG.out hnB1; clear g0 g1 g2 g3; have g0 := cell_at hG2 0; have g1 := cell_at hG2 1; have g2 := frozen_at hG2 0; have g3 := frozen_at hG2 1; have HG2 := Lib.hid hG2; have HL2 := Lib.hid hL2; clear hG2 hL2)))
    refine bodyPost_ret (res_row_tmp rfl _ _ (w.heap.size + 1) 35 _ (0, 0) _ rfl (stored2 HG2.out) Try.underlying35 rfl (by kernel_rfl)) rfl ⟨rfl, HL2.out.only (S := [w.heap.size + 1]) (((Only.refl _ _).setCell (by simp) _).setCell (by simp) _) (fun k hk => off1 (fun e => hnB1 (e ▸ hk))), ?_⟩
    exact (((Only.ofBelow HB1.out _).trans hO2).setCell' (by simp) _).setCell' (by simp) _
end Go.Proofs.Ytmehfflomgldeab
