/- The walk of RingBegins. -/
import Derived.Test.YtncdambphaodaaaTwin01
namespace Go.Proofs.Ytncdambphaodaaa
set_option linter.unusedVariables false
open Go.RowKit
set_option maxRecDepth 100000 in
set_option maxHeartbeats 1000000 in
theorem ringBegins_walk (room begin : Int) (a : Option Addr) (c : Nat) (l : List Op01) (w : World) (hb0 : 0 ≤ begin) (hb1 : begin < 4294967296) (hl : l.length ≤ maxLen) (hc : l.length ≤ c) (hr : ScriptAt w a l) :
    Calls Try.prog 11 #[.int .i64 room, .int .u32 begin, .slice a l.length c] w fun e w' => e = .returned (.bool true) ∧ Below w.heap.size w w' := by
  have HE := Lib.hid (fun w => early_calls a l.length c w hl hc)
  have hs := hr.take 150
  have hL : (l.take 150).length = min l.length 150 := by rw [List.length_take]; omega
  have hLl : (l.take 150).length ≤ 150 := by omega
  rw [← hL] at HE
  generalize l.take 150 = ls at *
  clear hr hL
  go_enter Try.func11, Try.ntmps11
  go_wp2_with (first
    | (go_at_call 31; refine (lives01_calls _).mono ?_; rintro e w1 ⟨rfl, hb⟩; have HB := Lib.hid hb; clear hb)
    | (go_at_call 32; first | (refine (ring_new _ 0 w2 (by omega) (by omega)).mono ?_; rintro e w3 ⟨b2, g2, rfl, hR2, hb2, hg2, hB2⟩) | (refine (ring_new _ begin w1 hb0 hb1).mono ?_; rintro e w2 ⟨b, g, rfl, hR, hb, hg, hB⟩))
    | (go_at_call 33; refine (HE.out _).mono ?_; rintro e w' ⟨rfl, k, rfl⟩))
  obtain ⟨z, rfl⟩ := Int.eq_ofNat_of_zero_le hb0
  rw [show (0 : Int).toNat = 0 from rfl] at hR2
  rw [show ((z : Int)).toNat = z from rfl] at hR
  have hz : z < 4294967296 := by omega
  have hw1 := HB.out.size
  have hw2 := hB.size
  have hlt := hR.lt
  have hB3 : Below w.heap.size w w3 := (HB.out.trans (hB.mono hw1)).trans (hB2.mono (Nat.le_trans hw1 hw2))
  have hR' := hR.below hB2 hlt.1 hlt.2
  have hS : ∀ k ∈ [b, g], w.heap.size ≤ k := by simp; exact ⟨Nat.le_trans hw1 hb, Nat.le_trans hw1 hg⟩
  have hS2 : ∀ k ∈ [b2, g2], w.heap.size ≤ k := by simp; omega
  have n1 : b ∉ [b2, g2] ∧ g ∉ [b2, g2] ∧ b2 ∉ [b, g] ∧ g2 ∉ [b, g] := by simp; omega
  obtain ⟨n1, n2, n3, n4⟩ := n1
  have hT : Twin z (RS.new room z) (RS.new room 0) := ⟨rfl, rfl, rfl, by show z = (0 + z) % 4294967296; omega, by show z = (0 + z) % 4294967296; omega⟩
  clear hb0 hb1
  generalize (RS.new room z : RS Int) = s0 at *
  generalize (RS.new room 0 : RS Int) = t0 at *
  clear HB hR hb hg hB hb2 hg2 hB2 hw1 hw2 hlt
  go_loopw [9] (fun i wr => ∃ (m : Nat) (s t : RS Int), m ≤ ls.length ∧ i = .int .i64 (m : Int) ∧ RingAt wr b g s ∧ RingAt wr b2 g2 t ∧ Hid (Twin z s t) ∧ Below w.heap.size w wr) (fun i _ => ls.length - (intOf i).toNat)
  case atStart => exact ⟨0, s0, t0, by omega, rfl, hR'.drewN _, hR2.drewN _, hT, below_drewN' hB3 _⟩
  case round =>
    clear hR' hR2 hT hB3
    obtain ⟨m, s, t, hm, rfl, hR, hR2, hT, hB⟩ := hrel
    by_cases hlm : m < ls.length
    · obtain ⟨blk, off, o, _, rfl, hcell, hli, q4, q5⟩ := hs.round m hlm
      obtain ⟨c0, c1, c2⟩ := hcell wr hB
      have HCE := Lib.hid hcell
      clear hcell
      have hoff := hli.off hB hS
      have hO2 := fun w4 (h : Only [b, g] wr w4) => hli.off (hB.trans (h.below hS hB.size)) hS2
      obtain ⟨hT2, e1, e2, e3⟩ := hT.out.step o
      have HA := fun w h hr => step01_calls w b g s o h hr q4 q5
      have HB := fun w h hr => step01_calls w b2 g2 t o h hr q4 q5
      rw [← e1, ← e2, ← e3] at HB
      have hll : (stepL s o).length ≤ maxLen := by have := stepL_len s o; have := hR.1.le; have := hR.1.n2; unfold maxLen; omega
      have k2 := step_ok hR.1 o
      have k3 := step_ok hR2.1 o
      generalize stepN s o = n at HA HB
      generalize stepE s o = e at HA HB
      generalize stepL s o = l1 at *
      generalize stepS s o = s2 at *
      generalize stepS t o = t2 at *
      clear e1 e2 e3
      have u1 : ((s2.inn : Int) - (s2.out : Int)) % 4294967296 = (s2.q.length : Int) := by have := k2.cnt; have := k2.li; have := k2.lo; omega
      have u2 : ((s2.inn : Int) - (z : Int)) % 4294967296 = (t2.inn : Int) := by have := k3.li; have := hT2.inn; omega
      have u3 : ((s2.out : Int) - (z : Int)) % 4294967296 = (t2.out : Int) := by have := k3.lo; have := hT2.out; omega
      have u4 : (s2.q.length : Int) % 4294967296 = (s2.q.length : Int) := by have := k2.le; have := k2.n2; omega
      have HL := Lib.hid (fun w h => ring_len w b g s2 h)
      have HL2 := Lib.hid (fun w h => ring_len w b2 g2 t2 h)
      rw [← hT2.q] at HL2
      have HM := Lib.hid (fun w h => ring_room w b g s2 h)
      have HM2 := Lib.hid (fun w h => ring_room w b2 g2 t2 h)
      rw [← hT2.room] at HM2
      have HC := Lib.hid (fun w h => ring_counts w b g s2 h)
      have HC2 := Lib.hid (fun w h => ring_counts w b2 g2 t2 h)
      have HT2 := Lib.hid hT2
      have HA2 := Lib.hid HA
      have HB2 := Lib.hid HB
      have hlb := hR.lt
      have hlb2 := hR2.lt
      have hSlt : ∀ k ∈ [b2, g2], k < wr.heap.size := by simp; exact hlb2
      clear HA HB hT hT2
      generalize s2.q.length = sl at *
      generalize s2.room = sr at *
      generalize s2.inn = si at *
      generalize s2.out = so at *
      generalize t2.inn = ti at *
      generalize t2.out = to at *
      go_wp2_with (first
        | (go_at_call 45; first
            | (refine (HB2.out w4 (hR2.only hO4 n3 n4) (hO2 _ hO4)).mono ?_; rintro e w5 ⟨a5, c5, rfl, hi5, hR5, hO5⟩; have hR4' := hR4.only hO5 n1 n2; have hi4' := hi4.only hO5 hSlt)
            | (refine (HA2.out _ hR hoff).mono ?_; rintro e w4 ⟨a4, c4, rfl, hi4, hR4, hO4⟩; have hB4 := hB.trans (hO4.below hS hB.size); clear c0 c1 c2; obtain ⟨c0, c1, c2⟩ := HCE.out w4 hB4))
        | (go_at_call 46; first | (have := fC; refine (HC2.out _ (by repeat (first | exact hR5 | apply RingAt.drewN))).mono ?_; rintro e _ ⟨rfl, k, rfl⟩; clear fC; have fC2 := trivial) | (refine (HC.out _ (by repeat (first | exact hR4' | apply RingAt.drewN))).mono ?_; rintro e _ ⟨rfl, k, rfl⟩; have fC := trivial))
        | (go_at_call 37; first | (have := fL; refine (HL2.out _ (by repeat (first | exact hR5 | apply RingAt.drewN))).mono ?_; rintro e _ ⟨rfl, k, rfl⟩; clear fL; have fL2 := trivial) | (refine (HL.out _ (by repeat (first | exact hR4' | apply RingAt.drewN))).mono ?_; rintro e _ ⟨rfl, k, rfl⟩; have fL := trivial))
        | (go_at_call 38; first | (have := fM; refine (HM2.out _ (by repeat (first | exact hR5 | apply RingAt.drewN))).mono ?_; rintro e _ ⟨rfl, k, rfl⟩; clear fM; have fM2 := trivial) | (refine (HM.out _ (by repeat (first | exact hR4' | apply RingAt.drewN))).mono ?_; rintro e _ ⟨rfl, k, rfl⟩; have fM := trivial))
        | (go_at_call 44; refine (same01_self _ _ _ _ _ _ hll (hi4'.drewN _).at (hi5.drewN _).at).mono ?_; rintro e w' ⟨rfl, k, rfl⟩))
      go_roundw
      case rel => exact ⟨m + 1, s2, t2, by omega, by go_num, hR4'.drewN _, hR5.drewN _, HT2, below_drewN' (hB4.trans (hO5.below hS2 hB4.size)) _⟩
      case measure => simp [intOf] <;> omega
    · obtain rfl : m = ls.length := by omega
      go_wp2
      go_ret
      exact ⟨rfl, hB⟩
end Go.Proofs.Ytncdambphaodaaa
