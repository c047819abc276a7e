/- The walk of RingRow. -/
import Derived.Test.YtncdambphaodaaaScript01
namespace Go.Proofs.Ytncdambphaodaaa
set_option linter.unusedVariables false
open Go.RowKit

/-- The numbers from o on, so many. -/
def seqFrom (o k : Nat) : List Int := (List.range' o k).map Int.ofNat
theorem seqFrom_len (o k : Nat) : (seqFrom o k).length = k := by unfold seqFrom; simp
theorem seqFrom_snoc (o k : Nat) : seqFrom o (k + 1) = seqFrom o k ++ [((o + k : Nat) : Int)] := by
  unfold seqFrom; rw [List.range'_concat]; simp
theorem seqFrom_tail (o k : Nat) : (seqFrom o (k + 1)).tail = seqFrom (o + 1) k := by unfold seqFrom; rw [List.range'_succ]; simp
theorem seqFrom_head (o k : Nat) : (seqFrom o (k + 1)).headD 0 = (o : Int) := by unfold seqFrom; rw [List.range'_succ]; simp
theorem mod9 (x : Int) : ∃ k : Nat, 1 + wrap64 ((IntKind.u64.wrap x).tmod 9) = (k : Int) ∧ 1 ≤ k ∧ k ≤ 9 := by
  have h0 : 0 ≤ IntKind.u64.wrap x := by rw [wrapu64]; omega
  refine ⟨(1 + wrap64 ((IntKind.u64.wrap x).tmod 9)).toNat, ?_⟩
  rw [Int.tmod_eq_emod_of_nonneg h0]
  unfold wrap64
  omega
/-- A ring of room k that has the numbers outs, .., so many. -/
def rowS (k outs d inn out : Nat) : RS Int := { n := k, q := seqFrom outs d, ld := none, inn := inn, out := out }
theorem rowS_push {k outs d inn out : Nat} (h : d ≠ k) : (rowS k outs d inn out).push ((outs + d : Nat) : Int) = (rowS k outs (d + 1) ((inn + 1) % 4294967296) out, 0) := by
  unfold RS.push rowS
  simp only [Option.isSome_none, Bool.false_eq_true, if_false, seqFrom_len, if_neg h, seqFrom_snoc]
theorem rowS_push' {k outs d inn out : Nat} (h : d ≠ k) : (rowS k outs d inn out).push ((outs : Int) + (d : Int)) = (rowS k outs (d + 1) ((inn + 1) % 4294967296) out, 0) := by
  rw [← Int.natCast_add]; exact rowS_push h
theorem rowS_full {k outs inn out : Nat} (v : Int) : (rowS k outs k inn out).push v = (rowS k outs k inn out, 7) := by
  unfold RS.push rowS
  simp only [Option.isSome_none, Bool.false_eq_true, if_false, seqFrom_len, if_true]
theorem rowS_free {k outs d inn out : Nat} : (rowS k outs (d + 1) inn out).free = rowS k (outs + 1) d inn ((out + 1) % 4294967296) ∧ (rowS k outs (d + 1) inn out).peekE = 0 ∧ (rowS k outs (d + 1) inn out).q.headD 0 = (outs : Int) := by
  unfold RS.free RS.peekE rowS
  simp only [seqFrom_len, Nat.add_eq_zero_iff, Nat.one_ne_zero, and_false, if_false, seqFrom_tail, seqFrom_head, true_and]
theorem rowS_empty {k outs inn out : Nat} : (rowS k outs 0 inn out).free = rowS k outs 0 inn out ∧ (rowS k outs 0 inn out).peekE = 8 := by
  unfold RS.free RS.peekE rowS
  simp [seqFrom_len]
theorem rowS_head0 {k outs inn out : Nat} : (rowS k outs 0 inn out).q.headD 0 = 0 := rfl
theorem rowS_room {k outs d inn out : Nat} : (rowS k outs d inn out).room = (k : Int) - (d : Int) := by
  unfold RS.room rowS; simp [seqFrom_len]
theorem rowS_len {k outs d inn out : Nat} : (rowS k outs d inn out).q.length = d := seqFrom_len ..
set_option maxRecDepth 100000 in
set_option maxHeartbeats 1000000 in
theorem ringRow_walk (room : Int) (a : Option Addr) (c : Nat) (l : List Op01) (w : World) (hl : l.length ≤ maxLen) (hc : l.length ≤ c) (hr : ScriptAt w a l) :
    Calls Try.prog 9 #[.int .i64 room, .slice a l.length c] w fun e w' => e = .returned (.bool true) ∧ Below w.heap.size w w' := by
  obtain ⟨rm, hk, hk1, hk9⟩ := mod9 room
  have hn : (RS.new (rm : Int) 4294967290 : RS Int) = rowS rm 0 0 4294967290 4294967290 := by
    unfold RS.new rowS; congr 1; omega
  have HN := Lib.hid hn
  have HE := Lib.hid (fun w => early_calls a l.length c w hl hc)
  have hs := hr.take 150
  have hL : (l.take 150).length = min l.length 150 := by rw [List.length_take]; omega
  have hLl : (l.take 150).length ≤ 150 := by omega
  rw [← hL] at HE
  generalize l.take 150 = ls at *
  clear hr hn hL
  go_enter Try.func9, Try.ntmps9
  go_wp2_with (first
    | (go_at_call 31; refine (lives01_calls _).mono ?_; rintro e w1 ⟨rfl, hb⟩; have HB := Lib.hid hb; clear hb)
    | (go_at_call 32; refine (ring_new _ 4294967290 _ (by omega) (by omega)).mono ?_; rintro e w2 ⟨b, g, rfl, hR, hb, hg, hB⟩)
    | (go_at_call 33; refine (HE.out _).mono ?_; rintro e w' ⟨rfl, k, rfl⟩))
  rw [show ((4294967290 : Int)).toNat = 4294967290 from rfl, HN.out] at hR
  have hb1 : w.heap.size ≤ b := Nat.le_trans HB.out.size hb
  have hg1 : w.heap.size ≤ g := Nat.le_trans HB.out.size hg
  have HB2 := Lib.hid (HB.out.trans (hB.mono HB.out.size))
  clear hB HB hb hg
  go_loopw [6, 7, 8] (fun x y i wr => ∃ (m outs d inn out : Nat), m ≤ ls.length ∧ outs + d ≤ m ∧ d ≤ rm ∧ x = .int .i64 ((outs : Int) + (d : Int)) ∧ y = .int .i64 (outs : Int) ∧ i = .int .i64 (m : Int) ∧ RingAt wr b g (rowS rm outs d inn out) ∧ Below w.heap.size w wr) (fun _ _ i _ => ls.length - (intOf i).toNat)
  case atStart => exact ⟨0, 0, 0, _, _, by omega, by omega, by omega, rfl, rfl, rfl, hR.drewN _, below_drewN' HB2.out _⟩
  case round =>
    obtain ⟨m, outs, d, inn, out, hm, hmd, hdk, rfl, rfl, rfl, hR, hB⟩ := hrel
    by_cases hlm : m < ls.length
    · obtain ⟨blk, off, o, _, rfl, c0, c1, c2, _⟩ := (hs.below hB) m hlm
      obtain ⟨q0, q7⟩ := kindOf_range o.k
      have hS : ∀ k ∈ [b, g], w.heap.size ≤ k := by simp; exact ⟨hb1, hg1⟩
      by_cases hkind : kindOf o.k < 4
      · by_cases hfull : d = rm
        · obtain rfl := hfull.symm
          have HL := Lib.hid (fun w h => ring_len w b g (rowS rm outs rm inn out) h)
          have HM := Lib.hid (fun w h => ring_room w b g (rowS rm outs rm inn out) h)
          rw [rowS_len] at HL
          rw [rowS_room] at HM
          have HP := fun w h => ring_push w b g (rowS rm outs rm inn out) ((outs : Int) + (rm : Int)) h
          rw [rowS_full] at HP
          have HP2 := Lib.hid HP
          clear HP
          have t1 : (outs : Int) + (rm : Int) - (outs : Int) = (rm : Int) := by omega
          have t3 : (rm : Int) - (rm : Int) = 0 := by omega
          go_wp2_with (first
            | (go_at_call 34; refine (kind_calls _ _ _ _).mono ?_; rintro e w3 ⟨rfl, hb3⟩; have hR3 := hR.below hb3 hR.lt.1 hR.lt.2; clear c0 c1 c2)
            | (go_at_call 35; refine (HP2.out _ hR3).mono ?_; rintro e w4 ⟨rfl, hR4, hO4⟩)
            | (go_at_call 37; refine (HL.out _ (by first | exact hR4 | exact hR4.drewN _)).mono ?_; rintro e w' ⟨rfl, k, rfl⟩) | (go_at_call 38; refine (HM.out _ (by first | exact hR4 | exact hR4.drewN _)).mono ?_; rintro e w' ⟨rfl, k, rfl⟩))
          go_roundw
          case rel => exact ⟨m + 1, outs, rm, _, _, by omega, by omega, by omega, by go_num, by go_num, by go_num, hR4.drewN _, below_drewN' (hB.trans ((hb3.mono hB.size).trans (hO4.below hS (Nat.le_trans hB.size hb3.size)))) _⟩
          case measure => simp [intOf] <;> omega

        ·
          have HL := Lib.hid (fun w h => ring_len w b g (rowS rm outs (d + 1) ((inn + 1) % 4294967296) out) h)
          have HM := Lib.hid (fun w h => ring_room w b g (rowS rm outs (d + 1) ((inn + 1) % 4294967296) out) h)
          rw [rowS_len] at HL
          rw [rowS_room] at HM
          have e0 : ((d + 1 : Nat) : Int) = (d : Int) + 1 := by omega
          rw [e0] at HL HM
          clear e0
          have t1 : (outs : Int) + (d : Int) + 1 - (outs : Int) = (d : Int) + 1 := by omega
          have t2 : (d : Int) + 1 ≤ (rm : Int) := by omega
          have HP := fun w h => ring_push w b g (rowS rm outs d inn out) ((outs : Int) + (d : Int)) h
          rw [rowS_push' hfull] at HP
          have HP2 := Lib.hid HP
          clear HP
          go_wp2_with (first
            | (go_at_call 34; refine (kind_calls _ _ _ _).mono ?_; rintro e w3 ⟨rfl, hb3⟩; have hR3 := hR.below hb3 hR.lt.1 hR.lt.2; clear c0 c1 c2)
            | (go_at_call 35; refine (HP2.out _ hR3).mono ?_; rintro e w4 ⟨rfl, hR4, hO4⟩)
            | (go_at_call 37; refine (HL.out _ (by first | exact hR4 | exact hR4.drewN _)).mono ?_; rintro e w' ⟨rfl, k, rfl⟩) | (go_at_call 38; refine (HM.out _ (by first | exact hR4 | exact hR4.drewN _)).mono ?_; rintro e w' ⟨rfl, k, rfl⟩))
          go_roundw
          case rel => exact ⟨m + 1, outs, (d + 1), _, _, by omega, by omega, by omega, by go_num, by go_num, by go_num, hR4.drewN _, below_drewN' (hB.trans ((hb3.mono hB.size).trans (hO4.below hS (Nat.le_trans hB.size hb3.size)))) _⟩
          case measure => simp [intOf] <;> omega

      · by_cases he : d = 0
        · subst he
          have HP := fun w h => ring_pop w b g (rowS rm outs 0 inn out) h
          rw [rowS_empty.1, rowS_empty.2, rowS_head0] at HP
          have HL := Lib.hid (fun w h => ring_len w b g (rowS rm outs 0 inn out) h)
          have HM := Lib.hid (fun w h => ring_room w b g (rowS rm outs 0 inn out) h)
          rw [rowS_len] at HL
          rw [rowS_room] at HM
          have HP2 := Lib.hid HP
          clear HP
          rw [show (outs : Int) + ((0 : Nat) : Int) = (outs : Int) from by omega]
          rw [show ((0 : Nat) : Int) = 0 from rfl] at HL HM
          rw [show (rm : Int) - 0 = (rm : Int) from by omega] at HM
          go_wp2_with (first
            | (go_at_call 34; refine (kind_calls _ _ _ _).mono ?_; rintro e w3 ⟨rfl, hb3⟩; have hR3 := hR.below hb3 hR.lt.1 hR.lt.2; clear c0 c1 c2)
            | (go_at_call 36; refine (HP2.out _ hR3).mono ?_; rintro e w4 ⟨rfl, hR4, hO4⟩)
            | (go_at_call 37; refine (HL.out _ (by first | exact hR4 | exact hR4.drewN _)).mono ?_; rintro e w' ⟨rfl, k, rfl⟩) | (go_at_call 38; refine (HM.out _ (by first | exact hR4 | exact hR4.drewN _)).mono ?_; rintro e w' ⟨rfl, k, rfl⟩))
          go_roundw
          case rel => exact ⟨m + 1, outs, 0, _, _, by omega, by omega, by omega, by go_num, by go_num, by go_num, hR4.drewN _, below_drewN' (hB.trans ((hb3.mono hB.size).trans (hO4.below hS (Nat.le_trans hB.size hb3.size)))) _⟩
          case measure => simp [intOf] <;> omega
        · obtain ⟨d, rfl⟩ : ∃ j, d = j + 1 := ⟨d - 1, by omega⟩
          have HP := fun w h => ring_pop w b g (rowS rm outs (d + 1) inn out) h
          rw [rowS_free.1, rowS_free.2.1, rowS_free.2.2] at HP
          have HL := Lib.hid (fun w h => ring_len w b g (rowS rm (outs + 1) d inn ((out + 1) % 4294967296)) h)
          have HM := Lib.hid (fun w h => ring_room w b g (rowS rm (outs + 1) d inn ((out + 1) % 4294967296)) h)
          rw [rowS_len] at HL
          rw [rowS_room] at HM
          have HP2 := Lib.hid HP
          clear HP
          rw [show ((d + 1 : Nat) : Int) = (d : Int) + 1 from by omega]
          have t0 : (outs : Int) < (outs : Int) + ((d : Int) + 1) := by omega
          have t1 : (outs : Int) + ((d : Int) + 1) - ((outs : Int) + 1) = (d : Int) := by omega
          have t2 : (d : Int) ≤ (rm : Int) := by omega
          go_wp2_with (first
            | (go_at_call 34; refine (kind_calls _ _ _ _).mono ?_; rintro e w3 ⟨rfl, hb3⟩; have hR3 := hR.below hb3 hR.lt.1 hR.lt.2; clear c0 c1 c2)
            | (go_at_call 36; refine (HP2.out _ hR3).mono ?_; rintro e w4 ⟨rfl, hR4, hO4⟩)
            | (go_at_call 37; refine (HL.out _ (by first | exact hR4 | exact hR4.drewN _)).mono ?_; rintro e w' ⟨rfl, k, rfl⟩) | (go_at_call 38; refine (HM.out _ (by first | exact hR4 | exact hR4.drewN _)).mono ?_; rintro e w' ⟨rfl, k, rfl⟩))
          go_roundw
          case rel => exact ⟨m + 1, outs + 1, d, _, _, by omega, by omega, by omega, by go_num, by go_num, by go_num, hR4.drewN _, below_drewN' (hB.trans ((hb3.mono hB.size).trans (hO4.below hS (Nat.le_trans hB.size hb3.size)))) _⟩
          case measure => simp [intOf] <;> omega
    · obtain rfl : m = ls.length := by omega
      go_wp2
      go_ret
      exact ⟨rfl, hB⟩
end Go.Proofs.Ytncdambphaodaaa
