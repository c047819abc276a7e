/- The walk of RingMany. -/
import Derived.Test.YtncdambphaodaaaTwin01
import Derived.Test.YtncdambphaodaaaKit2
import Derived.Deep.RegionHeld3
namespace Go.Proofs.Ytncdambphaodaaa
set_option linter.unusedVariables false
open Go.RowKit

theorem pushAll_new {s : RS Int} (hl : s.ld = none) (hle : s.q.length ≤ s.n) (l : List Int) : (s.pushAll l).1.q = s.q ++ l.take (s.n - s.q.length) ∧ (s.pushAll l).2 = min l.length (s.n - s.q.length) := by
  induction l generalizing s with
  | nil => unfold RS.pushAll; simp
  | cons v l ih =>
    unfold RS.pushAll
    by_cases c : s.q.length = s.n
    · have e : s.push v = (s, 7) := by unfold RS.push; simp [hl, c]
      rw [e]; simp [c]
    · have e : s.push v = ({ s with q := s.q ++ [v], inn := (s.inn + 1) % 4294967296 }, 0) := by unfold RS.push; simp [hl, c]
      rw [e, if_pos rfl]
      have := ih (s := { s with q := s.q ++ [v], inn := (s.inn + 1) % 4294967296 }) hl (by simp; omega)
      obtain ⟨h1, h2⟩ := this
      obtain ⟨d, hd⟩ : ∃ d, s.n - s.q.length = d + 1 := ⟨s.n - s.q.length - 1, by omega⟩
      have hd2 : s.n - (s.q ++ [v]).length = d := by simp; omega
      simp only [hd2] at h1 h2
      rw [hd]
      refine ⟨?_, ?_⟩
      · show (RS.pushAll _ l).1.q = _
        rw [h1]; simp
      · show (RS.pushAll _ l).2 + 1 = _
        rw [h2]; simp
theorem mod12 (x : Int) : ∃ k : Nat, 1 + wrap64 ((IntKind.u64.wrap x).tmod 12) = (k : Int) ∧ 1 ≤ k ∧ k ≤ 12 := by
  have h0 : 0 ≤ IntKind.u64.wrap x := by rw [wrapu64]; omega
  refine ⟨(1 + wrap64 ((IntKind.u64.wrap x).tmod 12)).toNat, ?_⟩
  rw [Int.tmod_eq_emod_of_nonneg h0]
  unfold wrap64
  omega
theorem same01_at (x y : Nat) (a : Option Addr) (c : Nat) (l : List Int) (a2 : Option Addr) (c2 : Nat) (w : World) (hx : x = l.length) (hy : y = l.length) (hl : l.length ≤ maxLen) (hr : IntsAt .i64 w a l) (hr2 : IntsAt .i64 w a2 l) :
    Calls Try.prog 44 #[.slice a x c, .slice a2 y c2] w fun e w' => e = .returned (.bool true) ∧ ∃ k, w' = w.drewN k := by
  subst hx; rw [hy]; exact same01_self a c l a2 c2 w hl hr hr2
theorem IntsAt.take {k : IntKind} {w : World} {a : Option Addr} {l : List Int} (h : IntsAt k w a l) (n : Nat) : IntsAt k w a (l.take n) := fun i hi => by
  rw [List.length_take] at hi
  obtain ⟨blk, off, e, hc⟩ := h i (by omega)
  exact ⟨blk, off, e, by rw [List.getD_eq_getElem?_getD, List.getElem?_take, if_pos (by omega), ← List.getD_eq_getElem?_getD]; exact hc⟩
/-- The row behind its first k. -/
theorem IntsAt.dropAt {k : IntKind} {w : World} {blk off : Nat} {l : List Int} (h : IntsAt k w (some ⟨blk, off, none⟩) l) (n : Nat) : IntsAt k w (some ⟨blk, off + n, none⟩) (l.drop n) := fun i hi => by
  rw [List.length_drop] at hi
  obtain ⟨_, _, e, hc⟩ := h (n + i) (by omega)
  simp only [Option.some.injEq, Addr.mk.injEq, and_true] at e
  obtain ⟨rfl, rfl⟩ := e
  refine ⟨blk, off + n, rfl, ?_⟩
  rw [List.getD_eq_getElem?_getD, List.getElem?_drop, ← List.getD_eq_getElem?_getD, Nat.add_assoc]
  exact hc
theorem RingAt.drew {w : World} {b g : Nat} {s : RS Int} (h : RingAt w b g s) : RingAt w.drew b g s := h.drewN 1
theorem IntsAt.dropMap {k : IntKind} {w : World} {a : Option Addr} {l : List Int} (h : IntsAt k w a l) (n : Nat) : IntsAt k w (a.map (fun x => x.add n)) (l.drop n) := fun i hi => by
  rw [List.length_drop] at hi
  obtain ⟨blk, off, e, hc⟩ := h (n + i) (by omega)
  subst e
  refine ⟨blk, off + n, by simp [Addr.add], ?_⟩
  rw [List.getD_eq_getElem?_getD, List.getElem?_drop, ← List.getD_eq_getElem?_getD, Nat.add_assoc]
  exact hc
set_option maxRecDepth 100000 in
set_option maxHeartbeats 1500000 in
theorem ringMany_walk (room most : Int) (a : Option Addr) (c : Nat) (l : List Int) (w : World) (hl : l.length ≤ maxLen) (hc : l.length ≤ c) (hr : IntsAt .i64 w a l) :
    Calls Try.prog 13 #[.int .i64 room, .slice a l.length c, .int .i64 most] w fun e w' => e = .returned (.bool true) ∧ Below w.heap.size w w' := by
  unfold maxLen at hl
  obtain ⟨rm, hk, hk1, hk9⟩ := mod12 room
  obtain ⟨X, hX⟩ : ∃ X : Nat, X = min l.length 30 := ⟨_, rfl⟩
  obtain ⟨n, hn⟩ : ∃ n : Nat, n = min X rm := ⟨_, rfl⟩
  obtain ⟨k, hkk⟩ : ∃ k : Nat, k = (min (max most 0) (n : Int)).toNat := ⟨_, rfl⟩
  obtain ⟨ls, hls⟩ : ∃ ls, ls = l.take X := ⟨_, rfl⟩
  have e1 : ls.length = X := by rw [hls, List.length_take]; omega
  have e2 : n ≤ X := by omega
  have e3 : k ≤ n := by omega
  have hq1 : IntsAt .i64 w a ls := by rw [hls]; exact hr.take X
  have HP := fun (w : World) b g h hr => ring_pushAll w b g (RS.new (rm : Int) 0) a c ls h (by unfold maxLen; omega) hr
  have hN := pushAll_new (s := RS.new (rm : Int) 0) rfl (Nat.zero_le _) ls
  have e4 : (RS.new (rm : Int) 0 : RS Int).n - (RS.new (rm : Int) 0 : RS Int).q.length = rm := by show (min (max (rm : Int) 1) 4096).toNat - 0 = rm; omega
  rw [e4, e1] at hN
  have e6 : ls.take rm = ls.take n := by by_cases h : rm ≤ X; rw [show n = rm from by omega]; rw [List.take_of_length_le (by omega), List.take_of_length_le (by omega)]
  rw [← hn, e6] at hN
  obtain ⟨hN1, hN2⟩ := hN
  have hN1' : ((RS.new (rm : Int) 0 : RS Int).pushAll ls).1.q = ls.take n := by rw [hN1]; rfl
  rw [hN2, e1] at HP
  generalize ((RS.new (rm : Int) 0 : RS Int).pushAll ls).1 = s1 at HP hN1'
  clear hN1 hN2
  have e7 : (ls.take n).length = n := by rw [List.length_take]; omega
  have HA := fun w b g h => ring_all w b g s1 h
  rw [hN1', e7] at HA
  have HO := fun w b g h => ring_popSome w b g s1 most h
  have e8 : someN s1 most = k := by unfold someN; rw [hN1', e7, hkk]
  rw [e8, hN1', List.take_take, Nat.min_eq_left e3] at HO
  have e9 : (ls.take k).length = k := by rw [List.length_take]; omega
  rw [e9] at HO
  have HA2 := fun w b g h => ring_all w b g (s1.popN k) h
  rw [popN_q, hN1'] at HA2
  generalize s1.popN k = s2 at HO HA2
  have e10 : ((ls.take n).drop k).length = n - k := by rw [List.length_drop, e7]
  rw [e10] at HA2
  have hqn := hq1.take n
  have hqk := hq1.take k
  have hqd := hqn.dropMap k
  have hqd0 : c = k → IntsAt .i64 w a ((ls.take n).drop k) := fun h i hi => by rw [e10] at hi; omega
  have HS1 := Lib.hid (fun w a2 c2 h h2 => same01_at n n a2 c2 (ls.take n) a c w e7.symm e7.symm (by rw [e7]; unfold maxLen; omega) h h2)
  have HS2 := Lib.hid (fun w a2 c2 h h2 => same01_at k k a2 c2 (ls.take k) a c w e9.symm e9.symm (by rw [e9]; unfold maxLen; omega) h h2)
  have HS3 := Lib.hid (fun w a2 c2 a3 c3 h h2 => same01_at (n - k) (n - k) a2 c2 ((ls.take n).drop k) a3 c3 w e10.symm e10.symm (by rw [e10]; unfold maxLen; omega) h h2)
  generalize (ls.take n).drop k = ld at *
  generalize ls.take n = qn at *
  generalize ls.take k = qk at *
  have HQN := Lib.hid (fun w' h => hqn.below (w' := w') h)
  have HQK := Lib.hid (fun w' h => hqk.below (w' := w') h)
  have HQD := Lib.hid (fun w' h => hqd.below (w' := w') h)
  have HQD0 := Lib.hid (fun hk w' h => (hqd0 hk).below (w' := w') h)
  have HQ1 := Lib.hid (fun w' S h h2 => hq1.off (w' := w') (S := S) h h2)
  have HP2 := Lib.hid HP
  have HA' := Lib.hid HA
  have HA2' := Lib.hid HA2
  have HO' := Lib.hid HO
  have m1 : min (l.length : Int) 30 = (X : Int) := by omega
  have m2 : min (X : Int) (rm : Int) = (n : Int) := by omega
  have m3 : min (max most 0) (n : Int) = (k : Int) := by omega
  have hXc : X ≤ c := by omega
  have hnc : n ≤ c := by omega
  have hkc2 : k ≤ c := by omega
  have hkc : c ≠ k ∨ c = k := by omega
  clear HP HA HA2 HO hqn hqk hqd hqd0 hq1 hr e1 e4 e6 e7 e8 e9 e10 hN1' hls hX hn hkk hl hc
  rcases hkc with hkc | hkc
  rotate_left
  obtain rfl : X = c := by omega
  obtain rfl : X = n := by omega
  obtain rfl : X = k := by omega
  simp only [Nat.sub_self] at HA2' HS3
  clear hkc hXc hnc hkc2 e2 e3
  have hkc : Hid True := trivial
  have hXc : X ≤ X := Nat.le_refl _
  all_goals
    have HKC := Lib.hid hkc
    go_enter Try.func13, Try.ntmps13
    go_wp2_with (first
      | (go_at_call 31; refine (lives01_calls _).mono ?_; rintro e w1 ⟨rfl, hb⟩; have HB := Lib.hid hb; clear hb)
      | (go_at_call 32; refine (ring_new _ 0 _ (by omega) (by omega)).mono ?_; rintro e w2 ⟨b, g, rfl, hR, hb, hg, hB⟩; have HB2 := HB.out.trans (hB.mono HB.out.size); have hS : ∀ k ∈ [b, g], w.heap.size ≤ k := (by simp; exact ⟨Nat.le_trans HB.out.size hb, Nat.le_trans HB.out.size hg⟩); have HBB2 := Lib.hid HB2; clear hb hg hB HB2)
      | (go_at_call 50; refine (HP2.out _ b g hR (HQ1.out _ _ HBB2.out hS)).mono ?_; rintro e w3 ⟨rfl, hR3, hO3⟩; have HB3 := HBB2.out.trans (hO3.below hS HBB2.out.size)))
    clear hR hO3
    have HS := Lib.hid hS
    clear hS
    trace "1"
    go_region_held3 (fun _ => True) (trivial) (first
      | (go_at_call 42; refine (HA'.out _ b g ?_).mono ?_; exact hR3.drew; rintro e w4 ⟨a4, c4, rfl, hi4, hB4⟩; have HB4 := HB3.drew.trans (hB4.mono HB3.size); have hR4 := hR3.drew.below hB4 hR3.lt.1 hR3.lt.2)
      | (go_at_call 44; refine (HS1.out _ _ _ ?_ ?_).mono ?_; exact hi4.at; exact HQN.out _ HB4; rintro e w' ⟨rfl, k, rfl⟩))
    trace "2"
    go_wp2_with (first
      | (go_at_call 51; refine (HO'.out _ b g (hR4.drewN _)).mono ?_; rintro e w5 ⟨a5, c5, rfl, hi5, hR5, hO5⟩; have HB5 := (below_drewN' HB4 _).trans (hO5.below HS.out (below_drewN' HB4 _).size)))
    clear hR3 HB3 hi4 hB4 HB4 hR4 hO5
    trace "3"
    go_region_held3 (fun _ => True) (trivial) (first
      | (go_at_call 42; refine (HA2'.out _ b g (by repeat (first | exact hR5 | exact hR5.drew | apply RingAt.drewN))).mono ?_; rintro e w6 ⟨a6, c6, rfl, hi6, hB6⟩; have HB6 : Below w.heap.size w w6 := Below.trans (by repeat (first | exact HB5 | exact below_drewN' HB5 1 | apply below_drewN')) (hB6.mono HB5.size))
      | (go_at_call 44; ((with_reducible refine (HS2.out _ _ _ ?_ ?_).mono ?_); (first | exact hi5.at | exact (hi5.drewN 1).at); exact (HQK.out _ (by first | exact HB5 | exact below_drewN' HB5 1)); rintro e w' ⟨rfl, k, rfl⟩))
      | (go_at_call 44; have := hi6; ((with_reducible refine (HS3.out _ _ _ _ _ hi6.at ?_).mono ?_); (first | exact HQD.out _ HB6 | exact HQD0.out (by first | rfl | trivial) _ HB6); rintro e w' ⟨rfl, k, rfl⟩)))
    trace "4"
    go_wp2
    go_ret
    exact ⟨rfl, by repeat (first | exact HB6 | apply below_drewN')⟩
end Go.Proofs.Ytncdambphaodaaa
