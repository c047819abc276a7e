/- What the ring laws' small helpers answer: Same, kind, early, lives. -/
import Derived.Test.YtncdambphaodaaaRingF
namespace Go.Proofs.Ytncdambphaodaaa
set_option linter.unusedVariables false
open Go.RowKit

theorem list_ext_getD {l m : List Int} (hl : l.length = m.length) (h : ∀ i, i < l.length → l.getD i 0 = m.getD i 0) : l = m := by
  apply List.ext_getElem hl
  intro i h1 h2
  have := h i h1
  rw [List.getD_eq_getElem?_getD, List.getD_eq_getElem?_getD, List.getElem?_eq_getElem h1, List.getElem?_eq_getElem h2] at this
  exact this
theorem same01_calls (a : Option Addr) (c : Nat) (l : List Int) (a2 : Option Addr) (c2 : Nat) (m : List Int) (w : World) (hl : l.length ≤ maxLen) (hl2 : m.length ≤ maxLen) (hr : IntsAt .i64 w a l) (hr2 : IntsAt .i64 w a2 m) :
    Calls Try.prog 44 #[.slice a l.length c, .slice a2 m.length c2] w fun e w' => e = .returned (.bool (decide (l = m))) ∧ ∃ k, w' = w.drewN k := by
  unfold maxLen at hl hl2
  by_cases hlen : l.length = m.length
  · have hb : (((l.length : Nat) : Int) != ((m.length : Nat) : Int)) = false := by simp [hlen]
    have HL := Lib.hid hlen
    have hle : l.length ≤ m.length := Nat.le_of_eq HL.out
    clear hlen
    go_enter Try.func44, Try.ntmps44
    go_wp2
    go_loopw [5] (fun i wr => ∃ (j kk : Nat), j ≤ l.length ∧ i = .int .i64 (j : Int) ∧ Hid (∀ t, t < j → l.getD t 0 = m.getD t 0) ∧ wr = w.drewN kk) (fun i _ => l.length - (intOf i).toNat)
    case atStart => exact ⟨0, 0, by omega, rfl, fun t ht => by omega, rfl⟩
    case round =>
      obtain ⟨j, kk, hj, rfl, HE, rfl⟩ := hrel
      by_cases h : j < l.length
      · have h' : j < m.length := by omega
        obtain ⟨b, off, rfl, hcell⟩ := hr j h
        obtain ⟨b2, off2, rfl, hcell2⟩ := hr2 j h'
        have hc1 : (j : Int) < (l.length : Int) := by omega
        have hc2 : (j : Int) < (m.length : Int) := by omega
        by_cases he : l.getD j 0 = m.getD j 0
        · have HEn : Hid (∀ t, t < j + 1 → l.getD t 0 = m.getD t 0) := fun t ht => by
            by_cases e : t = j
            · subst e; exact he
            · exact HE.out t (by omega)
          rw [← he] at hcell2
          generalize l.getD j 0 = y at hcell hcell2
          clear he
          go_wp2
          go_quiet (fail)
          go_wp2
          go_roundw
          case rel => exact ⟨j + 1, _, by omega, by go_num, HEn, by first | rfl | exact World.drewN_drewN ..⟩
          case measure => simp [intOf] <;> omega
        · have HN : Hid (decide (l = m) = false) := decide_eq_false (fun e => he (by rw [e]))
          have hne : (l.getD j 0 != m.getD j 0) = true := by rw [bne_iff_ne]; exact he
          generalize l.getD j 0 = y at hcell hne
          generalize m.getD j 0 = z at hcell2 hne
          clear he
          go_wp2
          go_quiet (fail)
          go_wp2
          go_ret
          exact ⟨ret_bool HN.out.symm, by first | exact drew_close0 | exact ⟨_, rfl⟩⟩
      · obtain rfl : j = l.length := by omega
        have HN : Hid (decide (l = m) = true) := decide_eq_true (list_ext_getD HL.out HE.out)
        clear HE
        go_wp2
        go_ret
        exact ⟨ret_bool HN.out.symm, by first | exact ⟨_, rfl⟩ | exact drew_close0⟩
  · have hb : (((l.length : Nat) : Int) != ((m.length : Nat) : Int)) = true := by simp; omega
    have HN : Hid (decide (l = m) = false) := decide_eq_false (fun e => hlen (by rw [e]))
    clear hlen
    go_enter Try.func44, Try.ntmps44
    go_wp2
    go_ret
    exact ⟨ret_bool HN.out.symm, 0, rfl⟩

/-- A step's kind. -/
def kindOf (k : Int) : Int := wrap64 ((IntKind.u64.wrap k).tmod 8)
theorem wrapu64 (n : Int) : IntKind.u64.wrap n = n % 18446744073709551616 := by simp [IntKind.wrap, IntKind.bits, IntKind.signed]
theorem kindOf_range (k : Int) : 0 ≤ kindOf k ∧ kindOf k ≤ 7 := by
  unfold kindOf
  have h0 : 0 ≤ IntKind.u64.wrap k := by rw [wrapu64]; omega
  rw [Int.tmod_eq_emod_of_nonneg h0]
  unfold wrap64
  omega
theorem kind_calls (k v : Int) (x : Value) (w : World) : Calls Try.prog 34 #[.agg #[.int .i64 k, .int .i64 v, x]] w fun e w' => e = .returned (.int .i64 (kindOf k)) ∧ Below w.heap.size w w' := by
  go_enter Try.func34, Try.ntmps34
  go_wp2
  go_ret
  exact ⟨rfl, (Below.refl _ _).alloc (Nat.le_refl _) _⟩
theorem early_calls (a : Option Addr) (n c : Nat) (w : World) (hn : n ≤ maxLen) (hc : n ≤ c) : Calls Try.prog 33 #[.slice a n c] w fun e w' => e = .returned (.slice a (min n 150) c) ∧ ∃ k, w' = w.drewN k := by
  unfold maxLen at hn
  by_cases h : 150 < n
  · have e : min n 150 = 150 := by omega
    rw [e]
    have h2 : (150 : Int) < (n : Int) := by omega
    have h3 : 150 ≤ c := by omega
    go_enter Try.func33, Try.ntmps33
    go_wp2
    go_ret
    exact ⟨rfl, 0, rfl⟩
  · have e : min n 150 = n := by omega
    rw [e]
    have h2 : ¬ (150 : Int) < (n : Int) := by omega
    go_enter Try.func33, Try.ntmps33
    go_wp2
    go_ret
    exact ⟨rfl, 0, rfl⟩
theorem IntsOff.lit {k : IntKind} {e : TypeId} (w : World) (l : List Int) {b : Nat} {S : List Nat} (hb : b = w.heap.size) (hS : ∀ x ∈ S, x < w.heap.size) : IntsOff k (w.alloc (.cells (l.map (Value.int k)).toArray e)) (some ⟨b, 0, none⟩) l S := fun i hi => by
  obtain ⟨blk, off, he, hc⟩ := (IntsAt.lit' (k := k) (e := e) w l hb) i hi
  refine ⟨blk, off, he, fun hm => ?_, hc⟩
  have := hS blk hm
  simp only [Option.some.injEq, Addr.mk.injEq, and_true] at he
  omega
def sLives : RS Int := { n := 2, q := [7, 8], ld := none, inn := 1, out := 4294967295 }
theorem lives01_push (w : World) (b g : Nat) (a : Option Addr) (h : RingAt w b g (RS.new 2 4294967295)) (hr : IntsOff .i64 w a [7, 8, 9] [b, g]) :
    Calls Try.prog 50 #[.pointer (some ⟨b, 0, none⟩), .slice a 3 3] w fun e w' => e = .returned (.int .i64 2) ∧ RingAt w' b g sLives ∧ Only [b, g] w w' := by
  have := ring_pushAll w b g _ a 3 [7, 8, 9] h (by decide) hr
  have e : (RS.new 2 4294967295 : RS Int).pushAll [7, 8, 9] = (sLives, 2) := by rfl
  rw [e] at this
  exact this
theorem lives01_pop (w : World) (b g : Nat) (h : RingAt w b g sLives) :
    Calls Try.prog 36 #[.pointer (some ⟨b, 0, none⟩)] w fun e w' => e = .returned (.tuple #[.int .i64 7, .int .i64 0]) ∧ RingAt w' b g sLives.free ∧ Only [b, g] w w' := ring_pop w b g sLives h
theorem lives01_len (w : World) (b g : Nat) (h : RingAt w b g sLives.free) :
    Calls Try.prog 37 #[.pointer (some ⟨b, 0, none⟩)] w fun e w' => e = .returned (.int .i64 1) ∧ ∃ k, w' = w.drewN k := ring_len w b g sLives.free h
theorem lives01_counts (w : World) (b g : Nat) (h : RingAt w b g sLives) :
    Calls Try.prog 46 #[.pointer (some ⟨b, 0, none⟩)] w fun e w' => e = .returned (.tuple #[.int .u32 1, .int .u32 4294967295]) ∧ ∃ k, w' = w.drewN k := ring_counts w b g sLives h
theorem lives01_calls (w : World) : Calls Try.prog 31 #[] w fun e w' => e = .returned (.bool true) ∧ Below w.heap.size w w' := by
  go_enter Try.func31, Try.ntmps31
  go_wp2_with (first
    | (go_at_call 32; refine (ring_new 2 4294967295 _ (by omega) (by omega)).mono ?_; rintro e w1 ⟨b, g, rfl, hR, hb, hg, hB⟩)
    | (go_at_call 50; refine (lives01_push _ _ _ _ (hR.only (S := []) ((Only.refl _ _).alloc _) (by simp) (by simp)) (by exact IntsOff.lit _ [7, 8, 9] rfl (by simp; exact hR.lt))).mono ?_; rintro e w2 ⟨rfl, hR2, hO⟩)
    | (go_at_call 46; refine (lives01_counts _ _ _ hR2).mono ?_; rintro e w' ⟨rfl, k, rfl⟩)
    | (go_at_call 36; refine (lives01_pop _ _ _ (hR2.drewN _)).mono ?_; rintro e w3 ⟨rfl, hR3, hO3⟩)
    | (go_at_call 37; refine (lives01_len _ _ _ hR3).mono ?_; rintro e w' ⟨rfl, k, rfl⟩))
  go_ret
  have hS : ∀ k ∈ [b, g], w.heap.size ≤ k := by simp; exact ⟨hb, hg⟩
  refine ⟨rfl, below_drewN' (((hB.alloc hB.size _).trans (hO.below hS (by have := hB.size; simp; omega))).trans (Below.trans (below_drewN' (Below.refl _ _) _) (hO3.below hS ?_))) _⟩
  have h1 := hB.size
  have h2 := hO.size
  simp at h2 ⊢
  omega
end Go.Proofs.Ytncdambphaodaaa
