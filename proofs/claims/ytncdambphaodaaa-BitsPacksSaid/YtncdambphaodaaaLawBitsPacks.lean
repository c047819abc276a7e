/- The walk of BitsPacks. -/
import Derived.Test.YtncdambphaodaaaBitsLives
import Derived.Test.YtncdambphaodaaaRefBitsE
import Derived.BigRegion
namespace Go.Proofs.Ytncdambphaodaaa
set_option linter.unusedVariables false
open Go.RowKit BM

theorem IntsAt.take {k : IntKind} {w : World} {a : Option Addr} {l : List Int} (h : IntsAt k w a l) (n : Nat) : IntsAt k w a (l.take n) := fun i hi => by
  rw [List.length_take] at hi
  obtain ⟨b, off, e, hc⟩ := h i (by omega)
  refine ⟨b, off, e, ?_⟩
  rw [hc, List.getD_eq_getElem?_getD, List.getD_eq_getElem?_getD, List.getElem?_take, if_pos (by omega)]
theorem unpack_len (x : Nat) (l : List Int) : (unpackR x l).1.length ≤ l.length := by
  unfold unpackR; split
  · rw [unpackFrom_length]; exact Nat.le_refl _
  · exact Nat.zero_le _
theorem unpack_calls' (x : Int) (a : Option Addr) (c : Nat) (l : List Int) (w : World) (hx0 : 0 ≤ x) (hx1 : x < 18446744073709551616) (hl : l.length * 8 ≤ 140737488351232) (hr : IntsAt .i64 w a l) :
    Calls Try.prog 18 #[.int .u64 x, .slice a l.length c] w fun e w' => ∃ a' c', e = .returned (.tuple #[.slice a' (unpackR x.toNat l).1.length c', .int .i64 (unpackR x.toNat l).2]) ∧ IntsAt .u32 w' a' (unpackR x.toNat l).1 ∧ Below w.heap.size w w' := by
  refine (unpack_calls x a c l w hx0 hx1 hl hr).mono ?_
  rintro e w' ⟨v, rfl, hown, hb⟩
  obtain ⟨a', c', rfl, hi⟩ := IntsAt.own hown
  exact ⟨a', c', rfl, hi, hb⟩
theorem runpack_calls' (x : Int) (a : Option Addr) (c : Nat) (l : List Int) (w : World) (hx0 : 0 ≤ x) (hx1 : x < 18446744073709551616) (hl : l.length * 8 ≤ 140737488351232) (hr : IntsAt .i64 w a l) :
    Calls Try.prog 19 #[.int .u64 x, .slice a l.length c] w fun e w' => ∃ a' c', e = .returned (.tuple #[.slice a' (unpackR x.toNat l).1.length c', .int .i64 (unpackR x.toNat l).2]) ∧ IntsAt .u32 w' a' (unpackR x.toNat l).1 ∧ Below w.heap.size w w' := by
  refine (runpack_calls x a c l w hx0 hx1 hl hr).mono ?_
  rintro e w' ⟨v, rfl, hown, hb⟩
  obtain ⟨a', c', rfl, hi⟩ := IntsAt.own hown
  exact ⟨a', c', rfl, hi, hb⟩
theorem bitsPacks_walk (a : Option Addr) (c : Nat) (l : List Int) (a2 : Option Addr) (c2 : Nat) (vs : List Int) (x : Int) (w : World) (hl : l.length * 8 ≤ 140737488351232) (hr : IntsAt .i64 w a l) (hc : l.length ≤ c) (hl2 : vs.length * 4 ≤ 140737488351232) (hr2 : IntsAt .u32 w a2 vs) (hc2 : vs.length ≤ c2)
    (hv : ∀ v ∈ vs, 0 ≤ v ∧ v < 4294967296) (hx0 : 0 ≤ x) (hx1 : x < 18446744073709551616) :
    Calls Try.prog 3 #[.slice a l.length c, .slice a2 vs.length c2, .int .u64 x] w fun e w' => e = .returned (.bool true) ∧ Below w.heap.size w w' := by
  have m1 : (if (20 : Int) < (l.length : Int) then 20 else (l.length : Int)) = (((l.take 20).length : Nat) : Int) := by rw [List.length_take]; split <;> omega
  have m2 : (if (20 : Int) < (vs.length : Int) then 20 else (vs.length : Int)) = (((vs.take 20).length : Nat) : Int) := by rw [List.length_take]; split <;> omega
  have q1 := hr.take 20
  have q2 := hr2.take 20
  have qv : ∀ v ∈ vs.take 20, 0 ≤ v ∧ v < 4294967296 := fun v h => hv v (List.mem_of_mem_take h)
  have k1 : (l.take 20).length ≤ l.length := List.length_take_le' ..
  have k2 : (vs.take 20).length ≤ vs.length := List.length_take_le' ..
  generalize l.take 20 = ls at *
  generalize vs.take 20 = us at *
  have s1 : ls.length * 8 ≤ 140737488351232 := by omega
  have s2 : us.length * 4 ≤ 140737488351232 := by omega
  have s3 : ls.length ≤ c := by omega
  have s4 : us.length ≤ c2 := by omega
  clear hv
  have C1 := Lib.hid (fun w a1 c1 a2 c2 h1 h2 => pack_calls a1 c1 ls a2 c2 us w (by unfold maxLen; omega) h1 (by unfold maxLen; omega) h2 qv)
  have C2 := Lib.hid (fun w a1 c1 a2 c2 h1 h2 => rpack_calls a1 c1 ls a2 c2 us w (by unfold maxLen; omega) h1 (by unfold maxLen; omega) h2 qv)
  have C3 := Lib.hid (fun w a1 c1 h1 => unpack_calls' x a1 c1 ls w hx0 hx1 s1 h1)
  have C4 := Lib.hid (fun w a1 c1 h1 => runpack_calls' x a1 c1 ls w hx0 hx1 s1 h1)
  have hlen := unpack_len x.toNat ls
  clear qv
  generalize packR ls us = p at *
  generalize unpackR x.toNat ls = u at *
  obtain ⟨p1, p2⟩ := p
  obtain ⟨u1, u2⟩ := u
  dsimp only at C1 C2 C3 C4 hlen
  have hlen2 : u1.length ≤ maxLen := by unfold maxLen; omega
  go_enter Try.func3, Try.ntmps3
  go_wp2_with (first
    | (go_at_call 15; refine (lives02_calls _).mono ?_; rintro e w1 ⟨rfl, hb⟩; have r1 := q1.below hb; have r2 := q2.below hb; have HB := Lib.hid hb; clear hb))
  go_quiet (fail)
  go_wp2_with (first
    | (go_at_call 16; refine (C1.out _ _ _ _ _ (r1.drewN _) (r2.drewN _)).mono ?_; rintro e w' ⟨rfl, k, rfl⟩)
    | (go_at_call 17; refine (C2.out _ _ _ _ _ (r1.drewN _) (r2.drewN _)).mono ?_; rintro e w' ⟨rfl, k, rfl⟩)
    | (go_at_call 18; refine (C3.out _ _ _ (r1.drewN _)).mono ?_; rintro e w2 ⟨a3, c3, rfl, i3, hb⟩; have r3 := (r1.drewN _).below hb; have HB2 := Lib.hid hb; clear hb)
    | (go_at_call 19; refine (C4.out _ _ _ r3).mono ?_; rintro e w3 ⟨a4, c4, rfl, i4, hb⟩; have i5 := i3.below hb; have HB3 := Lib.hid hb; clear hb)
    | (go_at_call 20; refine (same02_calls _ _ _ _ _ _ _ hlen2 hlen2 i5 i4).mono ?_; rintro e w' ⟨rfl, k, rfl⟩))
  go_ret
  refine ⟨ret_bool (by simp), below_drewN' (((HB.out).trans ((below_drewN' (Below.refl _ _) _).trans (HB2.out.mono ?_))).trans (HB3.out.mono ?_)) _⟩
  · exact HB.out.size
  · exact Nat.le_trans HB.out.size HB2.out.size
end Go.Proofs.Ytncdambphaodaaa
