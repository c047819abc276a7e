/- The document's example for package bits comes true. -/
import Derived.Test.YtncdambphaodaaaBitsE
namespace Go.Proofs.Ytncdambphaodaaa
set_option linter.unusedVariables false
open Go.RowKit BM

theorem rightB_seal (x : Nat) : rightB (sealN x) = true := by
  unfold rightB; rw [beq_iff_eq, check_seal, top_seal]
theorem lives02_pack (w : World) (a a2 : Option Addr) (hr : IntsAt .i64 w a [2, 12]) (hr2 : IntsAt .u32 w a2 [1, 5]) :
    Calls Try.prog 16 #[.slice a 2 2, .slice a2 2 2] w fun e w' => e = .returned (.tuple #[.int .u64 21, .int .i64 0]) ∧ ∃ k, w' = w.drewN k := by
  have h := pack_calls a 2 [2, 12] a2 2 [1, 5] w (by decide) hr (by decide) hr2 (by simp)
  have e : packR [2, 12] [1, 5] = (21, 0) := by decide +kernel
  rw [e] at h
  exact h
theorem lives02_unpack (w : World) (a : Option Addr) (hr : IntsAt .i64 w a [2, 12]) :
    Calls Try.prog 18 #[.int .u64 21, .slice a 2 2] w fun e w' => ∃ b o c, e = .returned (.tuple #[.slice (some ⟨b, o, none⟩) 2 c, .int .i64 0]) ∧ w'.cell? ⟨b, o, none⟩ = some (.int .u32 1) ∧ w'.cell? ⟨b, o + 1, none⟩ = some (.int .u32 5) ∧ Below w.heap.size w w' := by
  have h := unpack_calls 21 a 2 [2, 12] w (by decide) (by decide) (by decide) hr
  have e : unpackR (21 : Int).toNat [2, 12] = ([1, 5], 0) := by decide +kernel
  rw [e] at h
  refine h.mono ?_
  rintro e w' ⟨v, rfl, hown, hb⟩
  obtain ⟨a', c, rfl, hi⟩ := IntsAt.own (l := [1, 5]) hown
  obtain ⟨b, o, rfl, h0⟩ := hi 0 (by decide)
  obtain ⟨b', o', e, h1⟩ := hi 1 (by decide)
  simp only [Option.some.injEq, Addr.mk.injEq, and_true] at e
  obtain ⟨rfl, rfl⟩ := e
  exact ⟨b, o, c, rfl, h0, h1, hb⟩
theorem lives02_calls (w : World) : Calls Try.prog 15 #[] w fun e w' => e = .returned (.bool true) ∧ Below w.heap.size w w' := by
  have hs := sealN_lt 77
  have HR := Lib.hid (rightB_seal 77)
  generalize hq : sealN 77 = q at hs HR
  have HQ := Lib.hid hq
  clear hq
  have hs2 : (q : Int) < 18446744073709551616 := by omega
  have hs1 : (0 : Int) ≤ (q : Int) := Int.natCast_nonneg _
  clear hs
  go_enter Try.func15, Try.ntmps15
  go_wp2_with (first
    | (go_at_call 16; refine (lives02_pack _ _ _ (by exact (IntsAt.lit' _ [2, 12] rfl).alloc _) (by exact IntsAt.lit' _ [1, 5] (by simp))).mono ?_; rintro e w' ⟨rfl, k, rfl⟩)
    | (go_at_call 18; refine (lives02_unpack _ _ (by exact IntsAt.lit' _ [2, 12] (by simp))).mono ?_; rintro e w1 ⟨b, o, c, rfl, h0, h1, hb⟩; have HB := Lib.hid hb; clear hb)
    | (go_at_call 21; refine (seal_calls _ _ (by omega) (by omega)).mono ?_; rintro e w' ⟨rfl, k, rfl⟩; rw [show (77 : Int).toNat = 77 from rfl, HQ.out])
    | (go_at_call 25; refine (right_calls _ _ (by omega) (by omega)).mono ?_; rintro e w' ⟨rfl, k, rfl⟩; rw [Int.toNat_natCast, HR.out]))
  go_ret
  refine ⟨rfl, below_drewN' ?_ _⟩
  refine Below.trans ?_ (HB.out.mono ?_)
  · repeat' (first | (with_reducible exact Below.refl _ _) | (with_reducible assumption) | (with_reducible refine below_drewN' ?_ _) | (with_reducible refine Below.drew ?_) | (with_reducible refine Below.alloc ?_ ?_ _) | (with_reducible exact Nat.le_refl _) | (simp; done) | (simp; omega))
  · simp <;> omega
end Go.Proofs.Ytncdambphaodaaa
