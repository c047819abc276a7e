/- What law walks of links share. -/
import Derived.Test.YtmehfflomgldeabLinkG
import Derived.Test.YtmehfflomgldeabLift
namespace Go.Proofs.Ytmehfflomgldeab
set_option linter.unusedVariables false
open Go.RowKit
theorem LinkAt.belowN {w w' : World} {b N : Nat} {B : List Nat} {s : LS} (h : LinkAt w b B s) (hb : Below N w w') (hB : ∀ k ∈ B, k < N) : LinkAt w' b B s := by
  obtain ⟨bb, bg, wb, wg, cb, fb, rb, rw, rfl, h⟩ := h
  exact ⟨bb, bg, wb, wg, cb, fb, rb, rw, rfl, h.ok, Below.at hb h.obj (hB _ (by simp)), Below.at hb h.crs (hB _ (by simp)), Below.at hb h.fas (hB _ (by simp)), h.back.below hb (hB _ (by simp)) (hB _ (by simp)), h.bq, h.bl, h.bn, h.words.below hb (hB _ (by simp)) (hB _ (by simp)), h.wq, h.wl, h.wn, h.nd⟩
theorem ownsRow_below {w w' : World} {base : Nat} {e : TypeId} {size : Nat} {v : Value} {n : Nat} {xs : List Value} (h : w.ownsRow base e size v n xs) (hb : Below w.heap.size w w') : w'.ownsRow base e size v n xs :=
  ownsRow_only h (Only.ofBelow hb []) (fun k hk => by simp at hk)
theorem lanes_mod (x : Int) : ∃ L : Nat, 1 + wrap64 ((IntKind.u64.wrap x).tmod 4) = (L : Int) ∧ 1 ≤ L ∧ L ≤ 4 := by
  have h : IntKind.u64.wrap x = x % 18446744073709551616 := by simp [IntKind.wrap, IntKind.bits, IntKind.signed]
  refine ⟨(1 + wrap64 ((IntKind.u64.wrap x).tmod 4)).toNat, ?_⟩
  rw [h, Int.tmod_eq_emod_of_nonneg (by omega)]
  unfold wrap64
  omega
theorem five_mod (x : Int) : ∃ L : Nat, 1 + wrap64 ((IntKind.u64.wrap x).tmod 5) = (L : Int) ∧ 1 ≤ L ∧ L ≤ 5 := by
  have h : IntKind.u64.wrap x = x % 18446744073709551616 := by simp [IntKind.wrap, IntKind.bits, IntKind.signed]
  refine ⟨(1 + wrap64 ((IntKind.u64.wrap x).tmod 5)).toNat, ?_⟩
  rw [h, Int.tmod_eq_emod_of_nonneg (by omega)]
  unfold wrap64
  omega
theorem lane_mod (x : Int) (L : Nat) (h1 : 1 ≤ L) (h2 : L ≤ 8) : ∃ k : Nat, wrap64 ((IntKind.u64.wrap x).tmod (L : Int)) = (k : Int) ∧ k < L := by
  have h : IntKind.u64.wrap x = x % 18446744073709551616 := by simp [IntKind.wrap, IntKind.bits, IntKind.signed]
  have h3 : 0 ≤ (x % 18446744073709551616) % (L : Int) := Int.emod_nonneg _ (by omega)
  have h4 : (x % 18446744073709551616) % (L : Int) < L := Int.emod_lt_of_pos _ (by omega)
  rw [h, Int.tmod_eq_emod_of_nonneg (by omega)]
  generalize (x % 18446744073709551616) % (L : Int) = z at *
  refine ⟨(wrap64 z).toNat, ?_⟩
  unfold wrap64
  omega
end Go.Proofs.Ytmehfflomgldeab
