/- law16: what its laws share. -/
import Derived.Test.YtajbfmdgnkpjgaaInboxH
namespace Go.Proofs.Ytajbfmdgnkpjgaa
set_option linter.unusedVariables false
set_option linter.unusedSimpArgs false
open Go.RowKit
theorem mod_nat (x n : Int) (h0 : 0 < n) (h1 : n ≤ 1000) : ∃ M : Nat, wrap64 ((IntKind.u64.wrap x).tmod n) = (M : Int) ∧ (M : Int) < n := by
  have h : IntKind.u64.wrap x = x % 18446744073709551616 := by simp [IntKind.wrap, IntKind.bits, IntKind.signed]
  have hb : 0 ≤ IntKind.u64.wrap x := by rw [h]; omega
  have e : (IntKind.u64.wrap x).tmod n = (IntKind.u64.wrap x) % n := Int.tmod_eq_emod_of_nonneg hb
  have l1 : 0 ≤ (IntKind.u64.wrap x) % n := Int.emod_nonneg _ (by omega)
  have l2 : (IntKind.u64.wrap x) % n < n := Int.emod_lt_of_pos _ (by omega)
  refine ⟨((IntKind.u64.wrap x) % n).toNat, ?_, by omega⟩
  rw [e]
  unfold wrap64
  omega
namespace IS
theorem inR_of {p : Pk} (h1 : 0 ≤ p.src) (h2 : p.src < 4096) (h3 : 0 ≤ p.seq) (h4 : p.seq < 65536) : inR p = true := decide_eq_true ⟨h1, h2, h3, h4⟩
theorem come_new {s : IS} {p : Pk} (h1 : s.ws.any (keyEq p) = false) (h2 : inR p = true) : s.come p = ({ s with ws := s.ws ++ [p] }, 0) := by
  unfold come; rw [if_neg (by rw [h1]; simp), if_pos h2]
theorem ready_one {n : Nat} {q : List Pk} {p : Pk} {nx : List (Int × Int)} (h : p.seq = lookI nx p.src) : (⟨n, q, [p], nx⟩ : IS).ready = some p := by
  refine ready_unique (by simp) ⟨List.mem_singleton.2 rfl, decide_eq_true h, fun r hr _ => ?_⟩
  have hr2 : r ∈ [p] := hr
  rw [List.mem_singleton.1 hr2]; exact Int.le_refl _
theorem tell_some {s : IS} {p : Pk} (h : s.ready = some p) (hq : ¬ s.q.length = s.n) : s.tell = ({ s with q := s.q ++ [p], ws := s.ws.eraseP (keyEq p), nx := putI s.nx p.src ((p.seq + 1) % 65536) }, true) := by
  unfold tell; rw [h]; exact if_neg hq
theorem tell_full {s : IS} {p : Pk} (h : s.ready = some p) (hq : s.q.length = s.n) : s.tell = (s, false) := by
  unfold tell; rw [h]; exact if_pos hq
theorem tell_none {s : IS} (h : s.ready = none) : s.tell = (s, false) := by
  unfold tell; rw [h]
theorem keyEq_self (p : Pk) : keyEq p p = true := decide_eq_true ⟨rfl, rfl⟩
theorem erase_one (p : Pk) : [p].eraseP (keyEq p) = [] := by rw [List.eraseP_cons_of_pos (keyEq_self p)]
theorem recv_cons {n : Nat} {p : Pk} {q : List Pk} {ws : List Pk} {nx : List (Int × Int)} : (⟨n, p :: q, ws, nx⟩ : IS).recv = (⟨n, q, ws, nx⟩, p, 0) := rfl
end IS
end Go.Proofs.Ytajbfmdgnkpjgaa
