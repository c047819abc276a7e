/- Parcels in memory. -/
import Derived.Test.YtpklblaenfhncaaRefPaD
namespace Go.Proofs.Ytpklblaenfhncaa
set_option linter.unusedVariables false
set_option linter.unusedSimpArgs false
open Go.RowKit
theorem owns_off {S : List Nat} {w w' : World} {base : Nat} {e : TypeId} {size : Nat} {v : Value} {n : Nat} {xs : List Value} (h : w.ownsRow base e size v n xs) (ho : Only S w w') (hS : ∀ k, v.ownBlock = some k → k ∉ S) : w'.ownsRow base e size v n xs := by
  obtain ⟨h1, h2⟩ := h
  refine ⟨h1, ?_⟩
  rcases h2 with h2 | ⟨g, cap, cur, rfl, hg, hh, r⟩
  · exact .inl h2
  · exact .inr ⟨g, cap, cur, rfl, hg, ho.at hh (hS g (by simp [Value.ownBlock])), r⟩
theorem owns_kept {w w' : World} {row : Option Nat} {base : Nat} {e : TypeId} {size : Nat} {v : Value} {n : Nat} {xs : List Value} (h : w.ownsRow base e size v n xs) (hg : w.grownBy w' row) (hne : ∀ k, v.ownBlock = some k → row ≠ some k) : w'.ownsRow base e size v n xs := by
  refine h.kept hg ?_
  cases hv : v.ownBlock with
  | none => exact .inl rfl
  | some k => exact .inr (fun e => hne k hv e.symm)
/-- Two rows of the call's own that grow side by side. -/
structure Pair (base : Nat) (e1 e2 : TypeId) (s1 s2 : Nat) (w : World) (v u : Value) (n m : Nat) (xs ys : List Value) : Prop where
  fst : w.ownsRow base e1 s1 v n xs
  snd : w.ownsRow base e2 s2 u m ys
  ne : ∀ k, v.ownBlock = some k → u.ownBlock ≠ some k
section
variable {base : Nat} {e1 e2 : TypeId} {s1 s2 : Nat} {w w1 : World} {v u v1 u1 : Value} {n m n1 m1 : Nat} {xs ys xs1 ys1 : List Value}
theorem Pair.aft (h : Pair base e1 e2 s1 s2 w v u n m xs ys) (hb : Below w.heap.size w w1) : Pair base e1 e2 s1 s2 w1 v u n m xs ys := ⟨owns_aft h.fst hb, owns_aft h.snd hb, h.ne⟩
theorem Pair.off {S : List Nat} (h : Pair base e1 e2 s1 s2 w v u n m xs ys) (ho : Only S w w1) (h1 : ∀ k, v.ownBlock = some k → k ∉ S) (h2 : ∀ k, u.ownBlock = some k → k ∉ S) : Pair base e1 e2 s1 s2 w1 v u n m xs ys :=
  ⟨owns_off h.fst ho h1, owns_off h.snd ho h2, h.ne⟩
theorem Pair.first (h : Pair base e1 e2 s1 s2 w v u n m xs ys) (hg : w.grownBy w1 v.ownBlock) (hor : v1.ownBlock = v.ownBlock ∨ ∃ b, v1.ownBlock = some b ∧ w.heap.size ≤ b) (ho : w1.ownsRow base e1 s1 v1 n1 xs1) : Pair base e1 e2 s1 s2 w1 v1 u n1 m xs1 ys := by
  refine ⟨ho, owns_kept h.snd hg (fun k hk e => h.ne k e hk), fun k hk => ?_⟩
  rcases hor with hor | ⟨b, hb, hlt⟩
  · rw [hor] at hk; exact h.ne k hk
  · rw [hb] at hk; simp at hk; subst hk
    intro e; have := (h.snd.lt _ e).2; omega
theorem Pair.second (h : Pair base e1 e2 s1 s2 w v u n m xs ys) (hg : w.grownBy w1 u.ownBlock) (hor : u1.ownBlock = u.ownBlock ∨ ∃ b, u1.ownBlock = some b ∧ w.heap.size ≤ b) (ho : w1.ownsRow base e2 s2 u1 m1 ys1) : Pair base e1 e2 s1 s2 w1 v u1 n m1 xs ys1 := by
  refine ⟨owns_kept h.fst hg (fun k hk e => h.ne k hk e), ho, fun k hk => ?_⟩
  rcases hor with hor | ⟨b, hb, hlt⟩
  · rw [hor]; exact h.ne k hk
  · rw [hb]; intro e; simp at e; subst e; have := (h.fst.lt _ hk).2; omega
end
/-- A parcel in memory: where its Heads lie. -/
structure PaM where
  pa : Pa
  ha : Option Addr
  hc : Nat
def PaM.Here (w : World) (p : PaM) : Prop := CellsOff w p.ha (flatT p.pa.heads) [] ∧ p.pa.heads.length ≤ maxLen ∧ p.pa.data.size ≤ maxLen
theorem PaM.Here.below {w w' : World} {p : PaM} (h : p.Here w) (hb : Below w.heap.size w w') : p.Here w' := ⟨h.1.below hb, h.2⟩
/-- The parcels at an address. -/
def ParcelsAt (w : World) (a : Option Addr) (l : List PaM) : Prop := ∀ i, i < l.length → ∃ blk off p, l[i]? = some p ∧ a = some ⟨blk, off, none⟩ ∧ w.cell? ⟨blk, off + i * 4, none⟩ = some (.int .i64 p.pa.src) ∧ w.cell? ⟨blk, off + i * 4 + 1, none⟩ = some (.bool p.pa.cast) ∧ w.cell? ⟨blk, off + i * 4 + 2, none⟩ = some (.slice p.ha p.pa.heads.length p.hc) ∧ w.cell? ⟨blk, off + i * 4 + 3, none⟩ = some (.string p.pa.data) ∧ p.Here w
/-- A parcel for one, that may be. -/
def oneP (p : Pa) : Pa := goodP { p with cast := false }
def wordsL (l : List Pa) : List Nat := l.flatMap (fun p => wordsP (oneP p))
def packetsL (l : List Pa) : List Pk := l.flatMap (fun p => packetsP (oneP p))
theorem oneP_right (p : Pa) : rightP (oneP p) = true := good_right _
theorem oneP_heads (p : Pa) : (oneP p).heads.length = 1 := (good_heads { p with cast := false }).2.2 rfl
theorem oneP_len (p : Pa) : (wordsP (oneP p)).length ≤ 20 ∧ (packetsP (oneP p)).length = 1 := by
  have h1 := oneP_heads p
  have h2 : (oneP p).data.size ≤ 64 := good_size _
  refine ⟨?_, by unfold packetsP; rw [List.length_map, h1]⟩
  rw [wordsP_len, h1]; unfold nBody; omega
theorem wordsL_len : ∀ l : List Pa, (wordsL l).length ≤ l.length * 20 ∧ (packetsL l).length = l.length
  | [] => by simp [wordsL, packetsL]
  | p :: l => by
    have h1 := wordsL_len l
    have h2 := oneP_len p
    unfold wordsL packetsL at *
    rw [List.flatMap_cons, List.flatMap_cons, List.length_append, List.length_append, List.length_cons]
    omega
theorem words_ltL {l : List Pa} : ∀ x ∈ wordsL l, x < 2 ^ 64 := fun x hx => by
  unfold wordsL at hx
  obtain ⟨p, _, hp⟩ := List.mem_flatMap.1 hx
  exact words_lt _ x hp
theorem wordsL_snoc (l : List Pa) (p : Pa) : wordsL (l ++ [p]) = wordsL l ++ wordsP (oneP p) := by unfold wordsL; rw [List.flatMap_append, List.flatMap_singleton]
theorem packetsL_snoc (l : List Pa) (p : Pa) : packetsL (l ++ [p]) = packetsL l ++ packetsP (oneP p) := by unfold packetsL; rw [List.flatMap_append, List.flatMap_singleton]
theorem take_map_snoc {l : List PaM} {m : Nat} {p : PaM} (h : l[m]? = some p) : (l.take (m + 1)).map PaM.pa = (l.take m).map PaM.pa ++ [p.pa] := by
  obtain ⟨hm, e⟩ := List.getElem?_eq_some_iff.1 h
  rw [List.take_succ_eq_append_getElem hm, e, List.map_append]; rfl
end Go.Proofs.Ytpklblaenfhncaa
