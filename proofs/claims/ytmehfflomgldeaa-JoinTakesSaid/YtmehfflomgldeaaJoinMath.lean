/- Joining as data: what a word does; the words of parcels for one each. -/
import Derived.Test.YtmehfflomgldeaaPaMath
namespace Go.Proofs.Ytmehfflomgldeaa
set_option linter.unusedVariables false
open BM
structure JS where
  is : Bool
  pk : Pk
  len : Int
def JS.zero : JS := ⟨false, Pk.zero, 0⟩
/-- What a word does to it: the packet, whether there is one, the error. -/
def JS.takeF (j : JS) (f : Fl) (e : Int) : JS × Pk × Bool × Int :=
  if e ≠ 0 then (j, Pk.zero, false, e)
  else if decide (f.kind = 1) = j.is then (j, Pk.zero, false, 13)
  else if f.kind = 1 then (⟨true, ⟨f.src, f.dst, f.seq, ByteArray.empty⟩, f.len⟩, Pk.zero, false, 0)
  else if f.kind = 3 then
    if ((j.pk.data ++ f.data).size : Int) = j.len then (JS.zero, { j.pk with data := j.pk.data ++ f.data }, true, 0) else (JS.zero, Pk.zero, false, 4)
  else if j.len < ((j.pk.data ++ f.data).size : Int) then (j, Pk.zero, false, 4)
  else ({ j with pk := { j.pk with data := j.pk.data ++ f.data } }, Pk.zero, false, 0)
def JS.take (j : JS) (x : Nat) : JS × Pk × Bool × Int := j.takeF (readF x).1 (readF x).2
/-- What is always so. -/
structure JS.Ok (j : JS) : Prop where
  l0 : j.len ≤ 64
  d0 : (j.pk.data.size : Int) ≤ 64
theorem JS.zero_ok : JS.zero.Ok := ⟨by decide, by decide⟩
theorem read_len {x : Nat} {f : Fl} {e : Int} (h : readF x = (f, e)) : f.len ≤ 64 ∧ f.data.size ≤ 6 := by
  unfold readF at h
  split at h
  · split at h
    · rename_i h2
      simp only [Prod.mk.injEq] at h
      obtain ⟨rfl, -⟩ := h
      have hr : rightF (lookF x) = true := by
        unfold writeF at h2
        by_cases hr : rightF (lookF x) = true
        · exact hr
        · rw [if_neg hr] at h2; simp at h2
      unfold rightF at hr
      split at hr
      · simp only [headOk, decide_eq_true_eq] at hr; omega
      · rw [Bool.and_eq_true] at hr
        simp only [sizeOk, bareOk, decide_eq_true_eq] at hr; omega
    · simp only [Prod.mk.injEq] at h
      rw [← h.1]; decide
  · simp only [Prod.mk.injEq] at h
    rw [← h.1]; decide
theorem JS.Ok.takeF {j : JS} (h : j.Ok) {f : Fl} {e : Int} (hl : f.len ≤ 64) : (j.takeF f e).1.Ok := by
  have h1 := h.l0; have h2 := h.d0
  unfold JS.takeF
  split
  · exact h
  · split
    · exact h
    · split
      · exact ⟨hl, by show ((ByteArray.empty.size : Nat) : Int) ≤ 64; decide⟩
      · split
        · split <;> exact JS.zero_ok
        · split
          · exact h
          · rename_i hx; exact ⟨h1, by show ((j.pk.data ++ f.data).size : Int) ≤ 64; omega⟩
theorem JS.Ok.take {j : JS} (h : j.Ok) (x : Nat) : (j.take x).1.Ok := h.takeF (read_len (x := x) rfl).1
/-! ### All of a row of words -/
def JS.allFrom (j : JS) : List Nat → List Pk × Nat
  | [] => ([], 0)
  | x :: l => if (j.take x).2.2.2 ≠ 0 then ([], 0) else
      (if (j.take x).2.2.1 = true then (j.take x).2.1 :: ((j.take x).1.allFrom l).1 else ((j.take x).1.allFrom l).1, ((j.take x).1.allFrom l).2 + 1)
/-- The state, and what was told, behind words none of which is refused. -/
def JS.run (j : JS) : List Nat → Option (JS × List Pk)
  | [] => some (j, [])
  | x :: l => if (j.take x).2.2.2 ≠ 0 then none else
      match (j.take x).1.run l with
      | none => none
      | some (j', ps) => some (j', if (j.take x).2.2.1 = true then (j.take x).2.1 :: ps else ps)
theorem run_cons (j : JS) (x : Nat) (l : List Nat) : j.run (x :: l) = if (j.take x).2.2.2 ≠ 0 then none else
      match (j.take x).1.run l with
      | none => none
      | some (j', ps) => some (j', if (j.take x).2.2.1 = true then (j.take x).2.1 :: ps else ps) := rfl
theorem run_append {j j1 : JS} {a : List Nat} {ps : List Pk} (h : j.run a = some (j1, ps)) (b : List Nat) : j.run (a ++ b) = (match j1.run b with | none => none | some (j2, qs) => some (j2, ps ++ qs)) := by
  induction a generalizing j ps with
  | nil =>
    simp only [JS.run, Option.some.injEq, Prod.mk.injEq] at h
    obtain ⟨rfl, rfl⟩ := h
    rw [List.nil_append]
    cases j.run b with
    | none => rfl
    | some x => rfl
  | cons x a ih =>
    rw [List.cons_append, run_cons]
    rw [run_cons] at h
    by_cases hx : (j.take x).2.2.2 ≠ 0
    · rw [if_pos hx] at h; simp at h
    · rw [if_neg hx] at h ⊢
      cases hr : (j.take x).1.run a with
      | none => rw [hr] at h; simp at h
      | some y =>
        obtain ⟨j2, qs⟩ := y
        rw [hr] at h
        simp only [Option.some.injEq, Prod.mk.injEq] at h
        obtain ⟨rfl, rfl⟩ := h
        rw [ih hr]
        cases j2.run b with
        | none => rfl
        | some z => obtain ⟨j3, rs⟩ := z; dsimp only; split <;> rfl
theorem all_cons (j : JS) (x : Nat) (l : List Nat) : j.allFrom (x :: l) = if (j.take x).2.2.2 ≠ 0 then ([], 0) else
      (if (j.take x).2.2.1 = true then (j.take x).2.1 :: ((j.take x).1.allFrom l).1 else ((j.take x).1.allFrom l).1, ((j.take x).1.allFrom l).2 + 1) := rfl
theorem all_of_run {j j1 : JS} {a : List Nat} {ps : List Pk} (h : j.run a = some (j1, ps)) : j.allFrom a = (ps, a.length) := by
  induction a generalizing j ps with
  | nil => simp only [JS.run, Option.some.injEq, Prod.mk.injEq] at h; rw [← h.2]; rfl
  | cons x a ih =>
    rw [all_cons]
    rw [run_cons] at h
    by_cases hx : (j.take x).2.2.2 ≠ 0
    · rw [if_pos hx] at h; simp at h
    · rw [if_neg hx] at h ⊢
      cases hr : (j.take x).1.run a with
      | none => rw [hr] at h; simp at h
      | some y =>
        obtain ⟨j2, qs⟩ := y
        rw [hr] at h
        simp only [Option.some.injEq, Prod.mk.injEq] at h
        obtain ⟨rfl, rfl⟩ := h
        rw [ih hr]
        rfl
theorem takeF_h {j : JS} {f : Fl} (hk : f.kind = 1) (hj : j.is = false) : j.takeF f 0 = (⟨true, ⟨f.src, f.dst, f.seq, ByteArray.empty⟩, f.len⟩, Pk.zero, false, 0) := by
  unfold JS.takeF; simp [hk, hj]
theorem takeF_b {j : JS} {f : Fl} (hk : f.kind = 2) (hj : j.is = true) (hs : ¬ j.len < ((j.pk.data ++ f.data).size : Int)) : j.takeF f 0 = ({ j with pk := { j.pk with data := j.pk.data ++ f.data } }, Pk.zero, false, 0) := by
  unfold JS.takeF; rw [if_neg (by simp), if_neg (by simp [hk, hj]), if_neg (by omega), if_neg (by omega), if_neg hs]
theorem takeF_t {j : JS} {f : Fl} (hk : f.kind = 3) (hj : j.is = true) (hs : ((j.pk.data ++ f.data).size : Int) = j.len) : j.takeF f 0 = (JS.zero, { j.pk with data := j.pk.data ++ f.data }, true, 0) := by
  unfold JS.takeF; rw [if_neg (by simp), if_neg (by simp [hk, hj]), if_neg (by omega), if_pos hk, if_pos hs]
/-! ### A parcel for one -/
/-- The packet of a parcel for one. -/
def onePk (p : Pa) : Pk := ⟨p.src, (p.heads.getD 0 T2.zero).node, (p.heads.getD 0 T2.zero).seq, p.data⟩
/-- Behind so many of its words, ahead of the Tail. -/
def midJ (p : Pa) (k : Nat) : JS := ⟨true, { onePk p with data := p.data.extract 0 (6 * k) }, p.data.size⟩
theorem one_heads {p : Pa} (h1 : p.heads.length = 1) : packetsP p = [onePk p] ∧ headWs p = [wordF (headFl p 0)] := by
  unfold packetsP headWs onePk
  obtain ⟨t, ht⟩ := List.length_eq_one_iff.1 h1
  rw [ht]
  exact ⟨rfl, by rw [show ([t] : List T2).length = 1 from rfl]; rfl⟩
theorem take_head {p : Pa} (hr : rightP p = true) (h1 : p.heads.length = 1) : JS.zero.take (wordF (headFl p 0)) = (midJ p 0, Pk.zero, false, 0) := by
  unfold JS.take
  rw [read_write (head_right hr (by omega)), takeF_h rfl rfl]
  unfold midJ onePk headFl
  rw [Nat.mul_zero, ByteArray.extract_same]
theorem take_body {p : Pa} {k : Nat} (hk : k < nBody p.data) : (midJ p k).take (wordF (bodyFl p.data k)) = (midJ p (k + 1), Pk.zero, false, 0) := by
  have hs : 6 * k + 6 < p.data.size := by unfold nBody at hk; omega
  have e : (midJ p k).pk.data ++ (bodyFl p.data k).data = p.data.extract 0 (6 * (k + 1)) := by
    show p.data.extract 0 (6 * k) ++ p.data.extract (6 * k) (6 * k + 6) = _
    rw [ByteArray.extract_append_extract]; congr 1 <;> omega
  unfold JS.take
  rw [read_write (body_right hk), takeF_b rfl rfl (by rw [e, ByteArray.size_extract]; show ¬ ((p.data.size : Int) < _); omega), e]
  rfl
theorem take_tail {p : Pa} : (midJ p (nBody p.data)).take (wordF (tailFl p.data)) = (JS.zero, onePk p, true, 0) := by
  have e : (midJ p (nBody p.data)).pk.data ++ (tailFl p.data).data = p.data := by
    show p.data.extract 0 (6 * nBody p.data) ++ p.data.extract (6 * nBody p.data) p.data.size = p.data
    have : 6 * nBody p.data ≤ p.data.size := by unfold nBody; omega
    rw [ByteArray.extract_append_extract, show min 0 (6 * nBody p.data) = 0 from by omega, show max (6 * nBody p.data) p.data.size = p.data.size from by omega, ByteArray.extract_zero_size]
  unfold JS.take
  rw [read_write (tail_right p.data), takeF_t rfl rfl (by rw [e]; rfl), e]
  rfl
theorem run_bodies (p : Pa) : ∀ k, k ≤ nBody p.data → (midJ p 0).run ((List.range k).map (fun i => wordF (bodyFl p.data i))) = some (midJ p k, [])
  | 0, _ => rfl
  | k + 1, hk => by
    rw [List.range_succ, List.map_append, run_append (run_bodies p k (by omega)), List.map_singleton, run_cons, take_body (by omega)]
    rfl
theorem run_one {p : Pa} (hr : rightP p = true) (h1 : p.heads.length = 1) : JS.zero.run (wordsP p) = some (JS.zero, packetsP p) := by
  obtain ⟨e1, e2⟩ := one_heads h1
  unfold wordsP restWs bodyWs
  rw [e1, e2]
  have h0 : JS.zero.run [wordF (headFl p 0)] = some (midJ p 0, []) := by
    rw [run_cons, take_head hr h1]; rfl
  rw [run_append h0, run_append (run_bodies p _ (Nat.le_refl _)), run_cons, take_tail]
  rfl
end Go.Proofs.Ytmehfflomgldeaa
