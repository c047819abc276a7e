/- An inbox in memory; New, and what those of its methods answer that only look. -/
import Derived.Test.YtajbfmdgnkpjgaaInboxMath
import Derived.Test.YtajbfmdgnkpjgaaKit2
import Derived.WideKeyPair
import Derived.BigQuiet
namespace Go.Proofs.Ytajbfmdgnkpjgaa
set_option linter.unusedVariables false
set_option linter.unusedSimpArgs false
open Go.RowKit Go.ChangeMaps Go.WideShapes Go.WideMaps
open Go.Maps (Keyed)
def keyV (p : Pk) : Value := .agg #[.int .i64 p.src, .int .i64 p.seq]
def i64V (x : Int) : Value := .int .i64 x
theorem arrK : ArrKey Try.prog 107 3 2 := ⟨Try.underlying107, by kernel_rfl, by kernel_rfl, by kernel_rfl⟩
theorem lawK : Keyed Try.prog 107 := Keyed.of_law arrK.law
theorem lawI : Keyed Try.prog 3 := Maps.int_keyed Try.underlying3
theorem sizeP : ∃ m, Try.prog.types.size = m + 1 := ⟨Try.prog.types.size - 1, by kernel_rfl⟩
theorem keyK {a b : Int} (wa : (Lit.int .i64 a).wf = true) (wb : (Lit.int .i64 b).wf = true) : keyOf Try.prog 107 (.agg #[.int .i64 a, .int .i64 b]) = some (.string (keyBytes [.int .i64 a, .int .i64 b])) := keyOf_pair arrK Try.underlying3 sizeP wa wb
theorem keyI {a : Int} (wa : (Lit.int .i64 a).wf = true) : keyOf Try.prog 3 (.int .i64 a) = some (.int .i64 a) := Maps.keyOf_int_mk Try.underlying3 wa
theorem zeroI (w : World) : (zeroValue 3).run Try.prog w = .ok (.int .i64 0) w := by kernel_rfl
theorem zeroK (w : World) : (zeroValue 30).run Try.prog w = .ok (.agg #[.int .i64 0, .int .i64 0, .int .i64 0, .string ⟨#[]⟩]) w := by kernel_rfl
/-- The two maps. -/
def WaitsAt (w : World) (b : Nat) (l : List Pk) : Prop := ∃ es clock, MapIn Try.prog 107 w b es clock ∧ ents es = l.map (fun p => (keyV p, p.val))
def NextAt (w : World) (b : Nat) (l : List (Int × Int)) : Prop := ∃ es clock, MapIn Try.prog 3 w b es clock ∧ ents es = l.map (fun q => (i64V q.1, i64V q.2))
/-- An inbox in memory, by its blocks. -/
structure BoxRaw (w : World) (b qb qg wb nb : Nat) (s : IS) (rs : RS Pk) : Prop where
  ok : s.Ok
  obj : w.heap[b]? = some (.cells #[.pointer (some ⟨qb, 0, none⟩), .map (some wb), .map (some nb)] 106 (0, 0))
  ring : RingK w qb qg rs
  rq : rs.q = s.q
  rl : rs.ld = none
  rn : rs.n = s.n
  wa : WaitsAt w wb s.ws
  na : NextAt w nb s.nx
  nd : [b, qb, qg, wb, nb].Nodup
theorem nodup5 {b qb qg wb nb : Nat} (h : [b, qb, qg, wb, nb].Nodup) : b ≠ qb ∧ b ≠ qg ∧ b ≠ wb ∧ b ≠ nb ∧ qb ≠ qg ∧ qb ≠ wb ∧ qb ≠ nb ∧ qg ≠ wb ∧ qg ≠ nb ∧ wb ≠ nb := by
  simp only [List.nodup_cons, List.mem_cons, List.not_mem_nil, or_false, not_or, List.nodup_nil, and_true, not_false_eq_true] at h
  obtain ⟨⟨h1, h2, h3, h4⟩, ⟨h5, h6, h7⟩, ⟨h8, h9⟩, h10⟩ := h
  exact ⟨h1, h2, h3, h4, h5, h6, h7, h8, h9, h10⟩
def BoxAt (w : World) (b : Nat) (B : List Nat) (s : IS) : Prop := ∃ qb qg wb nb rs, B = [b, qb, qg, wb, nb] ∧ BoxRaw w b qb qg wb nb s rs
theorem WaitsAt.only {w w' : World} {b : Nat} {l : List Pk} {S : List Nat} (h : WaitsAt w b l) (ho : Only S w w') (hb : b ∉ S) : WaitsAt w' b l := by
  obtain ⟨es, c, h1, h2⟩ := h
  exact ⟨es, c, h1.only ho hb, h2⟩
theorem NextAt.only {w w' : World} {b : Nat} {l : List (Int × Int)} {S : List Nat} (h : NextAt w b l) (ho : Only S w w') (hb : b ∉ S) : NextAt w' b l := by
  obtain ⟨es, c, h1, h2⟩ := h
  exact ⟨es, c, h1.only ho hb, h2⟩
theorem WaitsAt.lt {w : World} {b : Nat} {l : List Pk} (h : WaitsAt w b l) : b < w.heap.size := by obtain ⟨_, _, h1, _⟩ := h; exact h1.lt
theorem NextAt.lt {w : World} {b : Nat} {l : List (Int × Int)} (h : NextAt w b l) : b < w.heap.size := by obtain ⟨_, _, h1, _⟩ := h; exact h1.lt
theorem BoxRaw.only {w w' : World} {b qb qg wb nb : Nat} {s : IS} {rs : RS Pk} {S : List Nat} (h : BoxRaw w b qb qg wb nb s rs) (ho : Only S w w') (hS : ∀ k ∈ [b, qb, qg, wb, nb], k ∉ S) : BoxRaw w' b qb qg wb nb s rs :=
  ⟨h.ok, ho.at h.obj (hS _ (by simp)), h.ring.only ho (hS _ (by simp)) (hS _ (by simp)), h.rq, h.rl, h.rn, h.wa.only ho (hS _ (by simp)), h.na.only ho (hS _ (by simp)), h.nd⟩
theorem BoxRaw.lt {w : World} {b qb qg wb nb : Nat} {s : IS} {rs : RS Pk} (h : BoxRaw w b qb qg wb nb s rs) : ∀ k ∈ [b, qb, qg, wb, nb], k < w.heap.size := fun k hk => by
  simp only [List.mem_cons, List.not_mem_nil, or_false] at hk
  rcases hk with rfl | rfl | rfl | rfl | rfl
  · exact block_lt h.obj
  · exact h.ring.lt.1
  · exact h.ring.lt.2
  · exact h.wa.lt
  · exact h.na.lt
theorem BoxAt.ok {w : World} {b : Nat} {B : List Nat} {s : IS} (h : BoxAt w b B s) : s.Ok := by obtain ⟨_, _, _, _, _, _, h⟩ := h; exact h.ok
theorem BoxAt.lt {w : World} {b : Nat} {B : List Nat} {s : IS} (h : BoxAt w b B s) : ∀ k ∈ B, k < w.heap.size := by obtain ⟨_, _, _, _, _, rfl, h⟩ := h; exact h.lt
theorem BoxAt.only {w w' : World} {b : Nat} {B S : List Nat} {s : IS} (h : BoxAt w b B s) (ho : Only S w w') (hS : ∀ k ∈ B, k ∉ S) : BoxAt w' b B s := by
  obtain ⟨qb, qg, wb, nb, rs, rfl, h⟩ := h
  exact ⟨qb, qg, wb, nb, rs, rfl, h.only ho hS⟩
theorem BoxAt.below {w w' : World} {b : Nat} {B : List Nat} {s : IS} (h : BoxAt w b B s) (hb : Below w.heap.size w w') : BoxAt w' b B s := h.only (S := []) (Only.ofBelow hb _) (fun k _ => by simp)
theorem BoxAt.drewN {w : World} {b : Nat} {B : List Nat} {s : IS} (h : BoxAt w b B s) (n : Nat) : BoxAt (w.drewN n) b B s := h.only (S := []) ((Only.refl _ _).drewN n) (fun k _ => by simp)
theorem BoxAt.drew {w : World} {b : Nat} {B : List Nat} {s : IS} (h : BoxAt w b B s) : BoxAt w.drew b B s := h.only (S := []) ((Only.refl _ _).drew) (fun k _ => by simp)
theorem BoxAt.alloc {w : World} {b : Nat} {B : List Nat} {s : IS} (h : BoxAt w b B s) (o : Obj) : BoxAt (w.alloc o) b B s := h.only (S := []) ((Only.refl _ _).alloc o) (fun k _ => by simp)
theorem BoxRaw.cells {w : World} {b qb qg wb nb : Nat} {s : IS} {rs : RS Pk} (h : BoxRaw w b qb qg wb nb s rs) :
    w.cell? ⟨b, 0, none⟩ = some (.pointer (some ⟨qb, 0, none⟩)) ∧ w.cell? ⟨b, 1, none⟩ = some (.map (some wb)) ∧ w.cell? ⟨b, 2, none⟩ = some (.map (some nb)) :=
  ⟨cell_at h.obj 0, cell_at h.obj 1, cell_at h.obj 2⟩
theorem lookI_mem : ∀ {l : List (Int × Int)}, (l.map (fun q => i64V q.1)).Nodup → ∀ {a : Int × Int}, a ∈ l → lookI l a.1 = a.2
  | [], _, a, ha => by simp at ha
  | q :: l, h, a, ha => by
    rw [List.map_cons, List.nodup_cons] at h
    unfold lookI
    rw [List.find?_cons]
    rcases List.mem_cons.1 ha with rfl | ha'
    · simp
    · have hne : q.1 ≠ a.1 := fun e => h.1 (List.mem_map.2 ⟨a, ha', by unfold i64V; rw [e]⟩)
      rw [decide_eq_false hne]
      exact lookI_mem h.2 ha'
/-- The next number, as it is looked up. -/
theorem NextAt.look {w : World} {b : Nat} {l : List (Int × Int)} (h : NextAt w b l) (x : Int) (hx : (Lit.int .i64 x).wf = true) : (Instr.lookup 104 (.map (some b)) (.int .i64 x) false).run Try.prog w = .ok (.int .i64 (lookI l x)) w := by
  obtain ⟨es, c, h1, h2⟩ := h
  have hnd := ents_keys h2 h1.st
  rcases look_raw false lawI Try.underlying104 (zeroI w) h1 h2 (keyI hx) with ⟨hr, hno⟩ | ⟨a, ha, hk, hr⟩
  · have e : lookI l x = 0 := by
      unfold lookI
      have : l.find? (fun q => decide (q.1 = x)) = none := by
        rw [List.find?_eq_none]
        intro r hr e
        rw [decide_eq_true_eq] at e
        exact hno r hr (by unfold i64V; rw [e])
      rw [this]; rfl
    rw [hr, e]; rfl
  · have hax : a.1 = x := by unfold i64V at hk; simpa using hk
    have e : lookI l x = a.2 := by rw [← hax]; exact lookI_mem hnd ha
    rw [hr, e]; rfl
theorem WaitsAt.look {w : World} {b : Nat} {l : List Pk} (h : WaitsAt w b l) (p : Pk) (h1 : (Lit.int .i64 p.src).wf = true) (h2 : (Lit.int .i64 p.seq).wf = true) :
    ∃ q : Pk, (Instr.lookup 103 (.map (some b)) (.agg #[.int .i64 p.src, .int .i64 p.seq]) true).run Try.prog w = .ok (.tuple #[q.val, .bool (l.any (keyEq p))]) w := by
  obtain ⟨es, c, h3, h4⟩ := h
  rcases look_raw true lawK Try.underlying103 (zeroK w) h3 h4 (keyK h1 h2) with ⟨hr, hno⟩ | ⟨a, ha, hk, hr⟩
  · refine ⟨Pk.zero, ?_⟩
    have e : l.any (keyEq p) = false := by
      rw [Bool.eq_false_iff]
      intro e
      obtain ⟨q, hq, e1, e2⟩ := IS.any_key.1 e
      exact hno q hq (by unfold keyV; rw [e1, e2])
    rw [hr, e]; rfl
  · refine ⟨a, ?_⟩
    unfold keyV at hk
    simp at hk
    have e : l.any (keyEq p) = true := IS.any_key.2 ⟨a, ha, hk.1, hk.2⟩
    rw [hr, e]; rfl
end Go.Proofs.Ytajbfmdgnkpjgaa
