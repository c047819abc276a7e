/- An inbox: the walk over what waits; ready. -/
import Derived.Test.YtajbfmdgnkpjgaaInboxD
import Derived.Maps.RangeWalk
namespace Go.Proofs.Ytajbfmdgnkpjgaa
set_option linter.unusedVariables false
set_option linter.unusedSimpArgs false
open Go.RowKit Go.ChangeMaps Go.WideShapes Go.WideMaps
/-- A walk over the map under way: done: what has come out. -/
def Scan (w : World) (mb r : Nat) (l done : List Pk) (cnt : Nat) : Prop := ∃ es clock since seen c0, MapIn Try.prog 107 w mb es clock ∧ ents es = l.map (fun p => (keyV p, p.val)) ∧ w.heap[r]? = some (.mapIter (some mb) since seen c0) ∧ (∀ x ∈ es.toList, x.born < since) ∧ since ≤ c0 ∧ since ≤ clock ∧ (leftOf es seen).size = cnt ∧ (∀ x ∈ es.toList, seen.contains x.born = true → ∃ p ∈ done, x.key = keyV p ∧ x.val = p.val)
theorem Scan.only {w w' : World} {mb r : Nat} {l done : List Pk} {cnt : Nat} {S : List Nat} (h : Scan w mb r l done cnt) (ho : Only S w w') (h1 : mb ∉ S) (h2 : r ∉ S) : Scan w' mb r l done cnt := by
  obtain ⟨es, clock, since, seen, c0, a1, a2, a3, a4⟩ := h
  exact ⟨es, clock, since, seen, c0, a1.only ho h1, a2, ho.at a3 h2, a4⟩
theorem Scan.left {w : World} {mb r : Nat} {l done : List Pk} {cnt : Nat} (h : Scan w mb r l done cnt) : w.rangeLeft mb r = cnt := by
  obtain ⟨es, clock, since, seen, c0, a1, a2, a3, a4, a5, a6, a7, a8⟩ := h
  simp only [World.rangeLeft, a1.obj, a3]
  exact a7
theorem Scan.lt {w : World} {mb r : Nat} {l done : List Pk} {cnt : Nat} (h : Scan w mb r l done cnt) : r < w.heap.size := by
  obtain ⟨es, clock, since, seen, c0, a1, a2, a3, a4⟩ := h
  exact block_lt a3
theorem WaitsAt.range {w : World} {mb : Nat} {l : List Pk} (h : WaitsAt w mb l) {r : Nat} (hr : r = w.heap.size) :
    ∃ o, (Instr.range 103 (.map (some mb))).run Try.prog w = .ok (.pointer (some ⟨r, 0, none⟩)) (w.alloc o) ∧ Scan (w.alloc o) mb r l [] l.length := by
  subst hr
  obtain ⟨es, c, h3, h4⟩ := h
  refine ⟨_, run_range_map w _ _ _ mb es c Try.underlying103 h3.obj, es, c, c, #[], c, h3.only (S := []) ((Only.refl _ _).alloc _) (by simp), h4, alloc_new _, h3.st.1, Nat.le_refl _, Nat.le_refl _, ?_, ?_⟩
  · have e : leftOf es #[] = es := Array.filter_eq_self.2 (fun x _ => by simp)
    rw [e]; exact ents_len h4
  · intro x hx hc; simp at hc
theorem Scan.next {w : World} {mb r : Nat} {l done : List Pk} {cnt : Nat} (h : Scan w mb r l done cnt) (ty : TypeId) :
    ((Instr.next (.pointer (some ⟨r, 0, none⟩)) false ty).run Try.prog w = .ok (.tuple #[.bool false]) w ∧ ∀ p ∈ l, ∃ q ∈ done, keyV p = keyV q) ∨
    ∃ p ∈ l, ∃ w1 cnt1, (Instr.next (.pointer (some ⟨r, 0, none⟩)) false ty).run Try.prog w = .ok (.tuple #[.bool true, keyV p, p.val]) w1 ∧ (Instr.entry (.pointer (some ⟨r, 0, none⟩))).run Try.prog w1 = .ok (.tuple #[keyV p, p.val]) w1 ∧ Scan w1 mb r l (p :: done) cnt1 ∧ cnt1 < cnt ∧ Only [r] w w1 ∧ w1.heap.size = w.heap.size := by
  obtain ⟨es, clock, since, seen, c0, a1, a2, a3, a4, a5, a6, a7, a8⟩ := h
  have hst := (MapKept.stamped_iff es clock).1 a1.st
  rcases run_next_at (P := Try.prog) w ty r mb since c0 seen es clock a3 a1.obj a4 a5 with ⟨h0, hrun⟩ | ⟨e, he, w1, hal, hrun⟩
  · refine .inl ⟨hrun, fun p hp => ?_⟩
    obtain ⟨x, hx, hk, _⟩ := ents_has (kf := keyV) (vf := Pk.val) a2 hp
    obtain ⟨q, hq, hq1, _⟩ := a8 x hx (all_seen es seen h0 x hx)
    exact ⟨q, hq, by rw [← hk, hq1]⟩
  · obtain ⟨hem, hes⟩ := mem_left he
    obtain ⟨p, hp, hk, hv⟩ := ents_mem (kf := keyV) (vf := Pk.val) a2 hem
    have hO1 : Only [] w w1 := by rcases hal with rfl | rfl; exact Only.refl _ _; exact (Only.refl _ _).drew
    have hr1 := hO1.at a3 (by simp)
    have hne : mb ≠ r := fun e1 => by have := a1.obj; rw [e1, a3] at this; cases this
    have hO : Only [r] w (setBlock w1 r (.mapIter (some mb) since (seen.push e.born) clock)) := only_setB (hO1.mono (by simp)) (.inl (by simp)) _
    have hM := a1.only hO (by simpa using hne)
    refine .inr ⟨p, hp, _, _, by rw [← hk, ← hv]; exact hrun, ?_, ⟨es, clock, since, seen.push e.born, clock, hM, a2, setB_same hr1, a4, a6, a6, rfl, ?_⟩, ?_, hO, ?_⟩
    · rw [← hk, ← hv]
      exact run_entry_at _ r mb since seen es clock e (setB_same hr1) hM.obj hem hst.2.1
    · intro x hx hc
      rw [contains_push, Bool.or_eq_true] at hc
      rcases hc with hc | hc
      · obtain ⟨q, hq, hq1⟩ := a8 x hx hc
        exact ⟨q, List.mem_cons_of_mem _ hq, hq1⟩
      · have : x = e := born_inj hst.2.1 hx hem (by simpa using hc)
        rw [this]
        exact ⟨p, List.mem_cons_self .., hk, hv⟩
    · rw [← a7]; exact left_shrinks es seen e he
    · rw [size_setB]; rcases hal with rfl | rfl <;> rfl
/-- The least source so far. -/
def Best (s : IS) (done : List Pk) (o : Option Pk) : Prop := match o with
  | none => ∀ p ∈ done, s.rdy p = false
  | some q => q ∈ done ∧ s.rdy q = true ∧ ∀ p ∈ done, s.rdy p = true → q.src ≤ p.src
theorem Best.skip {s : IS} {done : List Pk} {o : Option Pk} {p : Pk} (h : Best s done o) (hp : s.rdy p = false) : Best s (p :: done) o := by
  cases o with
  | none => intro q hq; rcases List.mem_cons.1 hq with rfl | hq; exact hp; exact h q hq
  | some b => exact ⟨List.mem_cons_of_mem _ h.1, h.2.1, fun q hq hr => by rcases List.mem_cons.1 hq with rfl | hq; (rw [hp] at hr; simp at hr); exact h.2.2 q hq hr⟩
theorem Best.first {s : IS} {done : List Pk} {p : Pk} (h : Best s done none) (hp : s.rdy p = true) : Best s (p :: done) (some p) :=
  ⟨List.mem_cons_self .., hp, fun q hq hr => by rcases List.mem_cons.1 hq with rfl | hq; exact Int.le_refl _; (have := h q hq; rw [hr] at this; simp at this)⟩
theorem Best.less {s : IS} {done : List Pk} {p b : Pk} (h : Best s done (some b)) (hp : s.rdy p = true) (hl : p.src < b.src) : Best s (p :: done) (some p) :=
  ⟨List.mem_cons_self .., hp, fun q hq hr => by rcases List.mem_cons.1 hq with rfl | hq; exact Int.le_refl _; (have := h.2.2 q hq hr; omega)⟩
theorem Best.stay {s : IS} {done : List Pk} {p b : Pk} (h : Best s done (some b)) (hl : ¬ p.src < b.src) : Best s (p :: done) (some b) :=
  ⟨List.mem_cons_of_mem _ h.1, h.2.1, fun q hq hr => by rcases List.mem_cons.1 hq with rfl | hq; (omega); exact h.2.2 q hq hr⟩
theorem Best.end {s : IS} {done : List Pk} {o : Option Pk} (hk : (s.ws.map (fun p => (p.src, p.seq))).Nodup) (h : Best s done o) (h1 : ∀ p ∈ done, p ∈ s.ws) (h2 : ∀ p ∈ s.ws, ∃ q ∈ done, keyV p = keyV q) : s.ready = o := by
  have h3 : ∀ p ∈ s.ws, p ∈ done := fun p hp => by
    obtain ⟨q, hq, e⟩ := h2 p hp
    unfold keyV at e
    simp at e
    rw [IS.key_inj hk hp (h1 q hq) e.1 e.2]; exact hq
  refine IS.ready_unique hk ?_
  cases o with
  | none => exact fun p hp => h p (h3 p hp)
  | some q => exact ⟨h1 q h.1, h.2.1, fun p hp hr => h.2.2 p (h3 p hp) hr⟩
theorem range_wp {P : Program} {w : World} {ops : Array Oper} {rest : List Oper} {o : Oper} {a : Act} {Q : Exit → Act → World → Prop}
    (hg : o.guard = none) (m : Operand) (t : TypeId) (hop : o.op = Op.range t m) (b : Nat) (hm : a.eval m = .map (some b)) (v : Value) (w' : World)
    (hrun : (Instr.range t (.map (some b))).run P w = .ok v w') (hK : wpList P ops Q rest (a.put o.dst v) w') : wpList P ops Q (o :: rest) a w := by
  refine wpList_plain hg fun K' hK' => ?_
  unfold Oper.wp
  simp [execOp, hop, hm, hrun, Result.andThen]
  exact hK' _ _ hK
theorem next_wp {P : Program} {w : World} {ops : Array Oper} {rest : List Oper} {o : Oper} {a : Act} {Q : Exit → Act → World → Prop}
    (hg : o.guard = none) (it : Operand) (hop : o.op = Op.next it false) (r : Nat) (hit : a.eval it = .pointer (some ⟨r, 0, none⟩)) (v : Value) (w' : World)
    (hrun : (Instr.next (.pointer (some ⟨r, 0, none⟩)) false o.type).run P w = .ok v w') (hK : wpList P ops Q rest (a.put o.dst v) w') : wpList P ops Q (o :: rest) a w := by
  refine wpList_plain hg fun K' hK' => ?_
  unfold Oper.wp
  simp [execOp, hop, hit, hrun, Result.andThen]
  exact hK' _ _ hK
end Go.Proofs.Ytajbfmdgnkpjgaa
