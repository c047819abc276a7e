/- A map in memory, by its entries in the row in which they came: look-up, store, delete, len; the row of a range. -/
import Derived.Test.YtajbfmdgnkpjgaaOnly
import Derived.Maps.RangeWalk
import Derived.Maps.OwnSet
import Derived.DeepKeys4
namespace Go.Proofs.Ytajbfmdgnkpjgaa
set_option linter.unusedVariables false
set_option linter.unusedSimpArgs false
open Go.RowKit Go.ChangeMaps Go.MapKept Go.WideShapes
open Go.Maps (Keyed)
/-- A map's block: its entries have keys of the type, no key twice. -/
structure MapIn (P : Program) (k : TypeId) (w : World) (b : Nat) (es : Array MapEntry) (clock : Nat) : Prop where
  obj : w.heap[b]? = some (.map es clock)
  st : Stamped es clock
  keys : ∀ x ∈ es.toList, ∃ l, keyOf P k x.key = some l
def ents (es : Array MapEntry) : List (Value × Value) := es.toList.map (fun e => (e.key, e.val))
theorem setB_same {w : World} {b : Nat} {o o' : Obj} (h : w.heap[b]? = some o) : (setBlock w b o').heap[b]? = some o' := by
  have := (Array.getElem?_eq_some_iff.1 h).1
  show (w.heap.setIfInBounds b o')[b]? = _
  simp [Array.getElem?_setIfInBounds, this]
theorem setB_off {w : World} {b c : Nat} {o o' : Obj} (h : w.heap[c]? = some o) (hne : c ≠ b) : (setBlock w b o').heap[c]? = some o := by
  show (w.heap.setIfInBounds b o')[c]? = _
  rw [Array.getElem?_setIfInBounds_ne (Ne.symm hne)]; exact h
theorem only_setB {S : List Nat} {a w : World} (h : Only S a w) {b : Nat} (hb : b ∈ S ∨ a.heap.size ≤ b) (o : Obj) : Only S a (setBlock w b o) :=
  ⟨h.os, h.tape, h.output, by show a.heap.size ≤ (w.heap.setIfInBounds b o).size; simpa using h.size, fun k hk hn => by
    show (w.heap.setIfInBounds b o)[k]? = _
    rw [Array.getElem?_setIfInBounds_ne (by rintro rfl; rcases hb with hb | hb; exact hn hb; omega)]; exact h.block k hk hn⟩
theorem below_setB {B : Nat} {a w : World} (h : Below B a w) {b : Nat} (hb : B ≤ b) (o : Obj) : Below B a (setBlock w b o) :=
  ⟨h.os, h.tape, h.output, by show a.heap.size ≤ (w.heap.setIfInBounds b o).size; simpa using h.size, fun k hk => by
    show (w.heap.setIfInBounds b o)[k]? = _
    rw [Array.getElem?_setIfInBounds_ne (by omega)]; exact h.block k hk⟩
theorem size_setB (w : World) (b : Nat) (o : Obj) : (setBlock w b o).heap.size = w.heap.size := by show (w.heap.setIfInBounds b o).size = _; simp
section
variable {P : Program} {k e t : TypeId} {w : World} {b : Nat} {es : Array MapEntry} {clock : Nat}
theorem MapIn.only {w' : World} {S : List Nat} (h : MapIn P k w b es clock) (ho : Only S w w') (hb : b ∉ S) : MapIn P k w' b es clock := ⟨ho.at h.obj hb, h.st, h.keys⟩
theorem MapIn.lt (h : MapIn P k w b es clock) : b < w.heap.size := block_lt h.obj
variable {α : Type} {kf vf : α → Value} {l : List α}
theorem ents_mem (hl : ents es = l.map (fun a => (kf a, vf a))) {x : MapEntry} (hx : x ∈ es.toList) : ∃ a ∈ l, x.key = kf a ∧ x.val = vf a := by
  have : (x.key, x.val) ∈ ents es := List.mem_map.2 ⟨x, hx, rfl⟩
  rw [hl] at this
  obtain ⟨a, ha, e⟩ := List.mem_map.1 this
  simp only [Prod.mk.injEq] at e
  exact ⟨a, ha, e.1.symm, e.2.symm⟩
theorem ents_at (hl : ents es = l.map (fun a => (kf a, vf a))) {j : Nat} {x : MapEntry} (hx : es.toList[j]? = some x) : ∃ a, l[j]? = some a ∧ x.key = kf a ∧ x.val = vf a := by
  have h1 : (ents es)[j]? = some (x.key, x.val) := by unfold ents; rw [List.getElem?_map, hx]; rfl
  rw [hl, List.getElem?_map] at h1
  cases hj : l[j]? with
  | none => rw [hj] at h1; simp at h1
  | some a => rw [hj] at h1; simp at h1; exact ⟨a, rfl, h1.1.symm, h1.2.symm⟩
theorem ents_keys (hl : ents es = l.map (fun a => (kf a, vf a))) (h : Stamped es clock) : (l.map kf).Nodup := by
  have e : es.toList.map (·.key) = l.map kf := by
    have := congrArg (List.map Prod.fst) hl
    unfold ents at this
    rw [List.map_map, List.map_map] at this
    exact this
  rw [← e]; exact h.2.2
theorem ents_has (hl : ents es = l.map (fun a => (kf a, vf a))) {a : α} (ha : a ∈ l) : ∃ x ∈ es.toList, x.key = kf a ∧ x.val = vf a := by
  have : (kf a, vf a) ∈ ents es := by rw [hl]; exact List.mem_map.2 ⟨a, ha, rfl⟩
  obtain ⟨x, hx, e⟩ := List.mem_map.1 this
  simp only [Prod.mk.injEq] at e
  exact ⟨x, hx, e.1, e.2⟩
theorem ents_len (hl : ents es = l.map (fun a => (kf a, vf a))) : es.size = l.length := by
  have := congrArg List.length hl
  unfold ents at this
  simpa using this
/-- 'm[k]', 'v, ok := m[k]'. -/
theorem look_raw (c : Bool) (K : Keyed P k) (ht : P.underlying t = some (.map k e)) {z : Value} (hz : (zeroValue e).run P w = .ok z w) (h : MapIn P k w b es clock) (hl : ents es = l.map (fun a => (kf a, vf a))) {key : Value} {kl : Lit} (hkey : keyOf P k key = some kl) :
    ((Instr.lookup t (.map (some b)) key c).run P w = .ok (if c then .tuple #[z, .bool false] else z) w ∧ ∀ a ∈ l, kf a ≠ key) ∨
    ∃ a ∈ l, kf a = key ∧ (Instr.lookup t (.map (some b)) key c).run P w = .ok (if c then .tuple #[vf a, .bool true] else vf a) w := by
  rcases K.find w hkey es.toList h.keys with ⟨h1, h2⟩ | ⟨j, e0, h1, h2, h3⟩
  · refine .inl ⟨by simp [Instr.lookup, run_underlying ht, MapKept.run_getObj_map h.obj, K.check w _ hkey, h1, hz, Result.andThen], fun a ha e1 => ?_⟩
    obtain ⟨x, hx, e2, _⟩ := ents_has hl ha
    exact h2 x hx (e2.trans e1)
  · obtain ⟨a, ha, e1, e2⟩ := ents_mem hl (List.mem_of_getElem? h2)
    refine .inr ⟨a, ha, e1 ▸ h3, ?_⟩
    rw [← e2]
    simp [Instr.lookup, run_underlying ht, MapKept.run_getObj_map h.obj, K.check w _ hkey, h1, Result.andThen]
/-- 'm[k] = v' at a key that is not there. -/
theorem put_new (K : Keyed P k) (ht : P.underlying t = some (.map k e)) (h : MapIn P k w b es clock) (hl : ents es = l.map (fun a => (kf a, vf a))) {key val : Value} {kl : Lit} (hkey : keyOf P k key = some kl) (hno : ∀ a ∈ l, kf a ≠ key) :
    ∃ es' c', (Instr.mapUpdate t (.map (some b)) key val).run P w = .ok () (setBlock w b (.map es' c')) ∧ MapIn P k (setBlock w b (.map es' c')) b es' c' ∧ ents es' = ents es ++ [(key, val)] := by
  have hno' : ∀ x ∈ es.toList, x.key ≠ key := fun x hx e1 => by obtain ⟨a, ha, e2, _⟩ := ents_mem hl hx; exact hno a ha (e2 ▸ e1)
  rcases K.find w hkey es.toList h.keys with ⟨h1, h2⟩ | ⟨j, e0, h1, h2, h3⟩
  · refine ⟨es.push ⟨key, val, clock⟩, clock + 1, ?_, ⟨setB_same h.obj, stamped_push h.st h2, ?_⟩, ?_⟩
    · simp [Instr.mapUpdate, run_underlying ht, MapKept.run_getObj_map h.obj, K.check w false hkey, h1, MapKept.run_setObj_map _ h.obj, Result.andThen, setBlock]
    · intro x hx
      simp only [Array.toList_push, List.mem_append, List.mem_singleton] at hx
      rcases hx with hx | rfl
      · exact h.keys x hx
      · exact ⟨kl, hkey⟩
    · unfold ents; simp
  · exact absurd h3 (hno' e0 (List.mem_of_getElem? h2))
/-- 'm[k] = v' at a key that is there. -/
theorem put_old (K : Keyed P k) (ht : P.underlying t = some (.map k e)) (h : MapIn P k w b es clock) (hl : ents es = l.map (fun a => (kf a, vf a))) {key val : Value} {kl : Lit} (hkey : keyOf P k key = some kl) (hin : ∃ a ∈ l, kf a = key) :
    ∃ es' c' j a, (Instr.mapUpdate t (.map (some b)) key val).run P w = .ok () (setBlock w b (.map es' c')) ∧ MapIn P k (setBlock w b (.map es' c')) b es' c' ∧ l[j]? = some a ∧ kf a = key ∧ ents es' = (ents es).set j (key, val) := by
  rcases K.find w hkey es.toList h.keys with ⟨h1, h2⟩ | ⟨j, e0, h1, h2, h3⟩
  · obtain ⟨a, ha, e1⟩ := hin
    obtain ⟨x, hx, e2, _⟩ := ents_has hl ha
    exact absurd (e2.trans e1) (h2 x hx)
  · have hj : es[j]? = some e0 := by simpa using h2
    have hkeyf : ∀ e', es[j]? = some e' → ({ e' with key := key, val := val } : MapEntry).key = e'.key := fun e' he' => by rw [hj] at he'; cases he'; exact h3.symm
    have hlist : (es.modify j (fun e' => { e' with key := key, val := val })).toList = es.toList.set j { e0 with key := key, val := val } := by rw [Array.toList_modify, modify_eq_set _ _ _ _ h2]
    obtain ⟨a, ha, e1, _⟩ := ents_at hl h2
    refine ⟨es.modify j (fun e' => { e' with key := key, val := val }), clock, j, a, ?_, ⟨setB_same h.obj, stamped_modify h.st _ _ (fun _ _ => rfl) (fun e' _ he' => hkeyf e' he'), ?_⟩, ha, e1 ▸ h3, ?_⟩
    · simp [Instr.mapUpdate, run_underlying ht, MapKept.run_getObj_map h.obj, K.check w false hkey, h1, hj, h3, K.stays w hkey, MapKept.run_setObj_map _ h.obj, Result.andThen, setBlock]
    · intro x hx
      rw [hlist] at hx
      rcases List.mem_or_eq_of_mem_set hx with hx | rfl
      · exact h.keys x hx
      · exact ⟨kl, hkey⟩
    · unfold ents; rw [hlist, List.map_set]
/-- 'delete(m, k)' at a key that is there. -/
theorem drop_at (ty : TypeId) (K : Keyed P k) (ht : P.underlying t = some (.map k e)) (h : MapIn P k w b es clock) (hl : ents es = l.map (fun a => (kf a, vf a))) {key : Value} {kl : Lit} (hkey : keyOf P k key = some kl) (hin : ∃ a ∈ l, kf a = key) :
    ∃ es' j a, (Builtin.delete_ #[t, k] ty #[.map (some b), key]).run P w = .ok (.tuple #[]) (setBlock w b (.map es' clock)) ∧ MapIn P k (setBlock w b (.map es' clock)) b es' clock ∧ l[j]? = some a ∧ kf a = key ∧ ents es' = (l.eraseIdx j).map (fun a => (kf a, vf a)) := by
  rcases K.find w hkey es.toList h.keys with ⟨h1, h2⟩ | ⟨j, e0, h1, h2, h3⟩
  · obtain ⟨a, ha, e1⟩ := hin
    obtain ⟨x, hx, e2, _⟩ := ents_has hl ha
    exact absurd (e2.trans e1) (h2 x hx)
  · have hjl : j < es.toList.length := (List.getElem?_eq_some_iff.1 h2).1
    have hjs : j < es.size := by simpa using hjl
    have hsub : (es.eraseIdxIfInBounds j).toList = es.toList.eraseIdx j := by
      unfold Array.eraseIdxIfInBounds
      rw [dif_pos hjs]
      simp
    obtain ⟨a, ha, e1, _⟩ := ents_at hl h2
    refine ⟨es.eraseIdxIfInBounds j, j, a, ?_, ⟨setB_same h.obj, stamped_erase h.st j, ?_⟩, ha, e1 ▸ h3, ?_⟩
    · simp [Builtin.delete_, run_underlying ht, MapKept.run_getObj_map h.obj, K.check w _ hkey, h1, MapKept.run_setObj_map _ h.obj, Result.andThen, setBlock]
    · intro x hx
      rw [hsub] at hx
      exact h.keys x ((List.eraseIdx_sublist _ _).subset hx)
    · have : ents (es.eraseIdxIfInBounds j) = (ents es).eraseIdx j := by unfold ents; rw [hsub, map_eraseIdx]
      rw [this, hl, map_eraseIdx]
theorem len_raw (ty : TypeId) (ht : P.underlying t = some (.map k e)) (h : MapIn P k w b es clock) (hl : ents es = l.map (fun a => (kf a, vf a))) :
    (Builtin.len_ #[t] ty #[.map (some b)]).run P w = .ok (.int .i64 (l.length : Int)) w := by
  rw [← ents_len hl]
  simp [Builtin.len_, run_underlying ht, MapKept.run_getObj_map h.obj, Result.andThen, goInt]
end
end Go.Proofs.Ytajbfmdgnkpjgaa
