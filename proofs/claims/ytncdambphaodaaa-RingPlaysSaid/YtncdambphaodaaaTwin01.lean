/- Two rings that are one but for where their counts began; what the ring laws share. -/
import Derived.Test.YtncdambphaodaaaStep01
namespace Go.Proofs.Ytncdambphaodaaa
set_option linter.unusedVariables false
open Go.RowKit

/-- Two rings that are one but for where their counts began. -/
structure Twin (z : Nat) (s t : RS Int) : Prop where
  n : s.n = t.n
  q : s.q = t.q
  ld : s.ld = t.ld
  inn : s.inn = (t.inn + z) % 4294967296
  out : s.out = (t.out + z) % 4294967296
theorem Twin.lay {z : Nat} {s t : RS Int} (h : Twin z s t) (v : Int) : Twin z (s.lay v).1 (t.lay v).1 ∧ (s.lay v).2 = (t.lay v).2 := by
  obtain ⟨h1, h2, h3, h4, h5⟩ := h
  unfold RS.lay; rw [h3, h2, h1]
  split
  · exact ⟨⟨h1, h2, h3, h4, h5⟩, rfl⟩
  · split
    · exact ⟨⟨h1, h2, h3, h4, h5⟩, rfl⟩
    · exact ⟨⟨rfl, rfl, rfl, h4, h5⟩, rfl⟩
theorem Twin.publish {z : Nat} {s t : RS Int} (h : Twin z s t) : Twin z s.publish.1 t.publish.1 ∧ s.publish.2 = t.publish.2 := by
  obtain ⟨h1, h2, h3, h4, h5⟩ := h
  unfold RS.publish; rw [h3]
  cases t.ld with
  | none => exact ⟨⟨h1, h2, by assumption, h4, h5⟩, rfl⟩
  | some v => exact ⟨⟨h1, by show s.q ++ [v] = t.q ++ [v]; rw [h2], rfl, by show (s.inn + 1) % 4294967296 = ((t.inn + 1) % 4294967296 + z) % 4294967296; omega, h5⟩, rfl⟩
theorem Twin.push {z : Nat} {s t : RS Int} (h : Twin z s t) (v : Int) : Twin z (s.push v).1 (t.push v).1 ∧ (s.push v).2 = (t.push v).2 := by
  rw [RS.push_eq, RS.push_eq, (h.lay v).2]
  split
  · exact (h.lay v).1.publish
  · exact ⟨(h.lay v).1, (h.lay v).2⟩
theorem Twin.peek {z : Nat} {s t : RS Int} (h : Twin z s t) : s.peekE = t.peekE := by unfold RS.peekE; rw [h.q]
theorem Twin.room {z : Nat} {s t : RS Int} (h : Twin z s t) : s.room = t.room := by unfold RS.room; rw [h.q, h.n, h.ld]
theorem Twin.free {z : Nat} {s t : RS Int} (h : Twin z s t) : Twin z s.free t.free := by
  obtain ⟨h1, h2, h3, h4, h5⟩ := h
  unfold RS.free; rw [h2]
  split
  · exact ⟨h1, h2, h3, h4, h5⟩
  · exact ⟨h1, by show t.q.tail = t.q.tail; rfl, h3, h4, by show (s.out + 1) % 4294967296 = ((t.out + 1) % 4294967296 + z) % 4294967296; omega⟩
theorem Twin.popN {z : Nat} {s t : RS Int} (h : Twin z s t) (k : Nat) : Twin z (s.popN k) (t.popN k) := by
  induction k generalizing s t with
  | zero => exact h
  | succ k ih => exact ih h.free
theorem Twin.pushAll {z : Nat} {s t : RS Int} (h : Twin z s t) (l : List Int) : Twin z (s.pushAll l).1 (t.pushAll l).1 ∧ (s.pushAll l).2 = (t.pushAll l).2 := by
  induction l generalizing s t with
  | nil => exact ⟨h, rfl⟩
  | cons v l ih =>
    unfold RS.pushAll; rw [(h.push v).2]
    split
    · have := ih (h.push v).1
      exact ⟨this.1, by show _ + 1 = _ + 1; rw [this.2]⟩
    · exact ⟨h, rfl⟩
theorem Twin.some {z : Nat} {s t : RS Int} (h : Twin z s t) (k : Int) : someN s k = someN t k := by unfold someN; rw [h.q]
theorem Twin.step {z : Nat} {s t : RS Int} (h : Twin z s t) (o : Op01) : Twin z (stepS s o) (stepS t o) ∧ stepN s o = stepN t o ∧ stepE s o = stepE t o ∧ stepL s o = stepL t o := by
  refine ⟨?_, ?_, ?_, ?_⟩
  · unfold stepS
    split; exact (h.push _).1
    split; exact h.free
    split; exact (h.lay _).1
    split; exact h.publish.1
    split; exact h.free
    split; exact h
    split; exact (h.pushAll _).1
    rw [h.some]; exact h.popN _
  · unfold stepN; rw [h.q, (h.pushAll _).2]
  · unfold stepE; rw [(h.push _).2, (h.lay _).2, h.publish.2, h.peek]
  · unfold stepL; rw [h.q, h.some]
theorem step_ok {s : RS Int} (h : s.Ok) (o : Op01) : (stepS s o).Ok := by
  unfold stepS
  split; exact h.push _
  split; exact h.free
  split; exact h.lay _
  split; exact h.publish
  split; exact h.free
  split; exact h
  split; exact h.pushAll _
  exact h.popN _
theorem stepL_len (s : RS Int) (o : Op01) : (stepL s o).length ≤ s.q.length := by
  unfold stepL; split
  · rw [List.length_take]; omega
  · exact Nat.zero_le _
theorem same01_self (a : Option Addr) (c : Nat) (l : List Int) (a2 : Option Addr) (c2 : Nat) (w : World) (hl : l.length ≤ maxLen) (hr : IntsAt .i64 w a l) (hr2 : IntsAt .i64 w a2 l) :
    Calls Try.prog 44 #[.slice a l.length c, .slice a2 l.length c2] w fun e w' => e = .returned (.bool true) ∧ ∃ k, w' = w.drewN k := by
  have := same01_calls a c l a2 c2 l w hl hl hr hr2
  rwa [decide_eq_true rfl] at this
/-- A row that was made lately stays behind a call that turns elder blocks alone. -/
theorem IntsNew.only {B : Nat} {k : IntKind} {w w' : World} {a : Option Addr} {l : List Int} {S : List Nat} (h : IntsNew B k w a l) (ho : Only S w w') (hS : ∀ x ∈ S, x < B) : IntsNew B k w' a l := fun i hi => by
  obtain ⟨blk, e, hB, hc⟩ := h i hi
  refine ⟨blk, e, hB, ?_⟩
  rw [World.cell?_of_block (w := w) (ho.block blk (World.block_lt_of_cell? w _ hc) (fun hm => by have := hS blk hm; omega))]
  exact hc
theorem IntsNew.drewN {B : Nat} {k : IntKind} {w : World} {a : Option Addr} {l : List Int} (h : IntsNew B k w a l) (n : Nat) : IntsNew B k (w.drewN n) a l := h
theorem ScriptAt.round {w : World} {a : Option Addr} {l : List Op01} (h : ScriptAt w a l) (i : Nat) (hi : i < l.length) :
    ∃ blk off o, l[i]? = some o ∧ a = some ⟨blk, off, none⟩ ∧ (∀ wr, Below w.heap.size w wr → wr.cell? ⟨blk, off + i * 3, none⟩ = some (.int .i64 o.k) ∧ wr.cell? ⟨blk, off + i * 3 + 1, none⟩ = some (.int .i64 o.v) ∧ wr.cell? ⟨blk, off + i * 3 + 2, none⟩ = some (.slice o.la o.ll.length o.lc)) ∧ IntsAt .i64 w o.la o.ll ∧ o.ll.length ≤ o.lc ∧ o.lc ≤ maxLen := by
  obtain ⟨blk, off, o, ho, ha, c0, c1, c2, h3⟩ := h i hi
  have hlt : blk < w.heap.size := World.block_lt_of_cell? w _ c0
  exact ⟨blk, off, o, ho, ha, fun wr hb => ⟨(hb.cell (p := ⟨blk, off + i * 3, none⟩) hlt).trans c0, (hb.cell (p := ⟨blk, off + i * 3 + 1, none⟩) hlt).trans c1, (hb.cell (p := ⟨blk, off + i * 3 + 2, none⟩) hlt).trans c2⟩, h3⟩
end Go.Proofs.Ytncdambphaodaaa
