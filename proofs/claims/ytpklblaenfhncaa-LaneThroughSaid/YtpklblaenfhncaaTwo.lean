/- Two rows of the call's own that grow side by side, beside a block that stays. -/
import Derived.Test.YtpklblaenfhncaaRdr
namespace Go.Proofs.Ytpklblaenfhncaa
set_option linter.unusedVariables false
open Go.RowKit
structure Two (base : Nat) (e1 e2 : TypeId) (w : World) (v u : Value) (n m : Nat) (xs ys : List Value) (B : Nat) : Prop where
  fst : w.ownsRow base e1 1 v n xs
  snd : w.ownsRow base e2 1 u m ys
  ne : ∀ k, v.ownBlock = some k → u.ownBlock ≠ some k
  nv : ∀ k, v.ownBlock = some k → k ≠ B
  nu : ∀ k, u.ownBlock = some k → k ≠ B
  lt : B < w.heap.size
theorem Two.first {base : Nat} {e1 e2 : TypeId} {w w1 : World} {v u v1 : Value} {n m n1 : Nat} {xs ys xs1 : List Value} {B : Nat} (h : Two base e1 e2 w v u n m xs ys B) (hg : w.grownBy w1 v.ownBlock)
    (hor : v1.ownBlock = v.ownBlock ∨ ∃ b, v1.ownBlock = some b ∧ w.heap.size ≤ b) (ho : w1.ownsRow base e1 1 v1 n1 xs1) : Two base e1 e2 w1 v1 u n1 m xs1 ys B := by
  have hu : u.ownBlock = none ∨ u.ownBlock ≠ v.ownBlock := by
    cases e : u.ownBlock with
    | none => exact .inl rfl
    | some k => exact .inr (fun e2 => h.ne k e2.symm e)
  refine ⟨ho, h.snd.kept hg hu, fun k hk => ?_, fun k hk => ?_, h.nu, Nat.lt_of_lt_of_le h.lt hg.size⟩
  · rcases hor with hor | ⟨b, hb, hlt⟩
    · rw [hor] at hk; exact h.ne k hk
    · rw [hb] at hk; simp at hk; subst hk
      intro e; have := (h.snd.lt _ e).2; omega
  · rcases hor with hor | ⟨b, hb, hlt⟩
    · rw [hor] at hk; exact h.nv k hk
    · rw [hb] at hk; simp at hk; subst hk; have := h.lt; omega
theorem Two.second {base : Nat} {e1 e2 : TypeId} {w w1 : World} {v u u1 : Value} {n m m1 : Nat} {xs ys ys1 : List Value} {B : Nat} (h : Two base e1 e2 w v u n m xs ys B) (hg : w.grownBy w1 u.ownBlock)
    (hor : u1.ownBlock = u.ownBlock ∨ ∃ b, u1.ownBlock = some b ∧ w.heap.size ≤ b) (ho : w1.ownsRow base e2 1 u1 m1 ys1) : Two base e1 e2 w1 v u1 n m1 xs ys1 B := by
  have hu : v.ownBlock = none ∨ v.ownBlock ≠ u.ownBlock := by
    cases e : v.ownBlock with
    | none => exact .inl rfl
    | some k => exact .inr (fun e2 => h.ne k e e2.symm)
  refine ⟨h.fst.kept hg hu, ho, fun k hk => ?_, h.nv, fun k hk => ?_, Nat.lt_of_lt_of_le h.lt hg.size⟩
  · rcases hor with hor | ⟨b, hb, hlt⟩
    · rw [hor]; exact h.ne k hk
    · rw [hb]; intro e; simp at e; subst e; have := (h.fst.lt _ hk).2; omega
  · rcases hor with hor | ⟨b, hb, hlt⟩
    · rw [hor] at hk; exact h.nu k hk
    · rw [hb] at hk; simp at hk; subst hk; have := h.lt; omega
theorem IntsAt.kept {k : IntKind} {w w' : World} {b off : Nat} {l : List Int} {row : Option Nat} (h : IntsAt k w (some ⟨b, off, none⟩) l) (hg : w.grownBy w' row) (hne : ∀ j, row = some j → j ≠ b) : IntsAt k w' (some ⟨b, off, none⟩) l := fun i hi => by
  obtain ⟨b', off', e, hc⟩ := h i hi
  simp only [Option.some.injEq, Addr.mk.injEq, and_true] at e
  obtain ⟨rfl, rfl⟩ := e
  refine ⟨b, off, rfl, ?_⟩
  rw [World.cell?_of_block (w := w) (hg.block b (World.block_lt_of_cell? w _ hc) (fun e => hne b e.symm rfl))]
  exact hc
theorem alloc_at {w : World} (o : Obj) (b : Nat) (hb : b = w.heap.size) : (w.alloc o).heap[b]? = some o := by rw [hb]; exact alloc_new o
/-- A row that was just written out is the call's own. -/
theorem ownsRow_lit {w : World} {base b : Nat} {e : TypeId} (xs : List Value) {n : Nat} (hb : base ≤ b) (h : w.heap[b]? = some (.cells xs.toArray e (0, 0))) (hl : xs.length = n) (hn : n ≤ maxLen) : w.ownsRow base e 1 (.slice (some ⟨b, 0, none⟩) n n) n xs :=
  ⟨by omega, .inr ⟨b, n, xs.toArray, rfl, hb, h, Nat.le_refl _, hn, by simp [hl], by simp [← hl]⟩⟩
theorem IntsAt.ofOwn {k : IntKind} {w : World} {base : Nat} {e : TypeId} {v : Value} {n : Nat} {l : List Int} (h : w.ownsRow base e 1 v n (l.map (Value.int k))) : ∃ a c, v = .slice a n c ∧ IntsAt k w a l := by
  have hn : n = l.length := by have := h.1; simp at this; omega
  subst hn
  exact IntsAt.own h
end Go.Proofs.Ytpklblaenfhncaa
