/- A ring of cells in memory as a list, and its methods' contracts over that list. -/
import Derived.Test.YtajbfmdgnkpjgaaRPkB
import Derived.Test.YtajbfmdgnkpjgaaRingState
namespace Go.Proofs.Ytajbfmdgnkpjgaa
set_option linter.unusedVariables false
open Go.RowKit

/-- The ring at block b, its places at block g, reads as s. -/
def RingK (w : World) (b g : Nat) (s : RS Pk) : Prop :=
  s.Ok ∧ ∃ (arr : List Pk) (a : Nat), RawK w b g arr s.inn s.out a s.ld.isSome ∧ arr.length = s.n ∧ a < s.n ∧ (∀ i, i < s.q.length → arr.getD ((a + i) % s.n) Pk.zero = s.q.getD i Pk.zero) ∧ (∀ v, s.ld = some v → arr.getD ((a + s.q.length) % s.n) Pk.zero = v)
theorem RingK.only {w w' : World} {b g : Nat} {s : RS Pk} {S : List Nat} (h : RingK w b g s) (ho : Only S w w') (hb : b ∉ S) (hg : g ∉ S) : RingK w' b g s := by
  obtain ⟨h0, arr, a, h1, h2⟩ := h
  exact ⟨h0, arr, a, h1.only ho hb hg, h2⟩
theorem RingK.below {w w' : World} {b g B : Nat} {s : RS Pk} (h : RingK w b g s) (hb : Below B w w') (h1 : b < B) (h2 : g < B) : RingK w' b g s := by
  obtain ⟨h0, arr, a, r, h3⟩ := h
  exact ⟨h0, arr, a, r.below hb h1 h2, h3⟩
theorem RingK.drewN {w : World} {b g : Nat} {s : RS Pk} (h : RingK w b g s) (n : Nat) : RingK (w.drewN n) b g s := by
  obtain ⟨h0, arr, a, h1, h2⟩ := h
  exact ⟨h0, arr, a, h1.drewN n, h2⟩
theorem RingK.lt {w : World} {b g : Nat} {s : RS Pk} (h : RingK w b g s) : b < w.heap.size ∧ g < w.heap.size := by
  obtain ⟨h0, arr, a, h1, h2⟩ := h
  exact h1.lt
theorem RingK.ne {w : World} {b g : Nat} {s : RS Pk} (h : RingK w b g s) : b ≠ g := by
  obtain ⟨h0, arr, a, h1, h2⟩ := h
  exact h1.ne
theorem cntK_ok {s : RS Pk} (h : s.Ok) : cnt s.inn s.out = s.q.length := h.cnt
theorem ringK_len (w : World) (b g : Nat) (s : RS Pk) (h : RingK w b g s) :
    Calls Try.prog 59 #[.pointer (some ⟨b, 0, none⟩)] w fun e w' => e = .returned (.int .i64 ((s.q.length : Nat) : Int)) ∧ ∃ k, w' = w.drewN k := by
  obtain ⟨h0, arr, a, h1, h2⟩ := h
  have := lenK_raw w b g arr s.inn s.out a _ h1 h0.li h0.lo
  rwa [cntK_ok h0] at this
theorem ringK_room (w : World) (b g : Nat) (s : RS Pk) (h : RingK w b g s) :
    Calls Try.prog 61 #[.pointer (some ⟨b, 0, none⟩)] w fun e w' => e = .returned (.int .i64 s.room) ∧ ∃ k, w' = w.drewN k := by
  obtain ⟨h0, arr, a, h1, h2, _⟩ := h
  have h3 := h0.n2; have h4 := h0.le
  have := roomK_raw w b g arr s.inn s.out a _ h1 h0.li h0.lo (by omega) (by rw [cntK_ok h0]; omega)
  rw [cntK_ok h0, h2] at this
  exact this
theorem ringK_peek (w : World) (b g : Nat) (s : RS Pk) (h : RingK w b g s) :
    Calls Try.prog 60 #[.pointer (some ⟨b, 0, none⟩)] w fun e w' => e = .returned (.tuple #[(s.q.headD Pk.zero).val, .int .i64 s.peekE]) ∧ Below w.heap.size w w' := by
  obtain ⟨h0, arr, a, h1, h2, h3, h4, _⟩ := h
  have h5 := h0.n2
  have := peekK_raw w b g arr s.inn s.out a _ h1 h0.li h0.lo (by omega) (by omega)
  rw [cntK_ok h0] at this
  have e1 : (if s.q.length = 0 then Pk.zero else arr.getD a Pk.zero) = s.q.headD Pk.zero := by
    split
    · rename_i he; rw [List.eq_nil_of_length_eq_zero he]; rfl
    · rename_i he
      have := h4 0 (by omega)
      rw [Nat.add_zero, Nat.mod_eq_of_lt h3] at this
      rw [this]; cases hq : s.q with | nil => simp [hq] at he | cons x l => rfl
  rw [e1] at this
  exact this
theorem getDK_set_self {l : List Pk} {i : Nat} {v : Pk} (h : i < l.length) : (l.set i v).getD i Pk.zero = v := by
  rw [List.getD_eq_getElem?_getD, List.getElem?_set_self h]; rfl
theorem getDK_set_other {l : List Pk} {i j : Nat} {v : Pk} (h : i ≠ j) : (l.set i v).getD j Pk.zero = l.getD j Pk.zero := by
  rw [List.getD_eq_getElem?_getD, List.getElem?_set_ne h, List.getD_eq_getElem?_getD]
theorem getDK_snoc_last (l : List Pk) (v : Pk) : (l ++ [v]).getD l.length Pk.zero = v := by
  rw [List.getD_eq_getElem?_getD, List.getElem?_append_right (Nat.le_refl _)]; simp
theorem getDK_snoc_lt {l : List Pk} {v : Pk} {i : Nat} (h : i < l.length) : (l ++ [v]).getD i Pk.zero = l.getD i Pk.zero := by
  rw [List.getD_eq_getElem?_getD, List.getElem?_append_left h, ← List.getD_eq_getElem?_getD]
theorem ringK_lay (w : World) (b g : Nat) (s : RS Pk) (v : Pk) (h : RingK w b g s) :
    Calls Try.prog 75 #[.pointer (some ⟨b, 0, none⟩), v.val] w fun e w' => e = .returned (.int .i64 (s.lay v).2) ∧ RingK w' b g (s.lay v).1 ∧ Only [b, g] w w' := by
  have hh := h
  have hlt := h.lt
  obtain ⟨h0, arr, a, h1, h2, h3, h4, h5⟩ := h
  have h6 := h0.n2; have h7 := h0.le
  by_cases e1 : s.ld.isSome = true
  · rw [e1] at h1
    refine (layK_state w b g arr s.inn s.out a v h1).mono ?_
    rintro e w' ⟨rfl, hb⟩
    unfold RS.lay; rw [if_pos e1]
    exact ⟨rfl, hh.below hb hlt.1 hlt.2, Only.ofBelow hb _⟩
  · have e1' := Bool.eq_false_iff.2 e1
    by_cases e2 : s.q.length = s.n
    · have hr : s.room = 0 := by unfold RS.room; rw [if_neg e1]; omega
      refine (layK_full w b g arr s.inn s.out a v (e1' ▸ h1) (fun w hw => ?_)).mono ?_
      · have := ringK_room w b g s ⟨h0, arr, a, e1' ▸ hw, h2, h3, h4, h5⟩
        rwa [hr] at this
      · rintro e w' ⟨rfl, hb⟩
        unfold RS.lay; rw [if_neg e1, if_pos e2]
        exact ⟨rfl, hh.below hb hlt.1 hlt.2, Only.ofBelow hb _⟩
    · have hx : (a + s.q.length) % arr.length < arr.length := Nat.mod_lt _ (by omega)
      have hok := h0.lay v
      have el : s.lay v = ({ s with ld := some v }, 0) := by unfold RS.lay; rw [if_neg e1, if_neg e2]
      rw [el] at hok ⊢
      refine (layK_walk w b g arr s.inn s.out a v s.room ((a + s.q.length) % arr.length) (e1' ▸ h1) (fun w hw => ringK_room w b g s ⟨h0, arr, a, e1' ▸ hw, h2, h3, h4, h5⟩) (fun w hw => ?_) ?_ hx).mono ?_
      · have := endK_raw w b g arr s.inn s.out a false hw h0.li h0.lo (by omega) (by omega) (by omega)
        rwa [cntK_ok h0] at this
      · have : s.room ≠ 0 := by unfold RS.room; rw [if_neg e1]; omega
        simpa using this
      · rintro e w' ⟨rfl, hr, ho⟩
        refine ⟨rfl, ⟨hok, arr.set ((a + s.q.length) % arr.length) v, a, hr, by rw [List.length_set]; exact h2, h3, ?_, ?_⟩, ho⟩
        · intro i hi0
          have hi : i < s.q.length := hi0
          rw [getDK_set_other (by rw [h2]; exact (mod_apart hi (by omega)).symm)]
          exact h4 i hi
        · rintro u hu
          simp only [Option.some.injEq] at hu
          subst hu
          show (arr.set ((a + s.q.length) % arr.length) v).getD ((a + s.q.length) % s.n) Pk.zero = v
          rw [← h2, getDK_set_self hx]
theorem ringK_publish (w : World) (b g : Nat) (s : RS Pk) (h : RingK w b g s) :
    Calls Try.prog 76 #[.pointer (some ⟨b, 0, none⟩)] w fun e w' => e = .returned (.int .i64 s.publish.2) ∧ RingK w' b g s.publish.1 ∧ Only [b, g] w w' := by
  have hh := h
  obtain ⟨h0, arr, a, h1, h2, h3, h4, h5⟩ := h
  have hok := h0.publish
  cases e1 : s.ld with
  | none =>
    rw [e1] at h1
    refine (publishK_no w b g arr s.inn s.out a h1).mono ?_
    rintro e w' ⟨rfl, k, rfl⟩
    have el : s.publish = (s, 13) := by unfold RS.publish; rw [e1]
    rw [el]
    exact ⟨rfl, hh.drewN k, (Only.refl _ _).drewN k⟩
  | some v =>
    rw [e1] at h1
    have el : s.publish = ({ s with q := s.q ++ [v], ld := none, inn := (s.inn + 1) % 4294967296 }, 0) := by unfold RS.publish; rw [e1]
    have hv := h5 v e1
    have hlt := h0.laid (by rw [e1]; rfl)
    rw [el] at hok ⊢
    refine (publishK_walk w b g arr s.inn s.out a h1).mono ?_
    rintro e w' ⟨rfl, hr, ho⟩
    refine ⟨rfl, ⟨hok, arr, a, hr, h2, h3, ?_, ?_⟩, ho⟩
    · intro i hi0
      have hi : i < (s.q ++ [v]).length := hi0
      rw [List.length_append] at hi
      show _ = (s.q ++ [v]).getD i Pk.zero
      by_cases e : i = s.q.length
      · subst e
        rw [getDK_snoc_last]
        exact hv
      · rw [getDK_snoc_lt (by simp at hi; omega)]
        exact h4 i (by simp at hi; omega)
    · intro u hu; simp at hu
theorem ringK_free (w : World) (b g : Nat) (s : RS Pk) (h : RingK w b g s) :
    Calls Try.prog 77 #[.pointer (some ⟨b, 0, none⟩)] w fun e w' => e = .returned (.int .i64 s.peekE) ∧ RingK w' b g s.free ∧ Only [b, g] w w' := by
  have hh := h
  have hlt := h.lt
  obtain ⟨h0, arr, a, h1, h2, h3, h4, h5⟩ := h
  have hok := h0.free
  have hpk := fun w hw => ringK_peek w b g s ⟨h0, arr, a, hw, h2, h3, h4, h5⟩
  by_cases e1 : s.q.length = 0
  · have el : s.free = s := by unfold RS.free; rw [if_pos e1]
    have ep : s.peekE = 8 := by unfold RS.peekE; rw [if_pos e1]
    rw [ep] at hpk
    rw [el, ep]
    refine (freeK_no w b g arr s.inn s.out a _ _ h1 hpk).mono ?_
    rintro e w' ⟨rfl, hb⟩
    exact ⟨rfl, hh.below hb hlt.1 hlt.2, Only.ofBelow hb _⟩
  · have el : s.free = { s with q := s.q.tail, out := (s.out + 1) % 4294967296 } := by unfold RS.free; rw [if_neg e1]
    have ep : s.peekE = 0 := by unfold RS.peekE; rw [if_neg e1]
    have h6 := h0.n2
    have h7 := h0.le
    rw [ep] at hpk
    rw [el] at hok ⊢
    rw [ep]
    have ha : a < arr.length := by omega
    refine (freeK_walk w b g arr s.inn s.out a _ _ h1 (by omega) hpk ha).mono ?_
    rintro e w' ⟨rfl, hr, ho⟩
    have key : ∀ j, ((a + 1) % s.n + j) % s.n = (a + (j + 1)) % s.n := fun j => by rw [Nat.mod_add_mod]; congr 1; omega
    refine ⟨rfl, ⟨hok, arr.set a Pk.zero, (a + 1) % s.n, h2 ▸ hr, by rw [List.length_set]; exact h2, Nat.mod_lt _ (by omega), ?_, ?_⟩, ho⟩
    · intro i hi0
      have hi : i < s.q.tail.length := hi0
      rw [List.length_tail] at hi
      show (arr.set a Pk.zero).getD (((a + 1) % s.n + i) % s.n) Pk.zero = s.q.tail.getD i Pk.zero
      rw [key, getDK_set_other (by have := mod_apart (a := a) (n := s.n) (i := 0) (j := i + 1) (by omega) (by omega); rwa [Nat.add_zero, Nat.mod_eq_of_lt h3] at this), h4 (i + 1) (by omega)]
      cases hq2 : s.q with
      | nil => simp [hq2] at e1
      | cons y l => rfl
    · intro v hv
      have hlt := h0.laid (by rw [show s.ld = some v from hv]; rfl)
      show (arr.set a Pk.zero).getD (((a + 1) % s.n + s.q.tail.length) % s.n) Pk.zero = v
      rw [key, List.length_tail, show s.q.length - 1 + 1 = s.q.length from by omega, getDK_set_other (by have := mod_apart (a := a) (n := s.n) (i := 0) (j := s.q.length) (by omega) hlt; rwa [Nat.add_zero, Nat.mod_eq_of_lt h3] at this)]
      exact h5 v hv
end Go.Proofs.Ytajbfmdgnkpjgaa
