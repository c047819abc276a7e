/- Inboxes that are told and received at once: what waits, told by its members. -/
import Derived.Test.YtajbfmdgnkpjgaaInboxI
namespace Go.Proofs.Ytajbfmdgnkpjgaa
set_option linter.unusedVariables false
namespace IS
theorem kd_nodup {ws : List Pk} (h : (ws.map (fun p => (p.src, p.seq))).Nodup) : ws.Nodup := List.Pairwise.of_map _ (fun a b h e => h (by rw [e])) h
theorem mem_eraseP_key {ws : List Pk} (h : (ws.map (fun p => (p.src, p.seq))).Nodup) {p : Pk} (hp : p ∈ ws) (q : Pk) : q ∈ ws.eraseP (keyEq p) ↔ q ∈ ws ∧ q ≠ p := by
  induction ws with
  | nil => simp at hp
  | cons x l ih =>
    have h2 := h
    rw [List.map_cons, List.nodup_cons] at h
    by_cases hx : keyEq p x = true
    · have e : x = p := by
        unfold keyEq at hx
        rw [decide_eq_true_eq] at hx
        exact key_inj h2 (List.mem_cons_self ..) hp hx.1 hx.2
      subst e
      rw [List.eraseP_cons_of_pos hx]
      constructor
      · intro hq
        refine ⟨List.mem_cons_of_mem _ hq, fun e => ?_⟩
        subst e
        exact h.1 (List.mem_map.2 ⟨q, hq, rfl⟩)
      · rintro ⟨h3, h4⟩
        rcases List.mem_cons.1 h3 with rfl | h3
        · exact absurd rfl h4
        · exact h3
    · rw [List.eraseP_cons_of_neg hx]
      have hpl : p ∈ l := by
        rcases List.mem_cons.1 hp with rfl | h3
        · exact absurd (keyEq_self _) hx
        · exact h3
      have hxp : x ≠ p := fun e => hx (by rw [e]; exact keyEq_self p)
      rw [List.mem_cons, List.mem_cons, ih h.2 hpl]
      constructor
      · rintro (rfl | ⟨h3, h4⟩)
        · exact ⟨.inl rfl, hxp⟩
        · exact ⟨.inr h3, h4⟩
      · rintro ⟨rfl | h3, h4⟩
        · exact .inl rfl
        · exact .inr ⟨h3, h4⟩
end IS
/-- A packet of a source and a number, without bytes. -/
def Ps (s n : Nat) : Pk := ⟨(s : Int), 0, (n : Int), ⟨#[]⟩⟩
theorem Ps_inj {s n t k : Nat} (h : Ps s n = Ps t k) : s = t ∧ n = k := by unfold Ps at h; simp at h; omega
/-- What came before the packet n of source s. -/
def Came (C : Nat → Nat) (g s n : Nat) (ws : List Pk) : Prop := ∀ p, p ∈ ws ↔ ∃ t k, t < 4 ∧ k < C t ∧ ¬ (t = g ∧ k = 0) ∧ p = Ps t k ∧ (t < s ∨ (t = s ∧ k < n))
theorem Came.skip {C : Nat → Nat} {g s n : Nat} {ws : List Pk} (h : Came C g s n ws) (e : s = g ∧ n = 0) : Came C g s (n + 1) ws := fun p => by
  rw [h p]
  constructor <;> rintro ⟨t, k, h1, h2, h3, h4, h5⟩ <;> exact ⟨t, k, h1, h2, h3, h4, by omega⟩
theorem Came.next {C : Nat → Nat} {g s n : Nat} {ws : List Pk} (h : Came C g s n ws) (hn : ¬ n < C s) : Came C g (s + 1) 0 ws := fun p => by
  rw [h p]
  constructor
  · rintro ⟨t, k, h1, h2, h3, h4, h5⟩; exact ⟨t, k, h1, h2, h3, h4, by omega⟩
  · rintro ⟨t, k, h1, h2, h3, h4, h5⟩
    refine ⟨t, k, h1, h2, h3, h4, ?_⟩
    rcases h5 with h5 | h5
    · rcases Nat.lt_or_ge t s with h6 | h6
      · exact .inl h6
      · have : t = s := by omega
        subst this
        exact .inr ⟨rfl, by omega⟩
    · omega
theorem Came.add {C : Nat → Nat} {g s n : Nat} {ws : List Pk} (h : Came C g s n ws) (hs : s < 4) (hn : n < C s) (e : ¬ (s = g ∧ n = 0)) : Came C g s (n + 1) (ws ++ [Ps s n]) := fun p => by
  rw [List.mem_append, List.mem_singleton, h p]
  constructor
  · rintro (⟨t, k, h1, h2, h3, h4, h5⟩ | rfl)
    · exact ⟨t, k, h1, h2, h3, h4, by omega⟩
    · exact ⟨s, n, hs, hn, e, rfl, by omega⟩
  · rintro ⟨t, k, h1, h2, h3, h4, h5⟩
    by_cases h6 : t = s ∧ k = n
    · obtain ⟨rfl, rfl⟩ := h6; exact .inr h4
    · exact .inl ⟨t, k, h1, h2, h3, h4, by omega⟩
theorem Came.come {C : Nat → Nat} {g s n N : Nat} {ws : List Pk} (h : Came C g s n ws) (hs : s < 4) (hn : n < 5) : IS.come ⟨N, [], ws, []⟩ (Ps s n) = (⟨N, [], ws ++ [Ps s n], []⟩, 0) := by
  rw [IS.come_new]
  · rw [Bool.eq_false_iff]
    intro hk
    obtain ⟨q, hq, h1, h2⟩ := IS.any_key.1 hk
    obtain ⟨t, k, _, _, _, rfl, h5⟩ := (h q).1 hq
    have e1 : (t : Int) = (s : Int) := h1
    have e2 : (k : Int) = (n : Int) := h2
    omega
  · exact IS.inR_of (by show (0 : Int) ≤ (s : Int); omega) (by show (s : Int) < 4096; omega) (by show (0 : Int) ≤ (n : Int); omega) (by show (n : Int) < 65536; omega)
/-- What waits when the packet n of source s is to be told. -/
def Left (C : Nat → Nat) (g s n : Nat) (ws : List Pk) (nx : List (Int × Int)) : Prop :=
  (∀ p, p ∈ ws ↔ ∃ t k, t < 4 ∧ k < C t ∧ ¬ (t = g ∧ k = 0) ∧ p = Ps t k ∧ (t = g ∨ s < t ∨ (t = s ∧ n ≤ k))) ∧
  ∀ t : Nat, lookI nx (t : Int) = ((if t = g then 0 else if t < s then C t else if t = s then n else 0 : Nat) : Int)
theorem Came.left {C : Nat → Nat} {g : Nat} {ws : List Pk} (h : Came C g 4 0 ws) : Left C g 0 0 ws [] := by
  refine ⟨fun p => ?_, fun t => ?_⟩
  · rw [h p]
    constructor <;> rintro ⟨t, k, h1, h2, h3, h4, h5⟩ <;> exact ⟨t, k, h1, h2, h3, h4, by omega⟩
  · have e : (if t = g then 0 else if t < 0 then C t else if t = 0 then 0 else 0 : Nat) = 0 := by
      split
      · rfl
      · rw [if_neg (by omega)]; split <;> rfl
    rw [e]; rfl
theorem Left.next {C : Nat → Nat} {g s n : Nat} {ws : List Pk} {nx : List (Int × Int)} (h : Left C g s n ws nx) (hn : n ≤ C s) (e : ¬ n < C s ∨ s = g ∧ n = 0) : Left C g (s + 1) 0 ws nx := by
  refine ⟨fun p => ?_, fun t => ?_⟩
  · rw [h.1 p]
    constructor
    · rintro ⟨t, k, h1, h2, h3, h4, h5⟩
      refine ⟨t, k, h1, h2, h3, h4, ?_⟩
      rcases e with e | e
      · rcases h5 with h5 | h5 | h5
        · exact .inl h5
        · omega
        · obtain ⟨rfl, h5⟩ := h5; omega
      · omega
    · rintro ⟨t, k, h1, h2, h3, h4, h5⟩; exact ⟨t, k, h1, h2, h3, h4, by omega⟩
  · rw [h.2 t]
    by_cases h1 : t = g
    · rw [if_pos h1, if_pos h1]
    · rw [if_neg h1, if_neg h1]
      by_cases h2 : t < s
      · rw [if_pos h2, if_pos (by omega)]
      · rw [if_neg h2]
        by_cases h3 : t = s
        · subst h3
          rw [if_pos rfl, if_pos (by omega)]
          rcases e with e | e
          · have : n = C t := by omega
            rw [this]
          · omega
        · rw [if_neg h3, if_neg (by omega)]
          split <;> rfl
theorem Left.ready {C : Nat → Nat} {g s n N : Nat} {ws : List Pk} {nx : List (Int × Int)} {q : List Pk} (h : Left C g s n ws nx) (hk : (ws.map (fun p => (p.src, p.seq))).Nodup) (hs : s < 4) (hn : n < C s) (hg : s ≠ g) :
    IS.ready ⟨N, q, ws, nx⟩ = some (Ps s n) := by
  have hl := h.2 s
  rw [if_neg hg, if_neg (by omega), if_pos rfl] at hl
  refine IS.ready_unique hk ⟨(h.1 _).2 ⟨s, n, hs, hn, by omega, rfl, by omega⟩, decide_eq_true hl.symm, fun p hp hr => ?_⟩
  obtain ⟨t, k, h1, h2, h3, rfl, h5⟩ := (h.1 p).1 hp
  unfold IS.rdy at hr
  rw [decide_eq_true_eq] at hr
  have hr2 : (k : Int) = lookI nx (t : Int) := hr
  rw [h.2 t] at hr2
  show (s : Int) ≤ (t : Int)
  by_cases h6 : t = g
  · rw [if_pos h6] at hr2; omega
  · omega
theorem Left.told {C : Nat → Nat} {g s n N : Nat} {ws : List Pk} {nx : List (Int × Int)} (h : Left C g s n ws nx) (hk : (ws.map (fun p => (p.src, p.seq))).Nodup) (hs : s < 4) (hn : n < C s) (hC : C s < 5) (hg : s ≠ g) (hN : 0 < N) :
    ∃ ws' nx', IS.tell ⟨N, [], ws, nx⟩ = (⟨N, [Ps s n], ws', nx'⟩, true) ∧ Left C g s (n + 1) ws' nx' := by
  refine ⟨_, _, IS.tell_some (h.ready hk hs hn hg) (by show ¬ (0 : Nat) = N; omega), fun p => ?_, fun t => ?_⟩
  · have hm : Ps s n ∈ ws := (h.1 _).2 ⟨s, n, hs, hn, by omega, rfl, by omega⟩
    rw [IS.mem_eraseP_key hk hm, h.1 p]
    constructor
    · rintro ⟨⟨t, k, h1, h2, h3, rfl, h5⟩, h6⟩
      refine ⟨t, k, h1, h2, h3, rfl, ?_⟩
      rcases h5 with h5 | h5 | ⟨rfl, h5⟩
      · exact .inl h5
      · exact .inr (.inl h5)
      · refine .inr (.inr ⟨rfl, ?_⟩)
        rcases Nat.lt_or_ge n k with h7 | h7
        · exact h7
        · exact absurd (by rw [show k = n by omega]) h6
    · rintro ⟨t, k, h1, h2, h3, rfl, h5⟩
      refine ⟨⟨t, k, h1, h2, h3, rfl, by omega⟩, fun e => ?_⟩
      have := Ps_inj e
      omega
  · show lookI (putI nx (s : Int) (((n : Int) + 1) % 65536)) (t : Int) = _
    rw [lookI_put, h.2 t]
    by_cases h1 : t = s
    · subst h1
      rw [if_pos rfl, if_neg hg, if_neg (by omega), if_pos rfl]; omega
    · rw [if_neg (by omega)]
      by_cases h2 : t = g
      · rw [if_pos h2, if_pos h2]
      · rw [if_neg h2, if_neg h2, if_neg h1, if_neg h1]
theorem Left.stop {C : Nat → Nat} {g N : Nat} {ws : List Pk} {nx : List (Int × Int)} {q : List Pk} (h : Left C g 4 0 ws nx) (hk : (ws.map (fun p => (p.src, p.seq))).Nodup) (hg : g < 4) :
    IS.ready ⟨N, q, ws, nx⟩ = none ∧ ws.length = C g - 1 ∧ lookI nx (g : Int) = 0 := by
  have hm : ∀ p, p ∈ ws ↔ ∃ k, 1 ≤ k ∧ k < C g ∧ p = Ps g k := fun p => by
    rw [h.1 p]
    constructor
    · rintro ⟨t, k, h1, h2, h3, h4, h5⟩
      have : t = g := by omega
      subst this
      exact ⟨k, by omega, h2, h4⟩
    · rintro ⟨k, h1, h2, h4⟩; exact ⟨g, k, hg, h2, by omega, h4, .inl rfl⟩
  have hn := h.2 g
  rw [if_pos rfl] at hn
  refine ⟨IS.ready_unique hk fun p hp => ?_, ?_, hn⟩
  · obtain ⟨k, h1, h2, rfl⟩ := (hm p).1 hp
    refine decide_eq_false ?_
    show ¬ (k : Int) = lookI nx (g : Int)
    rw [hn]; omega
  · have hp : ws.Perm ((List.range' 1 (C g - 1)).map (Ps g)) := by
      refine (List.perm_ext_iff_of_nodup (IS.kd_nodup hk) (List.Pairwise.map _ (fun x y (h : x ≠ y) e => h (Ps_inj e).2) List.nodup_range')).2 fun p => ?_
      rw [hm p, List.mem_map]
      constructor
      · rintro ⟨k, h1, h2, rfl⟩; exact ⟨k, List.mem_range'_1.2 (by omega), rfl⟩
      · rintro ⟨k, h1, rfl⟩
        rw [List.mem_range'_1] at h1
        exact ⟨k, by omega, by omega, rfl⟩
    rw [hp.length_eq]; simp
end Go.Proofs.Ytajbfmdgnkpjgaa
