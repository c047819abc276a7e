/- An inbox as lists: its room, what may be received, what waits, the next numbers; what each call does to it. -/
import Derived.Test.YtajbfmdgnkpjgaaRPkD
import Derived.Test.YtajbfmdgnkpjgaaMapRaw
namespace Go.Proofs.Ytajbfmdgnkpjgaa
set_option linter.unusedVariables false
structure IS where
  n : Nat
  q : List Pk
  ws : List Pk
  nx : List (Int × Int)
def keyEq (p q : Pk) : Bool := decide (q.src = p.src ∧ q.seq = p.seq)
def inR (p : Pk) : Bool := decide (0 ≤ p.src ∧ p.src < 4096 ∧ 0 ≤ p.seq ∧ p.seq < 65536)
/-- The number at a place of a list of pairs; 0: none. -/
def lookI (l : List (Int × Int)) (x : Int) : Int := ((l.find? (fun q => decide (q.1 = x))).map Prod.snd).getD 0
def putI (l : List (Int × Int)) (x v : Int) : List (Int × Int) := if l.any (fun q => decide (q.1 = x)) = true then l.map (fun q => if q.1 = x then (x, v) else q) else l ++ [(x, v)]
theorem lookI_put (l : List (Int × Int)) (x v y : Int) : lookI (putI l x v) y = if y = x then v else lookI l y := by
  unfold putI
  by_cases h : l.any (fun q => decide (q.1 = x)) = true
  · rw [if_pos h]
    induction l with
    | nil => simp at h
    | cons q l ih =>
      unfold lookI at *
      rw [List.map_cons, List.find?_cons, List.find?_cons]
      by_cases hq : q.1 = x
      · rw [if_pos hq]
        by_cases hy : y = x
        · subst hy; simp
        · rw [if_neg hy]
          have e1 : decide (x = y) = false := decide_eq_false (fun e => hy e.symm)
          have e2 : decide (q.1 = y) = false := decide_eq_false (fun e => hy (e.symm.trans hq))
          dsimp only
          rw [e1, e2]
          dsimp only
          by_cases h' : l.any (fun q => decide (q.1 = x)) = true
          · have := ih h'; rw [if_neg hy] at this; exact this
          · have hm : l.map (fun q => if q.1 = x then (x, v) else q) = l := by
              conv => rhs; rw [← List.map_id l]
              apply List.map_congr_left
              intro r hr
              rw [if_neg (fun e => h' (List.any_eq_true.2 ⟨r, hr, by simpa using e⟩))]
              rfl
            rw [hm]
      · rw [if_neg hq]
        have h' : l.any (fun q => decide (q.1 = x)) = true := by
          rw [List.any_cons, decide_eq_false hq, Bool.false_or] at h; exact h
        by_cases hqy : q.1 = y
        · rw [decide_eq_true hqy]
          dsimp only
          rw [if_neg (fun e => hq (hqy.trans e))]
        · rw [decide_eq_false hqy]
          dsimp only
          exact ih h'
  · rw [if_neg h]
    unfold lookI
    rw [List.find?_append]
    by_cases hy : y = x
    · subst hy
      have : l.find? (fun q => decide (q.1 = y)) = none := by
        rw [List.find?_eq_none]
        intro r hr e
        exact h (List.any_eq_true.2 ⟨r, hr, e⟩)
      rw [this]; simp
    · rw [if_neg hy]
      have e1 : decide (x = y) = false := decide_eq_false (fun e => hy e.symm)
      rw [List.find?_cons]
      dsimp only
      rw [e1]
      cases l.find? (fun q => decide (q.1 = y)) <;> rfl
namespace IS
def new (room : Int) : IS := ⟨(min (max room 1) 64).toNat, [], [], []⟩
def next (s : IS) (x : Int) : Int := lookI s.nx x
def rdy (s : IS) (p : Pk) : Bool := decide (p.seq = s.next p.src)
def come (s : IS) (p : Pk) : IS × Int := if s.ws.any (keyEq p) = true then (s, 13) else if inR p = true then ({ s with ws := s.ws ++ [p] }, 0) else (s, 1)
def better (b : Option Pk) (p : Pk) : Option Pk := match b with | none => some p | some q => if p.src < q.src then some p else some q
def ready (s : IS) : Option Pk := (s.ws.filter s.rdy).foldl better none
def tell (s : IS) : IS × Bool := match s.ready with
  | none => (s, false)
  | some p => if s.q.length = s.n then (s, false) else ({ s with q := s.q ++ [p], ws := s.ws.eraseP (keyEq p), nx := putI s.nx p.src ((p.seq + 1) % 65536) }, true)
def recv (s : IS) : IS × Pk × Int := match s.q with | [] => (s, Pk.zero, 8) | p :: l => ({ s with q := l }, p, 0)
def peekE (s : IS) : Int := if s.q.length = 0 then 8 else 0
/-- What is always so. -/
structure Ok (s : IS) : Prop where
  n1 : 1 ≤ s.n
  n2 : s.n ≤ 64
  le : s.q.length ≤ s.n
  kd : (s.ws.map (fun p => (p.src, p.seq))).Nodup
  wr : ∀ p ∈ s.ws, inR p = true
/-- The least source's packet of those that may be told. -/
def IsReady (s : IS) (b : Option Pk) : Prop := match b with
  | none => ∀ p ∈ s.ws, s.rdy p = false
  | some q => q ∈ s.ws ∧ s.rdy q = true ∧ ∀ p ∈ s.ws, s.rdy p = true → q.src ≤ p.src
theorem foldl_better : ∀ (l : List Pk) (b : Option Pk), (match l.foldl better b with
    | none => b = none ∧ l = []
    | some q => (q ∈ l ∨ b = some q) ∧ (∀ p ∈ l, q.src ≤ p.src) ∧ ∀ r, b = some r → q.src ≤ r.src)
  | [], none => ⟨rfl, rfl⟩
  | [], some q => ⟨.inr rfl, fun p hp => by simp at hp, fun r hr => by cases hr; exact Int.le_refl _⟩
  | p :: l, b => by
    have ih := foldl_better l (better b p)
    rw [List.foldl_cons]
    have hb : ∃ r, better b p = some r ∧ (r = p ∨ b = some r) ∧ r.src ≤ p.src ∧ ∀ x, b = some x → r.src ≤ x.src := by
      cases b with
      | none => exact ⟨p, rfl, .inl rfl, Int.le_refl _, fun x hx => by simp at hx⟩
      | some q =>
        unfold better
        by_cases h : p.src < q.src
        · exact ⟨p, if_pos h, .inl rfl, Int.le_refl _, fun x hx => by cases hx; omega⟩
        · exact ⟨q, if_neg h, .inr rfl, by omega, fun x hx => by cases hx; exact Int.le_refl _⟩
    obtain ⟨r, hr, h1, h2, h3⟩ := hb
    rw [hr] at ih ⊢
    generalize l.foldl better (some r) = f at *
    cases f with
    | none => simp at ih
    | some q =>
      dsimp only at ih ⊢
      obtain ⟨i1, i2, i3⟩ := ih
      have hqr := i3 r rfl
      refine ⟨?_, ?_, ?_⟩
      · rcases i1 with i1 | i1
        · exact .inl (List.mem_cons_of_mem _ i1)
        · simp only [Option.some.injEq] at i1
          subst i1
          rcases h1 with rfl | h1
          · exact .inl (List.mem_cons_self ..)
          · exact .inr h1
      · intro x hx
        rcases List.mem_cons.1 hx with rfl | hx
        · omega
        · exact i2 x hx
      · intro x hx; have := h3 x hx; omega
theorem ready_is (s : IS) : s.IsReady s.ready := by
  have h := foldl_better (s.ws.filter s.rdy) none
  unfold IsReady ready
  generalize (s.ws.filter s.rdy).foldl better none = f at *
  cases f with
  | none =>
    dsimp only at h ⊢
    intro p hp
    by_cases hr : s.rdy p = true
    · have : p ∈ s.ws.filter s.rdy := List.mem_filter.2 ⟨hp, hr⟩
      rw [h.2] at this; simp at this
    · exact Bool.eq_false_iff.2 hr
  | some q =>
    dsimp only at h ⊢
    obtain ⟨h1, h2, _⟩ := h
    rcases h1 with h1 | h1
    · have := List.mem_filter.1 h1
      exact ⟨this.1, this.2, fun p hp hr => h2 p (List.mem_filter.2 ⟨hp, hr⟩)⟩
    · simp at h1
theorem key_inj {l : List Pk} (h : (l.map (fun p => (p.src, p.seq))).Nodup) {p q : Pk} (hp : p ∈ l) (hq : q ∈ l) (h1 : p.src = q.src) (h2 : p.seq = q.seq) : p = q := by
  induction l with
  | nil => simp at hp
  | cons x l ih =>
    rw [List.map_cons, List.nodup_cons] at h
    rcases List.mem_cons.1 hp with rfl | hp' <;> rcases List.mem_cons.1 hq with rfl | hq'
    · rfl
    · exact absurd (List.mem_map.2 ⟨q, hq', by rw [h1, h2]⟩) h.1
    · exact absurd (List.mem_map.2 ⟨p, hp', by rw [h1, h2]⟩) h.1
    · exact ih h.2 hp' hq'
theorem ready_unique {s : IS} (hk : (s.ws.map (fun p => (p.src, p.seq))).Nodup) {b : Option Pk} (h : s.IsReady b) : s.ready = b := by
  have h0 := ready_is s
  generalize s.ready = a at *
  cases a with
  | none =>
    cases b with
    | none => rfl
    | some q => have := h0 q h.1; rw [h.2.1] at this; simp at this
  | some p =>
    cases b with
    | none => have := h p h0.1; rw [h0.2.1] at this; simp at this
    | some q =>
      have e1 := h0.2.2 q h.1 h.2.1
      have e2 := h.2.2 p h0.1 h0.2.1
      have e3 : p.src = q.src := by omega
      have r1 := h0.2.1
      have r2 := h.2.1
      unfold rdy at r1 r2
      rw [decide_eq_true_eq] at r1 r2
      rw [key_inj hk h0.1 h.1 e3 (by rw [r1, r2, e3])]
theorem new_ok (room : Int) : (new room).Ok := ⟨by show 1 ≤ (min (max room 1) 64).toNat; omega, by show (min (max room 1) 64).toNat ≤ 64; omega, by show 0 ≤ _; omega, List.nodup_nil, fun p hp => by simp [new] at hp⟩
theorem any_key {l : List Pk} {p : Pk} : l.any (keyEq p) = true ↔ ∃ q ∈ l, q.src = p.src ∧ q.seq = p.seq := by
  rw [List.any_eq_true]
  constructor
  · rintro ⟨q, hq, h⟩; unfold keyEq at h; rw [decide_eq_true_eq] at h; exact ⟨q, hq, h⟩
  · rintro ⟨q, hq, h⟩; exact ⟨q, hq, by unfold keyEq; exact decide_eq_true h⟩
theorem Ok.come {s : IS} (h : s.Ok) (p : Pk) : (s.come p).1.Ok := by
  unfold IS.come; split
  · exact h
  · rename_i h1
    split
    · rename_i h2
      refine ⟨h.n1, h.n2, h.le, ?_, ?_⟩
      · show ((s.ws ++ [p]).map _).Nodup
        rw [List.map_append, List.nodup_append]
        refine ⟨h.kd, by simp, ?_⟩
        intro a ha b hb e
        obtain ⟨q, hq, rfl⟩ := List.mem_map.1 ha
        simp only [List.map_cons, List.map_nil, List.mem_singleton] at hb
        subst hb
        simp only [Prod.mk.injEq] at e
        exact h1 (any_key.2 ⟨q, hq, e⟩)
      · intro q hq
        rcases List.mem_append.1 hq with hq | hq
        · exact h.wr q hq
        · rw [List.mem_singleton.1 hq]; exact h2
    · exact h
theorem eraseP_sub {l : List Pk} {f : Pk → Bool} : (l.eraseP f).Sublist l := List.eraseP_sublist
theorem Ok.tell {s : IS} (h : s.Ok) : s.tell.1.Ok := by
  unfold IS.tell; split
  · exact h
  · rename_i p hp
    split
    · exact h
    · rename_i hn
      have := h.le
      refine ⟨h.n1, h.n2, ?_, ?_, ?_⟩
      · show (s.q ++ [p]).length ≤ s.n
        rw [List.length_append]; simp; omega
      · exact h.kd.sublist (eraseP_sub.map _)
      · intro q hq; exact h.wr q (eraseP_sub.subset hq)
theorem Ok.recv {s : IS} (h : s.Ok) : s.recv.1.Ok := by
  unfold IS.recv; split
  · exact h
  · rename_i p l hq
    exact ⟨h.n1, h.n2, by have := h.le; rw [hq] at this; simp at this; show l.length ≤ s.n; omega, h.kd, h.wr⟩
end IS
end Go.Proofs.Ytajbfmdgnkpjgaa
