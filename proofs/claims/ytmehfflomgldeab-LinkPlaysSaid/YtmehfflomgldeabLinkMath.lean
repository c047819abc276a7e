/- A link as lists: what each call does to it. -/
import Derived.Test.YtmehfflomgldeabRCellC
namespace Go.Proofs.Ytmehfflomgldeab
set_option linter.unusedVariables false

structure LS where
  lanes : Nat
  depth : Nat
  size : Nat
  cr : List Nat
  fa : List Nat
  wd : List Cl
  bk : List Int
namespace LS
def is (s : LS) (k : Int) : Bool := decide (0 ≤ k ∧ k < s.lanes)
def fly (s : LS) (k : Int) : Nat := (s.wd.map Cl.lane).count k
def com (s : LS) (k : Int) : Nat := s.bk.count k
def crI (s : LS) (k : Int) : Nat := if s.is k = true then s.cr.getD k.toNat 0 else 0
def faI (s : LS) (k : Int) : Nat := if s.is k = true then s.fa.getD k.toNat 0 else 0
def flyI (s : LS) (k : Int) : Nat := if s.is k = true then s.fly k else 0
def comI (s : LS) (k : Int) : Nat := if s.is k = true then s.com k else 0
def may (s : LS) (k : Int) : Bool := s.is k && decide (0 < s.cr.getD k.toNat 0) && decide (s.wd.length < s.size)
def idle (s : LS) : Bool := decide (s.wd.length + s.bk.length + s.fa.sum = 0)
def send (s : LS) (c : Cl) : LS × Int :=
  if s.is c.lane = true then
    if s.cr.getD c.lane.toNat 0 = 0 then (s, 8)
    else if s.wd.length = s.size then (s, 7)
    else ({ s with cr := s.cr.set c.lane.toNat (s.cr.getD c.lane.toNat 0 - 1), wd := s.wd ++ [c] }, 0)
  else (s, 1)
def carry (s : LS) : LS × Cl × Int :=
  match s.wd with
  | [] => (s, Cl.zero, 8)
  | c :: l => ({ s with wd := l, fa := s.fa.set c.lane.toNat (s.fa.getD c.lane.toNat 0 + 1) }, c, 0)
def taken (s : LS) (k : Int) : LS × Int :=
  if s.is k = true then
    if s.fa.getD k.toNat 0 = 0 then (s, 13)
    else ({ s with fa := s.fa.set k.toNat (s.fa.getD k.toNat 0 - 1), bk := s.bk ++ [k] }, 0)
  else (s, 1)
def credit (s : LS) : LS × Int :=
  match s.bk with
  | [] => (s, 8)
  | k :: l => ({ s with bk := l, cr := s.cr.set k.toNat (s.cr.getD k.toNat 0 + 1) }, 0)
def new (lanes depth size : Nat) : LS := ⟨lanes, depth, size, List.replicate lanes depth, List.replicate lanes 0, [], []⟩
/-- What is always so. -/
structure Ok (s : LS) : Prop where
  l1 : 1 ≤ s.lanes
  l8 : s.lanes ≤ 8
  d1 : 1 ≤ s.depth
  d64 : s.depth ≤ 64
  s1 : 1 ≤ s.size
  s64 : s.size ≤ 64
  crl : s.cr.length = s.lanes
  fal : s.fa.length = s.lanes
  sum : ∀ i : Nat, i < s.lanes → s.cr.getD i 0 + s.fly i + s.fa.getD i 0 + s.com i = s.depth
  win : ∀ c ∈ s.wd, 0 ≤ c.lane ∧ c.lane < s.lanes
  bin : ∀ k ∈ s.bk, 0 ≤ k ∧ k < s.lanes
  wle : s.wd.length ≤ s.size
theorem getD_setN {l : List Nat} {i j v : Nat} (h : i < l.length) : (l.set i v).getD j 0 = if i = j then v else l.getD j 0 := by
  rw [List.getD_eq_getElem?_getD, List.getElem?_set, List.getD_eq_getElem?_getD]
  split
  · rfl
  · rfl
theorem is_iff {s : LS} {k : Int} : s.is k = true ↔ 0 ≤ k ∧ k < s.lanes := by unfold is; exact decide_eq_true_iff
theorem getD_repN {n v i : Nat} (h : i < n) : (List.replicate n v).getD i 0 = v := by
  rw [List.getD_eq_getElem?_getD, List.getElem?_replicate, if_pos h]; rfl
theorem new_ok {lanes depth size : Nat} (h1 : 1 ≤ lanes) (h2 : lanes ≤ 8) (h3 : 1 ≤ depth) (h4 : depth ≤ 64) (h5 : 1 ≤ size) (h6 : size ≤ 64) : (new lanes depth size).Ok :=
  ⟨h1, h2, h3, h4, h5, h6, List.length_replicate, List.length_replicate, fun i hi => by
    show (List.replicate lanes depth).getD i 0 + 0 + (List.replicate lanes 0).getD i 0 + 0 = depth
    have hi' : i < lanes := hi
    rw [getD_repN hi', getD_repN hi']; rfl, fun c hc => by simp [new] at hc, fun c hc => by simp [new] at hc, Nat.zero_le _⟩
theorem count_snoc (l : List Int) (a b : Int) : (l ++ [a]).count b = l.count b + if a = b then 1 else 0 := by
  rw [List.count_append, List.count_singleton]; simp [beq_iff_eq]
theorem count_cons' (l : List Int) (a b : Int) : (a :: l).count b = l.count b + if a = b then 1 else 0 := by
  rw [List.count_cons]; simp [beq_iff_eq]
theorem Ok.send {s : LS} (h : s.Ok) (c : Cl) : (s.send c).1.Ok := by
  unfold LS.send
  split
  · rename_i hi
    rw [is_iff] at hi
    split
    · exact h
    · split
      · exact h
      · rename_i h1 h2
        refine ⟨h.l1, h.l8, h.d1, h.d64, h.s1, h.s64, by show (s.cr.set _ _).length = _; rw [List.length_set]; exact h.crl, h.fal, fun i hi2 => ?_, fun d hd => ?_, h.bin, ?_⟩
        · have := h.sum i hi2
          show (s.cr.set _ _).getD i 0 + ((s.wd ++ [c]).map Cl.lane).count (i : Int) + s.fa.getD i 0 + s.bk.count (i : Int) = s.depth
          unfold fly com at this
          rw [getD_setN (by rw [h.crl]; omega), List.map_append, List.map_singleton, count_snoc]
          by_cases e : c.lane.toNat = i
          · subst e
            rw [if_pos rfl, if_pos (by omega)]
            omega
          · rw [if_neg e, if_neg (by omega)]
            omega
        · have hd' : d ∈ s.wd ++ [c] := hd
          rw [List.mem_append, List.mem_singleton] at hd'
          rcases hd' with hd' | rfl
          · exact h.win d hd'
          · exact hi
        · have := h.wle
          show (s.wd ++ [c]).length ≤ s.size
          rw [List.length_append]; simp; omega
  · exact h
theorem Ok.carry {s : LS} (h : s.Ok) : s.carry.1.Ok := by
  unfold LS.carry
  split
  · exact h
  · rename_i c l hw
    have hc := h.win c (by rw [hw]; exact List.mem_cons_self ..)
    refine ⟨h.l1, h.l8, h.d1, h.d64, h.s1, h.s64, h.crl, by show (s.fa.set _ _).length = _; rw [List.length_set]; exact h.fal, fun i hi2 => ?_, fun d hd => h.win d (by rw [hw]; exact List.mem_cons_of_mem _ hd), h.bin, ?_⟩
    · have := h.sum i hi2
      show s.cr.getD i 0 + (l.map Cl.lane).count (i : Int) + (s.fa.set _ _).getD i 0 + s.bk.count (i : Int) = s.depth
      unfold fly com at this
      rw [hw, List.map_cons, count_cons'] at this
      rw [getD_setN (by rw [h.fal]; omega)]
      by_cases e : c.lane.toNat = i
      · subst e
        rw [if_pos rfl]
        rw [if_pos (by omega)] at this
        omega
      · rw [if_neg e]
        rw [if_neg (by omega)] at this
        omega
    · have := h.wle
      rw [hw] at this
      show l.length ≤ s.size
      simp at this; omega
theorem Ok.taken {s : LS} (h : s.Ok) (k : Int) : (s.taken k).1.Ok := by
  unfold LS.taken
  split
  · rename_i hi
    rw [is_iff] at hi
    split
    · exact h
    · rename_i h1
      refine ⟨h.l1, h.l8, h.d1, h.d64, h.s1, h.s64, h.crl, by show (s.fa.set _ _).length = _; rw [List.length_set]; exact h.fal, fun i hi2 => ?_, h.win, fun d hd => ?_, h.wle⟩
      · have := h.sum i hi2
        show s.cr.getD i 0 + s.fly i + (s.fa.set _ _).getD i 0 + (s.bk ++ [k]).count (i : Int) = s.depth
        unfold com at this
        rw [getD_setN (by rw [h.fal]; omega), count_snoc]
        by_cases e : k.toNat = i
        · subst e
          rw [if_pos rfl, if_pos (by omega)]
          omega
        · rw [if_neg e, if_neg (by omega)]
          omega
      · have hd' : d ∈ s.bk ++ [k] := hd
        rw [List.mem_append, List.mem_singleton] at hd'
        rcases hd' with hd' | rfl
        · exact h.bin d hd'
        · exact hi
  · exact h
theorem Ok.credit {s : LS} (h : s.Ok) : s.credit.1.Ok := by
  unfold LS.credit
  split
  · exact h
  · rename_i k l hw
    have hc := h.bin k (by rw [hw]; exact List.mem_cons_self ..)
    refine ⟨h.l1, h.l8, h.d1, h.d64, h.s1, h.s64, by show (s.cr.set _ _).length = _; rw [List.length_set]; exact h.crl, h.fal, fun i hi2 => ?_, h.win, fun d hd => h.bin d (by rw [hw]; exact List.mem_cons_of_mem _ hd), h.wle⟩
    have := h.sum i hi2
    show (s.cr.set _ _).getD i 0 + s.fly i + s.fa.getD i 0 + l.count (i : Int) = s.depth
    unfold com at this
    rw [hw, count_cons'] at this
    rw [getD_setN (by rw [h.crl]; omega)]
    by_cases e : k.toNat = i
    · subst e
      rw [if_pos rfl]
      rw [if_pos (by omega)] at this
      omega
    · rw [if_neg e]
      rw [if_neg (by omega)] at this
      omega
/-! counts of all lanes -/
def tot (f : Nat → Nat) : Nat → Nat
  | 0 => 0
  | n + 1 => tot f n + f n
theorem tot_le {f : Nat → Nat} {d : Nat} : ∀ n, (∀ i, i < n → f i ≤ d) → tot f n ≤ n * d
  | 0, _ => by simp [tot]
  | n + 1, h => by
    have := tot_le n (fun i hi => h i (by omega))
    have := h n (by omega)
    rw [tot, Nat.succ_mul]; omega
theorem tot_lt {f : Nat → Nat} {d : Nat} : ∀ n, (∀ i, i < n → f i ≤ d) → (∃ i, i < n ∧ f i < d) → tot f n < n * d
  | 0, _, ⟨i, hi, _⟩ => by omega
  | n + 1, h, ⟨i, hi, hlt⟩ => by
    have h1 := tot_le n (fun i hi => h i (by omega))
    have h2 := h n (by omega)
    rw [tot, Nat.succ_mul]
    by_cases e : i = n
    · subst e; omega
    · have := tot_lt n (fun i hi => h i (by omega)) ⟨i, by omega, hlt⟩
      omega
theorem tot_one {f g : Nat → Nat} {k : Nat} (h : ∀ i, g i = f i + if k = i then 1 else 0) : ∀ n, tot g n = tot f n + if k < n then 1 else 0
  | 0 => by simp [tot]
  | n + 1 => by
    rw [tot, tot, tot_one h n, h n]
    by_cases e1 : k < n
    · rw [if_pos e1, if_neg (by omega), if_pos (by omega)]; omega
    · by_cases e2 : k = n
      · rw [if_neg e1, if_pos e2, if_pos (by omega)]; omega
      · rw [if_neg e1, if_neg e2, if_neg (by omega)]; omega
theorem tot_count (n : Nat) : ∀ l : List Int, (∀ k ∈ l, 0 ≤ k ∧ k < n) → tot (fun i => l.count (i : Int)) n = l.length
  | [], _ => by induction n with | zero => rfl | succ n ih => rw [tot, ih (fun k hk => by simp at hk)]; rfl
  | k :: l, h => by
    have hk := h k (List.mem_cons_self ..)
    have := tot_count n l (fun x hx => h x (List.mem_cons_of_mem _ hx))
    rw [tot_one (f := fun i => l.count (i : Int)) (k := k.toNat) (fun i => by
      show (k :: l).count (i : Int) = _
      rw [count_cons']
      congr 1
      by_cases e : k = (i : Int)
      · rw [if_pos e, if_pos (by omega)]
      · rw [if_neg e, if_neg (by omega)]), this, if_pos (by omega)]
    rfl
theorem Ok.room {s : LS} (h : s.Ok) {k : Int} (hk : s.is k = true) (hf : s.fa.getD k.toNat 0 ≠ 0) : s.bk.length < s.lanes * s.depth := by
  rw [is_iff] at hk
  rw [← tot_count s.lanes s.bk h.bin]
  refine tot_lt _ (fun i hi => ?_) ⟨k.toNat, by omega, ?_⟩
  · have := h.sum i hi; unfold com at this; omega
  · have := h.sum k.toNat (by omega); unfold com at this; omega
theorem Ok.ble {s : LS} (h : s.Ok) : s.bk.length ≤ s.lanes * s.depth := by
  rw [← tot_count s.lanes s.bk h.bin]
  exact tot_le _ (fun i hi => by have := h.sum i hi; unfold com at this; omega)
theorem Ok.flys {s : LS} (h : s.Ok) : tot (fun i => s.fly i) s.lanes = s.wd.length := by
  have := tot_count s.lanes (s.wd.map Cl.lane) (fun k hk => by
    obtain ⟨c, hc, rfl⟩ := List.mem_map.1 hk
    exact h.win c hc)
  rw [List.length_map] at this
  exact this
end LS
end Go.Proofs.Ytmehfflomgldeab
