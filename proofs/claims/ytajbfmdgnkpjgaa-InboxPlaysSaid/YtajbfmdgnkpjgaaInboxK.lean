/- Packets of several sources, in whatever row they come, each told and received as soon as it can be: what is so behind each step. -/
import Derived.Test.YtajbfmdgnkpjgaaInboxJ
import Derived.Test.YtajbfmdgnkpjgaaFlat
import Derived.Laws.IdiomStrings
namespace Go.Proofs.Ytajbfmdgnkpjgaa
set_option linter.unusedVariables false
open Go.RowKit
/-- The next numbers as an array of 5. -/
def nxA (N : Nat → Nat) : Array Value := ((List.range 5).map (fun j => Value.int .i64 (N j : Int))).toArray
theorem nxA_get (N : Nat → Nat) (j : Nat) (h : j < 5) : (nxA N)[j]? = some (.int .i64 (N j : Int)) := by
  unfold nxA; rw [List.getElem?_toArray, List.getElem?_map, List.getElem?_range h]; rfl
theorem nxA_set (N : Nat → Nat) (s : Nat) : (nxA N).setIfInBounds s (.int .i64 ((N s : Int) + 1)) = nxA (fun t => if t = s then N s + 1 else N t) := by
  apply Array.ext_getElem?
  intro j
  rw [Array.getElem?_setIfInBounds]
  by_cases h5 : j < 5
  · rw [nxA_get _ _ h5]
    split
    · rename_i e
      subst e
      rw [if_pos (by unfold nxA; simp; omega), nxA_get _ _ h5, if_pos rfl]; rfl
    · rename_i e
      rw [nxA_get _ _ h5, if_neg (fun h => e h.symm)]
  · have hn : ∀ N, (nxA N)[j]? = none := fun N => by unfold nxA; rw [List.getElem?_toArray, List.getElem?_eq_none]; simp; omega
    rw [hn, hn]
    split
    · rename_i e
      rw [if_neg (by unfold nxA; simp; omega)]
    · rfl
theorem oneCell_K (l : List Pk) : ∀ u ∈ flatK l, u.oneCell' = true := fun u hu => by
  unfold flatK at hu
  obtain ⟨p, _, hp⟩ := List.mem_flatMap.1 hu
  simp only [Pk.cells, List.mem_cons, List.not_mem_nil, or_false] at hp
  rcases hp with rfl | rfl | rfl | rfl <;> rfl
theorem flatK_take (l : List Pk) (n : Nat) : flatK (l.take n) = (flatK l).take (n * 4) := flat_take Pk.clen l n
theorem flatK_drop (l : List Pk) (n : Nat) : flatK (l.drop n) = (flatK l).drop (n * 4) := by
  induction l generalizing n with
  | nil => simp [flatK]
  | cons x l ih =>
    cases n with
    | zero => simp
    | succ n =>
      rw [List.drop_succ_cons, ih]
      show _ = (Pk.cells x ++ flatK l).drop ((n + 1) * 4)
      rw [List.drop_append, Pk.clen, show (n + 1) * 4 - 4 = n * 4 by omega, List.drop_eq_nil_of_le (show (Pk.cells x).length ≤ (n + 1) * 4 by rw [Pk.clen]; omega), List.nil_append]
theorem CellsOff.fresh1 {w : World} {a : Option Addr} {xs : List Value} {S : List Nat} (h : CellsOff w a xs S) {b : Nat} (hb : w.heap.size ≤ b) : CellsOff w a xs (b :: S) := fun j u hu => by
  obtain ⟨blk, off, e, hn, hc⟩ := h j u hu
  refine ⟨blk, off, e, fun hm => ?_, hc⟩
  rcases List.mem_cons.1 hm with e2 | hm
  · have : blk < w.heap.size := World.block_lt_of_cell? w _ hc
    omega
  · exact hn hm
theorem flatK_append (l m : List Pk) : flatK (l ++ m) = flatK l ++ flatK m := by unfold flatK; rw [List.flatMap_append]
def oneB (v : Nat) : ByteArray := ⟨#[UInt8.ofNat v]⟩
/-- The packet n of source s, with its byte. -/
def Pd (s n : Nat) : Pk := ⟨(s : Int), 0, (n : Int), oneB (97 + n)⟩
theorem Pd_inj {s n t k : Nat} (h1 : (Pd s n).src = (Pd t k).src) (h2 : (Pd s n).seq = (Pd t k).seq) : s = t ∧ n = k := by unfold Pd at h1 h2; dsimp only at h1 h2; omega
/-- What is so: A is still to come, ws waits, N are the next numbers. -/
structure RowInv (M N : Nat → Nat) (A ws : List Pk) : Prop where
  hA : ∀ p ∈ A, ∃ t k, k < M t ∧ p = Pd t k ∧ N t ≤ k
  hW : ∀ p ∈ ws, ∃ t k, k < M t ∧ p = Pd t k ∧ N t ≤ k
  dis : ∀ p ∈ A, p ∉ ws
  cov : ∀ t k, k < M t → N t ≤ k → Pd t k ∈ A ∨ Pd t k ∈ ws
  le : ∀ t, N t ≤ M t
  nd : A.Nodup
theorem RowInv.come {M N : Nat → Nat} {A ws : List Pk} (h : RowInv M N A ws) (hM : ∀ t, M t ≤ 5) (hM5 : ∀ t, 5 ≤ t → M t = 0) {k : Nat} (hk : k < A.length) (n : Nat) (nx : List (Int × Int)) :
    ∃ s m, A.getD k Pk.zero = Pd s m ∧ s < 5 ∧ m < 5 ∧ IS.come ⟨n, [], ws, nx⟩ (Pd s m) = (⟨n, [], ws ++ [Pd s m], nx⟩, 0) ∧ RowInv M N (A.take k ++ A.drop (k + 1)) (ws ++ [Pd s m]) := by
  have hg : A.getD k Pk.zero = A[k] := by rw [List.getD_eq_getElem?_getD, List.getElem?_eq_getElem hk]; rfl
  have hmem : A[k] ∈ A := List.getElem_mem hk
  obtain ⟨s, m, h1, h2, h3⟩ := h.hA _ hmem
  have hs5 : s < 5 := by
    rcases Nat.lt_or_ge s 5 with h5 | h5
    · exact h5
    · have := hM5 s h5; omega
  have hm5 := hM s
  have hsub : ∀ p, p ∈ A.take k ++ A.drop (k + 1) → p ∈ A := fun p hp => by
    rcases List.mem_append.1 hp with hp | hp
    · exact List.mem_of_mem_take hp
    · exact List.mem_of_mem_drop hp
  have hsplit : A = A.take k ++ A[k] :: A.drop (k + 1) := by rw [List.getElem_cons_drop, List.take_append_drop]
  have hnd := h.nd
  rw [hsplit, List.nodup_append] at hnd
  obtain ⟨n1, n2, n3⟩ := hnd
  rw [List.nodup_cons] at n2
  have hnot : A[k] ∉ A.take k ++ A.drop (k + 1) := fun hp => by
    rcases List.mem_append.1 hp with hp | hp
    · exact n3 _ hp _ (List.mem_cons_self ..) rfl
    · exact n2.1 hp
  refine ⟨s, m, by rw [hg, h2], hs5, by omega, ?_, ?_⟩
  · rw [IS.come_new]
    · rw [Bool.eq_false_iff]
      intro hk2
      obtain ⟨q, hq, e1, e2⟩ := IS.any_key.1 hk2
      obtain ⟨t, k', _, rfl, _⟩ := h.hW q hq
      obtain ⟨rfl, rfl⟩ := Pd_inj e1 e2
      exact h.dis _ hmem (by rw [h2]; exact hq)
    · exact IS.inR_of (by show (0 : Int) ≤ (s : Int); omega) (by show (s : Int) < 4096; omega) (by show (0 : Int) ≤ (m : Int); omega) (by show (m : Int) < 65536; omega)
  · refine ⟨fun p hp => h.hA p (hsub p hp), fun p hp => ?_, fun p hp hw => ?_, fun t k' e1 e2 => ?_, h.le, ?_⟩
    · rcases List.mem_append.1 hp with hp | hp
      · exact h.hW p hp
      · rw [List.mem_singleton.1 hp, ← h2]; exact h.hA _ hmem
    · rcases List.mem_append.1 hw with hw | hw
      · exact h.dis p (hsub p hp) hw
      · rw [List.mem_singleton.1 hw, ← h2] at hp; exact hnot hp
    · rcases h.cov t k' e1 e2 with hc | hc
      · rw [hsplit] at hc
        rcases List.mem_append.1 hc with hc | hc
        · exact .inl (List.mem_append_left _ hc)
        · rcases List.mem_cons.1 hc with hc | hc
          · exact .inr (List.mem_append_right _ (List.mem_singleton.2 (by rw [hc, h2])))
          · exact .inl (List.mem_append_right _ hc)
      · exact .inr (List.mem_append_left _ hc)
    · rw [List.nodup_append]
      exact ⟨n1, n2.2, fun a ha b hb => n3 a ha b (List.mem_cons_of_mem _ hb)⟩
/-- The next numbers in the inbox. -/
def NextIs (N : Nat → Nat) (nx : List (Int × Int)) : Prop := ∀ t : Nat, lookI nx (t : Int) = (N t : Int)
theorem RowInv.tell {M N : Nat → Nat} {A ws : List Pk} {nx : List (Int × Int)} (h : RowInv M N A ws) (hM : ∀ t, M t ≤ 5) (hM5 : ∀ t, 5 ≤ t → M t = 0) (hx : NextIs N nx) (hk : (ws.map (fun p => (p.src, p.seq))).Nodup) {n : Nat} (hn : 1 ≤ n) {p : Pk} (hr : IS.ready ⟨n, [], ws, nx⟩ = some p) :
    ∃ s nx', p = Pd s (N s) ∧ s < 5 ∧ N s < 5 ∧ IS.tell ⟨n, [], ws, nx⟩ = (⟨n, [Pd s (N s)], ws.eraseP (keyEq p), nx'⟩, true) ∧ (ws.eraseP (keyEq p)).length + 1 = ws.length ∧
      RowInv M (fun t => if t = s then N s + 1 else N t) A (ws.eraseP (keyEq p)) ∧ NextIs (fun t => if t = s then N s + 1 else N t) nx' := by
  have hi := IS.ready_is ⟨n, [], ws, nx⟩
  rw [hr] at hi
  obtain ⟨hp, hrd, _⟩ := hi
  have hpw : p ∈ ws := hp
  obtain ⟨s, m, h1, rfl, h3⟩ := h.hW p hpw
  unfold IS.rdy at hrd
  rw [decide_eq_true_eq] at hrd
  have hrd2 : (m : Int) = lookI nx (s : Int) := hrd
  rw [hx s] at hrd2
  have hm : m = N s := by omega
  subst hm
  have hm5 := hM s
  have hs5 : s < 5 := by
    rcases Nat.lt_or_ge s 5 with h5 | h5
    · exact h5
    · have := hM5 s h5; omega
  refine ⟨s, _, rfl, hs5, by omega, IS.tell_some hr (by show ¬ (0 : Nat) = n; omega), ?_, ?_, ?_⟩
  · have hpos : 0 < ws.length := List.length_pos_of_mem hpw
    rw [List.length_eraseP_of_mem hpw (IS.keyEq_self _)]; omega
  · have ne : ∀ q, (∃ t k, k < M t ∧ q = Pd t k ∧ N t ≤ k) → q ≠ Pd s (N s) → ∃ t k, k < M t ∧ q = Pd t k ∧ (if t = s then N s + 1 else N t) ≤ k := by
      rintro q ⟨t, k, e1, rfl, e3⟩ hne
      refine ⟨t, k, e1, rfl, ?_⟩
      split
      · rename_i e
        subst e
        rcases Nat.lt_or_ge (N t) k with h7 | h7
        · exact h7
        · exact absurd (by rw [show k = N t by omega]) hne
      · exact e3
    refine ⟨fun q hq => ne q (h.hA q hq) (fun e => h.dis q hq (e ▸ hpw)), fun q hq => ?_, fun q hq hw => ?_, fun t k e1 e2 => ?_, fun t => ?_, h.nd⟩
    · obtain ⟨g1, g2⟩ := (IS.mem_eraseP_key hk hpw q).1 hq
      exact ne q (h.hW q g1) g2
    · exact h.dis q hq ((IS.mem_eraseP_key hk hpw q).1 hw).1
    · have e3 : N t ≤ k := by
        split at e2
        · rename_i e; subst e; omega
        · exact e2
      rcases h.cov t k e1 e3 with hc | hc
      · exact .inl hc
      · refine .inr ((IS.mem_eraseP_key hk hpw _).2 ⟨hc, fun e => ?_⟩)
        obtain ⟨rfl, rfl⟩ := Pd_inj (congrArg Pk.src e) (congrArg Pk.seq e)
        rw [if_pos rfl] at e2
        omega
    · show (if t = s then N s + 1 else N t) ≤ M t
      split
      · rename_i e; subst e; omega
      · exact h.le t
  · intro t
    show lookI (putI nx (s : Int) (((N s : Int) + 1) % 65536)) (t : Int) = ((if t = s then N s + 1 else N t : Nat) : Int)
    rw [lookI_put]
    by_cases e : t = s
    · subst e; rw [if_pos rfl, if_pos rfl]; omega
    · rw [if_neg (by omega), if_neg e, hx t]
/-- Nothing is to come, none can be told: none waits. -/
theorem RowInv.done {M N : Nat → Nat} {ws : List Pk} {nx : List (Int × Int)} (h : RowInv M N [] ws) (hx : NextIs N nx) {n : Nat} (hr : IS.ready ⟨n, [], ws, nx⟩ = none) : ws = [] := by
  have hi := IS.ready_is ⟨n, [], ws, nx⟩
  rw [hr] at hi
  have hi2 : ∀ p ∈ ws, IS.rdy ⟨n, [], ws, nx⟩ p = false := hi
  have hN : ∀ t, ¬ N t < M t := fun t ht => by
    rcases h.cov t (N t) ht (Nat.le_refl _) with hc | hc
    · simp at hc
    · have := hi2 _ hc
      unfold IS.rdy at this
      rw [decide_eq_false_iff_not] at this
      exact this (hx t).symm
  rw [List.eq_nil_iff_forall_not_mem]
  intro p hp
  obtain ⟨t, k, h1, _, h3⟩ := h.hW p hp
  exact hN t (by omega)
/-- The packets before packet n of source s. -/
structure Made (M : Nat → Nat) (s n : Nat) (A : List Pk) : Prop where
  mem : ∀ p, p ∈ A ↔ ∃ t k, k < M t ∧ p = Pd t k ∧ (t < s ∨ (t = s ∧ k < n))
  nd : A.Nodup
  le : A.length ≤ 5 * s + n
theorem Made.nil (M : Nat → Nat) : Made M 0 0 [] := ⟨fun p => ⟨fun h => by simp at h, fun ⟨t, k, _, _, h⟩ => by omega⟩, List.nodup_nil, by simp⟩
theorem Made.add {M : Nat → Nat} {s n : Nat} {A : List Pk} (h : Made M s n A) (hn : n < M s) : Made M s (n + 1) (A ++ [Pd s n]) := by
  refine ⟨fun p => ?_, ?_, by rw [List.length_append, List.length_singleton]; have := h.le; omega⟩
  · rw [List.mem_append, List.mem_singleton, h.mem p]
    constructor
    · rintro (⟨t, k, h1, h2, h3⟩ | rfl)
      · exact ⟨t, k, h1, h2, by omega⟩
      · exact ⟨s, n, hn, rfl, by omega⟩
    · rintro ⟨t, k, h1, h2, h3⟩
      by_cases h6 : t = s ∧ k = n
      · obtain ⟨rfl, rfl⟩ := h6; exact .inr h2
      · exact .inl ⟨t, k, h1, h2, by omega⟩
  · rw [List.nodup_append]
    refine ⟨h.nd, by simp, fun a ha b hb e => ?_⟩
    rw [List.mem_singleton.1 hb] at e
    subst e
    obtain ⟨t, k, h1, h2, h3⟩ := (h.mem _).1 ha
    obtain ⟨rfl, rfl⟩ := Pd_inj (congrArg Pk.src h2) (congrArg Pk.seq h2)
    omega
theorem Made.next {M : Nat → Nat} {s n : Nat} {A : List Pk} (h : Made M s n A) (hn : ¬ n < M s) (hM : n ≤ 5) : Made M (s + 1) 0 A := by
  refine ⟨fun p => ?_, h.nd, by have := h.le; omega⟩
  rw [h.mem p]
  constructor
  · rintro ⟨t, k, h1, h2, h3⟩; exact ⟨t, k, h1, h2, by omega⟩
  · rintro ⟨t, k, h1, h2, h3⟩
    refine ⟨t, k, h1, h2, ?_⟩
    rcases h3 with h3 | h3
    · rcases Nat.lt_or_ge t s with h6 | h6
      · exact .inl h6
      · have : t = s := by omega
        subst this
        exact .inr ⟨rfl, by omega⟩
    · omega
theorem Made.inv {M : Nat → Nat} {s : Nat} {A : List Pk} (h : Made M s 0 A) (hM : ∀ t, s ≤ t → M t = 0) : RowInv M (fun _ => 0) A [] := by
  refine ⟨fun p hp => ?_, fun p hp => by simp at hp, fun p hp hw => by simp at hw, fun t k h1 h2 => .inl ((h.mem _).2 ⟨t, k, h1, rfl, ?_⟩), fun t => Nat.zero_le _, h.nd⟩
  · obtain ⟨t, k, h1, h2, _⟩ := (h.mem p).1 hp
    exact ⟨t, k, h1, h2, Nat.zero_le _⟩
  · rcases Nat.lt_or_ge t s with h6 | h6
    · exact .inl h6
    · have := hM t h6; omega
/-- 'string([]byte{b})'. -/
theorem conv_one_wp {P : Program} {w : World} {o : Oper} {a : Act} {Q : Exit → Act → World → Prop} {K : Act → World → Prop} (src dst e : TypeId) (g v : Nat) (x : Operand)
    (ho : o.op = .convert src dst x) (hx : a.eval x = .slice (some ⟨g, 0, none⟩) 1 1) (hv : v < 256)
    (hs : P.underlying src = some (.slice e)) (he : P.underlying e = some (.int .u8)) (hd : P.underlying dst = some .string)
    (hc : w.cell? ⟨g, 0, none⟩ = some (.int .u8 (v : Int))) (h : K (a.put o.dst (.string (oneB v))) w) : o.wp P a w K Q := by
  have hr : (convert src dst (.slice (some ⟨g, 0, none⟩) 1 1)).run P w = .ok (.string ⟨#[UInt8.ofNat v]⟩) w := by
    refine run_convert_bytes_back (P := P) w src dst e ⟨g, 0, none⟩ 1 [UInt8.ofNat v] hs he hd (fun j hj => ?_)
    have hj0 : j = 0 := by simpa using hj
    subst hj0
    have : (UInt8.ofNat v).toNat = v := by rw [UInt8.toNat_ofNat']; exact Nat.mod_eq_of_lt hv
    show w.cell? _ = some (.int .u8 ((UInt8.ofNat v).toNat : Int))
    rw [this]
    exact hc
  unfold Oper.wp
  simp [execOp, ho, hx, hr, Result.andThen]
  exact h
theorem conv_one {P : Program} {w : World} {ops : Array Oper} {rest : List Oper} {o : Oper} {a : Act} {Q : Exit → Act → World → Prop} (src dst e : TypeId) (g v : Nat) (x : Operand)
    (ho : o.op = .convert src dst x) (hgd : o.guard = none) (hx : a.eval x = .slice (some ⟨g, 0, none⟩) 1 1) (hv : v < 256)
    (hs : P.underlying src = some (.slice e)) (he : P.underlying e = some (.int .u8)) (hd : P.underlying dst = some .string)
    (hc : w.cell? ⟨g, 0, none⟩ = some (.int .u8 (v : Int))) (h : wpList P ops Q rest (a.put o.dst (.string (oneB v))) w) : wpList P ops Q (o :: rest) a w :=
  wpList_plain hgd fun K hK => conv_one_wp src dst e g v x ho hx hv hs he hd hc (hK _ _ h)
end Go.Proofs.Ytajbfmdgnkpjgaa
