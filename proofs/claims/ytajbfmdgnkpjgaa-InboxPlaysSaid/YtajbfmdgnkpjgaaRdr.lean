/- A slice that reads as cells, off some blocks; append of a whole slice to a row of the call's own. -/
import Derived.Test.YtajbfmdgnkpjgaaOnly
import Derived.Test.YtajbfmdgnkpjgaaKit2
import Derived.Deep.RegionHeld3
import Derived.Deep.RegionLaw
import Derived.BigRegion
import Derived.StillTailTactics
namespace Go.Proofs.Ytajbfmdgnkpjgaa
set_option linter.unusedVariables false
open Go.RowKit

theorem addP (b off n : Nat) : (⟨b, off, Option.none⟩ : Addr).add n = ⟨b, off + n, Option.none⟩ := by unfold Addr.add; split <;> simp_all
/-- A slice at an address reads as these cells, none of which lies in a block of S. -/
def CellsOff (w : World) (a : Option Addr) (xs : List Value) (S : List Nat) : Prop := ∀ (j : Nat) (u : Value), xs[j]? = some u → ∃ blk off, a = some ⟨blk, off, Option.none⟩ ∧ blk ∉ S ∧ w.cell? ⟨blk, off + j, Option.none⟩ = some u
theorem CellsOff.only {w w' : World} {a : Option Addr} {xs : List Value} {S T : List Nat} (h : CellsOff w a xs S) (ho : Only T w w') (hT : ∀ x ∈ T, x ∈ S) : CellsOff w' a xs S := fun j u hu => by
  obtain ⟨blk, off, e, hn, hc⟩ := h j u hu
  refine ⟨blk, off, e, hn, ?_⟩
  rw [World.cell?_of_block (w := w) (ho.block blk (World.block_lt_of_cell? w _ hc) (fun hm => hn (hT _ hm)))]
  exact hc
theorem CellsOff.below {w w' : World} {a : Option Addr} {xs : List Value} {S : List Nat} (h : CellsOff w a xs S) (hb : Below w.heap.size w w') : CellsOff w' a xs S := fun j u hu => by
  obtain ⟨blk, off, e, hn, hc⟩ := h j u hu
  exact ⟨blk, off, e, hn, (hb.cell (p := ⟨blk, off + j, Option.none⟩) (World.block_lt_of_cell? w _ hc)).trans hc⟩
theorem CellsOff.drewN {w : World} {a : Option Addr} {xs : List Value} {S : List Nat} (h : CellsOff w a xs S) (n : Nat) : CellsOff (w.drewN n) a xs S := h
theorem CellsOff.weak {w : World} {a : Option Addr} {xs : List Value} {S T : List Nat} (h : CellsOff w a xs S) (hT : ∀ x ∈ T, x ∈ S) : CellsOff w a xs T := fun j u hu => by
  obtain ⟨blk, off, e, hn, hc⟩ := h j u hu
  exact ⟨blk, off, e, fun hm => hn (hT _ hm), hc⟩
theorem CellsOff.nil {w : World} {a : Option Addr} {S : List Nat} : CellsOff w a [] S := fun j u hu => by simp at hu
theorem CellsOff.take {w : World} {a : Option Addr} {xs : List Value} {S : List Nat} (h : CellsOff w a xs S) (n : Nat) : CellsOff w a (xs.take n) S := fun j u hu => by
  rw [List.getElem?_take] at hu; split at hu
  · exact h j u hu
  · simp at hu
theorem CellsOff.drop {w : World} {a : Option Addr} {xs : List Value} {S : List Nat} (h : CellsOff w a xs S) (n : Nat) : CellsOff w (a.map (fun x => x.add n)) (xs.drop n) S := fun j u hu => by
  rw [List.getElem?_drop] at hu
  obtain ⟨blk, off, e, hn, hc⟩ := h (n + j) u hu
  subst e
  exact ⟨blk, off + n, by rw [Option.map_some, addP], hn, by rw [Nat.add_assoc]; exact hc⟩
theorem CellsOff.dropAt {w : World} {blk off : Nat} {xs : List Value} {S : List Nat} (h : CellsOff w (some ⟨blk, off, Option.none⟩) xs S) (n : Nat) : CellsOff w (some ⟨blk, off + n, Option.none⟩) (xs.drop n) S := by
  have := h.drop n
  rwa [Option.map_some, addP] at this
theorem CellsOff.cell {w : World} {blk off : Nat} {xs : List Value} {S : List Nat} (h : CellsOff w (some ⟨blk, off, Option.none⟩) xs S) (j : Nat) (u : Value) (hu : xs[j]? = some u) : w.cell? ⟨blk, off + j, Option.none⟩ = some u := by
  obtain ⟨_, _, e, _, hc⟩ := h j u hu
  simp only [Option.some.injEq, Addr.mk.injEq, and_true] at e
  obtain ⟨rfl, rfl⟩ := e
  exact hc
/-- A row of the call's own reads as its cells. -/
theorem CellsOff.own {w : World} {base : Nat} {e : TypeId} {size : Nat} {v : Value} {n : Nat} {xs : List Value} (h : w.ownsRow base e size v n xs) (S : List Nat) (hS : ∀ x ∈ S, x < base) :
    ∃ a c, v = .slice a n c ∧ n ≤ c ∧ c ≤ maxLen ∧ CellsOff w a xs S := by
  have h' := h
  rcases h.2 with ⟨rfl, rfl⟩ | ⟨g, cap, cur, rfl, hbg, hg, hnc, hcm, hcs, ht⟩
  · refine ⟨Option.none, 0, rfl, Nat.le_refl _, by decide, ?_⟩
    have h0 : xs = [] := List.eq_nil_of_length_eq_zero (by have := h.1; omega)
    subst h0; exact CellsOff.nil
  · refine ⟨_, cap, rfl, hnc, hcm, fun j u hu => ⟨g, 0, rfl, fun hm => by have := hS g hm; omega, ?_⟩⟩
    have := h'.cells rfl j u hu
    rwa [addP] at this
theorem IntsOff.cells {k : IntKind} {w : World} {a : Option Addr} {l : List Int} {S : List Nat} (h : IntsOff k w a l S) : CellsOff w a (l.map (Value.int k)) S := fun j u hu => by
  rw [List.getElem?_map] at hu
  cases hj : l[j]? with
  | none => rw [hj] at hu; simp at hu
  | some x =>
    rw [hj] at hu
    simp at hu
    have hlt := (List.getElem?_eq_some_iff.1 hj).1
    obtain ⟨blk, off, e, hn, hc⟩ := h j hlt
    refine ⟨blk, off, e, hn, ?_⟩
    rw [hc, List.getD_eq_getElem?_getD, hj, ← hu]; rfl
theorem CellsOff.ints {k : IntKind} {w : World} {a : Option Addr} {l : List Int} {S : List Nat} (h : CellsOff w a (l.map (Value.int k)) S) : IntsOff k w a l S := fun j hj => by
  obtain ⟨blk, off, e, hn, hc⟩ := h j (.int k (l.getD j 0)) (by rw [List.getElem?_map, List.getD_eq_getElem?_getD, List.getElem?_eq_getElem hj]; rfl)
  exact ⟨blk, off, e, hn, hc⟩
theorem append_of_nil {P : Program} (w : World) (base : Nat) (t ty e : TypeId) (i : TypeInfo) (size : Nat) (ht : P.underlying t = some (.slice e)) (hi : P.info? e = some i)
    (v : Value) (n : Nat) (xs : List Value) (hown : w.ownsRow base e size v n xs) (c : Nat) : (Builtin.append_ #[t, t] ty #[v, .slice none 0 c]).run P w = .ok v w := by
  rcases hown.2 with ⟨rfl, rfl⟩ | ⟨g, cap, cur, rfl, _, _, hnc, _⟩
  · simp [Builtin.append_, run_underlying ht, sizeOf, typeInfo, hi, Builtin.lenOf, Builtin.firstCells]
  · simp [Builtin.append_, run_underlying ht, sizeOf, typeInfo, hi, Builtin.lenOf, Builtin.firstCells, hnc, storeCells]
/-- 'out = append(out, l...)', out a row of the call's own: how it runs. -/
theorem append_rows_run {P : Program} {w0 W0 : World} (us : List Value) (m : Nat) (base : Nat) (t ty e : TypeId) (z : Value) (size bytes : Nat)
    (hinfo : (P.info? e).map (fun i => (i.zero, i.size, i.bytes)) = some (some z, size, bytes)) (ht : P.underlying t = some (.slice e))
    (hzs : z.cells.size = size) (hsz : 0 < size) (v : Value) (n : Nat) (xs : List Value) (hown : w0.ownsRow base e size v n xs) (hB : Below base W0 w0) (hbase : base ≤ w0.heap.size)
    (A : Option Addr) (c : Nat) (hl : us.length = m * size) (hr : CellsOff w0 A us []) (h1 : ∀ u ∈ us, u.oneCell' = true) (hbytes : (n + m) * bytes ≤ 140737488355328) (hb1 : 0 < bytes) :
    ∃ v' w', (Builtin.append_ #[t, t] ty #[v, .slice A m c]).run P w0 = .ok v' w' ∧
      w'.ownsRow base e size v' (n + m) (xs ++ us) ∧ Below base W0 w' ∧ w0.grownBy w' v.ownBlock ∧ (v'.ownBlock = v.ownBlock ∨ ∃ b, v'.ownBlock = some b ∧ w0.heap.size ≤ b) := by
  obtain ⟨i, hi, hz, hsize, hby⟩ := info_parts hinfo
  have hm : n + m ≤ maxLen := by
    have : n + m ≤ (n + m) * bytes := Nat.le_mul_of_pos_right _ hb1
    unfold maxLen; omega
  have hnil : us = [] ∨ m ≠ 0 := by
    rcases Nat.eq_zero_or_pos m with h0 | h0
    · subst h0; exact .inl (List.eq_nil_of_length_eq_zero (by omega))
    · exact .inr (by omega)
  rcases A with _ | ad
  · have hu : us = [] := by
      cases us with
      | nil => rfl
      | cons u us => obtain ⟨_, _, e, _⟩ := hr 0 u rfl; simp at e
    subst hu
    have hm0 : m = 0 := by
      rcases Nat.eq_zero_or_pos m with h0 | h0
      · exact h0
      · have : 0 < m * size := Nat.mul_pos h0 hsz
        simp at hl; omega
    subst hm0
    exact ⟨v, w0, append_of_nil w0 base t ty e i size ht hi v n xs hown c, by simpa using hown, hB, ⟨rfl, rfl, rfl, Nat.le_refl _, fun _ _ _ => rfl⟩, .inl rfl⟩
  · have hc : ∀ j u, us[j]? = some u → w0.cell? (ad.add j) = some u := by
      intro j u hu
      obtain ⟨blk, off, e, _, hc⟩ := hr j u hu
      simp only [Option.some.injEq] at e
      subst e
      rw [addP]; exact hc
    obtain ⟨v', w', hrun, h2, h3, _, h4⟩ := run_append_own_at (P := P) (w := w0) base t ty e i z size bytes ht hi hz hsize hby hzs hsz v n xs hown ad m c us hl hc h1 hm hbytes hbase
    refine ⟨v', w', hrun, h2, hB.grown h3 hbase (fun k hk => (hown.lt k hk).1), h3, ?_⟩
    rcases h4 with h4 | h4
    · exact .inl h4
    · exact .inr ⟨_, h4, Nat.le_refl _⟩
theorem append_rows_wp {P : Program} {w0 W0 : World} {o : Oper} {a : Act} {K : Act → World → Prop} {Q : Exit → Act → World → Prop} (us : List Value) (m : Nat) (base : Nat) (t e : TypeId) (z : Value) (size bytes : Nat)
    (hinfo : (P.info? e).map (fun i => (i.zero, i.size, i.bytes)) = some (some z, size, bytes)) (ht : P.underlying t = some (.slice e))
    (hzs : z.cells.size = size) (hsz : 0 < size) (v : Value) (n : Nat) (xs : List Value) (hown : w0.ownsRow base e size v n xs) (hB : Below base W0 w0) (hbase : base ≤ w0.heap.size)
    (A : Option Addr) (c : Nat) (hl : us.length = m * size) (hr : CellsOff w0 A us []) (h1 : ∀ u ∈ us, u.oneCell' = true) (hbytes : (n + m) * bytes ≤ 140737488355328) (hb1 : 0 < bytes)
    (s x : Operand) (ho : o.op = .call { callee := .builtin .append, args := #[s, x], argTypes := #[t, t] })
    (hs : a.eval s = v) (hx : a.eval x = .slice A m c)
    (h : ∀ v' w', w'.ownsRow base e size v' (n + m) (xs ++ us) → Below base W0 w' → w0.grownBy w' v.ownBlock → (v'.ownBlock = v.ownBlock ∨ ∃ b, v'.ownBlock = some b ∧ w0.heap.size ≤ b) → K (a.put o.dst v') w') : o.wp P a w0 K Q := by
  obtain ⟨v', w', hr, r1, r2, r3, r4⟩ := append_rows_run (P := P) us m base t o.type e z size bytes hinfo ht hzs hsz v n xs hown hB hbase A c hl hr h1 hbytes hb1
  unfold Oper.wp execOp
  simp only [ho, resolve, invoke, builtin, Sem.run_bind, Sem.run_pure, Result.andThen_ok, List.map_toArray, List.map_cons, List.map_nil, hs, hx, hr]
  exact h v' w' r1 r2 r3 r4
theorem append_rows {P : Program} {w0 W0 : World} {ops : Array Oper} {rest : List Oper} {o : Oper} {a : Act} {Q : Exit → Act → World → Prop} (us : List Value) (m : Nat) (base : Nat) (t e : TypeId) (z : Value) (size bytes : Nat)
    (hinfo : (P.info? e).map (fun i => (i.zero, i.size, i.bytes)) = some (some z, size, bytes)) (ht : P.underlying t = some (.slice e))
    (hzs : z.cells.size = size) (hsz : 0 < size) (v : Value) (n : Nat) (xs : List Value) (hown : w0.ownsRow base e size v n xs) (hB : Below base W0 w0) (hbase : base ≤ w0.heap.size)
    (A : Option Addr) (c : Nat) (hl : us.length = m * size) (hr : CellsOff w0 A us []) (h1 : ∀ u ∈ us, u.oneCell' = true) (hbytes : (n + m) * bytes ≤ 140737488355328) (hb1 : 0 < bytes)
    (hgd : o.guard = none) (s x : Operand) (ho : o.op = .call { callee := .builtin .append, args := #[s, x], argTypes := #[t, t] })
    (hs : a.eval s = v) (hx : a.eval x = .slice A m c)
    (h : ∀ v' w', w'.ownsRow base e size v' (n + m) (xs ++ us) → Below base W0 w' → w0.grownBy w' v.ownBlock → (v'.ownBlock = v.ownBlock ∨ ∃ b, v'.ownBlock = some b ∧ w0.heap.size ≤ b) → wpList P ops Q rest (a.put o.dst v') w') : wpList P ops Q (o :: rest) a w0 :=
  wpList_plain hgd fun K hK => append_rows_wp us m base t e z size bytes hinfo ht hzs hsz v n xs hown hB hbase A c hl hr h1 hbytes hb1 s x ho hs hx fun v' w' r1 r2 r3 r4 => hK _ _ (h v' w' r1 r2 r3 r4)
theorem append_rows_step {P : Program} {w0 W0 : World} {ops : Array Oper} {o : Oper} {a : Act} {K : Act → World → Prop} {Q : Exit → Act → World → Prop} {E : Prop} (us : List Value) (m : Nat) (base : Nat) (t e : TypeId) (z : Value) (size bytes : Nat)
    (hinfo : (P.info? e).map (fun i => (i.zero, i.size, i.bytes)) = some (some z, size, bytes)) (ht : P.underlying t = some (.slice e))
    (hzs : z.cells.size = size) (hsz : 0 < size) (v : Value) (n : Nat) (xs : List Value) (hown : w0.ownsRow base e size v n xs) (hB : Below base W0 w0) (hbase : base ≤ w0.heap.size)
    (A : Option Addr) (c : Nat) (hl : us.length = m * size) (hr : CellsOff w0 A us []) (h1 : ∀ u ∈ us, u.oneCell' = true) (hbytes : (n + m) * bytes ≤ 140737488355328) (hb1 : 0 < bytes)
    (hgd : o.guard = none) (s x : Operand) (ho : o.op = .call { callee := .builtin .append, args := #[s, x], argTypes := #[t, t] })
    (hs : a.eval s = v) (hx : a.eval x = .slice A m c)
    (h : ∀ v' w', w'.ownsRow base e size v' (n + m) (xs ++ us) → Below base W0 w' → w0.grownBy w' v.ownBlock → (v'.ownBlock = v.ownBlock ∨ ∃ b, v'.ownBlock = some b ∧ w0.heap.size ≤ b) → K (a.put o.dst v') w') :
    if Region.wanted o (yielded ops a.tmps) = true then Oper.wp P o a w0 K Q else E := by
  have hw : Region.wanted o (yielded ops a.tmps) = true := by simp [Region.wanted, hgd]
  rw [if_pos hw]
  exact append_rows_wp us m base t e z size bytes hinfo ht hzs hsz v n xs hown hB hbase A c hl hr h1 hbytes hb1 s x ho hs hx h
theorem oneCell_ints (k : IntKind) (l : List Int) : ∀ u ∈ l.map (Value.int k), u.oneCell' = true := fun u hu => by
  obtain ⟨x, _, rfl⟩ := List.mem_map.1 hu; rfl
end Go.Proofs.Ytajbfmdgnkpjgaa
