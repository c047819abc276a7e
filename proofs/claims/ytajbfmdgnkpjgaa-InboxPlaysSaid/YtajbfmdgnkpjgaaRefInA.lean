/- The reference's inbox in memory; New, Of. -/
import Derived.Test.YtajbfmdgnkpjgaaInboxK
import Derived.Test.YtajbfmdgnkpjgaaKit2
import Derived.Deep.RegionHeld3
import Derived.Deep.DeepCutAuto
namespace Go.Proofs.Ytajbfmdgnkpjgaa
set_option linter.unusedVariables false
set_option linter.unusedSimpArgs false
open Go.RowKit
/-- Where the reference's rows lie. -/
structure RX where
  a1 : Option Addr
  c1 : Nat
  a2 : Option Addr
  c2 : Nat
  a3 : Option Addr
  c3 : Nat
def prI (q : Int × Int) : List Value := [.int .i64 q.1, .int .i64 q.2]
theorem prI_len (q : Int × Int) : (prI q).length = 2 := rfl
def flatI (l : List (Int × Int)) : List Value := l.flatMap prI
theorem flatI_len (l : List (Int × Int)) : (flatI l).length = l.length * 2 := flat_len prI_len l
theorem oneCell_I (l : List (Int × Int)) : ∀ u ∈ flatI l, u.oneCell' = true := fun u hu => by
  unfold flatI at hu
  obtain ⟨p, _, hp⟩ := List.mem_flatMap.1 hu
  simp only [prI, List.mem_cons, List.not_mem_nil, or_false] at hp
  rcases hp with rfl | rfl <;> rfl
abbrev RX.vals (r : RX) (s : IS) : Array Value := #[.int .i64 (s.n : Int), .slice r.a1 s.q.length r.c1, .slice r.a2 s.ws.length r.c2, .slice r.a3 s.nx.length r.c3]
/-- The reference's inbox. -/
structure RI (w : World) (s : IS) (r : RX) (S : List Nat) : Prop where
  r1 : CellsOff w r.a1 (flatK s.q) S
  r2 : CellsOff w r.a2 (flatK s.ws) S
  r3 : CellsOff w r.a3 (flatI s.nx) S
  k1 : s.q.length ≤ r.c1
  k2 : s.ws.length ≤ r.c2
  k3 : s.nx.length ≤ r.c3
  l1 : s.q.length ≤ 64
  l2 : s.ws.length ≤ 1000
  l3 : s.nx.length ≤ 1000
theorem RI.below {w w' : World} {s : IS} {r : RX} {S : List Nat} (h : RI w s r S) (hb : Below w.heap.size w w') : RI w' s r S := ⟨h.r1.below hb, h.r2.below hb, h.r3.below hb, h.k1, h.k2, h.k3, h.l1, h.l2, h.l3⟩
theorem RI.only {w w' : World} {s : IS} {r : RX} {S T : List Nat} (h : RI w s r S) (ho : Only T w w') (hT : ∀ x ∈ T, x ∈ S) : RI w' s r S := ⟨h.r1.only ho hT, h.r2.only ho hT, h.r3.only ho hT, h.k1, h.k2, h.k3, h.l1, h.l2, h.l3⟩
theorem RI.fresh1 {w : World} {s : IS} {r : RX} {S : List Nat} (h : RI w s r S) {b : Nat} (hb : w.heap.size ≤ b) : RI w s r (b :: S) := ⟨h.r1.fresh1 hb, h.r2.fresh1 hb, h.r3.fresh1 hb, h.k1, h.k2, h.k3, h.l1, h.l2, h.l3⟩
theorem RI.weak {w : World} {s : IS} {r : RX} {S T : List Nat} (h : RI w s r S) (hT : ∀ x ∈ T, x ∈ S) : RI w s r T := ⟨h.r1.weak hT, h.r2.weak hT, h.r3.weak hT, h.k1, h.k2, h.k3, h.l1, h.l2, h.l3⟩
theorem ref16_new (room : Int) (w : World) :
    Calls Try.prog 20 #[.int .i64 room] w fun e w' => ∃ r : RX, e = .returned (.agg (r.vals (IS.new room))) ∧ (∀ S, RI w' (IS.new room) r S) ∧ Below w.heap.size w w' := by
  obtain ⟨n, hn⟩ := Int.eq_ofNat_of_zero_le (show 0 ≤ min (max room 1) 64 by omega)
  have he : IS.new room = ⟨n, [], [], []⟩ := by unfold IS.new; rw [hn]; rfl
  rw [he]
  clear he
  go_enter Try.func20, Try.ntmps20
  go_wp2
  refine bodyPost_ret (results_cell_row rfl _ _ w.heap.size 44 _ (0, 0) _ rfl (alloc_new _) Try.underlying44 rfl (by kernel_rfl)) rfl ⟨⟨none, 0, none, 0, none, 0⟩, rfl, fun S => ⟨CellsOff.nil, CellsOff.nil, CellsOff.nil, Nat.le_refl _, Nat.le_refl _, Nat.le_refl _, by simp, by simp, by simp⟩, by repeat' (first | (with_reducible assumption) | (with_reducible refine below_setRowN ?_ ?_ _) | (with_reducible refine Below.setCell ?_ ?_ _) | (with_reducible refine below_drewN' ?_ _) | (with_reducible refine Below.drew ?_) | (with_reducible refine Below.alloc ?_ ?_ _) | (with_reducible exact Below.refl _ _) | (with_reducible exact Nat.le_refl _) | (simp; done) | omega | (simp; omega))⟩
theorem look_at {l : List (Int × Int)} {x : Int} {m : Nat} (hm : m < l.length) (h : ∀ i, i < m → (l.getD i (0, 0)).1 ≠ x) (he : (l.getD m (0, 0)).1 = x) : lookI l x = (l.getD m (0, 0)).2 := by
  induction l generalizing m with
  | nil => simp at hm
  | cons q l ih =>
    unfold lookI
    rw [List.find?_cons]
    cases m with
    | zero =>
      have e : q.1 = x := he
      rw [decide_eq_true e]; rfl
    | succ m =>
      have h0 : q.1 ≠ x := h 0 (by omega)
      rw [decide_eq_false h0]
      exact ih (m := m) (by simpa using hm) (fun i hi => h (i + 1) (by omega)) he
theorem look_none {l : List (Int × Int)} {x : Int} (h : ∀ i, i < l.length → (l.getD i (0, 0)).1 ≠ x) : lookI l x = 0 := by
  unfold lookI
  have : l.find? (fun q => decide (q.1 = x)) = none := by
    rw [List.find?_eq_none]
    intro q hq e
    rw [decide_eq_true_eq] at e
    obtain ⟨i, hi, rfl⟩ := List.getElem_of_mem hq
    refine h i hi ?_
    rw [List.getD_eq_getElem?_getD, List.getElem?_eq_getElem hi]
    exact e
  rw [this]; rfl
set_option maxRecDepth 100000 in
set_option maxHeartbeats 1000000 in
theorem ref16_of (w : World) (s : IS) (r : RX) (S : List Nat) (x : Int) (h : RI w s r S) :
    Calls Try.prog 23 #[.agg (r.vals s), .int .i64 x] w fun e w' => e = .returned (.int .i64 (s.next x)) ∧ Below w.heap.size w w' := by
  have hl3 := h.l3
  have hcell : ∀ m, m < s.nx.length → ∃ blk off, r.a3 = some ⟨blk, off, none⟩ ∧ blk < w.heap.size ∧ w.cell? ⟨blk, off + m * 2, none⟩ = some (.int .i64 (s.nx.getD m (0, 0)).1) ∧ w.cell? ⟨blk, off + m * 2 + 1, none⟩ = some (.int .i64 (s.nx.getD m (0, 0)).2) := fun m hm => by
    obtain ⟨blk, off, e, _, hb, hc⟩ := CellsOff.elem prI_len (0, 0) h.r3 (by omega) hm
    exact ⟨blk, off, e, hb, hc 0 (by omega), hc 1 (by omega)⟩
  unfold IS.next RX.vals
  generalize s.nx = l at *
  generalize s.q.length = x1 at *
  generalize s.ws.length = x2 at *
  generalize (s.n : Int) = x0 at *
  have HC := Lib.hid hcell
  clear h hcell
  obtain ⟨a1, c1, a2, c2, a3, c3⟩ := r
  dsimp only at HC ⊢
  go_enter Try.func23, Try.ntmps23
  go_wp2
  go_loopw [5] (fun i wr => ∃ m : Nat, m ≤ l.length ∧ i = .int .i64 (m : Int) ∧ Hid (∀ i, i < m → (l.getD i (0, 0)).1 ≠ x) ∧ wr.cell? ⟨w.heap.size, 3, none⟩ = some (.slice a3 l.length c3) ∧ Below w.heap.size w wr) (fun i _ => l.length - (intOf i).toNat)
  case atStart => exact ⟨0, by omega, rfl, Lib.hid (fun i hi => by omega), cell_at (alloc_new _) 3, by repeat' (first | (with_reducible assumption) | (with_reducible refine below_setRowN ?_ ?_ _) | (with_reducible refine Below.setCell ?_ ?_ _) | (with_reducible refine below_drewN' ?_ _) | (with_reducible refine Below.drew ?_) | (with_reducible refine Below.alloc ?_ ?_ _) | (with_reducible exact Below.refl _ _) | (with_reducible exact Nat.le_refl _) | (simp; done) | omega | (simp; omega))⟩
  case round =>
    obtain ⟨m, hm, rfl, HN, hc3, hb⟩ := hrel
    have HBB := Lib.hid hb
    clear hb
    by_cases hlm : m < l.length
    · obtain ⟨blk, off, rfl, hblt, q0, q1⟩ := HC.out m hlm
      have y0 := (HBB.out.cell (p := ⟨blk, off + m * 2, none⟩) hblt).trans q0
      have y1 := (HBB.out.cell (p := ⟨blk, off + m * 2 + 1, none⟩) hblt).trans q1
      have hlI : (m : Int) < (l.length : Int) := by omega
      by_cases he : (l.getD m (0, 0)).1 = x
      · have HE := Lib.hid (look_at hlm HN.out he)
        rw [he] at y0
        generalize (l.getD m (0, 0)).2 = z at *
        clear q0 q1 he
        go_wp2
        go_ret
        exact ⟨by rw [HE.out]; rfl, HBB.out⟩
      · have HNE : Hid (∀ i, i < m + 1 → (l.getD i (0, 0)).1 ≠ x) := Lib.hid (fun i hi => by
          by_cases e : i = m
          · rw [e]; exact he
          · exact HN.out i (by omega))
        have hb1 : ((l.getD m (0, 0)).1 == x) = false := beq_eq_false_iff_ne.2 he
        generalize (l.getD m (0, 0)).1 = z at *
        clear q0 q1 he
        go_wp2
        go_roundw
        case rel => exact ⟨m + 1, by omega, by go_num, HNE, by assumption, HBB.out⟩
        case measure => simp [intOf] <;> omega
    · have hlI : ¬ (m : Int) < (l.length : Int) := by omega
      have e : m = l.length := by omega
      subst e
      have HE := Lib.hid (look_none HN.out)
      go_wp2
      go_ret
      exact ⟨by rw [HE.out]; rfl, HBB.out⟩
end Go.Proofs.Ytajbfmdgnkpjgaa
