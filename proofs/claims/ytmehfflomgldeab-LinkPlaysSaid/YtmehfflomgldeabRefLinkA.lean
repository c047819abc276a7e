/- The reference's link in memory; is, Has, Flying, Coming. -/
import Derived.Test.YtmehfflomgldeabLinkH
import Derived.Test.YtmehfflomgldeabRdr
namespace Go.Proofs.Ytmehfflomgldeab
set_option linter.unusedVariables false
open Go.RowKit
/-- Where the reference's rows lie. -/
structure LA where
  a1 : Option Addr
  c1 : Nat
  a2 : Option Addr
  c2 : Nat
  a3 : Option Addr
  c3 : Nat
  a4 : Option Addr
  c4 : Nat
abbrev LS.vals (s : LS) (r : LA) : Array Value := #[.int .i64 (s.lanes : Int), .int .i64 (s.depth : Int), .int .i64 (s.size : Int), .slice r.a1 s.cr.length r.c1, .slice r.a2 s.wd.length r.c2, .slice r.a3 s.fa.length r.c3, .slice r.a4 s.bk.length r.c4]
structure RL (w : World) (s : LS) (r : LA) (S : List Nat) : Prop where
  ok : s.Ok
  r1 : CellsOff w r.a1 (s.cr.map NV) S
  r2 : CellsOff w r.a2 (flatC s.wd) S
  r3 : CellsOff w r.a3 (s.fa.map NV) S
  r4 : CellsOff w r.a4 (s.bk.map (Value.int .i64)) S
  k1 : s.cr.length ≤ r.c1
  k2 : s.wd.length ≤ r.c2
  k3 : s.fa.length ≤ r.c3
  k4 : s.bk.length ≤ r.c4
theorem RL.below {w w' : World} {s : LS} {r : LA} {S : List Nat} (h : RL w s r S) (hb : Below w.heap.size w w') : RL w' s r S :=
  ⟨h.ok, h.r1.below hb, h.r2.below hb, h.r3.below hb, h.r4.below hb, h.k1, h.k2, h.k3, h.k4⟩
theorem RL.only {w w' : World} {s : LS} {r : LA} {S : List Nat} (h : RL w s r S) (ho : Only S w w') : RL w' s r S :=
  ⟨h.ok, h.r1.only ho (fun x hx => hx), h.r2.only ho (fun x hx => hx), h.r3.only ho (fun x hx => hx), h.r4.only ho (fun x hx => hx), h.k1, h.k2, h.k3, h.k4⟩
theorem ref_is (w : World) (s : LS) (r : LA) (k : Int) :
    Calls Try.prog 60 #[.agg (s.vals r), .int .i64 k] w fun e w' => e = .returned (.bool (s.is k)) ∧ Below w.heap.size w w' := by
  rcases is_cases s k with ⟨e, h1, h2⟩ | ⟨e, h1⟩ | ⟨e, h1, h2⟩
  all_goals
    rw [e]
    clear e
    unfold LS.vals
    go_enter Try.func60, Try.ntmps60
    go_wp2
    go_ret
    refine ⟨?_, by repeat' (first | (with_reducible assumption) | (with_reducible refine Below.setCell ?_ ?_ _) | (with_reducible refine below_drewN' ?_ _) | (with_reducible refine Below.drew ?_) | (with_reducible refine Below.alloc ?_ ?_ _) | (with_reducible exact Below.refl _ _) | (with_reducible exact Nat.le_refl _) | omega | (simp; done) | (simp; omega))⟩
    first
    | rfl
    | exact ret_bool (decide_eq_true h2)
    | exact ret_bool (decide_eq_false (Int.not_lt.2 h2))
theorem ref_has (w : World) (s : LS) (r : LA) (a : Option Addr) (c : Nat) (l : List Nat) (k : Int) (S : List Nat) (hr : CellsOff w a (l.map NV) S) (hl : l.length = s.lanes) :
    Calls Try.prog 22 #[.agg (s.vals r), .slice a l.length c, .int .i64 k] w fun e w' => e = .returned (.int .i64 ((if s.is k = true then l.getD k.toNat 0 else 0 : Nat) : Int)) ∧ Below w.heap.size w w' := by
  have HI := fun w => ref_is w s r k
  by_cases e : s.is k = true
  · rw [if_pos e]
    rw [e] at HI
    have hi := LS.is_iff.1 e
    obtain ⟨i, rfl⟩ := Int.eq_ofNat_of_zero_le hi.1
    have hil : i < l.length := by omega
    have hc : ∃ blk off, a = some ⟨blk, off, none⟩ ∧ w.cell? ⟨blk, off + i, none⟩ = some (.int .i64 ((l.getD i 0 : Nat) : Int)) := by
      obtain ⟨blk, off, rfl, hn, hcell⟩ := hr i (NV (l.getD i 0)) (by rw [List.getElem?_map, List.getElem?_eq_getElem hil, List.getD_eq_getElem?_getD, List.getElem?_eq_getElem hil]; rfl)
      exact ⟨blk, off, rfl, hcell⟩
    obtain ⟨blk, off, rfl, hcell⟩ := hc
    have hlt : blk < w.heap.size := World.block_lt_of_cell? w _ hcell
    have HC : Hid (∀ w', Below w.heap.size w w' → w'.cell? ⟨blk, off + i, none⟩ = some (.int .i64 ((l.getD i 0 : Nat) : Int))) := fun w' hb => (hb.cell (p := ⟨blk, off + i, none⟩) hlt).trans hcell
    rw [Int.toNat_natCast]
    generalize l.getD i 0 = y at *
    have hilI : (i : Int) < (l.length : Int) := by omega
    have HI2 := Lib.hid HI
    clear HI e hi hl hcell hr
    unfold LS.vals at *
    go_enter Try.func22, Try.ntmps22
    go_wp2_with (first
      | (go_at_call 60; ((with_reducible refine (HI2.out _).mono ?_); rintro e w1 ⟨rfl, hb1⟩; have hb1' : Below w.heap.size w w1 := (Below.trans ((Below.refl _ _).alloc (Nat.le_refl _) _) (hb1.mono (by simp))); have c0 := HC.out w1 hb1')))
    go_ret
    exact ⟨rfl, hb1'⟩
  · rw [if_neg e]
    rw [Bool.eq_false_iff.2 e] at HI
    have HI2 := Lib.hid HI
    clear HI e hr
    unfold LS.vals at *
    go_enter Try.func22, Try.ntmps22
    go_wp2_with (first
      | (go_at_call 60; ((with_reducible refine (HI2.out _).mono ?_); rintro e w1 ⟨rfl, hb1⟩; have hb1' : Below w.heap.size w w1 := (Below.trans ((Below.refl _ _).alloc (Nat.le_refl _) _) (hb1.mono (by simp))))))
    go_ret
    exact ⟨rfl, hb1'⟩
set_option maxRecDepth 100000 in
set_option maxHeartbeats 1000000 in
theorem ref_flying (w : World) (s : LS) (r : LA) (ln : Int) (S : List Nat) (h : RL w s r S) :
    Calls Try.prog 25 #[.agg (s.vals r), .int .i64 ln] w fun e w' => e = .returned (.int .i64 ((s.fly ln : Nat) : Int)) ∧ Below w.heap.size w w' := by
  have hw64 : s.wd.length ≤ 64 := Nat.le_trans h.ok.wle h.ok.s64
  have hr := h.r2
  have hcell : ∀ m, m < s.wd.length → ∃ blk off, r.a2 = some ⟨blk, off, none⟩ ∧ w.cell? ⟨blk, off + m * 2, none⟩ = some (.int .i64 (s.wd.getD m Cl.zero).lane) := fun m hm => by
    obtain ⟨blk, off, e, _, hc⟩ := hr (2 * m + 0) (.int .i64 (s.wd.getD m Cl.zero).lane) (by rw [flatC_get _ _ _ hm (by omega)]; rfl)
    exact ⟨blk, off, e, by rw [Nat.mul_comm]; exact hc⟩
  unfold LS.fly LS.vals
  have HC := Lib.hid hcell
  clear hcell hr h
  generalize s.wd = l at *
  generalize s.lanes = x0 at *
  generalize s.depth = x1 at *
  generalize s.size = x2 at *
  generalize s.cr.length = x3 at *
  generalize s.fa.length = x4 at *
  generalize s.bk.length = x5 at *
  obtain ⟨a1, c1, a2, c2, a3, c3, a4, c4⟩ := r
  dsimp only at HC
  go_enter Try.func25, Try.ntmps25
  go_wp2
  go_loopw [5, 6] (fun v i wr => ∃ m : Nat, m ≤ l.length ∧ i = .int .i64 (m : Int) ∧ v = .int .i64 ((((l.take m).map Cl.lane).count ln : Nat) : Int) ∧ wr.cell? ⟨w.heap.size, 4, none⟩ = some (.slice a2 l.length c2) ∧ Below w.heap.size w wr) (fun _ i _ => l.length - (intOf i).toNat)
  case atStart => exact ⟨0, by omega, rfl, rfl, cell_at (alloc_new _) 4, by repeat' (first | (with_reducible assumption) | (with_reducible refine Below.setCell ?_ ?_ _) | (with_reducible refine below_drewN' ?_ _) | (with_reducible refine Below.drew ?_) | (with_reducible refine Below.alloc ?_ ?_ _) | (with_reducible exact Below.refl _ _) | (with_reducible exact Nat.le_refl _) | omega | (simp; done) | (simp; omega))⟩
  case round =>
    obtain ⟨m, hm, rfl, rfl, hc4, hb⟩ := hrel
    by_cases hlm : m < l.length
    · obtain ⟨blk, off, rfl, hx0⟩ := HC.out m hlm
      have HT := Lib.hid (count_takeC (k := ln) hlm)
      have y0 := (hb.cell (p := ⟨blk, off + m * 2, none⟩) (World.block_lt_of_cell? w _ hx0)).trans hx0
      have HBB := Lib.hid hb
      clear hx0 hb
      generalize l.getD m Cl.zero = x at *
      obtain ⟨x0, x1⟩ := x
      dsimp only at y0 HT
      have hcl : ((l.take m).map Cl.lane).count ln ≤ 64 := Nat.le_trans (List.count_le_length ..) (by rw [List.length_map, List.length_take]; omega)
      generalize ((l.take m).map Cl.lane).count ln = z at *
      have hzI : (z : Int) ≤ 64 := by omega
      have hlmI : (m : Int) < (l.length : Int) := by omega
      by_cases hE : x0 = ln
      · subst hE
        rw [if_pos rfl] at HT
        go_wp2
        go_roundw
        case rel => exact ⟨m + 1, by omega, by go_num, by rw [HT.out]; go_num, hc4, HBB.out⟩
        case measure => simp [intOf] <;> omega
      · rw [if_neg hE] at HT
        go_wp2
        go_roundw
        case rel => exact ⟨m + 1, by omega, by go_num, by rw [HT.out]; rfl, hc4, HBB.out⟩
        case measure => simp [intOf] <;> omega
    · obtain rfl : m = l.length := by omega
      go_wp2
      go_ret
      exact ⟨by first | rfl | (rw [List.take_length]; rfl), hb⟩
set_option maxRecDepth 100000 in
set_option maxHeartbeats 1000000 in
theorem ref_coming (w : World) (s : LS) (r : LA) (ln : Int) (S : List Nat) (h : RL w s r S) :
    Calls Try.prog 27 #[.agg (s.vals r), .int .i64 ln] w fun e w' => e = .returned (.int .i64 ((s.com ln : Nat) : Int)) ∧ Below w.heap.size w w' := by
  have hw64 : s.bk.length ≤ 512 := Nat.le_trans h.ok.ble (Nat.le_trans (Nat.mul_le_mul h.ok.l8 h.ok.d64) (by decide))
  have hr := h.r4
  have hcell : ∀ m, m < s.bk.length → ∃ blk off, r.a4 = some ⟨blk, off, none⟩ ∧ w.cell? ⟨blk, off + m, none⟩ = some (.int .i64 (s.bk.getD m 0)) := fun m hm => by
    obtain ⟨blk, off, e, _, hc⟩ := hr m (.int .i64 (s.bk.getD m 0)) (by rw [List.getElem?_map, List.getElem?_eq_getElem hm, List.getD_eq_getElem?_getD, List.getElem?_eq_getElem hm]; rfl)
    exact ⟨blk, off, e, hc⟩
  unfold LS.com LS.vals
  have HC := Lib.hid hcell
  clear hcell hr h
  generalize s.bk = l at *
  generalize s.lanes = x0 at *
  generalize s.depth = x1 at *
  generalize s.size = x2 at *
  generalize s.cr.length = x3 at *
  generalize s.fa.length = x4 at *
  generalize s.wd.length = x5 at *
  obtain ⟨a1, c1, a2, c2, a3, c3, a4, c4⟩ := r
  dsimp only at HC
  go_enter Try.func27, Try.ntmps27
  go_wp2
  go_loopw [5, 6] (fun v i wr => ∃ m : Nat, m ≤ l.length ∧ i = .int .i64 (m : Int) ∧ v = .int .i64 (((l.take m).count ln : Nat) : Int) ∧ wr.cell? ⟨w.heap.size, 6, none⟩ = some (.slice a4 l.length c4) ∧ Below w.heap.size w wr) (fun _ i _ => l.length - (intOf i).toNat)
  case atStart => exact ⟨0, by omega, rfl, rfl, cell_at (alloc_new _) 6, by repeat' (first | (with_reducible assumption) | (with_reducible refine Below.setCell ?_ ?_ _) | (with_reducible refine below_drewN' ?_ _) | (with_reducible refine Below.drew ?_) | (with_reducible refine Below.alloc ?_ ?_ _) | (with_reducible exact Below.refl _ _) | (with_reducible exact Nat.le_refl _) | omega | (simp; done) | (simp; omega))⟩
  case round =>
    obtain ⟨m, hm, rfl, rfl, hc4, hb⟩ := hrel
    by_cases hlm : m < l.length
    · obtain ⟨blk, off, rfl, hx0⟩ := HC.out m hlm
      have HT := Lib.hid (count_take (k := ln) hlm)
      have y0 := (hb.cell (p := ⟨blk, off + m, none⟩) (World.block_lt_of_cell? w _ hx0)).trans hx0
      have HBB := Lib.hid hb
      clear hx0 hb
      generalize l.getD m 0 = x0 at *
      have hcl : (l.take m).count ln ≤ 512 := Nat.le_trans (List.count_le_length ..) (by rw [List.length_take]; omega)
      generalize (l.take m).count ln = z at *
      have hzI : (z : Int) ≤ 512 := by omega
      have hlmI : (m : Int) < (l.length : Int) := by omega
      by_cases hE : x0 = ln
      · subst hE
        rw [if_pos rfl] at HT
        go_wp2
        go_roundw
        case rel => exact ⟨m + 1, by omega, by go_num, by rw [HT.out]; go_num, hc4, HBB.out⟩
        case measure => simp [intOf] <;> omega
      · rw [if_neg hE] at HT
        go_wp2
        go_roundw
        case rel => exact ⟨m + 1, by omega, by go_num, by rw [HT.out]; rfl, hc4, HBB.out⟩
        case measure => simp [intOf] <;> omega
    · obtain rfl : m = l.length := by omega
      go_wp2
      go_ret
      exact ⟨by first | rfl | (rw [List.take_length]; rfl), hb⟩
end Go.Proofs.Ytmehfflomgldeab
