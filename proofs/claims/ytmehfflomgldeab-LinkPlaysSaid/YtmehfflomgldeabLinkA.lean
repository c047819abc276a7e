/- A link in memory, and what those of its methods answer that only look: is, Credits, Far, May. -/
import Derived.Test.YtmehfflomgldeabLinkMath
import Derived.Test.YtmehfflomgldeabRCellE
namespace Go.Proofs.Ytmehfflomgldeab
set_option linter.unusedVariables false
open Go.RowKit

abbrev NV (n : Nat) : Value := .int .i64 (n : Int)
/-- A link in memory, by its blocks. -/
structure LinkRaw (w : World) (b bb bg wb wg cb fb : Nat) (s : LS) (rb : RS Int) (rw : RS Cl) : Prop where
  ok : s.Ok
  obj : w.heap[b]? = some (.cells #[.pointer (some ⟨bb, 0, none⟩), .pointer (some ⟨wb, 0, none⟩), .slice (some ⟨cb, 0, none⟩) s.lanes s.lanes, .slice (some ⟨fb, 0, none⟩) s.lanes s.lanes] 102 (0, 0))
  crs : w.heap[cb]? = some (.cells (s.cr.map NV).toArray 3 (0, 0))
  fas : w.heap[fb]? = some (.cells (s.fa.map NV).toArray 3 (0, 0))
  back : RingAt w bb bg rb
  bq : rb.q = s.bk
  bl : rb.ld = none
  bn : rb.n = s.lanes * s.depth
  words : RingC w wb wg rw
  wq : rw.q = s.wd
  wl : rw.ld = none
  wn : rw.n = s.size
  nd : [b, bb, bg, wb, wg, cb, fb].Nodup
theorem nodup7 {b bb bg wb wg cb fb : Nat} (h : [b, bb, bg, wb, wg, cb, fb].Nodup) : b ≠ bb ∧ b ≠ bg ∧ b ≠ wb ∧ b ≠ wg ∧ b ≠ cb ∧ b ≠ fb ∧ bb ≠ bg ∧ bb ≠ wb ∧ bb ≠ wg ∧ bb ≠ cb ∧ bb ≠ fb ∧ bg ≠ wb ∧ bg ≠ wg ∧ bg ≠ cb ∧ bg ≠ fb ∧ wb ≠ wg ∧ wb ≠ cb ∧ wb ≠ fb ∧ wg ≠ cb ∧ wg ≠ fb ∧ cb ≠ fb := by
  simp only [List.nodup_cons, List.mem_cons, List.not_mem_nil, or_false, not_or, List.nodup_nil, and_true, not_false_eq_true] at h
  obtain ⟨⟨h1, h2, h3, h4, h5, h6⟩, ⟨h7, h8, h9, h10, h11⟩, ⟨h12, h13, h14, h15⟩, ⟨h16, h17, h18⟩, ⟨h19, h20⟩, h21⟩ := h
  exact ⟨h1, h2, h3, h4, h5, h6, h7, h8, h9, h10, h11, h12, h13, h14, h15, h16, h17, h18, h19, h20, h21⟩
theorem off2 {k x y : Nat} (h1 : k ≠ x) (h2 : k ≠ y) : k ∉ [x, y] := by simp [h1, h2]
def LinkAt (w : World) (b : Nat) (B : List Nat) (s : LS) : Prop := ∃ bb bg wb wg cb fb rb rw, B = [b, bb, bg, wb, wg, cb, fb] ∧ LinkRaw w b bb bg wb wg cb fb s rb rw
theorem LinkRaw.only {w w' : World} {b bb bg wb wg cb fb : Nat} {s : LS} {rb : RS Int} {rw : RS Cl} {S : List Nat} (h : LinkRaw w b bb bg wb wg cb fb s rb rw) (ho : Only S w w') (hS : ∀ k ∈ [b, bb, bg, wb, wg, cb, fb], k ∉ S) : LinkRaw w' b bb bg wb wg cb fb s rb rw :=
  ⟨h.ok, ho.at h.obj (hS _ (by simp)), ho.at h.crs (hS _ (by simp)), ho.at h.fas (hS _ (by simp)), h.back.only ho (hS _ (by simp)) (hS _ (by simp)), h.bq, h.bl, h.bn, h.words.only ho (hS _ (by simp)) (hS _ (by simp)), h.wq, h.wl, h.wn, h.nd⟩
theorem LinkRaw.lt {w : World} {b bb bg wb wg cb fb : Nat} {s : LS} {rb : RS Int} {rw : RS Cl} (h : LinkRaw w b bb bg wb wg cb fb s rb rw) : ∀ k ∈ [b, bb, bg, wb, wg, cb, fb], k < w.heap.size := fun k hk => by
  simp only [List.mem_cons, List.not_mem_nil, or_false] at hk
  rcases hk with rfl | rfl | rfl | rfl | rfl | rfl | rfl
  · exact block_lt h.obj
  · exact h.back.lt.1
  · exact h.back.lt.2
  · exact h.words.lt.1
  · exact h.words.lt.2
  · exact block_lt h.crs
  · exact block_lt h.fas
theorem LinkAt.ok {w : World} {b : Nat} {B : List Nat} {s : LS} (h : LinkAt w b B s) : s.Ok := by obtain ⟨_, _, _, _, _, _, _, _, _, h⟩ := h; exact h.ok
theorem LinkAt.lt {w : World} {b : Nat} {B : List Nat} {s : LS} (h : LinkAt w b B s) : ∀ k ∈ B, k < w.heap.size := by obtain ⟨_, _, _, _, _, _, _, _, rfl, h⟩ := h; exact h.lt
theorem LinkAt.mem {w : World} {b : Nat} {B : List Nat} {s : LS} (h : LinkAt w b B s) : b ∈ B := by obtain ⟨_, _, _, _, _, _, _, _, rfl, h⟩ := h; simp
theorem LinkAt.only {w w' : World} {b : Nat} {B S : List Nat} {s : LS} (h : LinkAt w b B s) (ho : Only S w w') (hS : ∀ k ∈ B, k ∉ S) : LinkAt w' b B s := by
  obtain ⟨bb, bg, wb, wg, cb, fb, rb, rw, rfl, h⟩ := h
  exact ⟨bb, bg, wb, wg, cb, fb, rb, rw, rfl, h.only ho hS⟩
theorem LinkAt.below {w w' : World} {b : Nat} {B : List Nat} {s : LS} (h : LinkAt w b B s) (hb : Below w.heap.size w w') : LinkAt w' b B s :=
  h.only (S := []) (Only.ofBelow hb _) (fun k _ => by simp)
theorem LinkAt.drewN {w : World} {b : Nat} {B : List Nat} {s : LS} (h : LinkAt w b B s) (n : Nat) : LinkAt (w.drewN n) b B s := h.only (S := []) ((Only.refl _ _).drewN n) (fun k _ => by simp)
theorem LinkAt.alloc {w : World} {b : Nat} {B : List Nat} {s : LS} (h : LinkAt w b B s) (o : Obj) : LinkAt (w.alloc o) b B s := h.only (S := []) ((Only.refl _ _).alloc o) (fun k _ => by simp)
theorem LinkRaw.cells {w : World} {b bb bg wb wg cb fb : Nat} {s : LS} {rb : RS Int} {rw : RS Cl} (h : LinkRaw w b bb bg wb wg cb fb s rb rw) :
    w.cell? ⟨b, 0, none⟩ = some (.pointer (some ⟨bb, 0, none⟩)) ∧ w.cell? ⟨b, 1, none⟩ = some (.pointer (some ⟨wb, 0, none⟩)) ∧ w.cell? ⟨b, 2, none⟩ = some (.slice (some ⟨cb, 0, none⟩) s.lanes s.lanes) ∧ w.cell? ⟨b, 3, none⟩ = some (.slice (some ⟨fb, 0, none⟩) s.lanes s.lanes) :=
  ⟨cell_at h.obj 0, cell_at h.obj 1, cell_at h.obj 2, cell_at h.obj 3⟩
theorem nat_cell {w : World} {c i : Nat} {l : List Nat} {T : TypeId} (h : w.heap[c]? = some (.cells (l.map NV).toArray T (0, 0))) (hi : i < l.length) : w.cell? ⟨c, i, none⟩ = some (.int .i64 ((l.getD i 0 : Nat) : Int)) := by
  rw [cell_at h, List.getElem?_toArray, List.getElem?_map, List.getElem?_eq_getElem hi, List.getD_eq_getElem?_getD, List.getElem?_eq_getElem hi]
  rfl
theorem nat_set {w : World} {c i : Nat} {l : List Nat} {T : TypeId} (h : w.heap[c]? = some (.cells (l.map NV).toArray T (0, 0))) (v : Nat) : (w.setCell ⟨c, i, none⟩ (.int .i64 (v : Int))).heap[c]? = some (.cells ((l.set i v).map NV).toArray T (0, 0)) := by
  rw [set_at h]
  congr 2
  apply Array.ext'
  rw [Array.toList_setIfInBounds, List.map_set]
theorem is_cases (s : LS) (k : Int) : (s.is k = true ∧ 0 ≤ k ∧ k < s.lanes) ∨ (s.is k = false ∧ k < 0) ∨ (s.is k = false ∧ 0 ≤ k ∧ (s.lanes : Int) ≤ k) := by
  by_cases h : s.is k = true
  · exact .inl ⟨h, LS.is_iff.1 h⟩
  · have h' := Bool.eq_false_iff.2 h
    rw [LS.is_iff] at h
    by_cases h0 : k < 0
    · exact .inr (.inl ⟨h', h0⟩)
    · exact .inr (.inr ⟨h', by omega, by omega⟩)
theorem link_is (w : World) (b : Nat) (B : List Nat) (s : LS) (k : Int) (h : LinkAt w b B s) :
    Calls Try.prog 59 #[.pointer (some ⟨b, 0, none⟩), .int .i64 k] w fun e w' => e = .returned (.bool (s.is k)) ∧ ∃ n, w' = w.drewN n := by
  obtain ⟨bb, bg, wb, wg, cb, fb, rb, rw, rfl, hr⟩ := h
  obtain ⟨c0, c1, c2, c3⟩ := hr.cells
  rcases is_cases s k with ⟨e, h1, h2⟩ | ⟨e, h1⟩ | ⟨e, h1, h2⟩
  all_goals
    rw [e]
    clear e hr
    generalize s.lanes = n at *
    go_enter Try.func59, Try.ntmps59
    go_wp2
    go_ret
    refine ⟨?_, 0, rfl⟩
    first
    | rfl
    | exact ret_bool (decide_eq_true h2)
    | exact ret_bool (decide_eq_false (Int.not_lt.2 h2))
theorem link_credits (w : World) (b : Nat) (B : List Nat) (s : LS) (k : Int) (h : LinkAt w b B s) :
    Calls Try.prog 21 #[.pointer (some ⟨b, 0, none⟩), .int .i64 k] w fun e w' => e = .returned (.int .i64 ((s.crI k : Nat) : Int)) ∧ ∃ n, w' = w.drewN n := by
  have HI := fun w h => link_is w b B s k h
  have hh := h
  obtain ⟨bb, bg, wb, wg, cb, fb, rb, rw, rfl, hr⟩ := h
  obtain ⟨c0, c1, c2, c3⟩ := hr.cells
  by_cases e : s.is k = true
  · have e1 : s.crI k = s.cr.getD k.toNat 0 := by unfold LS.crI; rw [if_pos e]
    have hi := LS.is_iff.1 e
    obtain ⟨i, rfl⟩ := Int.eq_ofNat_of_zero_le hi.1
    have hcl := hr.ok.crl
    have hc := nat_cell (i := i) hr.crs (by omega)
    rw [Int.toNat_natCast] at e1
    rw [e1]
    have hl2 : (i : Int) < s.lanes := by omega
    rw [e] at HI
    clear e e1 hr hi hcl
    generalize s.cr.getD i 0 = y at *
    have HI2 := Lib.hid HI
    have HH := Lib.hid hh
    clear HI hh
    go_enter Try.func21, Try.ntmps21
    go_wp2_with (first | (go_at_call 59; ((with_reducible refine (HI2.out _ HH.out).mono ?_); rintro e w' ⟨rfl, k, rfl⟩)))
    go_ret
    exact ⟨rfl, _, rfl⟩
  · have e1 : s.crI k = 0 := by unfold LS.crI; rw [if_neg e]
    rw [e1]
    rw [Bool.eq_false_iff.2 e] at HI
    clear e e1 hr
    have HI2 := Lib.hid HI
    have HH := Lib.hid hh
    clear HI hh
    go_enter Try.func21, Try.ntmps21
    go_wp2_with (first | (go_at_call 59; ((with_reducible refine (HI2.out _ HH.out).mono ?_); rintro e w' ⟨rfl, k, rfl⟩)))
    go_ret
    exact ⟨rfl, _, rfl⟩
theorem link_far (w : World) (b : Nat) (B : List Nat) (s : LS) (k : Int) (h : LinkAt w b B s) :
    Calls Try.prog 23 #[.pointer (some ⟨b, 0, none⟩), .int .i64 k] w fun e w' => e = .returned (.int .i64 ((s.faI k : Nat) : Int)) ∧ ∃ n, w' = w.drewN n := by
  have HI := fun w h => link_is w b B s k h
  have hh := h
  obtain ⟨bb, bg, wb, wg, cb, fb, rb, rw, rfl, hr⟩ := h
  obtain ⟨c0, c1, c2, c3⟩ := hr.cells
  by_cases e : s.is k = true
  · have e1 : s.faI k = s.fa.getD k.toNat 0 := by unfold LS.faI; rw [if_pos e]
    have hi := LS.is_iff.1 e
    obtain ⟨i, rfl⟩ := Int.eq_ofNat_of_zero_le hi.1
    have hcl := hr.ok.fal
    have hc := nat_cell (i := i) hr.fas (by omega)
    rw [Int.toNat_natCast] at e1
    rw [e1]
    have hl2 : (i : Int) < s.lanes := by omega
    rw [e] at HI
    clear e e1 hr hi hcl
    generalize s.fa.getD i 0 = y at *
    have HI2 := Lib.hid HI
    have HH := Lib.hid hh
    clear HI hh
    go_enter Try.func23, Try.ntmps23
    go_wp2_with (first | (go_at_call 59; ((with_reducible refine (HI2.out _ HH.out).mono ?_); rintro e w' ⟨rfl, k, rfl⟩)))
    go_ret
    exact ⟨rfl, _, rfl⟩
  · have e1 : s.faI k = 0 := by unfold LS.faI; rw [if_neg e]
    rw [e1]
    rw [Bool.eq_false_iff.2 e] at HI
    clear e e1 hr
    have HI2 := Lib.hid HI
    have HH := Lib.hid hh
    clear HI hh
    go_enter Try.func23, Try.ntmps23
    go_wp2_with (first | (go_at_call 59; ((with_reducible refine (HI2.out _ HH.out).mono ?_); rintro e w' ⟨rfl, k, rfl⟩)))
    go_ret
    exact ⟨rfl, _, rfl⟩
end Go.Proofs.Ytmehfflomgldeab
