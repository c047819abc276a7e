/- A link's Flying, Coming, Sum and Idle. -/
import Derived.Test.YtmehfflomgldeabLinkD
namespace Go.Proofs.Ytmehfflomgldeab
set_option linter.unusedVariables false
open Go.RowKit
theorem count_take {l : List Int} {m : Nat} {k : Int} (h : m < l.length) : (l.take (m + 1)).count k = (l.take m).count k + if l.getD m 0 = k then 1 else 0 := by
  rw [take_snoc h, LS.count_snoc]
theorem count_takeC {l : List Cl} {m : Nat} {k : Int} (h : m < l.length) : ((l.take (m + 1)).map Cl.lane).count k = ((l.take m).map Cl.lane).count k + if (l.getD m Cl.zero).lane = k then 1 else 0 := by
  rw [takeC_snoc h, List.map_append, List.map_singleton, LS.count_snoc]
set_option maxRecDepth 100000 in
set_option maxHeartbeats 1000000 in
theorem link_flying (w : World) (b : Nat) (B : List Nat) (s : LS) (ln : Int) (h : LinkAt w b B s) :
    Calls Try.prog 24 #[.pointer (some ⟨b, 0, none⟩), .int .i64 ln] w fun e w' => e = .returned (.int .i64 ((s.flyI ln : Nat) : Int)) ∧ Below w.heap.size w w' := by
  have HI := fun w h => link_is w b B s ln h
  have hh := h
  have hw64 : s.wd.length ≤ 64 := Nat.le_trans h.ok.wle h.ok.s64
  obtain ⟨bb, bg, wb, wg, cb, fb, rb, rw, rfl, hr⟩ := h
  obtain ⟨c0, c1, c2, c3⟩ := hr.cells
  have HA := fun w h => ringC_all w wb wg rw h
  rw [hr.wq] at HA
  by_cases e : s.is ln = true
  · have e1 : s.flyI ln = (s.wd.map Cl.lane).count ln := by unfold LS.flyI LS.fly; rw [if_pos e]
    rw [e1]
    rw [e] at HI
    have HH := Lib.hid hh
    have HI2 := Lib.hid HI
    have HA2 := Lib.hid HA
    have HR := Lib.hid hr.words
    clear e1 HI HA hh hr e
    generalize s.wd = l at *
    go_enter Try.func24, Try.ntmps24
    go_wp2_with (first
      | (go_at_call 59; ((with_reducible refine (HI2.out _ HH.out).mono ?_); rintro e w' ⟨rfl, k, rfl⟩))
      | (go_at_call 61; ((with_reducible refine (HA2.out _ (HR.out.drewN _)).mono ?_); rintro e w1 ⟨a, c, rfl, hC, hb1⟩)))
    have hb1' : Below w.heap.size w w1 := Below.trans (by repeat' (first | (with_reducible assumption) | (with_reducible refine Below.setCell ?_ ?_ _) | (with_reducible refine below_drewN' ?_ _) | (with_reducible refine Below.drew ?_) | (with_reducible refine Below.alloc ?_ ?_ _) | (with_reducible exact Below.refl _ _) | (with_reducible exact Nat.le_refl _) | omega | (simp; done) | (simp; omega))) hb1
    have hs1 := hb1'.size
    have HB1 := Lib.hid hb1'
    have HCC := Lib.hid hC
    clear hb1 hb1' hC
    go_loopw [5, 17] (fun v i wr => ∃ m : Nat, m ≤ l.length ∧ i = .int .i64 (m : Int) ∧ v = .int .i64 ((((l.take m).map Cl.lane).count ln : Nat) : Int) ∧ Below w1.heap.size w1 wr) (fun _ i _ => l.length - (intOf i).toNat)
    case atStart => exact ⟨0, by omega, rfl, rfl, Below.refl _ _⟩
    case round =>
      obtain ⟨m, hm, rfl, rfl, hb⟩ := hrel
      by_cases hlm : m < l.length
      · obtain ⟨blk, rfl, hbk, hx0, hx1⟩ := HCC.out m hlm
        have HT := Lib.hid (count_takeC (k := ln) hlm)
        have hlb := World.block_lt_of_cell? w1 _ hx0
        have y0 := (hb.cell hlb).trans hx0
        have y1 := (hb.cell (World.block_lt_of_cell? w1 _ hx1)).trans hx1
        have hbs := hb.size
        have hne : blk ≠ wr.heap.size := by have : blk < w1.heap.size := hlb; omega
        have HBB := Lib.hid hb
        clear hx0 hx1 hb hlb
        generalize l.getD m Cl.zero = x at *
        obtain ⟨x0, x1⟩ := x
        dsimp only at y0 y1 HT
        have hcl : ((l.take m).map Cl.lane).count ln ≤ 64 := Nat.le_trans (List.count_le_length ..) (by rw [List.length_map, List.length_take]; omega)
        generalize ((l.take m).map Cl.lane).count ln = z at *
        have hzI : (z : Int) ≤ 64 := by omega
        by_cases hE : x0 = ln
        · subst hE
          rw [if_pos rfl] at HT
          go_wp2
          go_roundw
          case rel => exact ⟨m + 1, by omega, by go_num, by rw [HT.out]; go_num, by have := HBB.out; repeat' (first | (with_reducible assumption) | (with_reducible refine Below.setCell ?_ ?_ _) | (with_reducible refine below_drewN' ?_ _) | (with_reducible refine Below.drew ?_) | (with_reducible refine Below.alloc ?_ ?_ _) | (with_reducible exact Below.refl _ _) | (with_reducible exact Nat.le_refl _) | omega | (simp; done) | (simp; omega))⟩
          case measure => simp [intOf] <;> omega
        · rw [if_neg hE] at HT
          go_wp2
          go_roundw
          case rel => exact ⟨m + 1, by omega, by go_num, by rw [HT.out]; rfl, by have := HBB.out; repeat' (first | (with_reducible assumption) | (with_reducible refine Below.setCell ?_ ?_ _) | (with_reducible refine below_drewN' ?_ _) | (with_reducible refine Below.drew ?_) | (with_reducible refine Below.alloc ?_ ?_ _) | (with_reducible exact Below.refl _ _) | (with_reducible exact Nat.le_refl _) | omega | (simp; done) | (simp; omega))⟩
          case measure => simp [intOf] <;> omega
      · obtain rfl : m = l.length := by omega
        go_wp2
        go_ret
        refine ⟨by first | rfl | (rw [List.take_length]; rfl), ?_⟩
        have := HB1.out
        exact this.trans (hb.mono this.size)
  · have e1 : s.flyI ln = 0 := by unfold LS.flyI; rw [if_neg e]
    rw [e1]
    rw [Bool.eq_false_iff.2 e] at HI
    have HH := Lib.hid hh
    have HI2 := Lib.hid HI
    clear e e1 hr HI HA hh
    go_enter Try.func24, Try.ntmps24
    go_wp2_with (first | (go_at_call 59; ((with_reducible refine (HI2.out _ HH.out).mono ?_); rintro e w' ⟨rfl, k, rfl⟩)))
    go_ret
    exact ⟨rfl, by repeat' (first | (with_reducible assumption) | (with_reducible refine Below.setCell ?_ ?_ _) | (with_reducible refine below_drewN' ?_ _) | (with_reducible refine Below.drew ?_) | (with_reducible refine Below.alloc ?_ ?_ _) | (with_reducible exact Below.refl _ _) | (with_reducible exact Nat.le_refl _) | omega | (simp; done) | (simp; omega))⟩
set_option maxRecDepth 100000 in
set_option maxHeartbeats 1000000 in
theorem link_coming (w : World) (b : Nat) (B : List Nat) (s : LS) (ln : Int) (h : LinkAt w b B s) :
    Calls Try.prog 26 #[.pointer (some ⟨b, 0, none⟩), .int .i64 ln] w fun e w' => e = .returned (.int .i64 ((s.comI ln : Nat) : Int)) ∧ Below w.heap.size w w' := by
  have HI := fun w h => link_is w b B s ln h
  have hh := h
  have hw64 : s.bk.length ≤ 512 := Nat.le_trans h.ok.ble (Nat.le_trans (Nat.mul_le_mul h.ok.l8 h.ok.d64) (by decide))
  obtain ⟨bb, bg, wb, wg, cb, fb, rb, rw, rfl, hr⟩ := h
  obtain ⟨c0, c1, c2, c3⟩ := hr.cells
  have HA := fun w h => ring_all w bb bg rb h
  rw [hr.bq] at HA
  by_cases e : s.is ln = true
  · have e1 : s.comI ln = s.bk.count ln := by unfold LS.comI LS.com; rw [if_pos e]
    rw [e1]
    rw [e] at HI
    have HH := Lib.hid hh
    have HI2 := Lib.hid HI
    have HA2 := Lib.hid HA
    have HR := Lib.hid hr.back
    clear e1 HI HA hh hr e
    generalize s.bk = l at *
    go_enter Try.func26, Try.ntmps26
    go_wp2_with (first
      | (go_at_call 59; ((with_reducible refine (HI2.out _ HH.out).mono ?_); rintro e w' ⟨rfl, k, rfl⟩))
      | (go_at_call 62; ((with_reducible refine (HA2.out _ (HR.out.drewN _)).mono ?_); rintro e w1 ⟨a, c, rfl, hC, hb1⟩)))
    have hb1' : Below w.heap.size w w1 := Below.trans (by repeat' (first | (with_reducible assumption) | (with_reducible refine Below.setCell ?_ ?_ _) | (with_reducible refine below_drewN' ?_ _) | (with_reducible refine Below.drew ?_) | (with_reducible refine Below.alloc ?_ ?_ _) | (with_reducible exact Below.refl _ _) | (with_reducible exact Nat.le_refl _) | omega | (simp; done) | (simp; omega))) hb1
    have hs1 := hb1'.size
    have HB1 := Lib.hid hb1'
    have HCC := Lib.hid hC
    clear hb1 hb1' hC
    go_loopw [5, 18] (fun v i wr => ∃ m : Nat, m ≤ l.length ∧ i = .int .i64 (m : Int) ∧ v = .int .i64 (((l.take m).count ln : Nat) : Int) ∧ Below w1.heap.size w1 wr) (fun _ i _ => l.length - (intOf i).toNat)
    case atStart => exact ⟨0, by omega, rfl, rfl, Below.refl _ _⟩
    case round =>
      obtain ⟨m, hm, rfl, rfl, hb⟩ := hrel
      by_cases hlm : m < l.length
      · obtain ⟨blk, rfl, hbk, hx0⟩ := HCC.out m hlm
        have HT := Lib.hid (count_take (k := ln) hlm)
        have hlb := World.block_lt_of_cell? w1 _ hx0
        have y0 := (hb.cell hlb).trans hx0
        have hbs := hb.size
        have hne : blk ≠ wr.heap.size := by have : blk < w1.heap.size := hlb; omega
        have HBB := Lib.hid hb
        clear hx0 hb hlb
        generalize l.getD m 0 = x0 at *
        have hcl : (l.take m).count ln ≤ 512 := Nat.le_trans (List.count_le_length ..) (by rw [List.length_take]; omega)
        generalize (l.take m).count ln = z at *
        have hzI : (z : Int) ≤ 512 := by omega
        by_cases hE : x0 = ln
        · subst hE
          rw [if_pos rfl] at HT
          go_wp2
          go_roundw
          case rel => exact ⟨m + 1, by omega, by go_num, by rw [HT.out]; go_num, by have := HBB.out; repeat' (first | (with_reducible assumption) | (with_reducible refine Below.setCell ?_ ?_ _) | (with_reducible refine below_drewN' ?_ _) | (with_reducible refine Below.drew ?_) | (with_reducible refine Below.alloc ?_ ?_ _) | (with_reducible exact Below.refl _ _) | (with_reducible exact Nat.le_refl _) | omega | (simp; done) | (simp; omega))⟩
          case measure => simp [intOf] <;> omega
        · rw [if_neg hE] at HT
          go_wp2
          go_roundw
          case rel => exact ⟨m + 1, by omega, by go_num, by rw [HT.out]; rfl, by have := HBB.out; repeat' (first | (with_reducible assumption) | (with_reducible refine Below.setCell ?_ ?_ _) | (with_reducible refine below_drewN' ?_ _) | (with_reducible refine Below.drew ?_) | (with_reducible refine Below.alloc ?_ ?_ _) | (with_reducible exact Below.refl _ _) | (with_reducible exact Nat.le_refl _) | omega | (simp; done) | (simp; omega))⟩
          case measure => simp [intOf] <;> omega
      · obtain rfl : m = l.length := by omega
        go_wp2
        go_ret
        refine ⟨by first | rfl | (rw [List.take_length]; rfl), ?_⟩
        have := HB1.out
        exact this.trans (hb.mono this.size)
  · have e1 : s.comI ln = 0 := by unfold LS.comI; rw [if_neg e]
    rw [e1]
    rw [Bool.eq_false_iff.2 e] at HI
    have HH := Lib.hid hh
    have HI2 := Lib.hid HI
    clear e e1 hr HI HA hh
    go_enter Try.func26, Try.ntmps26
    go_wp2_with (first | (go_at_call 59; ((with_reducible refine (HI2.out _ HH.out).mono ?_); rintro e w' ⟨rfl, k, rfl⟩)))
    go_ret
    exact ⟨rfl, by repeat' (first | (with_reducible assumption) | (with_reducible refine Below.setCell ?_ ?_ _) | (with_reducible refine below_drewN' ?_ _) | (with_reducible refine Below.drew ?_) | (with_reducible refine Below.alloc ?_ ?_ _) | (with_reducible exact Below.refl _ _) | (with_reducible exact Nat.le_refl _) | omega | (simp; done) | (simp; omega))⟩
theorem crI_le {s : LS} (h : s.Ok) (k : Int) : s.crI k ≤ 64 := by
  have := h.d64
  unfold LS.crI; split
  · rename_i hi; rw [LS.is_iff] at hi; have := h.sum k.toNat (by omega); omega
  · omega
theorem faI_le {s : LS} (h : s.Ok) (k : Int) : s.faI k ≤ 64 := by
  have := h.d64
  unfold LS.faI; split
  · rename_i hi; rw [LS.is_iff] at hi; have := h.sum k.toNat (by omega); omega
  · omega
theorem flyI_le {s : LS} (h : s.Ok) (k : Int) : s.flyI k ≤ 64 := by
  have := h.d64
  unfold LS.flyI; split
  · rename_i hi; rw [LS.is_iff] at hi; have := h.sum k.toNat (by omega); rw [show ((k.toNat : Nat) : Int) = k from by omega] at this; omega
  · omega
theorem comI_le {s : LS} (h : s.Ok) (k : Int) : s.comI k ≤ 64 := by
  have := h.d64
  unfold LS.comI; split
  · rename_i hi; rw [LS.is_iff] at hi; have := h.sum k.toNat (by omega); rw [show ((k.toNat : Nat) : Int) = k from by omega] at this; omega
  · omega
theorem link_sum (w : World) (b : Nat) (B : List Nat) (s : LS) (ln : Int) (h : LinkAt w b B s) :
    Calls Try.prog 30 #[.pointer (some ⟨b, 0, none⟩), .int .i64 ln] w fun e w' => e = .returned (.int .i64 ((s.crI ln + s.flyI ln + s.faI ln + s.comI ln : Nat) : Int)) ∧ Below w.heap.size w w' := by
  have h1 := crI_le h.ok ln
  have h2 := flyI_le h.ok ln
  have h3 := faI_le h.ok ln
  have h4 := comI_le h.ok ln
  have H1 := Lib.hid (fun w h => link_credits w b B s ln h)
  have H2 := Lib.hid (fun w h => link_flying w b B s ln h)
  have H3 := Lib.hid (fun w h => link_far w b B s ln h)
  have H4 := Lib.hid (fun w h => link_coming w b B s ln h)
  have HH := Lib.hid h
  clear h
  generalize s.crI ln = n1 at *
  generalize s.flyI ln = n2 at *
  generalize s.faI ln = n3 at *
  generalize s.comI ln = n4 at *
  have i1 : (n1 : Int) ≤ 64 := by omega
  have i2 : (n2 : Int) ≤ 64 := by omega
  have i3 : (n3 : Int) ≤ 64 := by omega
  have i4 : (n4 : Int) ≤ 64 := by omega
  go_enter Try.func30, Try.ntmps30
  go_wp2_with (first
    | (go_at_call 21; ((with_reducible refine (H1.out _ HH.out).mono ?_); rintro e w' ⟨rfl, k, rfl⟩))
    | (go_at_call 24; ((with_reducible refine (H2.out _ (HH.out.drewN _)).mono ?_); rintro e w1 ⟨rfl, hb1⟩; have HL1 := Lib.hid ((HH.out.drewN _).below hb1)))
    | (go_at_call 23; ((with_reducible refine (H3.out _ HL1.out).mono ?_); rintro e w' ⟨rfl, k, rfl⟩))
    | (go_at_call 26; ((with_reducible refine (H4.out _ (HL1.out.drewN _)).mono ?_); rintro e w2 ⟨rfl, hb2⟩)))
  go_ret
  have hb1' : Below w.heap.size w w1 := Below.trans (by repeat' (first | (with_reducible assumption) | (with_reducible refine Below.setCell ?_ ?_ _) | (with_reducible refine below_drewN' ?_ _) | (with_reducible refine Below.drew ?_) | (with_reducible refine Below.alloc ?_ ?_ _) | (with_reducible exact Below.refl _ _) | (with_reducible exact Nat.le_refl _) | omega | (simp; done) | (simp; omega))) hb1
  have hs1 := hb1'.size
  refine ⟨ret_int (by omega), Below.trans ?_ (hb2.mono (by simp; omega))⟩
  repeat' (first | (with_reducible assumption) | (with_reducible refine Below.setCell ?_ ?_ _) | (with_reducible refine below_drewN' ?_ _) | (with_reducible refine Below.drew ?_) | (with_reducible refine Below.alloc ?_ ?_ _) | (with_reducible exact Below.refl _ _) | (with_reducible exact Nat.le_refl _) | omega | (simp; done) | (simp; omega))
theorem sum_take {l : List Nat} {m : Nat} (h : m < l.length) : (l.take (m + 1)).sum = (l.take m).sum + l.getD m 0 := by
  rw [List.take_succ_eq_append_getElem h, List.sum_append, List.getD_eq_getElem?_getD, List.getElem?_eq_getElem h]; simp
theorem sum_le {l : List Nat} {d : Nat} : (∀ i, i < l.length → l.getD i 0 ≤ d) → l.sum ≤ l.length * d := by
  induction l with
  | nil => intro _; simp
  | cons a l ih =>
    intro h
    have h0 := h 0 (by simp)
    have := ih (fun i hi => by have := h (i + 1) (by simp; omega); simpa using this)
    simp only [List.sum_cons, List.length_cons, Nat.succ_mul]
    simp at h0
    omega
set_option maxRecDepth 100000 in
set_option maxHeartbeats 1000000 in
theorem link_idle (w : World) (b : Nat) (B : List Nat) (s : LS) (h : LinkAt w b B s) :
    Calls Try.prog 34 #[.pointer (some ⟨b, 0, none⟩)] w fun e w' => e = .returned (.bool s.idle) ∧ Below w.heap.size w w' := by
  have hw64 : s.wd.length ≤ 64 := Nat.le_trans h.ok.wle h.ok.s64
  have hb512 : s.bk.length ≤ 512 := Nat.le_trans h.ok.ble (Nat.le_trans (Nat.mul_le_mul h.ok.l8 h.ok.d64) (by decide))
  have hfa : ∀ i, i < s.fa.length → s.fa.getD i 0 ≤ 64 := fun i hi => by have := h.ok.sum i (by rw [← h.ok.fal]; exact hi); have := h.ok.d64; omega
  have hfal := h.ok.fal
  have hl8 := h.ok.l8
  obtain ⟨bb, bg, wb, wg, cb, fb, rb, rw, rfl, hr⟩ := h
  obtain ⟨c0, c1, c2, c3⟩ := hr.cells
  have H1 := fun w h => ringC_len w wb wg rw h
  have H2 := fun w h => ring_len w bb bg rb h
  rw [hr.wq] at H1
  rw [hr.bq] at H2
  have e1 : s.idle = decide (s.wd.length + s.bk.length + s.fa.sum = 0) := rfl
  rw [e1]
  have hcf : ∀ i, i < s.fa.length → w.cell? ⟨fb, i, none⟩ = some (.int .i64 ((s.fa.getD i 0 : Nat) : Int)) := fun i hi => nat_cell hr.fas hi
  rw [← hfal] at c2 c3
  have HW := Lib.hid hr.words
  have HB := Lib.hid hr.back
  have HC := Lib.hid hcf
  have HF := Lib.hid hfa
  have HL := Lib.hid hfal
  have H1' := Lib.hid H1
  have H2' := Lib.hid H2
  rw [← hfal] at hl8
  clear hr hcf hfa hfal e1 H1 H2
  generalize s.wd.length = n1 at *
  generalize s.bk.length = n2 at *
  generalize s.fa = l at *
  have i1 : (n1 : Int) ≤ 64 := by omega
  have i2 : (n2 : Int) ≤ 512 := by omega
  go_enter Try.func34, Try.ntmps34
  go_wp2
  go_quiet (first
    | (go_at_call 67; refine (H1'.out _ (by first | exact HW.out | exact HW.out.drewN _)).mono ?_; rintro e w1 ⟨rfl, k, rfl⟩; exact ⟨rfl, by first | exact drew_close2 | exact drew_close0 | exact drew_close⟩)
    | (go_at_call 68; refine (H2'.out _ (by first | exact HB.out | exact HB.out.drewN _)).mono ?_; rintro e w1 ⟨rfl, k, rfl⟩; exact ⟨rfl, by first | exact drew_close2 | exact drew_close0 | exact drew_close⟩))
  go_wp2
  go_loopw [3, 25] (fun v i wr => ∃ m : Nat, m ≤ l.length ∧ i = .int .i64 (m : Int) ∧ v = .int .i64 ((n1 + n2 + (l.take m).sum : Nat) : Int) ∧ Below w.heap.size w wr) (fun _ i _ => l.length - (intOf i).toNat)
  case atStart => exact ⟨0, by omega, rfl, by simp, by repeat' (first | (with_reducible assumption) | (with_reducible refine Below.setCell ?_ ?_ _) | (with_reducible refine below_drewN' ?_ _) | (with_reducible refine Below.drew ?_) | (with_reducible refine Below.alloc ?_ ?_ _) | (with_reducible exact Below.refl _ _) | (with_reducible exact Nat.le_refl _) | omega | (simp; done) | (simp; omega))⟩
  case round =>
    obtain ⟨m, hm, rfl, rfl, hb⟩ := hrel
    by_cases hlm : m < l.length
    · have hcx := HC.out m hlm
      have hx := (hb.cell (World.block_lt_of_cell? w _ hcx)).trans hcx
      have HT := Lib.hid (sum_take hlm)
      have hx64 := HF.out m hlm
      have hle : (l.take m).sum ≤ 512 := Nat.le_trans (sum_le (d := 64) (fun i hi => by
        have hi' : i < m := by rw [List.length_take] at hi; omega
        have := HF.out i (by omega)
        rw [List.getD_eq_getElem?_getD, List.getElem?_take, if_pos hi', ← List.getD_eq_getElem?_getD]
        exact this)) (by rw [List.length_take]; omega)
      have HBB := Lib.hid hb
      clear hcx hb
      generalize l.getD m 0 = x at *
      generalize (l.take m).sum = z at *
      have i3 : (x : Int) ≤ 64 := by omega
      have i4 : (z : Int) ≤ 512 := by omega
      have hlmI : (m : Int) < (l.length : Int) := by omega
      go_wp2
      go_roundw
      case rel => exact ⟨m + 1, by omega, by go_num, by rw [HT.out]; go_num, HBB.out⟩
      case measure => simp [intOf] <;> omega
    · obtain rfl : m = l.length := by omega
      go_wp2
      go_ret
      have ht : (l.take l.length).sum = l.sum := by rw [List.take_length]
      exact ⟨ret_bool (by rw [Bool.eq_iff_iff, decide_eq_true_iff, beq_iff_eq]; omega), hb⟩
end Go.Proofs.Ytmehfflomgldeab
