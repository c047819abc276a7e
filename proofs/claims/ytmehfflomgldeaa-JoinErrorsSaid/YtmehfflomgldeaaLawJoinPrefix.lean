/- The walk of JoinPrefix. -/
import Derived.Test.YtmehfflomgldeaaJoinF
import Derived.Test.YtmehfflomgldeaaRefFlitG
namespace Go.Proofs.Ytmehfflomgldeaa
set_option linter.unusedVariables false
set_option linter.unusedSimpArgs false
open Go.RowKit BM
theorem read_kind {x : Nat} (h : (readF x).2 = 0) : (readF x).1.kind = ((x % 4 : Nat) : Int) := by
  unfold readF at h ⊢
  split at h
  · split at h
    · rename_i h1 h2
      rw [if_pos h1, if_pos h2, look_kind]
      simp [getN]
    · simp at h
  · simp at h
/-- What a word that isn't refused tells. -/
theorem take_told {j : JS} {x : Nat} (h : (j.take x).2.2.2 = 0) : (j.take x).2.2.1 = decide (x % 4 = 3) ∧ (j.take x).1.is = !decide (x % 4 = 3) := by
  have hk := read_kind (x := x)
  unfold JS.take at h ⊢
  generalize readF x = r at *
  obtain ⟨f, e⟩ := r
  dsimp only at *
  unfold JS.takeF at h ⊢
  by_cases he : e ≠ 0
  · rw [if_pos he] at h; exact absurd h he
  have hk := hk (by simpa using he)
  rw [if_neg he] at h ⊢
  by_cases h1 : decide (f.kind = 1) = j.is
  · rw [if_pos h1] at h; simp at h
  rw [if_neg h1] at h ⊢
  by_cases h2 : f.kind = 1
  · have h3 : ¬ x % 4 = 3 := by omega
    rw [if_pos h2]; simp [h3]
  rw [if_neg h2] at h ⊢
  have hi : j.is = true := by simp [h2] at h1; exact h1
  by_cases h3 : f.kind = 3
  · have h4 : x % 4 = 3 := by omega
    rw [if_pos h3] at h ⊢
    split
    · simp [h4, JS.zero]
    · rename_i h5; rw [if_neg h5] at h; simp at h
  · have h4 : ¬ x % 4 = 3 := by omega
    rw [if_neg h3] at h ⊢
    split
    · rename_i h5; rw [if_pos h5] at h; simp at h
    · simp [h4, hi]
theorem run_prefix {j j2 : JS} {a b : List Nat} {ps : List Pk} (h : j.run (a ++ b) = some (j2, ps)) : ∃ j1 qs, j.run a = some (j1, ps.take qs) ∧ qs ≤ ps.length := by
  induction a generalizing j ps with
  | nil => exact ⟨j, 0, by simp [JS.run], by omega⟩
  | cons x a ih =>
    rw [List.cons_append, run_cons] at h
    rw [run_cons]
    by_cases hx : (j.take x).2.2.2 ≠ 0
    · rw [if_pos hx] at h; simp at h
    · rw [if_neg hx] at h ⊢
      cases hr : (j.take x).1.run (a ++ b) with
      | none => rw [hr] at h; simp at h
      | some y =>
        obtain ⟨j3, qs⟩ := y
        rw [hr] at h
        simp only [Option.some.injEq, Prod.mk.injEq] at h
        obtain ⟨rfl, rfl⟩ := h
        obtain ⟨j1, n, h1, h2⟩ := ih hr
        rw [h1]
        dsimp only
        by_cases ht : (j.take x).2.2.1 = true
        · rw [if_pos ht, if_pos ht]; exact ⟨j1, n + 1, by simp, by simp; omega⟩
        · rw [if_neg ht, if_neg ht]; exact ⟨j1, n, rfl, h2⟩
/-- Behind m words: none was refused, n packets were told. -/
structure RunAt (l : List Nat) (m : Nat) (j : JS) (n : Nat) : Prop where
  ok : j.Ok
  run : ∃ ps, JS.zero.run (l.take m) = some (j, ps) ∧ ps.length = n
  is : m ≠ 0 → j.is = !decide (l.getD (m - 1) 0 % 4 = 3)
  z : m = 0 → j.is = false
  le : n ≤ m
theorem RunAt.next {l : List Nat} {m n : Nat} {j j2 : JS} {ps : List Pk} (h : RunAt l m j n) (hm : m < l.length) (hr : JS.zero.run l = some (j2, ps)) :
    (j.take (l.getD m 0)).2.2.2 = 0 ∧ RunAt l (m + 1) (j.take (l.getD m 0)).1 (if l.getD m 0 % 4 = 3 then n + 1 else n) := by
  obtain ⟨qs, h1, h2⟩ := h.run
  have hs : l.take (m + 1) = l.take m ++ [l.getD m 0] := by
    rw [List.getD_eq_getElem?_getD, List.getElem?_eq_getElem hm, List.take_add_one, List.getElem?_eq_getElem hm]; rfl
  have hp : ∃ j1 q, JS.zero.run (l.take (m + 1)) = some (j1, ps.take q) ∧ q ≤ ps.length := by
    refine run_prefix (b := l.drop (m + 1)) (j2 := j2) ?_
    rw [List.take_append_drop]; exact hr
  obtain ⟨j1, q, h3, h4⟩ := hp
  rw [hs, run_append h1] at h3
  have hg : l.getD (m + 1 - 1) 0 = l.getD m 0 := rfl
  have hle := h.le
  have hok := h.ok
  clear h
  suffices hS : ∀ x, l.getD m 0 = x → (j.take x).2.2.2 = 0 ∧ RunAt l (m + 1) (j.take x).1 (if x % 4 = 3 then n + 1 else n) from hS _ rfl
  intro x hx0
  rw [hx0] at hs h3 hg
  have h5 : (j.take x).2.2.2 = 0 := by
    by_cases hx : (j.take x).2.2.2 = 0
    · exact hx
    · rw [run_cons, if_pos hx] at h3; simp at h3
  obtain ⟨t1, t2⟩ := take_told h5
  refine ⟨h5, hok.take _, ?_, fun _ => by rw [hg]; exact t2, fun e => by omega, by split <;> omega⟩
  rw [hs, run_append h1, run_cons, if_neg (by simp [h5])]
  refine ⟨_, rfl, ?_⟩
  rw [t1]
  by_cases h6 : x % 4 = 3
  · simp [h6, h2, JS.run]
  · simp [h6, h2, JS.run]
theorem RunAt.fin {l : List Nat} {m n : Nat} {j j2 : JS} {ps : List Pk} (h : RunAt l m j n) (hr : JS.zero.run l = some (j2, ps)) : n ≤ ps.length ∧ JS.zero.allFrom (l.take m) = (ps.take n, (l.take m).length) := by
  obtain ⟨qs, h1, h2⟩ := h.run
  have hp : ∃ j1 q, JS.zero.run (l.take m) = some (j1, ps.take q) ∧ q ≤ ps.length := by
    refine run_prefix (b := l.drop m) (j2 := j2) ?_
    rw [List.take_append_drop]; exact hr
  obtain ⟨j1, q, h3, h4⟩ := hp
  rw [h1] at h3
  simp only [Option.some.injEq, Prod.mk.injEq] at h3
  obtain ⟨rfl, rfl⟩ := h3
  rw [List.length_take, Nat.min_eq_left h4] at h2
  subst h2
  exact ⟨h4, all_of_run h1⟩
theorem runAt_all {l : List Nat} {j2 : JS} {ps : List Pk} (hr : JS.zero.run l = some (j2, ps)) : ∀ m, m ≤ l.length → ∃ j n, RunAt l m j n
  | 0, _ => ⟨JS.zero, 0, ⟨JS.zero_ok, ⟨[], rfl, rfl⟩, fun h => absurd rfl h, fun _ => rfl, by omega⟩⟩
  | m + 1, hm => by
    obtain ⟨j, n, h⟩ := runAt_all hr m (by omega)
    exact ⟨_, _, (h.next (by omega) hr).2⟩
theorem runAt_uniq {l : List Nat} {m n n2 : Nat} {j j2 : JS} (h : RunAt l m j n) (h2 : RunAt l m j2 n2) : j = j2 ∧ n = n2 := by
  obtain ⟨q, h3, h4⟩ := h.run
  obtain ⟨q2, h5, h6⟩ := h2.run
  rw [h3] at h5
  simp only [Option.some.injEq, Prod.mk.injEq] at h5
  obtain ⟨rfl, rfl⟩ := h5
  exact ⟨rfl, by omega⟩
theorem ParcelsAt.below {w w' : World} {a : Option Addr} {l : List PaM} (h : ParcelsAt w a l) (hb : Below w.heap.size w w') : ParcelsAt w' a l := fun i hi => by
  obtain ⟨blk, off, p, hp, rfl, c0, c1, c2, c3, hH⟩ := h i hi
  have hlt : blk < w.heap.size := World.block_lt_of_cell? w _ c0
  exact ⟨blk, off, p, hp, rfl, (hb.cell (p := ⟨blk, _, none⟩) hlt).trans c0, (hb.cell (p := ⟨blk, _, none⟩) hlt).trans c1, (hb.cell (p := ⟨blk, _, none⟩) hlt).trans c2, (hb.cell (p := ⟨blk, _, none⟩) hlt).trans c3, hH.below hb⟩
set_option maxRecDepth 100000 in
set_option maxHeartbeats 2000000 in
theorem joinPrefix_walk (l : List PaM) (a : Option Addr) (c : Nat) (at_ : Int) (w : World) (hl : l.length ≤ maxLen) (h : ParcelsAt w a l) :
    Calls Try.prog 11 #[.slice a l.length c, .int .i64 at_] w fun e w' => e = .returned (.bool true) ∧ Below w.heap.size w w' := by
  have hW := fun w' hb => law11_words l a c w' hl (h.below (w' := w') hb)
  have hwl := wordsL_len ((l.map PaM.pa).take 8)
  have hl8 : ((l.map PaM.pa).take 8).length ≤ 8 := by rw [List.length_take]; omega
  have hR := run_words ((l.map PaM.pa).take 8)
  have hlt := words_ltL (l := (l.map PaM.pa).take 8)
  have hwl1 : (wordsL ((l.map PaM.pa).take 8)).length ≤ 160 := by omega
  have hpl1 : (packetsL ((l.map PaM.pa).take 8)).length ≤ 8 := by omega
  clear hwl hl8 h
  generalize wordsL ((l.map PaM.pa).take 8) = wl at *
  generalize packetsL ((l.map PaM.pa).take 8) = pl at *
  have HW := Lib.hid hW
  have HL := Lib.hid (fun w => lives11_calls w)
  clear hW
  have HR := Lib.hid hR
  have HLT := Lib.hid hlt
  clear hR hlt
  obtain ⟨k, hk, hkl⟩ : ∃ k : Nat, wrap64 ((IntKind.u64.wrap at_).tmod ((wl.length : Int) + 1)) = (k : Int) ∧ k ≤ wl.length := by
    have h : IntKind.u64.wrap at_ = at_ % 18446744073709551616 := by simp [IntKind.wrap, IntKind.bits, IntKind.signed]
    rw [h, Int.tmod_eq_emod_of_nonneg (by omega)]
    have h1 := Int.emod_nonneg (at_ % 18446744073709551616) (b := (wl.length : Int) + 1) (by omega)
    have h2 := Int.emod_lt_of_pos (at_ % 18446744073709551616) (b := (wl.length : Int) + 1) (by omega)
    refine ⟨(at_ % 18446744073709551616 % ((wl.length : Int) + 1)).toNat, ?_⟩
    unfold wrap64
    omega
  obtain ⟨jk, nk, hRA⟩ := runAt_all HR.out k hkl
  obtain ⟨hnp, hA⟩ := hRA.fin HR.out
  have hkt : (wl.take k).length = k := by rw [List.length_take]; omega
  have hJ := fun w' a c h => join_all (wl.take k) a c w' (by omega) (fun x hx => HLT.out x (List.mem_of_mem_take hx)) h
  rw [hA, hkt] at hJ
  have hS := fun w' a b c d => same11 (pl.take nk) a b c d w' (by rw [List.length_take]; omega)
  have hnt : (pl.take nk).length = nk := by rw [List.length_take]; omega
  dsimp only at hJ
  rw [hnt] at hJ hS
  have HJ := Lib.hid hJ
  have HS := Lib.hid hS
  have HRA := Lib.hid hRA
  clear hJ hS hRA hA hkt hnt
  have hkI : (k : Int) ≤ (wl.length : Int) := by omega
  have hnI : (nk : Int) ≤ (pl.length : Int) := by omega
  go_enter Try.func11, Try.ntmps11
  go_wp2_with (first
    | (go_at_call 34; ((with_reducible refine (HL.out _).mono ?_); rintro e w1 ⟨rfl, hb1⟩; have HB1 := Lib.hid hb1; clear hb1))
    | (go_at_call 35; ((with_reducible refine (HW.out _ HB1.out).mono ?_); rintro e w2 ⟨v, u, rfl, hp, hb2⟩; obtain ⟨p1, q1, rfl, hq1, -, hc1⟩ := CellsOff.own hp.fst [] (by simp); obtain ⟨p2, q2, rfl, hq2, -, hc2⟩ := CellsOff.own hp.snd [] (by simp); have hq1I : (k : Int) ≤ (q1 : Int) := (by omega); have hq2I : (nk : Int) ≤ (q2 : Int) := (by omega); have HC1 := Lib.hid hc1; have HC2 := Lib.hid hc2; have HB2 := Lib.hid hb2; clear hp hc1 hc2 hb2))
    | (go_at_call 36; ((with_reducible refine (HJ.out _ _ _ (by have h1 := HC1.out.take k; rw [← List.map_take] at h1; exact h1)).mono ?_); rintro e w3 ⟨v3, rfl, hown3, hb3⟩; obtain ⟨p3, q3, rfl, -, -, hc3⟩ := CellsOff.own hown3 [] (by simp); have HC3 := Lib.hid hc3; have HC13 := Lib.hid (HC1.out.below hb3); have HC23 := Lib.hid (HC2.out.below hb3); have HB3 := Lib.hid hb3; clear hown3 hc3 hb3))
    | (go_at_call 37; ((with_reducible refine (HS.out _ _ _ _ _ HC3.out (by have h1 := HC23.out.take (nk * 4); unfold flatP at h1 ⊢; rw [flat_take (k := 4) (fun _ => rfl)]; exact h1)).mono ?_); rintro e w4 ⟨rfl, k4, rfl⟩))
    | (go_at_call 38; ((with_reducible refine (join_new _).mono ?_); rintro e w5 ⟨rfl, hj5, hz5, hb5⟩; have HJ5 := Lib.hid hj5; have HZ5 := Lib.hid hz5; have HB5 := Lib.hid hb5; clear hj5 hz5 hb5)))
  have h35 : Below w3.heap.size w3 w5 := (below_drewN' (Below.refl _ _) _).trans (by simpa using HB5.out)
  have H35 := Lib.hid h35
  clear h35
  have hz5 : w5.heap.size = w3.heap.size + 1 := by simpa using HZ5.out
  have hj5 : JoinAt w5 w3.heap.size JS.zero := by simpa using HJ5.out
  have HJ5 := Lib.hid hj5
  clear hj5
  go_loopw [11, 12] (fun t i wr => ∃ (m n : Nat) (j : JS), m ≤ k ∧ t = .int .i64 (n : Int) ∧ i = .int .i64 (m : Int) ∧ JoinAt wr w3.heap.size j ∧ Hid (RunAt wl m j n) ∧ w3.heap.size + 1 ≤ wr.heap.size ∧ Below w3.heap.size w3 wr) (fun _ i _ => k - (intOf i).toNat)
  case atStart => exact ⟨0, 0, JS.zero, by omega, rfl, rfl, HJ5.out, Lib.hid ⟨JS.zero_ok, ⟨[], rfl, rfl⟩, fun h => absurd rfl h, fun _ => rfl, by omega⟩, by omega, H35.out⟩
  case round =>
    clear HJ5 HB5 H35 HZ5
    obtain ⟨m, n, j, hm, rfl, rfl, hj, hA, hz, hb⟩ := hrel
    obtain ⟨wo, rfl⟩ : ∃ x : World, x = wr := ⟨_, rfl⟩
    by_cases hmk : m < k
    · have hmk' : m < wl.length := by omega
      obtain ⟨blk, off, rfl, hlt, c0⟩ := u_cell HC13.out hmk'
      have d0 := (hb.cell (p := ⟨blk, _, none⟩) hlt).trans c0
      obtain ⟨he, hN⟩ := hA.out.next hmk' HR.out
      have HT := fun w' h hd => join_take (wl.getD m 0) (HLT.out _ (by rw [List.getD_eq_getElem?_getD, List.getElem?_eq_getElem hmk']; exact List.getElem_mem hmk')) w' w3.heap.size j h hd
      have hdj : j.pk.data.size ≤ 4294967296 := by have := hA.out.ok.d0; omega
      have hnm := hA.out.le
      clear hA
      generalize wl.getD m 0 = x at *
      generalize j.take x = T at *
      obtain ⟨j2, p2, is2, e2⟩ := T
      dsimp only at *
      subst he
      have hmI : (m : Int) < (k : Int) := by omega
      have hmI2 : (m : Int) < (wl.length : Int) := by omega
      have hxm : ((x : Int).tmod 4) = ((x % 4 : Nat) : Int) := by rw [Int.tmod_eq_emod_of_nonneg (by omega)]; omega
      have HT := Lib.hid HT
      have HN := Lib.hid hN
      have HJ := Lib.hid hj
      have HB := Lib.hid hb
      have HC0 := Lib.hid c0
      clear hN hj hb c0
      by_cases hx3 : x % 4 = 3
      · have hxm : ((x : Int).tmod 4) = 3 := by rw [hxm, hx3]; rfl
        go_wp2_with (first
          | (go_at_call 39; ((with_reducible refine (HT.out _ HJ.out hdj).mono ?_); rintro e w6 ⟨rfl, hj6, ho6⟩; have hb6 := HB.out.trans (ho6.below (by simp) (by omega)); have hz6 := ho6.size; have d6 := (hb6.cell (p := ⟨blk, _, none⟩) hlt).trans HC0.out; have HJ6 := Lib.hid hj6; have HO6 := Lib.hid ho6; clear hj6 ho6)))
        go_roundw
        case rel => exact ⟨m + 1, n + 1, j2, by omega, by go_num, by go_num, HJ6.out, by have := HN.out; simpa [Hid, hx3] using this, by omega, hb6⟩
        case measure => simp [intOf]; omega
      · have hxm2 : ((x : Int).tmod 4 == 3) = false := beq_eq_false_iff_ne.2 (by rw [hxm]; omega)
        go_wp2_with (first
          | (go_at_call 39; ((with_reducible refine (HT.out _ HJ.out hdj).mono ?_); rintro e w6 ⟨rfl, hj6, ho6⟩; have hb6 := HB.out.trans (ho6.below (by simp) (by omega)); have hz6 := ho6.size; have d6 := (hb6.cell (p := ⟨blk, _, none⟩) hlt).trans HC0.out; have HJ6 := Lib.hid hj6; have HO6 := Lib.hid ho6; clear hj6 ho6)))
        go_roundw
        case rel => exact ⟨m + 1, n, j2, by omega, by go_num, by go_num, HJ6.out, by have := HN.out; simpa [Hid, hx3] using this, by omega, hb6⟩
        case measure => simp [intOf]; omega
    · obtain rfl : m = k := by omega
      obtain ⟨rfl, rfl⟩ := runAt_uniq hA.out HRA.out
      have hi := hA.out.is
      have hzz := hA.out.z
      have HB := Lib.hid hb
      have HA := Lib.hid hA.out
      clear hA HRA
      by_cases hm0 : m = 0
      · have hji : j.is = false := hzz hm0
        subst hm0
        rw [show JoinAt wo w3.heap.size j = JoinAt wo w3.heap.size ⟨false, j.pk, j.len⟩ from by rw [← hji]] at hj
        have HBG := Lib.hid (join_begun wo w3.heap.size _ hj)
        have HJ := Lib.hid hj
        clear hj hi hzz hji hb
        go_wp2_with (first
          | (go_at_call 40; ((with_reducible refine (join_begun _ _ _ HJ.out).mono ?_); rintro e w7 ⟨rfl, k7, rfl⟩)))
        go_ret
        have h12 : Below w.heap.size w w2 := HB1.out.trans (HB2.out.mono HB1.out.size)
        have h13 : Below w.heap.size w w3 := h12.trans (HB3.out.mono h12.size)
        have h1o : Below w.heap.size w wo := h13.trans (HB.out.mono h13.size)
        exact ⟨rfl, by repeat' (first | exact h1o | (refine below_drewN' ?_ _) | (refine Below.drew ?_))⟩
      · have hm1 : m - 1 < wl.length := by omega
        obtain ⟨blk, off, rfl, hlt, c0⟩ := u_cell HC13.out hm1
        have d0 := (HB.out.cell (p := ⟨blk, _, none⟩) hlt).trans c0
        have hi := hi hm0
        have HJK := Lib.hid hj
        generalize wl.getD (m - 1) 0 = x at *
        obtain ⟨ji, jp, jl⟩ := j
        dsimp only at *
        subst hi
        obtain ⟨m, rfl⟩ : ∃ z, m = z + 1 := ⟨m - 1, by omega⟩
        simp only [Nat.add_sub_cancel] at d0
        have hmI : (0 : Int) < (m : Int) + 1 := by omega
        have hmx : max ((m : Int) + 1) 1 = (m : Int) + 1 := by omega
        have hmI2 : (m : Int) < (wl.length : Int) := by omega
        have hxm : ((x : Int).tmod 4) = ((x % 4 : Nat) : Int) := by rw [Int.tmod_eq_emod_of_nonneg (by omega)]; omega
        clear hj hzz hb c0
        by_cases hx3 : x % 4 = 3
        · have hxm : ((x : Int).tmod 4) = 3 := by rw [hxm, hx3]; rfl
          go_wp2_with (first
            | (go_at_call 40; ((with_reducible refine (join_begun _ _ _ HJK.out).mono ?_); rintro e w7 ⟨rfl, k7, rfl⟩)))
          go_ret
          have h12 : Below w.heap.size w w2 := HB1.out.trans (HB2.out.mono HB1.out.size)
          have h13 : Below w.heap.size w w3 := h12.trans (HB3.out.mono h12.size)
          have h1o : Below w.heap.size w wo := h13.trans (HB.out.mono h13.size)
          exact ⟨by first | (simp [hx3]; done) | (simp [hx3]; omega), by repeat' (first | exact h1o | (refine below_drewN' ?_ _) | (refine Below.drew ?_))⟩
        · have hxm2 : ((x : Int).tmod 4 == 3) = false := beq_eq_false_iff_ne.2 (by rw [hxm]; omega)
          go_wp2_with (first
            | (go_at_call 40; ((with_reducible refine (join_begun _ _ _ HJK.out).mono ?_); rintro e w7 ⟨rfl, k7, rfl⟩)))
          go_ret
          have h12 : Below w.heap.size w w2 := HB1.out.trans (HB2.out.mono HB1.out.size)
          have h13 : Below w.heap.size w w3 := h12.trans (HB3.out.mono h12.size)
          have h1o : Below w.heap.size w wo := h13.trans (HB.out.mono h13.size)
          exact ⟨by first | (simp [hx3]; done) | (simp [hx3]; omega), by repeat' (first | exact h1o | (refine below_drewN' ?_ _) | (refine Below.drew ?_))⟩
end Go.Proofs.Ytmehfflomgldeaa
