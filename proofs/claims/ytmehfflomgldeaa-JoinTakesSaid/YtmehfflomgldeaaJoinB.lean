/- join.New, Begun, Has, All. -/
import Derived.Test.YtmehfflomgldeaaJoinA
namespace Go.Proofs.Ytmehfflomgldeaa
set_option linter.unusedVariables false
set_option linter.unusedSimpArgs false
open Go.RowKit BM
theorem join_new (w : World) : Calls Try.prog 38 #[] w fun e w' => e = .returned (.pointer (some ⟨w.heap.size, 0, none⟩)) ∧ JoinAt w' w.heap.size JS.zero ∧ w'.heap.size = w.heap.size + 1 ∧ Below w.heap.size w w' := by
  go_enter Try.func38, Try.ntmps38
  go_wp2
  go_ret
  exact ⟨rfl, alloc_new _, by simp, by repeat' (first | (with_reducible assumption) | (with_reducible refine below_setRowN ?_ ?_ _) | (with_reducible refine Below.setCell ?_ ?_ _) | (with_reducible refine below_drewN' ?_ _) | (with_reducible refine Below.drew ?_) | (with_reducible refine Below.alloc ?_ ?_ _) | (with_reducible exact Below.refl _ _) | (with_reducible exact Nat.le_refl _) | (simp; done) | omega | (simp; omega))⟩
theorem join_begun (w : World) (b : Nat) (j : JS) (h : JoinAt w b j) : Calls Try.prog 40 #[.pointer (some ⟨b, 0, none⟩)] w fun e w' => e = .returned (.bool j.is) ∧ ∃ k, w' = w.drewN k := by
  unfold JoinAt at h
  have f := fun j => cell_at h j
  clear h
  go_enter Try.func40, Try.ntmps40
  go_wp2
  go_ret
  exact ⟨rfl, by first | exact ⟨0, rfl⟩ | exact drew_close1⟩
theorem join_has (w : World) (b : Nat) (j : JS) (h : JoinAt w b j) : Calls Try.prog 42 #[.pointer (some ⟨b, 0, none⟩)] w fun e w' => e = .returned (.int .i64 ((j.pk.data.size : Nat) : Int)) ∧ ∃ k, w' = w.drewN k := by
  unfold JoinAt at h
  have f := fun j => cell_at h j
  clear h
  go_enter Try.func42, Try.ntmps42
  go_wp2
  go_ret
  exact ⟨rfl, by first | exact ⟨0, rfl⟩ | exact drew_close1⟩
theorem u_cell {w : World} {a : Option Addr} {l : List Nat} {S : List Nat} (h : CellsOff w a (l.map UV) S) {i : Nat} (hi : i < l.length) :
    ∃ blk off, a = some ⟨blk, off, none⟩ ∧ blk < w.heap.size ∧ w.cell? ⟨blk, off + i, none⟩ = some (.int .u64 ((l.getD i 0 : Nat) : Int)) := by
  obtain ⟨blk, off, e, _, hc⟩ := h i (UV (l.getD i 0)) (by rw [List.getElem?_map, List.getElem?_eq_getElem hi, List.getD_eq_getElem?_getD, List.getElem?_eq_getElem hi]; rfl)
  exact ⟨blk, off, e, World.block_lt_of_cell? w _ hc, hc⟩
theorem JoinAt.only {w w' : World} {b : Nat} {j : JS} {S : List Nat} (h : JoinAt w b j) (ho : Only S w w') (hb : b ∉ S) : JoinAt w' b j := ho.at h hb
theorem JoinAt.below {w w' : World} {b : Nat} {j : JS} (h : JoinAt w b j) (hb : Below w.heap.size w w') : JoinAt w' b j := Below.at hb h (block_lt h)
/-- What is left to do, at the head of a round. -/
structure AllAt (l : List Nat) (m : Nat) (j : JS) (ps : List Pk) : Prop where
  ok : j.Ok
  eq : JS.zero.allFrom l = (ps ++ (j.allFrom (l.drop m)).1, m + (j.allFrom (l.drop m)).2)
  le : ps.length ≤ m
theorem AllAt.err {l : List Nat} {m : Nat} {j : JS} {ps : List Pk} (h : AllAt l m j ps) (hm : m < l.length) (he : (j.take (l.getD m 0)).2.2.2 ≠ 0) : JS.zero.allFrom l = (ps, m) := by
  rw [h.eq, drop_cons hm 0, all_cons, if_pos he]; simp
theorem AllAt.next {l : List Nat} {m : Nat} {j : JS} {ps : List Pk} (h : AllAt l m j ps) (hm : m < l.length) (he : (j.take (l.getD m 0)).2.2.2 = 0) :
    AllAt l (m + 1) (j.take (l.getD m 0)).1 (if (j.take (l.getD m 0)).2.2.1 = true then ps ++ [(j.take (l.getD m 0)).2.1] else ps) := by
  refine ⟨h.ok.take _, ?_, by have := h.le; split <;> simp <;> omega⟩
  rw [h.eq, drop_cons hm 0, all_cons, if_neg (by rw [he]; simp)]
  split <;> simp <;> omega
theorem AllAt.fin {l : List Nat} {j : JS} {ps : List Pk} (h : AllAt l l.length j ps) : JS.zero.allFrom l = (ps, l.length) := by
  rw [h.eq, List.drop_length]; simp [JS.allFrom]
set_option maxRecDepth 100000 in
set_option maxHeartbeats 2000000 in
theorem join_all (l : List Nat) (a : Option Addr) (c : Nat) (w : World) (hl : l.length ≤ 1000000) (hx : ∀ x ∈ l, x < 2 ^ 64) (h : CellsOff w a (l.map UV) []) :
    Calls Try.prog 36 #[.slice a l.length c] w fun e w' => ∃ v, e = .returned (.tuple #[v, .int .i64 (((JS.zero.allFrom l).2 : Nat) : Int)]) ∧ w'.ownsRow w.heap.size 29 4 v (JS.zero.allFrom l).1.length (flatP (JS.zero.allFrom l).1) ∧ Below w.heap.size w w' := by
  have HC := Lib.hid (fun i hi => u_cell (i := i) h hi)
  have HL := Lib.hid hx
  clear h hx
  have hA0 : AllAt l 0 JS.zero [] := ⟨JS.zero_ok, by simp, Nat.le_refl _⟩
  have HA0 := Lib.hid hA0
  clear hA0
  go_enter Try.func36, Try.ntmps36
  go_wp2_with (first
    | (go_at_call 38; ((with_reducible refine (join_new _).mono ?_); rintro e w1 ⟨rfl, hj1, hz1, hb1⟩)))
  have HJ1 := Lib.hid hj1
  have HZ1 := Lib.hid hz1
  have HB1 := Lib.hid hb1
  clear hj1 hz1 hb1
  go_loopw [5, 14] (fun v i wr => ∃ (m : Nat) (j : JS) (ps : List Pk), m ≤ l.length ∧ i = .int .i64 (m : Int) ∧ JoinAt wr w.heap.size j ∧ Hid (AllAt l m j ps) ∧ wr.ownsRow (w.heap.size + 1) 29 4 v ps.length (flatP ps) ∧ Below w.heap.size w wr) (fun _ i _ => l.length - (intOf i).toNat)
  case atStart => exact ⟨0, JS.zero, [], by omega, rfl, HJ1.out, HA0, World.ownsRow_nil _ _ _ _, HB1.out⟩
  case round =>
    clear HJ1 HZ1 HB1 HA0
    obtain ⟨m, j, ps, hm, rfl, hj, hA, hown, hb⟩ := hrel
    obtain ⟨wo, rfl⟩ : ∃ x : World, x = wr := ⟨_, rfl⟩
    have hjl := block_lt hj
    by_cases hml : m < l.length
    · obtain ⟨blk, off, rfl, hlt, c0⟩ := HC.out m hml
      have d0 := (hb.cell (p := ⟨blk, _, none⟩) hlt).trans c0
      have HT := fun w' h hd => join_take (l.getD m 0) (HL.out _ (by rw [List.getD_eq_getElem?_getD, List.getElem?_eq_getElem hml]; exact List.getElem_mem hml)) w' w.heap.size j h hd
      have hE := hA.out.err hml
      have hN := hA.out.next hml
      have hdj := hA.out.ok.d0
      have hpm := hA.out.le
      generalize l.getD m 0 = x at *
      generalize j.take x = T at *
      obtain ⟨j2, p2, is2, e2⟩ := T
      obtain ⟨psrc, pdst, pseq, pdata⟩ := p2
      dsimp only at *
      have hmI : (m : Int) < (l.length : Int) := by omega
      have hdj2 : j.pk.data.size ≤ 4294967296 := by omega
      have hz1 : w.heap.size + 1 ≤ wo.heap.size := by omega
      have HT := Lib.hid HT
      have HE := Lib.hid hE
      have HN := Lib.hid hN
      have HJ := Lib.hid hj
      have HO := Lib.hid hown
      have HB := Lib.hid hb
      clear hE hN hj hown hb hA c0
      by_cases he : e2 = 0
      · subst he
        cases is2 with
        | true =>
          go_wp2_with (first
            | (go_at_call 39; ((with_reducible refine (HT.out _ HJ.out hdj2).mono ?_); rintro e w3 ⟨rfl, hj3, ho3⟩; have hown3 := ownsRow_only HO.out ho3 (by simp); have hs3 := ho3.size; have hz3 : w.heap.size + 1 ≤ (w3.alloc (.cells #[.int .i64 psrc, .int .i64 pdst, .int .i64 pseq, .string pdata] 29)).heap.size := (by simp; omega); have hown3a := hown3.alloc (.cells #[.int .i64 psrc, .int .i64 pdst, .int .i64 pseq, .string pdata] 29); have HJ3 := Lib.hid hj3; have HO3 := Lib.hid ho3; clear hj3 ho3 hown3))
            | (at_builtin; refine append_own (W0 := w3.alloc (.cells #[.int .i64 psrc, .int .i64 pdst, .int .i64 pseq, .string pdata] 29)) [.int .i64 psrc, .int .i64 pdst, .int .i64 pseq, .string pdata] (w.heap.size + 1) _ _ _ 4 40 infoPk Try.underlying35 rfl (by decide) _ _ _ hown3a (Below.refl _ _) hz3 rfl (by simp [Value.oneCell']) (by omega) (by decide) rfl _ _ rfl rfl (by rw [World.size_alloc]; rfl) ?_; intro v1 w4 hown4 hb4 hg4 hor4; have HO4 := Lib.hid hown4; have HB4 := Lib.hid hb4; clear hown4 hb4 hg4 hor4))
          go_roundw
          case rel =>
            have hb3 : Below w.heap.size w w3 := HB.out.trans (HO3.out.below (by simp) (by omega))
            exact ⟨m + 1, j2, ps ++ [⟨psrc, pdst, pseq, pdata⟩], by omega, by go_num, Below.at HB4.out (alloc_old HJ3.out _) (by omega), by have := HN.out; simpa [Hid] using this, by rw [List.length_append]; unfold flatP; rw [flat_snoc]; exact HO4.out, (hb3.alloc hb3.size _).trans (HB4.out.mono (by omega))⟩
          case measure => simp [intOf]; omega
        | false =>
          go_wp2_with (first
            | (go_at_call 39; ((with_reducible refine (HT.out _ HJ.out hdj2).mono ?_); rintro e w3 ⟨rfl, hj3, ho3⟩; have hown3 := ownsRow_only HO.out ho3 (by simp); have HJ3 := Lib.hid hj3; have HO3 := Lib.hid ho3; have HW3 := Lib.hid hown3; clear hj3 ho3 hown3)))
          go_roundw
          case rel =>
            have hb3 : Below w.heap.size w w3 := HB.out.trans (HO3.out.below (by simp) (by omega))
            exact ⟨m + 1, j2, ps, by omega, by go_num, alloc_old HJ3.out _, by have := HN.out; simpa [Hid] using this, HW3.out.alloc _, hb3.alloc hb3.size _⟩
          case measure => simp [intOf]; omega
      · have hE := HE.out he
        have heb : (e2 != 0) = true := bne_iff_ne.2 he
        have HE := Lib.hid hE
        clear he hE
        go_wp2_with (first
          | (go_at_call 39; ((with_reducible refine (HT.out _ HJ.out hdj2).mono ?_); rintro e w3 ⟨rfl, hj3, ho3⟩; have hown3 := ownsRow_only HO.out ho3 (by simp); have HO3 := Lib.hid ho3; have HW3 := Lib.hid hown3; clear hj3 ho3 hown3)))
        go_ret2
        have hb3 : Below w.heap.size w w3 := HB.out.trans (HO3.out.below (by simp) (by omega))
        have hw := owns_base (b2 := w.heap.size) (HW3.out.alloc (.cells #[.int .i64 psrc, .int .i64 pdst, .int .i64 pseq, .string pdata] 29)) (by omega)
        rw [HE.out]
        exact ⟨_, rfl, hw, hb3.alloc hb3.size _⟩
    · obtain rfl : m = l.length := by omega
      have hF := hA.out.fin
      have HF := Lib.hid hF
      have HO := Lib.hid hown
      have HB := Lib.hid hb
      clear hF hown hb hj hA
      go_wp2
      go_ret2
      rw [HF.out]
      exact ⟨_, rfl, owns_base HO.out (by omega), HB.out⟩
end Go.Proofs.Ytmehfflomgldeaa
