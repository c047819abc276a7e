/- The walk of JoinErrors. -/
import Derived.Test.YtmehfflomgldeaaLawJoinPrefix
namespace Go.Proofs.Ytmehfflomgldeaa
set_option linter.unusedVariables false
set_option linter.unusedSimpArgs false
open Go.RowKit BM
/-- What a word does that need not fit. -/
theorem odd_take (j : JS) (x : Nat) :
    ((readF x).2 = 0 ∧ ¬ (readF x).1.kind = 1 ∧ j.is = true) ∨ ((readF x).2 = 0 ∧ (readF x).1.kind = 1 ∧ j.is = false ∧ (j.take x).2.2.2 = 0) ∨
    ((¬ (readF x).2 = 0 ∨ ((readF x).2 = 0 ∧ (readF x).1.kind = 1 ∧ j.is = true) ∨ ((readF x).2 = 0 ∧ ¬ (readF x).1.kind = 1 ∧ j.is = false)) ∧ ∃ e : Int, ¬ e = 0 ∧ j.take x = (j, Pk.zero, false, e)) := by
  unfold JS.take
  generalize readF x = r
  obtain ⟨f, e⟩ := r
  dsimp only
  by_cases he : e = 0
  · subst he
    by_cases hk : f.kind = 1
    · cases hj : j.is with
      | false => exact .inr (.inl ⟨rfl, hk, rfl, by rw [takeF_h hk hj]⟩)
      | true => exact .inr (.inr ⟨.inr (.inl ⟨rfl, hk, rfl⟩), 13, by decide, by unfold JS.takeF; simp [hk, hj]⟩)
    · cases hj : j.is with
      | true => exact .inl ⟨rfl, hk, rfl⟩
      | false => exact .inr (.inr ⟨.inr (.inr ⟨rfl, hk, rfl⟩), 13, by decide, by unfold JS.takeF; simp [hk, hj]⟩)
  · exact .inr (.inr ⟨.inl he, e, he, by unfold JS.takeF; rw [if_pos he]⟩)
/-- Behind m words none of which was refused. -/
structure RunP (l : List Nat) (m : Nat) (j : JS) (ps : List Pk) : Prop where
  ok : j.Ok
  run : JS.zero.run (l.take m) = some (j, ps)
  le : ps.length ≤ m
theorem RunP.next {l : List Nat} {m : Nat} {j j2 : JS} {ps qs : List Pk} (h : RunP l m j ps) (hm : m < l.length) (hr : JS.zero.run l = some (j2, qs)) :
    (j.take (l.getD m 0)).2.2.2 = 0 ∧ RunP l (m + 1) (j.take (l.getD m 0)).1 (if (j.take (l.getD m 0)).2.2.1 = true then ps ++ [(j.take (l.getD m 0)).2.1] else ps) := by
  have hs : l.take (m + 1) = l.take m ++ [l.getD m 0] := by
    rw [List.getD_eq_getElem?_getD, List.getElem?_eq_getElem hm, List.take_add_one, List.getElem?_eq_getElem hm]; rfl
  obtain ⟨j1, q, h3, h4⟩ : ∃ j1 q, JS.zero.run (l.take (m + 1)) = some (j1, qs.take q) ∧ q ≤ qs.length := run_prefix (b := l.drop (m + 1)) (j2 := j2) (by rw [List.take_append_drop]; exact hr)
  rw [hs, run_append h.run] at h3
  have h5 : (j.take (l.getD m 0)).2.2.2 = 0 := by
    by_cases hx : (j.take (l.getD m 0)).2.2.2 = 0
    · exact hx
    · rw [run_cons, if_pos hx] at h3; simp at h3
  refine ⟨h5, h.ok.take _, ?_, by have := h.le; split <;> simp <;> omega⟩
  rw [hs, run_append h.run, run_cons, if_neg (by rw [h5]; simp)]
  show some _ = _
  split <;> simp
theorem RunP.fin {l : List Nat} {m : Nat} {j j2 : JS} {ps qs : List Pk} (h : RunP l m j ps) (hr : JS.zero.run l = some (j2, qs)) : ps.length ≤ qs.length ∧ ps = qs.take ps.length := by
  obtain ⟨j1, q, h3, h4⟩ : ∃ j1 q, JS.zero.run (l.take m) = some (j1, qs.take q) ∧ q ≤ qs.length := run_prefix (b := l.drop m) (j2 := j2) (by rw [List.take_append_drop]; exact hr)
  rw [h.run] at h3
  simp only [Option.some.injEq, Prod.mk.injEq] at h3
  obtain ⟨rfl, rfl⟩ := h3
  rw [List.length_take, Nat.min_eq_left h4]
  exact ⟨h4, rfl⟩
theorem JoinAt.drewN {w : World} {b : Nat} {j : JS} (h : JoinAt w b j) (n : Nat) : JoinAt (w.drewN n) b j := h
theorem JoinAt.alloc {w : World} {b : Nat} {j : JS} (h : JoinAt w b j) (o : Obj) : JoinAt (w.alloc o) b j := alloc_old h o
theorem cells_first {w : World} {a : Option Addr} {pl ps : List Pk} (h : CellsOff w a (flatP pl) []) (he : ps = pl.take ps.length) (hl : ps.length ≤ pl.length) : CellsOff w a (flatP ps) [] := by
  have h1 := h.take (ps.length * 4)
  rw [he]; unfold flatP at h1 ⊢
  rw [flat_take (k := 4) (fun _ => rfl)]; exact h1
set_option maxRecDepth 100000 in
set_option maxHeartbeats 4000000 in
theorem joinErrors_walk (l : List PaM) (a : Option Addr) (c : Nat) (at_ : Int) (odd : Nat) (hodd : odd < 2 ^ 64) (w : World) (hl : l.length ≤ maxLen) (h : ParcelsAt w a l) :
    Calls Try.prog 13 #[.slice a l.length c, .int .i64 at_, .int .u64 (odd : Int)] w fun e w' => e = .returned (.bool true) ∧ Below w.heap.size w w' := by
  have hW := fun w' hb => law11_words l a c w' hl (h.below (w' := w') hb)
  have hwl := wordsL_len ((l.map PaM.pa).take 8)
  have hl8 : ((l.map PaM.pa).take 8).length ≤ 8 := by rw [List.length_take]; omega
  have hR := run_words ((l.map PaM.pa).take 8)
  have hlt := words_ltL (l := (l.map PaM.pa).take 8)
  have hwl1 : (wordsL ((l.map PaM.pa).take 8)).length ≤ 160 := by omega
  have hpl1 : (packetsL ((l.map PaM.pa).take 8)).length ≤ 8 := by omega
  clear hwl hl8 h
  generalize wordsL ((l.map PaM.pa).take 8) = wl at *
  generalize packetsL ((l.map PaM.pa).take 8) = pl at *
  have HW := Lib.hid hW
  have HL := Lib.hid (fun w => lives11_calls w)
  have hRO := fun w => rflit_read odd hodd w
  have HTO := Lib.hid (fun w b j h hd => join_take odd hodd w b j h hd)
  have HOT := Lib.hid (fun j => odd_take j odd)
  clear hW
  generalize readF odd = ro at *
  obtain ⟨⟨ok, osrc, odst, oseq, olen, omore, ocast, odata⟩, oe⟩ := ro
  have HRO := Lib.hid hRO
  have HR := Lib.hid hR
  have HLT := Lib.hid hlt
  clear hR hlt hRO
  obtain ⟨k, hk⟩ : ∃ k : Int, wrap64 ((IntKind.u64.wrap at_).tmod (wl.length : Int)) = k := ⟨_, rfl⟩
  go_enter Try.func13, Try.ntmps13
  go_wp2_with (first
    | (go_at_call 34; ((with_reducible refine (HL.out _).mono ?_); rintro e w1 ⟨rfl, hb1⟩; have HB1 := Lib.hid hb1; clear hb1))
    | (go_at_call 35; ((with_reducible refine (HW.out _ HB1.out).mono ?_); rintro e w2 ⟨v, u, rfl, hp, hb2⟩; obtain ⟨p1, q1, rfl, hq1, -, hc1⟩ := CellsOff.own hp.fst [] (by simp); obtain ⟨p2, q2, rfl, hq2, -, hc2⟩ := CellsOff.own hp.snd [] (by simp); have HC1 := Lib.hid hc1; have HC2 := Lib.hid hc2; have HB2 := Lib.hid hb2; clear hp hc1 hc2 hb2))
    | (go_at_call 38; ((with_reducible refine (join_new _).mono ?_); rintro e w3 ⟨rfl, hj3, hz3, hb3⟩; have HJ3 := Lib.hid hj3; have HZ3 := Lib.hid hz3; have HB3 := Lib.hid hb3; clear hj3 hz3 hb3)))
  go_loopw [10, 11] (fun g i wr => ∃ (m : Nat) (j : JS) (ps : List Pk), m ≤ wl.length ∧ i = .int .i64 (m : Int) ∧ JoinAt wr w2.heap.size j ∧ Hid (RunP wl m j ps) ∧ wr.ownsRow (w2.heap.size + 1) 29 4 g ps.length (flatP ps) ∧ w2.heap.size + 1 ≤ wr.heap.size ∧ Below w2.heap.size w2 wr) (fun _ i _ => wl.length - (intOf i).toNat)
  case atStart => exact ⟨0, JS.zero, [], by omega, rfl, HJ3.out, Lib.hid ⟨JS.zero_ok, rfl, Nat.le_refl _⟩, World.ownsRow_nil _ _ _ _, by have := HZ3.out; omega, HB3.out⟩
  case round =>
    clear HJ3 HB3 HZ3
    obtain ⟨m, j, ps, hm, rfl, hj, hA, hown, hz, hb⟩ := hrel
    obtain ⟨wo, rfl⟩ : ∃ x : World, x = wr := ⟨_, rfl⟩
    have HA := Lib.hid hA.out
    have HJ := Lib.hid hj
    have HO := Lib.hid hown
    have HB := Lib.hid hb
    have hps := hA.out.le
    have hdj : j.pk.data.size ≤ 4294967296 := by have := hA.out.ok.d0; omega
    clear hA hj hown hb
    by_cases hmw : m < wl.length
    · have hmI : (m : Int) < (wl.length : Int) := by omega
      go_upto_if 44 with (fail)
      go_cut [] (fun wx => JoinAt wx w2.heap.size j ∧ wx.ownsRow (w2.heap.size + 1) 29 4 u10 ps.length (flatP ps) ∧ w2.heap.size + 1 ≤ wx.heap.size ∧ Below w2.heap.size w2 wx)
      case first =>
        by_cases hmk : (m : Int) = k
        · subst hmk
          have hlj := block_lt HJ.out
          rcases HOT.out j with ⟨h1, h2, h3⟩ | ⟨h1, h2, h3, h4⟩ | ⟨hc, e6, he6, hte⟩
          · try dsimp only at h1 h2
            subst h1
            have hkb : (ok == 1) = false := beq_eq_false_iff_ne.2 h2
            have hkb2 : (ok != 1) = true := bne_iff_ne.2 h2
            obtain ⟨hnp, hpe⟩ := HA.out.fin HR.out
            have hS := fun w' a b c d => same11 ps a b c d w' (by omega)
            have HS := Lib.hid hS
            have HPE := Lib.hid hpe
            have hnI : (ps.length : Int) ≤ (pl.length : Int) := by omega
            have hnI2 : (ps.length : Int) ≤ (q2 : Int) := by omega
            obtain ⟨pg, qg, rfl, -, -, hcg⟩ := CellsOff.own HO.out [] (by simp)
            have HCG := Lib.hid hcg
            have HC2o := Lib.hid (HC2.out.below HB.out)
            clear hS hpe hcg
            clear h2 HOT HTO
            go_wp2_with (first | (first | (go_at_call 40; ((with_reducible refine (join_begun _ _ j ?_).mono ?_); (first | exact KJ6.out.alloc _ | exact (KJ6.out.alloc _).drewN _ | exact HJ.out | exact HJ.out.drewN _); rintro e wb ⟨rfl, kb, rfl⟩)) | (go_at_call 42; ((with_reducible refine (join_has _ _ j ?_).mono ?_); (first | exact KJ6.out.alloc _ | exact (KJ6.out.alloc _).drewN _ | exact HJ.out | exact HJ.out.drewN _); rintro e wh ⟨rfl, kh, rfl⟩)) | (go_at_call 43; ((with_reducible refine (HRO.out _).mono ?_); rintro e w5 ⟨rfl, hb5⟩; have hz5 := hb5.size; simp at hz5; have KB5 := Lib.hid ((below_drewN' (Below.refl wo.heap.size wo) _).trans (hb5.mono (by first | exact Nat.le_refl _ | (simp; done)))); have KJ5 := Lib.hid ((HJ.out.drewN _).below hb5); clear hb5))) | (go_at_call 37; ((with_reducible refine (HS.out _ _ _ _ _ ?_ ?_).mono ?_); (first | exact (HCG.out.below KB5.out).below ((Below.refl _ _).alloc (Nat.le_refl _) _)); exact cells_first ((HC2o.out.below KB5.out).below ((Below.refl _ _).alloc (Nat.le_refl _) _)) HPE.out hnp; rintro e w7 ⟨rfl, k7, rfl⟩)))
            go_ret
            have h12 : Below w.heap.size w w2 := HB1.out.trans (HB2.out.mono HB1.out.size)
            have h1o : Below w.heap.size w wo := h12.trans (HB.out.mono h12.size)
            have h15 : Below w.heap.size w w5 := h1o.trans (KB5.out.mono h1o.size)
            exact ⟨rfl, below_drewN' (h15.alloc h15.size _) _⟩
          · try dsimp only at h1 h2
            subst h1 h2
            have hT2 := fun w h => HTO.out w w2.heap.size j h hdj
            generalize j.take odd = T at *
            obtain ⟨j2, pp2, is2, e2⟩ := T
            dsimp only at *
            subst h4
            have HT2 := Lib.hid hT2
            clear hT2 HOT HTO
            go_wp2_with (first | (first | (go_at_call 40; ((with_reducible refine (join_begun _ _ j ?_).mono ?_); (first | exact KJ6.out.alloc _ | exact (KJ6.out.alloc _).drewN _ | exact HJ.out | exact HJ.out.drewN _); rintro e wb ⟨rfl, kb, rfl⟩)) | (go_at_call 42; ((with_reducible refine (join_has _ _ j ?_).mono ?_); (first | exact KJ6.out.alloc _ | exact (KJ6.out.alloc _).drewN _ | exact HJ.out | exact HJ.out.drewN _); rintro e wh ⟨rfl, kh, rfl⟩)) | (go_at_call 43; ((with_reducible refine (HRO.out _).mono ?_); rintro e w5 ⟨rfl, hb5⟩; have hz5 := hb5.size; simp at hz5; have KB5 := Lib.hid ((below_drewN' (Below.refl wo.heap.size wo) _).trans (hb5.mono (by first | exact Nat.le_refl _ | (simp; done)))); have KJ5 := Lib.hid ((HJ.out.drewN _).below hb5); clear hb5))) | (go_at_call 39; ((with_reducible refine (HT2.out _ ?_).mono ?_); exact KJ5.out.alloc _; rintro e w6 ⟨rfl, hj6, ho6⟩; have hz6 := ho6.size; simp at hz6; have hlt65 : w5.heap.size < w6.heap.size := (by omega); have f6 := cell_at (ho6.at (alloc_new _) (by simp; omega)) 0; have HO6 := Lib.hid ho6; clear hj6 ho6)))
            go_ret
            have h12 : Below w.heap.size w w2 := HB1.out.trans (HB2.out.mono HB1.out.size)
            have h1o : Below w.heap.size w wo := h12.trans (HB.out.mono h12.size)
            have h15 : Below w.heap.size w w5 := h1o.trans (KB5.out.mono h1o.size)
            have h16 : Below w.heap.size w w6 := (h15.alloc h15.size _).trans (HO6.out.below (by simp; exact h12.size) (by have := h15.size; simp; omega))
            exact ⟨rfl, h16.alloc h16.size _⟩
          · have hT2 := fun w h => HTO.out w w2.heap.size j h hdj
            rw [hte] at hT2
            dsimp only [Pk.zero] at hT2
            have heb : (e6 == 0) = false := beq_eq_false_iff_ne.2 he6
            have HT2 := Lib.hid hT2
            clear hT2 HOT HTO hte he6
            rcases hc with h1 | ⟨h1, h2, h3⟩ | ⟨h1, h2, h3⟩
            · have h1b : (oe == 0) = false := beq_eq_false_iff_ne.2 h1
              clear h1
              go_wp2_with (first | (first | (go_at_call 40; ((with_reducible refine (join_begun _ _ j ?_).mono ?_); (first | exact KJ6.out.alloc _ | exact (KJ6.out.alloc _).drewN _ | exact HJ.out | exact HJ.out.drewN _); rintro e wb ⟨rfl, kb, rfl⟩)) | (go_at_call 42; ((with_reducible refine (join_has _ _ j ?_).mono ?_); (first | exact KJ6.out.alloc _ | exact (KJ6.out.alloc _).drewN _ | exact HJ.out | exact HJ.out.drewN _); rintro e wh ⟨rfl, kh, rfl⟩)) | (go_at_call 43; ((with_reducible refine (HRO.out _).mono ?_); rintro e w5 ⟨rfl, hb5⟩; have hz5 := hb5.size; simp at hz5; have KB5 := Lib.hid ((below_drewN' (Below.refl wo.heap.size wo) _).trans (hb5.mono (by first | exact Nat.le_refl _ | (simp; done)))); have KJ5 := Lib.hid ((HJ.out.drewN _).below hb5); clear hb5))) | (go_at_call 39; ((with_reducible refine (HT2.out _ ?_).mono ?_); exact KJ5.out.alloc _; rintro e w6 ⟨rfl, hj6, ho6⟩; have hz6 := ho6.size; simp at hz6; have KJ6 := Lib.hid hj6; have HO6 := Lib.hid ho6; clear hj6 ho6)))
              go_meet
              have ho5 := owns_aft HO.out KB5.out
              have ho6 := ownsRow_only (ho5.alloc _) HO6.out (by simp)
              have hb5 := HB.out.trans (KB5.out.mono (by omega))
              have hb6 := (hb5.alloc (by omega) _).trans (HO6.out.below (by simp) (by simp; omega))
              exact ⟨(KJ6.out.alloc _).drewN _, ownsRow_drewN (ho6.alloc _) _, by simp; omega, below_drewN' (hb6.alloc (by omega) _) _⟩
            · try dsimp only at h1 h2
              subst h1 h2
              go_wp2_with (first | (first | (go_at_call 40; ((with_reducible refine (join_begun _ _ j ?_).mono ?_); (first | exact KJ6.out.alloc _ | exact (KJ6.out.alloc _).drewN _ | exact HJ.out | exact HJ.out.drewN _); rintro e wb ⟨rfl, kb, rfl⟩)) | (go_at_call 42; ((with_reducible refine (join_has _ _ j ?_).mono ?_); (first | exact KJ6.out.alloc _ | exact (KJ6.out.alloc _).drewN _ | exact HJ.out | exact HJ.out.drewN _); rintro e wh ⟨rfl, kh, rfl⟩)) | (go_at_call 43; ((with_reducible refine (HRO.out _).mono ?_); rintro e w5 ⟨rfl, hb5⟩; have hz5 := hb5.size; simp at hz5; have KB5 := Lib.hid ((below_drewN' (Below.refl wo.heap.size wo) _).trans (hb5.mono (by first | exact Nat.le_refl _ | (simp; done)))); have KJ5 := Lib.hid ((HJ.out.drewN _).below hb5); clear hb5))) | (go_at_call 39; ((with_reducible refine (HT2.out _ ?_).mono ?_); exact KJ5.out.alloc _; rintro e w6 ⟨rfl, hj6, ho6⟩; have hz6 := ho6.size; simp at hz6; have KJ6 := Lib.hid hj6; have HO6 := Lib.hid ho6; clear hj6 ho6)))
              go_meet
              have ho5 := owns_aft HO.out KB5.out
              have ho6 := ownsRow_only (ho5.alloc _) HO6.out (by simp)
              have hb5 := HB.out.trans (KB5.out.mono (by omega))
              have hb6 := (hb5.alloc (by omega) _).trans (HO6.out.below (by simp) (by simp; omega))
              exact ⟨(KJ6.out.alloc _).drewN _, ownsRow_drewN (ho6.alloc _) _, by simp; omega, below_drewN' (hb6.alloc (by omega) _) _⟩
            · try dsimp only at h1 h2
              subst h1
              have hkb : (ok == 1) = false := beq_eq_false_iff_ne.2 h2
              have hkb2 : (ok != 1) = true := bne_iff_ne.2 h2
              clear h2
              go_wp2_with (first | (first | (go_at_call 40; ((with_reducible refine (join_begun _ _ j ?_).mono ?_); (first | exact KJ6.out.alloc _ | exact (KJ6.out.alloc _).drewN _ | exact HJ.out | exact HJ.out.drewN _); rintro e wb ⟨rfl, kb, rfl⟩)) | (go_at_call 42; ((with_reducible refine (join_has _ _ j ?_).mono ?_); (first | exact KJ6.out.alloc _ | exact (KJ6.out.alloc _).drewN _ | exact HJ.out | exact HJ.out.drewN _); rintro e wh ⟨rfl, kh, rfl⟩)) | (go_at_call 43; ((with_reducible refine (HRO.out _).mono ?_); rintro e w5 ⟨rfl, hb5⟩; have hz5 := hb5.size; simp at hz5; have KB5 := Lib.hid ((below_drewN' (Below.refl wo.heap.size wo) _).trans (hb5.mono (by first | exact Nat.le_refl _ | (simp; done)))); have KJ5 := Lib.hid ((HJ.out.drewN _).below hb5); clear hb5))) | (go_at_call 39; ((with_reducible refine (HT2.out _ ?_).mono ?_); exact KJ5.out.alloc _; rintro e w6 ⟨rfl, hj6, ho6⟩; have hz6 := ho6.size; simp at hz6; have KJ6 := Lib.hid hj6; have HO6 := Lib.hid ho6; clear hj6 ho6)))
              go_meet
              have ho5 := owns_aft HO.out KB5.out
              have ho6 := ownsRow_only (ho5.alloc _) HO6.out (by simp)
              have hb5 := HB.out.trans (KB5.out.mono (by omega))
              have hb6 := (hb5.alloc (by omega) _).trans (HO6.out.below (by simp) (by simp; omega))
              exact ⟨(KJ6.out.alloc _).drewN _, ownsRow_drewN (ho6.alloc _) _, by simp; omega, below_drewN' (hb6.alloc (by omega) _) _⟩
        · have hmkb : ((m : Int) == k) = false := beq_eq_false_iff_ne.2 hmk
          clear hmk
          go_wp2_with (fail)
          go_meet
          exact ⟨HJ.out, HO.out, hz, HB.out⟩
      case rest =>
        obtain ⟨hjc, hoc, hzc, hbc⟩ := hcut
        obtain ⟨blk, off, rfl, hlt, c0⟩ := u_cell HC1.out hmw
        have d0 := (hbc.cell (p := ⟨blk, _, none⟩) hlt).trans c0
        obtain ⟨he, hN⟩ := HA.out.next hmw HR.out
        have hT := fun w' h => join_take (wl.getD m 0) (HLT.out _ (by rw [List.getD_eq_getElem?_getD, List.getElem?_eq_getElem hmw]; exact List.getElem_mem hmw)) w' w2.heap.size j h hdj
        clear HOT HTO HA HO HJ HB c0
        generalize wl.getD m 0 = x at *
        generalize j.take x = T at *
        obtain ⟨j2, pp2, is2, e2⟩ := T
        obtain ⟨psrc, pdst, pseq, pdata⟩ := pp2
        dsimp only at *
        subst he
        have HT := Lib.hid hT
        have HN := Lib.hid hN
        have HJ := Lib.hid hjc
        have HO := Lib.hid hoc
        have HB := Lib.hid hbc
        clear hT hN hjc hoc hbc
        cases is2 with
        | true =>
          go_wp2_with (first
            | (go_at_call 39; ((with_reducible refine (HT.out _ HJ.out).mono ?_); rintro e w6 ⟨rfl, hj6, ho6⟩; have hown6 := ownsRow_only HO.out ho6 (by simp); have hs6 := ho6.size; have hz6 : w2.heap.size + 1 ≤ (w6.alloc (.cells #[.int .i64 psrc, .int .i64 pdst, .int .i64 pseq, .string pdata] 29)).heap.size := (by simp; omega); have hown6a := hown6.alloc (.cells #[.int .i64 psrc, .int .i64 pdst, .int .i64 pseq, .string pdata] 29); have HJ6 := Lib.hid hj6; have HO6 := Lib.hid ho6; clear hj6 ho6 hown6))
            | (at_builtin; refine append_own (W0 := w6.alloc (.cells #[.int .i64 psrc, .int .i64 pdst, .int .i64 pseq, .string pdata] 29)) [.int .i64 psrc, .int .i64 pdst, .int .i64 pseq, .string pdata] (w2.heap.size + 1) _ _ _ 4 40 infoPk Try.underlying35 rfl (by decide) _ _ _ hown6a (Below.refl _ _) hz6 rfl (by simp [Value.oneCell']) (by omega) (by decide) rfl _ _ rfl rfl (by rw [World.size_alloc]; rfl) ?_; intro v1 w7 hown7 hb7 hg7 hor7; have HO7 := Lib.hid hown7; have HB7 := Lib.hid hb7; clear hown7 hb7 hg7 hor7))
          go_roundw
          case rel =>
            have hb6 : Below w2.heap.size w2 w6 := HB.out.trans (HO6.out.below (by simp) (by omega))
            exact ⟨m + 1, j2, ps ++ [⟨psrc, pdst, pseq, pdata⟩], by omega, by go_num, Below.at HB7.out (alloc_old HJ6.out _) (by omega), by have := HN.out; simpa [Hid] using this, by rw [List.length_append]; unfold flatP; rw [flat_snoc]; exact HO7.out, by have := HB7.out.size; omega, (hb6.alloc hb6.size _).trans (HB7.out.mono (by omega))⟩
          case measure => simp [intOf]; omega
        | false =>
          go_wp2_with (first
            | (go_at_call 39; ((with_reducible refine (HT.out _ HJ.out).mono ?_); rintro e w6 ⟨rfl, hj6, ho6⟩; have hown6 := ownsRow_only HO.out ho6 (by simp); have hs6 := ho6.size; have HJ6 := Lib.hid hj6; have HO6 := Lib.hid ho6; have HW6 := Lib.hid hown6; clear hj6 ho6 hown6)))
          go_roundw
          case rel =>
            have hb6 : Below w2.heap.size w2 w6 := HB.out.trans (HO6.out.below (by simp) (by omega))
            exact ⟨m + 1, j2, ps, by omega, by go_num, alloc_old HJ6.out _, by have := HN.out; simpa [Hid] using this, HW6.out.alloc _, by simp; omega, hb6.alloc hb6.size _⟩
          case measure => simp [intOf]; omega
    · obtain rfl : m = wl.length := by omega
      obtain ⟨hnp, hpe⟩ := HA.out.fin HR.out
      have hS := fun w' a b c d => same11 ps a b c d w' (by omega)
      have HS := Lib.hid hS
      have HPE := Lib.hid hpe
      have hnI : (ps.length : Int) ≤ (pl.length : Int) := by omega
      have hnI2 : (ps.length : Int) ≤ (q2 : Int) := by omega
      obtain ⟨pg, qg, rfl, -, -, hcg⟩ := CellsOff.own HO.out [] (by simp)
      have HCG := Lib.hid hcg
      have HC2o := Lib.hid (HC2.out.below HB.out)
      clear hS hpe hcg
      clear HOT HTO
      go_wp2_with (first | (go_at_call 37; ((with_reducible refine (HS.out _ _ _ _ _ ?_ ?_).mono ?_); exact HCG.out; exact cells_first HC2o.out HPE.out hnp; rintro e w7 ⟨rfl, k7, rfl⟩)))
      go_ret
      have h12 : Below w.heap.size w w2 := HB1.out.trans (HB2.out.mono HB1.out.size)
      have h1o : Below w.heap.size w wo := h12.trans (HB.out.mono h12.size)
      exact ⟨rfl, below_drewN' h1o _⟩
theorem joinErrors_walkI (l : List PaM) (a : Option Addr) (c : Nat) (at_ odd : Int) (h0 : 0 ≤ odd ∧ odd < 18446744073709551616) (w : World) (hl : l.length ≤ maxLen) (h : ParcelsAt w a l) :
    Calls Try.prog 13 #[.slice a l.length c, .int .i64 at_, .int .u64 odd] w fun e w' => e = .returned (.bool true) ∧ Below w.heap.size w w' := by
  obtain ⟨n, rfl⟩ : ∃ n : Nat, odd = (n : Int) := ⟨odd.toNat, by omega⟩
  exact joinErrors_walk l a c at_ n (by omega) w hl h
end Go.Proofs.Ytmehfflomgldeaa
