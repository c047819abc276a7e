/- The walk of JoinTakes. -/
import Derived.Test.YtmehfflomgldeaaJoinF
import Derived.Test.YtmehfflomgldeaaInC
namespace Go.Proofs.Ytmehfflomgldeaa
set_option linter.unusedVariables false
set_option linter.unusedSimpArgs false
open Go.RowKit BM
theorem drew_at {w : World} {b : Nat} {o : Obj} (hb : w.heap[b]? = some o) : w.drew.heap[b]? = some o := hb
theorem ParcelsAt.below {w w' : World} {a : Option Addr} {l : List PaM} (h : ParcelsAt w a l) (hb : Below w.heap.size w w') : ParcelsAt w' a l := fun i hi => by
  obtain ⟨blk, off, p, hp, rfl, c0, c1, c2, c3, hH⟩ := h i hi
  have hlt : blk < w.heap.size := World.block_lt_of_cell? w _ c0
  exact ⟨blk, off, p, hp, rfl, (hb.cell (p := ⟨blk, _, none⟩) hlt).trans c0, (hb.cell (p := ⟨blk, _, none⟩) hlt).trans c1, (hb.cell (p := ⟨blk, _, none⟩) hlt).trans c2, (hb.cell (p := ⟨blk, _, none⟩) hlt).trans c3, hH.below hb⟩
theorem JoinAt.alloc {w : World} {b : Nat} {j : JS} (h : JoinAt w b j) (o : Obj) : JoinAt (w.alloc o) b j := alloc_old h o
set_option maxRecDepth 100000 in
set_option maxHeartbeats 4000000 in
theorem joinTakes_walk (l : List PaM) (a : Option Addr) (c : Nat) (at_ : Int) (o : List Nat) (b : Option Addr) (d : Nat) (w : World) (hl : l.length ≤ maxLen) (h : ParcelsAt w a l) (ho : CellsOff w b (o.map UV) []) (hox : ∀ x ∈ o, x < 2 ^ 64) (hod : o.length ≤ d) :
    Calls Try.prog 12 #[.slice a l.length c, .int .i64 at_, .slice b o.length d] w fun e w' => e = .returned (.bool true) ∧ Below w.heap.size w w' := by
  have hW := fun w' hb => law11_words l a c w' hl (h.below (w' := w') hb)
  have hwl := wordsL_len ((l.map PaM.pa).take 8)
  have hl8 : ((l.map PaM.pa).take 8).length ≤ 8 := by rw [List.length_take]; omega
  have hlt := words_ltL (l := (l.map PaM.pa).take 8)
  have hwl1 : (wordsL ((l.map PaM.pa).take 8)).length ≤ 160 := by omega
  clear hwl hl8 h
  generalize wordsL ((l.map PaM.pa).take 8) = wl at *
  generalize packetsL ((l.map PaM.pa).take 8) = pl at *
  have hmn : min (o.length : Int) 20 = ((o.take 20).length : Int) := by rw [List.length_take]; omega
  have hon : (o.take 20).length ≤ 20 := by rw [List.length_take]; omega
  have hod2 : ((o.take 20).length : Int) ≤ (d : Int) := by rw [List.length_take]; omega
  have ho2 := ho.take 20
  rw [← List.map_take] at ho2
  have hox2 : ∀ x ∈ o.take 20, x < 2 ^ 64 := fun x hx => hox x (List.mem_of_mem_take hx)
  clear ho hox
  generalize o.take 20 = o2 at *
  have HW := Lib.hid hW
  have HL := Lib.hid (fun w => lives11_calls w)
  have HLT := Lib.hid hlt
  have HO2 := Lib.hid ho2
  have HOX := Lib.hid hox2
  clear hW hlt ho2 hox2
  obtain ⟨k, hk⟩ : ∃ k : Int, wrap64 ((IntKind.u64.wrap at_).tmod (wl.length : Int)) = k := ⟨_, rfl⟩
  have hkr : 0 < wl.length → 0 ≤ k ∧ k < (wl.length : Int) := fun h0 => by
    have h : IntKind.u64.wrap at_ = at_ % 18446744073709551616 := by simp [IntKind.wrap, IntKind.bits, IntKind.signed]
    rw [h, Int.tmod_eq_emod_of_nonneg (by omega)] at hk
    have h1 := Int.emod_nonneg (at_ % 18446744073709551616) (b := (wl.length : Int)) (by omega)
    have h2 := Int.emod_lt_of_pos (at_ % 18446744073709551616) (b := (wl.length : Int)) (by omega)
    unfold wrap64 at hk
    omega
  have HKR := Lib.hid hkr
  clear hkr
  obtain ⟨pb, hpb⟩ : ∃ pb : Bool, pb = (decide (0 < wl.length) && decide (0 < o2.length)) := ⟨_, rfl⟩
  have HPB := Lib.hid hpb
  clear hpb
  go_enter Try.func12, Try.ntmps12
  go_upto_region 5 with (first
    | (go_at_call 34; ((with_reducible refine (HL.out _).mono ?_); rintro e w1 ⟨rfl, hb1⟩; have HB1 := Lib.hid hb1; clear hb1))
    | (go_at_call 35; ((with_reducible refine (HW.out _ HB1.out).mono ?_); rintro e w2 ⟨v, u, rfl, hp, hb2⟩; obtain ⟨p1, q1, rfl, hq1, hqm, hc1⟩ := CellsOff.own hp.fst [] (by simp); have HO1 := Lib.hid hp.fst; have HB2 := Lib.hid hb2; clear hp hb2 hc1)))
  have HO2b := Lib.hid ((HO2.out.below HB1.out).below (HB2.out.mono (Nat.le_refl _)))
  go_cut [38] (fun v38 wx => v38 = .bool pb ∧ wx = w2)
  case first =>
    by_cases h1 : 0 < wl.length
    · have h1I : (0 : Int) < (wl.length : Int) := by omega
      by_cases h2 : 0 < o2.length
      · have h2I : (0 : Int) < (o2.length : Int) := by omega
        go_wp2
        go_meet
        exact ⟨by rw [HPB.out, decide_eq_true h1, decide_eq_true h2]; rfl, rfl⟩
      · have h2I : ¬ ((0 : Int) < (o2.length : Int)) := by omega
        go_wp2
        go_meet
        exact ⟨by rw [HPB.out, decide_eq_false h2, Bool.and_false], rfl⟩
    · have h1I : ¬ ((0 : Int) < (wl.length : Int)) := by omega
      go_wp2
      go_meet
      exact ⟨by rw [HPB.out, decide_eq_false h1, Bool.false_and], rfl⟩
  case rest =>
  obtain ⟨rfl, rfl⟩ := hcut
  obtain ⟨w2, rfl⟩ : ∃ x : World, x = wc := ⟨_, rfl⟩
  go_upto_if 38 with (fail)
  go_cut [] (fun wx => ∃ L : List Nat, L.length = wl.length ∧ (∀ x ∈ L, x < 2 ^ 64) ∧ wx.ownsRow w1.heap.size 73 1 (.slice p1 wl.length q1) wl.length (L.map UV) ∧ Below w1.heap.size w2 wx)
  case first =>
    cases pb with
    | false =>
      go_wp2
      go_meet
      exact ⟨wl, rfl, HLT.out, HO1.out, Below.refl _ _⟩
    | true =>
      have hpb := HPB.out
      simp at hpb
      obtain ⟨k1, k2⟩ := HKR.out hpb.1
      obtain ⟨n, rfl⟩ := Int.eq_ofNat_of_zero_le k1
      have hn : n < wl.length := by omega
      obtain ⟨blk2, off2, rfl, hlt2, e0⟩ := u_cell HO2.out hpb.2
      have e0 := (HB1.out.cell (p := ⟨blk2, _, none⟩) hlt2).trans e0
      have hlt3 : blk2 < w1.heap.size := Nat.lt_of_lt_of_le hlt2 HB1.out.size
      have e0 := (HB2.out.cell (p := ⟨blk2, _, none⟩) hlt3).trans e0
      have ho1 := HO1.out
      rcases ho1.2 with ⟨hnil, h0⟩ | ⟨g, cap, cur, he, hbg, hg, hnc, hcm, hcs, ht⟩
      · omega
      simp only [Value.slice.injEq] at he
      obtain ⟨rfl, -, rfl⟩ := he
      have hst := ho1.stored n (UV (o2.getD 0 0))
      have hy := HOX.out (o2.getD 0 0) (by rw [List.getD_eq_getElem?_getD, List.getElem?_eq_getElem hpb.2]; exact List.getElem_mem hpb.2)
      have hfz := ho1.frozenAt n
      have hcl := ho1.cellAt n (by simpa using hn)
      rw [List.getElem?_map, List.getElem?_eq_getElem hn] at hcl
      have HST := Lib.hid hst
      have HY := Lib.hid hy
      have h2I : (0 : Int) < (o2.length : Int) := by omega
      have hnI : (n : Int) < (wl.length : Int) := by omega
      clear hst hy ho1 ht hg hcs
      generalize o2.getD 0 0 = y at *
      have hwr : IntKind.u64.wrap (wl.length : Int) = (wl.length : Int) := by simp [IntKind.wrap, IntKind.bits, IntKind.signed]; omega
      have hk2 : IntKind.i64.wrap ((IntKind.u64.wrap at_).tmod (wl.length : Int)) = (n : Int) := (IntWalk.i64_left _).trans hk
      have hne0 : ¬ (wl = []) := fun e => by rw [e] at hn; simp at hn
      go_upto_region 6 with (fail)
      refine wp_region_held_drew (S := (fun w' => w'.cell? ⟨blk2, off2, none⟩ = some (.int .u64 (y : Int)))) (by kernel_rfl) ?_ (fun hHeld0 => ?_)
      · (try dsimp only); first | exact e0 | exact ((Below.setCell (Below.refl w1.heap.size w2) (p := ⟨g, n, none⟩) hbg _).cell (p := ⟨blk2, _, none⟩) hlt3).trans e0
      refine wpAnyH_take (i := 0) (v := ?_) rfl (by kernel_rfl) (by kernel_rfl) (by kernel_rfl) (fun _ _ _ h => h) (Or.inl ⟨by rfl, ?_⟩) (by assumption) ?_
      rotate_left
      · (intro w hSw; (try dsimp only at hSw); go_simp; try with_reducible rfl)
      (try simp only [Act.put, List.setIfInBounds_toArray, List.set_cons_zero, List.set_cons_succ, List.getElem_toArray, List.getElem_cons_zero, List.getElem_cons_succ])
      refine wpAnyH_take (i := 1) (v := ?_) rfl (by kernel_rfl) (by kernel_rfl) (by kernel_rfl) (fun _ _ _ h => h) (Or.inl ⟨by rfl, ?_⟩) (by assumption) ?_
      rotate_left
      · (intro w hSw; (try dsimp only at hSw); go_simp; try with_reducible rfl)
      (try simp only [Act.put, List.setIfInBounds_toArray, List.set_cons_zero, List.set_cons_succ, List.getElem_toArray, List.getElem_cons_zero, List.getElem_cons_succ])
      refine wpAnyH_take (i := 2) (v := ?_) rfl (by kernel_rfl) (by kernel_rfl) (by kernel_rfl) (fun _ _ _ h => h) (Or.inl ⟨by rfl, ?_⟩) (by assumption) ?_
      rotate_left
      · (intro w hSw; (try dsimp only at hSw); go_simp; try with_reducible rfl)
      (try simp only [Act.put, List.setIfInBounds_toArray, List.set_cons_zero, List.set_cons_succ, List.getElem_toArray, List.getElem_cons_zero, List.getElem_cons_succ])
      refine wpAnyH_take (i := 3) (v := ?_) rfl (by kernel_rfl) (by kernel_rfl) (by kernel_rfl) (fun _ _ _ h => h) (Or.inl ⟨by rfl, ?_⟩) (by assumption) ?_
      rotate_left
      · (intro w hSw; (try dsimp only at hSw); go_simp; try with_reducible rfl)
      (try simp only [Act.put, List.setIfInBounds_toArray, List.set_cons_zero, List.set_cons_succ, List.getElem_toArray, List.getElem_cons_zero, List.getElem_cons_succ])
      refine wpAnyH_take (i := 4) (v := ?_) rfl (by kernel_rfl) (by kernel_rfl) (by kernel_rfl) (fun _ _ _ h => h) (Or.inl ⟨by rfl, ?_⟩) (by assumption) ?_
      rotate_left
      · (intro w hSw; (try dsimp only at hSw); go_simp; try with_reducible rfl)
      (try simp only [Act.put, List.setIfInBounds_toArray, List.set_cons_zero, List.set_cons_succ, List.getElem_toArray, List.getElem_cons_zero, List.getElem_cons_succ])
      refine wpAnyH_take (i := 5) (v := ?_) rfl (by kernel_rfl) (by kernel_rfl) (by kernel_rfl) (fun _ _ _ h => h) (Or.inl ⟨by rfl, ?_⟩) (by assumption) ?_
      rotate_left
      · (intro w hSw; (try dsimp only at hSw); go_simp; try with_reducible rfl)
      (try simp only [Act.put, List.setIfInBounds_toArray, List.set_cons_zero, List.set_cons_succ, List.getElem_toArray, List.getElem_cons_zero, List.getElem_cons_succ])
      refine wpAnyH_take (i := 6) (v := ?_) rfl (by kernel_rfl) (by kernel_rfl) (by kernel_rfl) (fun _ _ _ h => h) (Or.inl ⟨by rfl, ?_⟩) (by assumption) ?_
      rotate_left
      · (intro w hSw; (try dsimp only at hSw); go_simp; try with_reducible rfl)
      (try simp only [Act.put, List.setIfInBounds_toArray, List.set_cons_zero, List.set_cons_succ, List.getElem_toArray, List.getElem_cons_zero, List.getElem_cons_succ])
      refine wpAnyH_take (i := 7) (v := ?_) rfl (by kernel_rfl) (by kernel_rfl) (by kernel_rfl) (fun _ _ _ h => h) (Or.inl ⟨by rfl, ?_⟩) (by assumption) ?_
      rotate_left
      · (intro w hSw; (try dsimp only at hSw); go_simp; try with_reducible rfl)
      (try simp only [Act.put, List.setIfInBounds_toArray, List.set_cons_zero, List.set_cons_succ, List.getElem_toArray, List.getElem_cons_zero, List.getElem_cons_succ])
      refine wpAnyH_take (i := 8) (v := ?_) rfl (by kernel_rfl) (by kernel_rfl) (by kernel_rfl) (fun _ _ _ h => h) (Or.inl ⟨by rfl, ?_⟩) (by assumption) ?_
      rotate_left
      · (intro w hSw; (try dsimp only at hSw); go_simp; try with_reducible rfl)
      (try simp only [Act.put, List.setIfInBounds_toArray, List.set_cons_zero, List.set_cons_succ, List.getElem_toArray, List.getElem_cons_zero, List.getElem_cons_succ])
      refine wpAnyH_take (i := 9) (v := ?_) rfl (by kernel_rfl) (by kernel_rfl) (by kernel_rfl) (fun _ _ _ h => h) (Or.inl ⟨by rfl, ?_⟩) (by assumption) ?_
      rotate_left
      · (intro w hSw; (try dsimp only at hSw); go_simp; try with_reducible rfl)
      (try simp only [Act.put, List.setIfInBounds_toArray, List.set_cons_zero, List.set_cons_succ, List.getElem_toArray, List.getElem_cons_zero, List.getElem_cons_succ])
      refine wpAnyH_take (i := 10) (v := ?_) rfl (by kernel_rfl) (by kernel_rfl) (by kernel_rfl) (fun _ _ _ h => h) (Or.inl ⟨by rfl, ?_⟩) (by assumption) ?_
      rotate_left
      · (intro w hSw; (try dsimp only at hSw); go_simp; try with_reducible rfl)
      (try simp only [Act.put, List.setIfInBounds_toArray, List.set_cons_zero, List.set_cons_succ, List.getElem_toArray, List.getElem_cons_zero, List.getElem_cons_succ])
      refine wpAnyH_take (i := 11) (v := ?_) rfl (by kernel_rfl) (by kernel_rfl) (by kernel_rfl) (fun _ _ _ h => h) (Or.inl ⟨by rfl, ?_⟩) (by assumption) ?_
      rotate_left
      · (intro w hSw; (try dsimp only at hSw); go_simp; try with_reducible rfl)
      (try simp only [Act.put, List.setIfInBounds_toArray, List.set_cons_zero, List.set_cons_succ, List.getElem_toArray, List.getElem_cons_zero, List.getElem_cons_succ])
      refine wpAnyH_ready (rs := [12]) (by kernel_rfl) (by simp) ?_
      refine AllReadyH.cons rfl (fun K hK => ?_) ?_
      · go_simp
        refine hK.out _ _ ?_ (fun hHeld1 => ?_)
        · (try dsimp only); first | exact e0 | exact ((Below.setCell (Below.refl w1.heap.size w2) (p := ⟨g, n, none⟩) hbg _).cell (p := ⟨blk2, _, none⟩) hlt3).trans e0
        clear hK K hHeld0
        (try simp only [Act.put, List.setIfInBounds_toArray, List.set_cons_zero, List.set_cons_succ, List.getElem_toArray, List.getElem_cons_zero, List.getElem_cons_succ])
        refine wpAnyH_done (by kernel_rfl) ?_ _
        go_wp2
        go_meet
        refine ⟨wl.set n y, by rw [List.length_set], fun x hx => ?_, ?_, ?_⟩
        · rcases List.mem_or_eq_of_mem_set hx with h | rfl
          · exact HLT.out x h
          · exact HY.out
        · rw [List.map_set]; exact HST.out.1.drew
        · exact (Below.setCell (Below.refl w1.heap.size w2) (p := ⟨g, n, none⟩) hbg _).drew
      exact AllReadyH.nil
  case rest =>
  obtain ⟨L, hL, hL64, hown, hb12⟩ := hcut
  obtain ⟨w3, rfl⟩ : ∃ x : World, x = wc := ⟨_, rfl⟩
  have hb13 : Below w1.heap.size w1 w3 := HB2.out.trans hb12
  have hco3 := (HO2.out.below HB1.out).below hb13
  have hs3 : w1.heap.size ≤ w3.heap.size := hb13.size
  have hX64 : ∀ x ∈ L ++ o2, x < 2 ^ 64 := fun x hx => by
    rcases List.mem_append.1 hx with h | h
    · exact hL64 x h
    · exact HOX.out x h
  have hXl : (L ++ o2).length = wl.length + o2.length := by rw [List.length_append, hL]
  have hXm : L.map UV ++ o2.map UV = (L ++ o2).map UV := (List.map_append ..).symm
  generalize L ++ o2 = X at *
  have HB13 := Lib.hid hb13
  have HX64 := Lib.hid hX64
  have HXm := Lib.hid hXm
  have HXl := Lib.hid hXl
  have hxs : X.length ≤ 180 := by omega
  have hxI : (X.length : Int) ≤ 180 := by omega
  clear hb13 hb12 hX64 hXm hXl hL hL64 HO1 HB2 HO2b HPB HKR hk
  go_wp2_with (first
    | (go_at_call 38; ((with_reducible refine (join_new _).mono ?_); rintro e w6 ⟨rfl, hj6, hz6, hb6⟩; have HJ6 := Lib.hid hj6; have HZ6 := Lib.hid hz6; have HB6 := Lib.hid hb6; clear hj6 hb6 hz6))
    | (at_builtin; refine append_rows (W0 := w3) (o2.map UV) o2.length w1.heap.size 62 73 _ 1 8 infoU64p Try.underlying62 rfl (by decide) _ _ _ hown (Below.refl _ _) hs3 _ _ (by simp) hco3 (oneCell_UV _) (by omega) (by decide) rfl _ _ rfl rfl rfl ?_; intro v5 w5 hown5 hb5 hg5 hor5; rw [HXm.out, ← HXl.out] at hown5; obtain ⟨p5, q5, rfl, -, -, hc5⟩ := CellsOff.own hown5 [] (by simp); have HC5 := Lib.hid hc5; have HB5 := Lib.hid hb5; clear hown5 hb5 hg5 hor5 hc5))
  have hz6a : w5.heap.size + 1 ≤ w6.heap.size := by have := HZ6.out; omega
  have hz6b : w6.heap.size ≤ w5.heap.size + 1 := by have := HZ6.out; omega
  have HB15 := Lib.hid (HB13.out.trans HB5.out)
  go_loopw [11] (fun i wr => ∃ (m : Nat) (j : JS), m ≤ X.length ∧ i = .int .i64 (m : Int) ∧ JoinAt wr w5.heap.size j ∧ wr.heap[w6.heap.size]? = some (.cells #[.bool j.is, .int .i64 j.pk.src, .int .i64 j.pk.dst, .int .i64 j.pk.seq, .string j.pk.data, .int .i64 j.len] 76 (0, 0)) ∧ Hid j.Ok ∧ Below w5.heap.size w5 wr) (fun i _ => X.length - (intOf i).toNat)
  case atStart => exact ⟨0, JS.zero, by omega, rfl, HJ6.out.alloc _, alloc_new _, Lib.hid JS.zero_ok, HB6.out.alloc (by omega) _⟩
  case round =>
    clear HJ6 HB6 HZ6 HB5 HB13 HXl
    obtain ⟨m, j, hm, rfl, hj, hr, hok, hb⟩ := hrel
    obtain ⟨wo, rfl⟩ : ∃ x : World, x = wr := ⟨_, rfl⟩
    have HB := Lib.hid hb
    have hso := hb.size
    have hsr := block_lt hr
    clear hb
    by_cases hmX : m < X.length
    · have hmI : (m : Int) < (X.length : Int) := by omega
      obtain ⟨blk, off, rfl, hlt, c0⟩ := u_cell HC5.out hmX
      have hx64 := HX64.out (X.getD m 0) (by rw [List.getD_eq_getElem?_getD, List.getElem?_eq_getElem hmX]; exact List.getElem_mem hmX)
      have hdj : j.pk.data.size ≤ 4294967296 := by have := hok.out.d0; omega
      have hok2 := hok.out.take (X.getD m 0)
      have hT := fun w' h => join_take (X.getD m 0) hx64 w' w5.heap.size j h hdj
      have hRT := fun w' => rjoin_take (X.getD m 0) hx64 w' j hdj
      have d0 := (HB.out.cell (p := ⟨blk, _, none⟩) hlt).trans c0
      clear hok
      generalize X.getD m 0 = x at *
      generalize j.take x = T at *
      obtain ⟨j2, ⟨psrc, pdst, pseq, pdata⟩, is2, e2⟩ := T
      dsimp only [JS.val, Pk.val] at *
      have hd2 : j2.pk.data.size ≤ 64 := by have := hok2.d0; omega
      have HOK := Lib.hid hok2
      have HT := Lib.hid hT
      have HRT := Lib.hid hRT
      have HJ := Lib.hid hj
      have HR := Lib.hid hr
      have HC0 := Lib.hid c0
      clear hT hRT hok2 hj hr c0
      go_upto_region 14 with (first
        | (go_at_call 39; ((with_reducible refine (HT.out _ HJ.out).mono ?_); rintro e w7 ⟨rfl, hj7, ho7⟩; have HJ7 := Lib.hid hj7; have HO7 := Lib.hid ho7; clear hj7 ho7)))
      have hz7 := HO7.out.size
      have hA := alloc_new (w := w7) (.cells #[.int .i64 psrc, .int .i64 pdst, .int .i64 pseq, .string pdata] 29)
      have hJ8 : JoinAt (w7.alloc (.cells #[.int .i64 psrc, .int .i64 pdst, .int .i64 pseq, .string pdata] 29)) w5.heap.size j2 := HJ7.out.alloc _
      have hb7 : Below w5.heap.size w5 w7 := HB.out.trans (HO7.out.below (by simp) hso)
      have hb8 : Below w5.heap.size w5 (w7.alloc (.cells #[.int .i64 psrc, .int .i64 pdst, .int .i64 pseq, .string pdata] 29)) := hb7.alloc hb7.size _
      have hR8 : (w7.alloc (.cells #[.int .i64 psrc, .int .i64 pdst, .int .i64 pseq, .string pdata] 29)).heap[w6.heap.size]? = some (.cells #[.bool j.is, .int .i64 j.pk.src, .int .i64 j.pk.dst, .int .i64 j.pk.seq, .string j.pk.data, .int .i64 j.len] 76 (0, 0)) := alloc_old (HO7.out.at HR.out (by simp; omega)) _
      clear d0
      generalize w7.alloc (.cells #[.int .i64 psrc, .int .i64 pdst, .int .i64 pseq, .string pdata] 29) = w8 at *
      have hn7 : w7.heap.size < w8.heap.size := block_lt hA
      have HX : Hid (∀ w', Below w8.heap.size w8 w' → ((∀ i, w'.cell? ⟨w6.heap.size, i, none⟩ = (#[.bool j.is, .int .i64 j.pk.src, .int .i64 j.pk.dst, .int .i64 j.pk.seq, .string j.pk.data, .int .i64 j.len] : Array Value)[i]?) ∧ w'.cell? ⟨blk, off + m, none⟩ = some (.int .u64 (x : Int)))) := fun w' h =>
        ⟨fun i => cell_at (Below.at h hR8 (block_lt hR8)) i, ((hb8.trans (h.mono hb8.size)).cell (p := ⟨blk, _, none⟩) hlt).trans HC0.out⟩
      have hl8 := block_lt hR8
      have HA := Lib.hid hA
      have HJ8 := Lib.hid hJ8
      have HB8 := Lib.hid hb8
      have HR8 := Lib.hid hR8
      clear hA hJ8 hb7 hb8 hR8 HJ HR HB HJ7 HO7 HT
      go_cut [15, 16, 17, 18] (fun v15 v16 v17 v18 wx => ∃ n d, v15 = .pointer (some ⟨n, 0, none⟩) ∧ v16 = .pointer (some ⟨d, 0, none⟩) ∧ v17 = .bool is2 ∧ v18 = .int .i64 e2 ∧ wx.heap[n]? = some (.cells #[.bool j2.is, .int .i64 j2.pk.src, .int .i64 j2.pk.dst, .int .i64 j2.pk.seq, .string j2.pk.data, .int .i64 j2.len] 76 (0, 0)) ∧ wx.heap[d]? = some (.cells #[.int .i64 psrc, .int .i64 pdst, .int .i64 pseq, .string pdata] 29 (0, 0)) ∧ w8.heap.size ≤ n ∧ w8.heap.size ≤ d ∧ Below w8.heap.size w8 wx)
      case first =>
        refine wp_region_held_drew (S := (fun w' => (∀ i, w'.cell? ⟨w6.heap.size, i, none⟩ = (#[.bool j.is, .int .i64 j.pk.src, .int .i64 j.pk.dst, .int .i64 j.pk.seq, .string j.pk.data, .int .i64 j.len] : Array Value)[i]?) ∧ w'.cell? ⟨blk, off + m, none⟩ = some (.int .u64 (x : Int)))) (by kernel_rfl) ?_ (fun hHeld0 => ?_)
        · (try dsimp only); exact HX.out _ (by repeat' (first | (with_reducible assumption) | (with_reducible refine below_setRowN ?_ ?_ _) | (with_reducible refine Below.setCell ?_ ?_ _) | (with_reducible refine below_drewN' ?_ _) | (with_reducible refine Below.drew ?_) | (with_reducible refine Below.alloc ?_ ?_ _) | (with_reducible exact Below.refl _ _) | (with_reducible exact Nat.le_refl _) | (simp; done) | omega | (simp; omega)))
        refine wpAnyH_take (i := 0) (v := ?_) rfl (by kernel_rfl) (by kernel_rfl) (by kernel_rfl) (fun _ _ _ h => h) (Or.inl ⟨by rfl, ?_⟩) (by assumption) ?_
        rotate_left
        · (intro w hSw; (try dsimp only at hSw); go_simp; try with_reducible rfl)
        (try simp only [Act.put, List.setIfInBounds_toArray, List.set_cons_zero, List.set_cons_succ, List.getElem_toArray, List.getElem_cons_zero, List.getElem_cons_succ])
        refine wpAnyH_take (i := 1) (v := ?_) rfl (by kernel_rfl) (by kernel_rfl) (by kernel_rfl) (fun _ _ _ h => h) (Or.inl ⟨by rfl, ?_⟩) (by assumption) ?_
        rotate_left
        · (intro w hSw; (try dsimp only at hSw); go_simp; try with_reducible rfl)
        (try simp only [Act.put, List.setIfInBounds_toArray, List.set_cons_zero, List.set_cons_succ, List.getElem_toArray, List.getElem_cons_zero, List.getElem_cons_succ])
        refine wpAnyH_take (i := 2) (v := ?_) rfl (by kernel_rfl) (by kernel_rfl) (by kernel_rfl) (fun _ _ _ h => h) (Or.inl ⟨by rfl, ?_⟩) (by assumption) ?_
        rotate_left
        · (intro w hSw; (try dsimp only at hSw); go_simp; try with_reducible rfl)
        (try simp only [Act.put, List.setIfInBounds_toArray, List.set_cons_zero, List.set_cons_succ, List.getElem_toArray, List.getElem_cons_zero, List.getElem_cons_succ])
        refine wpAnyH_take (i := 3) (v := ?_) rfl (by kernel_rfl) (by kernel_rfl) (by kernel_rfl) (fun _ _ _ h => h) (Or.inl ⟨by rfl, ?_⟩) (by assumption) ?_
        rotate_left
        · (intro w hSw; (try dsimp only at hSw); go_simp; try with_reducible rfl)
        (try simp only [Act.put, List.setIfInBounds_toArray, List.set_cons_zero, List.set_cons_succ, List.getElem_toArray, List.getElem_cons_zero, List.getElem_cons_succ])
        refine wpAnyH_take (i := 4) (v := ?_) rfl (by kernel_rfl) (by kernel_rfl) (by kernel_rfl) (fun _ _ _ h => h) (Or.inl ⟨by rfl, ?_⟩) (by assumption) ?_
        rotate_left
        · (intro w hSw; (try dsimp only at hSw); go_simp; try with_reducible rfl)
        (try simp only [Act.put, List.setIfInBounds_toArray, List.set_cons_zero, List.set_cons_succ, List.getElem_toArray, List.getElem_cons_zero, List.getElem_cons_succ])
        refine wpAnyH_ready (rs := [5, 11, 12]) (by kernel_rfl) (by simp) ?_
        refine AllReadyH.cons rfl (fun K hK => ?_) ?_
        · (go_simp; go_at_call 41; (with_reducible refine (HRT.out _).mono ?_); rintro e w9 ⟨rfl, hb9⟩; have hcur : Below w8.heap.size w8 w9 := (Below.trans (by repeat' (first | (with_reducible assumption) | (with_reducible refine below_setRowN ?_ ?_ _) | (with_reducible refine Below.setCell ?_ ?_ _) | (with_reducible refine below_drewN' ?_ _) | (with_reducible refine Below.drew ?_) | (with_reducible refine Below.alloc ?_ ?_ _) | (with_reducible exact Below.refl _ _) | (with_reducible exact Nat.le_refl _) | (simp; done) | omega | (simp; omega))) (hb9.mono (by first | (simp; done) | omega | (simp; omega)))); have hcs := hcur.size; have hcs9 := hb9.size; (try simp at hcs9))
          refine hK.out _ _ ?_ (fun hHeld1 => ?_)
          · (try dsimp only); exact HX.out _ (by repeat' (first | (with_reducible assumption) | (with_reducible refine below_setRowN ?_ ?_ _) | (with_reducible refine Below.setCell ?_ ?_ _) | (with_reducible refine below_drewN' ?_ _) | (with_reducible refine Below.drew ?_) | (with_reducible refine Below.alloc ?_ ?_ _) | (with_reducible exact Below.refl _ _) | (with_reducible exact Nat.le_refl _) | (simp; done) | omega | (simp; omega)))
          clear hK K hHeld0
          (try simp only [Act.put, List.setIfInBounds_toArray, List.set_cons_zero, List.set_cons_succ, List.getElem_toArray, List.getElem_cons_zero, List.getElem_cons_succ])
          refine wpAnyH_take (i := 6) (v := ?_) rfl (by kernel_rfl) (by kernel_rfl) (by kernel_rfl) (fun _ _ _ h => h) (Or.inl ⟨by rfl, ?_⟩) (by assumption) ?_
          rotate_left
          · (intro w hSw; (try dsimp only at hSw); go_simp; try with_reducible rfl)
          (try simp only [Act.put, List.setIfInBounds_toArray, List.set_cons_zero, List.set_cons_succ, List.getElem_toArray, List.getElem_cons_zero, List.getElem_cons_succ])
          refine wpAnyH_take (i := 7) (v := ?_) rfl (by kernel_rfl) (by kernel_rfl) (by kernel_rfl) (fun _ _ _ h => h) (Or.inl ⟨by rfl, ?_⟩) (by assumption) ?_
          rotate_left
          · (intro w hSw; (try dsimp only at hSw); go_simp; try with_reducible rfl)
          (try simp only [Act.put, List.setIfInBounds_toArray, List.set_cons_zero, List.set_cons_succ, List.getElem_toArray, List.getElem_cons_zero, List.getElem_cons_succ])
          refine wpAnyH_take (i := 8) (v := ?_) rfl (by kernel_rfl) (by kernel_rfl) (by kernel_rfl) (fun _ _ _ h => h) (Or.inl ⟨by rfl, ?_⟩) (by assumption) ?_
          rotate_left
          · (intro w hSw; (try dsimp only at hSw); go_simp; try with_reducible rfl)
          (try simp only [Act.put, List.setIfInBounds_toArray, List.set_cons_zero, List.set_cons_succ, List.getElem_toArray, List.getElem_cons_zero, List.getElem_cons_succ])
          refine wpAnyH_take (i := 9) (v := ?_) rfl (by kernel_rfl) (by kernel_rfl) (by kernel_rfl) (fun _ _ _ h => h) (Or.inl ⟨by rfl, ?_⟩) (by assumption) ?_
          rotate_left
          · (intro w hSw; (try dsimp only at hSw); go_simp; try with_reducible rfl)
          (try simp only [Act.put, List.setIfInBounds_toArray, List.set_cons_zero, List.set_cons_succ, List.getElem_toArray, List.getElem_cons_zero, List.getElem_cons_succ])
          refine wpAnyH_take (i := 10) (v := ?_) rfl (by kernel_rfl) (by kernel_rfl) (by kernel_rfl) (fun _ _ _ h => h) (Or.inl ⟨by rfl, ?_⟩) (by assumption) ?_
          rotate_left
          · (intro w hSw; (try dsimp only at hSw); go_simp; try with_reducible rfl)
          (try simp only [Act.put, List.setIfInBounds_toArray, List.set_cons_zero, List.set_cons_succ, List.getElem_toArray, List.getElem_cons_zero, List.getElem_cons_succ])
          refine wpAnyH_ready (rs := [11, 12]) (by kernel_rfl) (by simp) ?_
          refine AllReadyH.cons rfl (fun K hK => ?_) ?_
          · go_simp
            refine hK.out _ _ ?_ (fun hHeld2 => ?_)
            · (try dsimp only); exact HX.out _ (by repeat' (first | (with_reducible assumption) | (with_reducible refine below_setRowN ?_ ?_ _) | (with_reducible refine Below.setCell ?_ ?_ _) | (with_reducible refine below_drewN' ?_ _) | (with_reducible refine Below.drew ?_) | (with_reducible refine Below.alloc ?_ ?_ _) | (with_reducible exact Below.refl _ _) | (with_reducible exact Nat.le_refl _) | (simp; done) | omega | (simp; omega)))
            clear hK K hHeld1
            (try simp only [Act.put, List.setIfInBounds_toArray, List.set_cons_zero, List.set_cons_succ, List.getElem_toArray, List.getElem_cons_zero, List.getElem_cons_succ])
            refine wpAnyH_ready (rs := [12]) (by kernel_rfl) (by simp) ?_
            refine AllReadyH.cons rfl (fun K hK => ?_) ?_
            · go_simp
              refine hK.out _ _ ?_ (fun hHeld3 => ?_)
              · (try dsimp only); exact HX.out _ (by repeat' (first | (with_reducible assumption) | (with_reducible refine below_setRowN ?_ ?_ _) | (with_reducible refine Below.setCell ?_ ?_ _) | (with_reducible refine below_drewN' ?_ _) | (with_reducible refine Below.drew ?_) | (with_reducible refine Below.alloc ?_ ?_ _) | (with_reducible exact Below.refl _ _) | (with_reducible exact Nat.le_refl _) | (simp; done) | omega | (simp; omega)))
              clear hK K hHeld2
              (try simp only [Act.put, List.setIfInBounds_toArray, List.set_cons_zero, List.set_cons_succ, List.getElem_toArray, List.getElem_cons_zero, List.getElem_cons_succ])
              refine wpAnyH_ready (rs := [13]) (by kernel_rfl) (by simp) ?_
              refine AllReadyH.cons rfl (fun K hK => ?_) ?_
              · (rw [if_pos (by rfl)]; refine wp_store_row 76 _ _ (by rfl) _ _ (by rfl) (by rfl) 76 #[.bool false, .int .i64 0, .int .i64 0, .int .i64 0, .string ⟨#[]⟩, .int .i64 0] (by repeat' (first | (with_reducible refine drew_at ?_) | (with_reducible refine setRow_off ?_ ?_ _) | (with_reducible exact setRow_at (by assumption) _) | (with_reducible exact alloc_new _) | (with_reducible refine alloc_at _ _ (by simp; done)) | (with_reducible refine alloc_old ?_ _) | (with_reducible refine Below.at hb9 ?_ ?_) | (simp; done) | (simp; omega) | omega)) (by kernel_rfl) (by rfl) (by first | (simp; done) | simp [Value.oneCell']) ?_)
                refine hK.out _ _ ?_ (fun hHeld4 => ?_)
                · (try dsimp only); exact HX.out _ (by repeat' (first | (with_reducible assumption) | (with_reducible refine below_setRowN ?_ ?_ _) | (with_reducible refine Below.setCell ?_ ?_ _) | (with_reducible refine below_drewN' ?_ _) | (with_reducible refine Below.drew ?_) | (with_reducible refine Below.alloc ?_ ?_ _) | (with_reducible exact Below.refl _ _) | (with_reducible exact Nat.le_refl _) | (simp; done) | omega | (simp; omega)))
                clear hK K hHeld3
                (try simp only [Act.put, List.setIfInBounds_toArray, List.set_cons_zero, List.set_cons_succ, List.getElem_toArray, List.getElem_cons_zero, List.getElem_cons_succ])
                refine wpAnyH_ready (rs := [14]) (by kernel_rfl) (by simp) ?_
                refine AllReadyH.cons rfl (fun K hK => ?_) ?_
                · (rw [if_pos (by rfl)]; refine wp_store_row 29 _ _ (by rfl) _ _ (by rfl) (by rfl) 29 #[.int .i64 0, .int .i64 0, .int .i64 0, .string ⟨#[]⟩] (by repeat' (first | (with_reducible refine drew_at ?_) | (with_reducible refine setRow_off ?_ ?_ _) | (with_reducible exact setRow_at (by assumption) _) | (with_reducible exact alloc_new _) | (with_reducible refine alloc_at _ _ (by simp; done)) | (with_reducible refine alloc_old ?_ _) | (with_reducible refine Below.at hb9 ?_ ?_) | (simp; done) | (simp; omega) | omega)) (by kernel_rfl) (by rfl) (by first | (simp; done) | simp [Value.oneCell']) ?_)
                  refine hK.out _ _ ?_ (fun hHeld5 => ?_)
                  · (try dsimp only); exact HX.out _ (by repeat' (first | (with_reducible assumption) | (with_reducible refine below_setRowN ?_ ?_ _) | (with_reducible refine Below.setCell ?_ ?_ _) | (with_reducible refine below_drewN' ?_ _) | (with_reducible refine Below.drew ?_) | (with_reducible refine Below.alloc ?_ ?_ _) | (with_reducible exact Below.refl _ _) | (with_reducible exact Nat.le_refl _) | (simp; done) | omega | (simp; omega)))
                  clear hK K hHeld4
                  (try simp only [Act.put, List.setIfInBounds_toArray, List.set_cons_zero, List.set_cons_succ, List.getElem_toArray, List.getElem_cons_zero, List.getElem_cons_succ])
                  refine wpAnyH_take (i := 15) (v := ?_) rfl (by kernel_rfl) (by kernel_rfl) (by kernel_rfl) (fun _ _ _ h => h) (Or.inl ⟨by rfl, ?_⟩) (by assumption) ?_
                  rotate_left
                  · (intro w hSw; (try dsimp only at hSw); go_simp; try with_reducible rfl)
                  (try simp only [Act.put, List.setIfInBounds_toArray, List.set_cons_zero, List.set_cons_succ, List.getElem_toArray, List.getElem_cons_zero, List.getElem_cons_succ])
                  refine wpAnyH_take (i := 16) (v := ?_) rfl (by kernel_rfl) (by kernel_rfl) (by kernel_rfl) (fun _ _ _ h => h) (Or.inl ⟨by rfl, ?_⟩) (by assumption) ?_
                  rotate_left
                  · (intro w hSw; (try dsimp only at hSw); go_simp; try with_reducible rfl)
                  (try simp only [Act.put, List.setIfInBounds_toArray, List.set_cons_zero, List.set_cons_succ, List.getElem_toArray, List.getElem_cons_zero, List.getElem_cons_succ])
                  refine wpAnyH_done (by kernel_rfl) ?_ _
                  go_wp2
                  go_meet
                  refine ⟨_, _, rfl, rfl, rfl, rfl, ?_, ?_, ?_, ?_, by repeat' (first | (with_reducible assumption) | (with_reducible refine below_setRowN ?_ ?_ _) | (with_reducible refine Below.setCell ?_ ?_ _) | (with_reducible refine below_drewN' ?_ _) | (with_reducible refine Below.drew ?_) | (with_reducible refine Below.alloc ?_ ?_ _) | (with_reducible exact Below.refl _ _) | (with_reducible exact Nat.le_refl _) | (simp; done) | omega | (simp; omega))⟩
                  · first | (refine setRow_at (old := #[.bool false, .int .i64 0, .int .i64 0, .int .i64 0, .string ⟨#[]⟩, .int .i64 0]) ?_ _; repeat' (first | (with_reducible refine drew_at ?_) | (with_reducible refine setRow_off ?_ ?_ _) | (with_reducible exact setRow_at (by assumption) _) | (with_reducible exact alloc_new _) | (with_reducible refine alloc_at _ _ (by simp; done)) | (with_reducible refine alloc_old ?_ _) | (with_reducible refine Below.at hb9 ?_ ?_) | (simp; done) | (simp; omega) | omega)) | (refine setRow_off (setRow_at (old := #[.bool false, .int .i64 0, .int .i64 0, .int .i64 0, .string ⟨#[]⟩, .int .i64 0]) ?_ _) ?_ _; repeat' (first | (with_reducible refine drew_at ?_) | (with_reducible refine setRow_off ?_ ?_ _) | (with_reducible exact setRow_at (by assumption) _) | (with_reducible exact alloc_new _) | (with_reducible refine alloc_at _ _ (by simp; done)) | (with_reducible refine alloc_old ?_ _) | (with_reducible refine Below.at hb9 ?_ ?_) | (simp; done) | (simp; omega) | omega))
                  · first | (refine setRow_at (old := #[.int .i64 0, .int .i64 0, .int .i64 0, .string ⟨#[]⟩]) ?_ _; repeat' (first | (with_reducible refine drew_at ?_) | (with_reducible refine setRow_off ?_ ?_ _) | (with_reducible exact setRow_at (by assumption) _) | (with_reducible exact alloc_new _) | (with_reducible refine alloc_at _ _ (by simp; done)) | (with_reducible refine alloc_old ?_ _) | (with_reducible refine Below.at hb9 ?_ ?_) | (simp; done) | (simp; omega) | omega)) | (refine setRow_off (setRow_at (old := #[.int .i64 0, .int .i64 0, .int .i64 0, .string ⟨#[]⟩]) ?_ _) ?_ _; repeat' (first | (with_reducible refine drew_at ?_) | (with_reducible refine setRow_off ?_ ?_ _) | (with_reducible exact setRow_at (by assumption) _) | (with_reducible exact alloc_new _) | (with_reducible refine alloc_at _ _ (by simp; done)) | (with_reducible refine alloc_old ?_ _) | (with_reducible refine Below.at hb9 ?_ ?_) | (simp; done) | (simp; omega) | omega))
                  · first | (simp; done) | (simp; omega) | omega
                  · first | (simp; done) | (simp; omega) | omega
                exact AllReadyH.nil
              exact AllReadyH.nil
            exact AllReadyH.nil
          refine AllReadyH.cons rfl (fun K hK => ?_) ?_
          · go_simp
            refine hK.out _ _ ?_ (fun hHeld2 => ?_)
            · (try dsimp only); exact HX.out _ (by repeat' (first | (with_reducible assumption) | (with_reducible refine below_setRowN ?_ ?_ _) | (with_reducible refine Below.setCell ?_ ?_ _) | (with_reducible refine below_drewN' ?_ _) | (with_reducible refine Below.drew ?_) | (with_reducible refine Below.alloc ?_ ?_ _) | (with_reducible exact Below.refl _ _) | (with_reducible exact Nat.le_refl _) | (simp; done) | omega | (simp; omega)))
            clear hK K hHeld1
            (try simp only [Act.put, List.setIfInBounds_toArray, List.set_cons_zero, List.set_cons_succ, List.getElem_toArray, List.getElem_cons_zero, List.getElem_cons_succ])
            refine wpAnyH_ready (rs := [11]) (by kernel_rfl) (by simp) ?_
            refine AllReadyH.cons rfl (fun K hK => ?_) ?_
            · go_simp
              refine hK.out _ _ ?_ (fun hHeld3 => ?_)
              · (try dsimp only); exact HX.out _ (by repeat' (first | (with_reducible assumption) | (with_reducible refine below_setRowN ?_ ?_ _) | (with_reducible refine Below.setCell ?_ ?_ _) | (with_reducible refine below_drewN' ?_ _) | (with_reducible refine Below.drew ?_) | (with_reducible refine Below.alloc ?_ ?_ _) | (with_reducible exact Below.refl _ _) | (with_reducible exact Nat.le_refl _) | (simp; done) | omega | (simp; omega)))
              clear hK K hHeld2
              (try simp only [Act.put, List.setIfInBounds_toArray, List.set_cons_zero, List.set_cons_succ, List.getElem_toArray, List.getElem_cons_zero, List.getElem_cons_succ])
              refine wpAnyH_ready (rs := [13]) (by kernel_rfl) (by simp) ?_
              refine AllReadyH.cons rfl (fun K hK => ?_) ?_
              · (rw [if_pos (by rfl)]; refine wp_store_row 76 _ _ (by rfl) _ _ (by rfl) (by rfl) 76 #[.bool false, .int .i64 0, .int .i64 0, .int .i64 0, .string ⟨#[]⟩, .int .i64 0] (by repeat' (first | (with_reducible refine drew_at ?_) | (with_reducible refine setRow_off ?_ ?_ _) | (with_reducible exact setRow_at (by assumption) _) | (with_reducible exact alloc_new _) | (with_reducible refine alloc_at _ _ (by simp; done)) | (with_reducible refine alloc_old ?_ _) | (with_reducible refine Below.at hb9 ?_ ?_) | (simp; done) | (simp; omega) | omega)) (by kernel_rfl) (by rfl) (by first | (simp; done) | simp [Value.oneCell']) ?_)
                refine hK.out _ _ ?_ (fun hHeld4 => ?_)
                · (try dsimp only); exact HX.out _ (by repeat' (first | (with_reducible assumption) | (with_reducible refine below_setRowN ?_ ?_ _) | (with_reducible refine Below.setCell ?_ ?_ _) | (with_reducible refine below_drewN' ?_ _) | (with_reducible refine Below.drew ?_) | (with_reducible refine Below.alloc ?_ ?_ _) | (with_reducible exact Below.refl _ _) | (with_reducible exact Nat.le_refl _) | (simp; done) | omega | (simp; omega)))
                clear hK K hHeld3
                (try simp only [Act.put, List.setIfInBounds_toArray, List.set_cons_zero, List.set_cons_succ, List.getElem_toArray, List.getElem_cons_zero, List.getElem_cons_succ])
                refine wpAnyH_ready (rs := [14]) (by kernel_rfl) (by simp) ?_
                refine AllReadyH.cons rfl (fun K hK => ?_) ?_
                · (rw [if_pos (by rfl)]; refine wp_store_row 29 _ _ (by rfl) _ _ (by rfl) (by rfl) 29 #[.int .i64 0, .int .i64 0, .int .i64 0, .string ⟨#[]⟩] (by repeat' (first | (with_reducible refine drew_at ?_) | (with_reducible refine setRow_off ?_ ?_ _) | (with_reducible exact setRow_at (by assumption) _) | (with_reducible exact alloc_new _) | (with_reducible refine alloc_at _ _ (by simp; done)) | (with_reducible refine alloc_old ?_ _) | (with_reducible refine Below.at hb9 ?_ ?_) | (simp; done) | (simp; omega) | omega)) (by kernel_rfl) (by rfl) (by first | (simp; done) | simp [Value.oneCell']) ?_)
                  refine hK.out _ _ ?_ (fun hHeld5 => ?_)
                  · (try dsimp only); exact HX.out _ (by repeat' (first | (with_reducible assumption) | (with_reducible refine below_setRowN ?_ ?_ _) | (with_reducible refine Below.setCell ?_ ?_ _) | (with_reducible refine below_drewN' ?_ _) | (with_reducible refine Below.drew ?_) | (with_reducible refine Below.alloc ?_ ?_ _) | (with_reducible exact Below.refl _ _) | (with_reducible exact Nat.le_refl _) | (simp; done) | omega | (simp; omega)))
                  clear hK K hHeld4
                  (try simp only [Act.put, List.setIfInBounds_toArray, List.set_cons_zero, List.set_cons_succ, List.getElem_toArray, List.getElem_cons_zero, List.getElem_cons_succ])
                  refine wpAnyH_take (i := 15) (v := ?_) rfl (by kernel_rfl) (by kernel_rfl) (by kernel_rfl) (fun _ _ _ h => h) (Or.inl ⟨by rfl, ?_⟩) (by assumption) ?_
                  rotate_left
                  · (intro w hSw; (try dsimp only at hSw); go_simp; try with_reducible rfl)
                  (try simp only [Act.put, List.setIfInBounds_toArray, List.set_cons_zero, List.set_cons_succ, List.getElem_toArray, List.getElem_cons_zero, List.getElem_cons_succ])
                  refine wpAnyH_take (i := 16) (v := ?_) rfl (by kernel_rfl) (by kernel_rfl) (by kernel_rfl) (fun _ _ _ h => h) (Or.inl ⟨by rfl, ?_⟩) (by assumption) ?_
                  rotate_left
                  · (intro w hSw; (try dsimp only at hSw); go_simp; try with_reducible rfl)
                  (try simp only [Act.put, List.setIfInBounds_toArray, List.set_cons_zero, List.set_cons_succ, List.getElem_toArray, List.getElem_cons_zero, List.getElem_cons_succ])
                  refine wpAnyH_done (by kernel_rfl) ?_ _
                  go_wp2
                  go_meet
                  refine ⟨_, _, rfl, rfl, rfl, rfl, ?_, ?_, ?_, ?_, by repeat' (first | (with_reducible assumption) | (with_reducible refine below_setRowN ?_ ?_ _) | (with_reducible refine Below.setCell ?_ ?_ _) | (with_reducible refine below_drewN' ?_ _) | (with_reducible refine Below.drew ?_) | (with_reducible refine Below.alloc ?_ ?_ _) | (with_reducible exact Below.refl _ _) | (with_reducible exact Nat.le_refl _) | (simp; done) | omega | (simp; omega))⟩
                  · first | (refine setRow_at (old := #[.bool false, .int .i64 0, .int .i64 0, .int .i64 0, .string ⟨#[]⟩, .int .i64 0]) ?_ _; repeat' (first | (with_reducible refine drew_at ?_) | (with_reducible refine setRow_off ?_ ?_ _) | (with_reducible exact setRow_at (by assumption) _) | (with_reducible exact alloc_new _) | (with_reducible refine alloc_at _ _ (by simp; done)) | (with_reducible refine alloc_old ?_ _) | (with_reducible refine Below.at hb9 ?_ ?_) | (simp; done) | (simp; omega) | omega)) | (refine setRow_off (setRow_at (old := #[.bool false, .int .i64 0, .int .i64 0, .int .i64 0, .string ⟨#[]⟩, .int .i64 0]) ?_ _) ?_ _; repeat' (first | (with_reducible refine drew_at ?_) | (with_reducible refine setRow_off ?_ ?_ _) | (with_reducible exact setRow_at (by assumption) _) | (with_reducible exact alloc_new _) | (with_reducible refine alloc_at _ _ (by simp; done)) | (with_reducible refine alloc_old ?_ _) | (with_reducible refine Below.at hb9 ?_ ?_) | (simp; done) | (simp; omega) | omega))
                  · first | (refine setRow_at (old := #[.int .i64 0, .int .i64 0, .int .i64 0, .string ⟨#[]⟩]) ?_ _; repeat' (first | (with_reducible refine drew_at ?_) | (with_reducible refine setRow_off ?_ ?_ _) | (with_reducible exact setRow_at (by assumption) _) | (with_reducible exact alloc_new _) | (with_reducible refine alloc_at _ _ (by simp; done)) | (with_reducible refine alloc_old ?_ _) | (with_reducible refine Below.at hb9 ?_ ?_) | (simp; done) | (simp; omega) | omega)) | (refine setRow_off (setRow_at (old := #[.int .i64 0, .int .i64 0, .int .i64 0, .string ⟨#[]⟩]) ?_ _) ?_ _; repeat' (first | (with_reducible refine drew_at ?_) | (with_reducible refine setRow_off ?_ ?_ _) | (with_reducible exact setRow_at (by assumption) _) | (with_reducible exact alloc_new _) | (with_reducible refine alloc_at _ _ (by simp; done)) | (with_reducible refine alloc_old ?_ _) | (with_reducible refine Below.at hb9 ?_ ?_) | (simp; done) | (simp; omega) | omega))
                  · first | (simp; done) | (simp; omega) | omega
                  · first | (simp; done) | (simp; omega) | omega
                exact AllReadyH.nil
              exact AllReadyH.nil
            exact AllReadyH.nil
          exact AllReadyH.nil
        refine AllReadyH.cons rfl (fun K hK => ?_) ?_
        · go_simp
          refine hK.out _ _ ?_ (fun hHeld1 => ?_)
          · (try dsimp only); exact HX.out _ (by repeat' (first | (with_reducible assumption) | (with_reducible refine below_setRowN ?_ ?_ _) | (with_reducible refine Below.setCell ?_ ?_ _) | (with_reducible refine below_drewN' ?_ _) | (with_reducible refine Below.drew ?_) | (with_reducible refine Below.alloc ?_ ?_ _) | (with_reducible exact Below.refl _ _) | (with_reducible exact Nat.le_refl _) | (simp; done) | omega | (simp; omega)))
          clear hK K hHeld0
          (try simp only [Act.put, List.setIfInBounds_toArray, List.set_cons_zero, List.set_cons_succ, List.getElem_toArray, List.getElem_cons_zero, List.getElem_cons_succ])
          refine wpAnyH_ready (rs := [5, 12]) (by kernel_rfl) (by simp) ?_
          refine AllReadyH.cons rfl (fun K hK => ?_) ?_
          · (go_simp; go_at_call 41; (with_reducible refine (HRT.out _).mono ?_); rintro e w9 ⟨rfl, hb9⟩; have hcur : Below w8.heap.size w8 w9 := (Below.trans (by repeat' (first | (with_reducible assumption) | (with_reducible refine below_setRowN ?_ ?_ _) | (with_reducible refine Below.setCell ?_ ?_ _) | (with_reducible refine below_drewN' ?_ _) | (with_reducible refine Below.drew ?_) | (with_reducible refine Below.alloc ?_ ?_ _) | (with_reducible exact Below.refl _ _) | (with_reducible exact Nat.le_refl _) | (simp; done) | omega | (simp; omega))) (hb9.mono (by first | (simp; done) | omega | (simp; omega)))); have hcs := hcur.size; have hcs9 := hb9.size; (try simp at hcs9))
            refine hK.out _ _ ?_ (fun hHeld2 => ?_)
            · (try dsimp only); exact HX.out _ (by repeat' (first | (with_reducible assumption) | (with_reducible refine below_setRowN ?_ ?_ _) | (with_reducible refine Below.setCell ?_ ?_ _) | (with_reducible refine below_drewN' ?_ _) | (with_reducible refine Below.drew ?_) | (with_reducible refine Below.alloc ?_ ?_ _) | (with_reducible exact Below.refl _ _) | (with_reducible exact Nat.le_refl _) | (simp; done) | omega | (simp; omega)))
            clear hK K hHeld1
            (try simp only [Act.put, List.setIfInBounds_toArray, List.set_cons_zero, List.set_cons_succ, List.getElem_toArray, List.getElem_cons_zero, List.getElem_cons_succ])
            refine wpAnyH_take (i := 6) (v := ?_) rfl (by kernel_rfl) (by kernel_rfl) (by kernel_rfl) (fun _ _ _ h => h) (Or.inl ⟨by rfl, ?_⟩) (by assumption) ?_
            rotate_left
            · (intro w hSw; (try dsimp only at hSw); go_simp; try with_reducible rfl)
            (try simp only [Act.put, List.setIfInBounds_toArray, List.set_cons_zero, List.set_cons_succ, List.getElem_toArray, List.getElem_cons_zero, List.getElem_cons_succ])
            refine wpAnyH_take (i := 7) (v := ?_) rfl (by kernel_rfl) (by kernel_rfl) (by kernel_rfl) (fun _ _ _ h => h) (Or.inl ⟨by rfl, ?_⟩) (by assumption) ?_
            rotate_left
            · (intro w hSw; (try dsimp only at hSw); go_simp; try with_reducible rfl)
            (try simp only [Act.put, List.setIfInBounds_toArray, List.set_cons_zero, List.set_cons_succ, List.getElem_toArray, List.getElem_cons_zero, List.getElem_cons_succ])
            refine wpAnyH_take (i := 8) (v := ?_) rfl (by kernel_rfl) (by kernel_rfl) (by kernel_rfl) (fun _ _ _ h => h) (Or.inl ⟨by rfl, ?_⟩) (by assumption) ?_
            rotate_left
            · (intro w hSw; (try dsimp only at hSw); go_simp; try with_reducible rfl)
            (try simp only [Act.put, List.setIfInBounds_toArray, List.set_cons_zero, List.set_cons_succ, List.getElem_toArray, List.getElem_cons_zero, List.getElem_cons_succ])
            refine wpAnyH_take (i := 9) (v := ?_) rfl (by kernel_rfl) (by kernel_rfl) (by kernel_rfl) (fun _ _ _ h => h) (Or.inl ⟨by rfl, ?_⟩) (by assumption) ?_
            rotate_left
            · (intro w hSw; (try dsimp only at hSw); go_simp; try with_reducible rfl)
            (try simp only [Act.put, List.setIfInBounds_toArray, List.set_cons_zero, List.set_cons_succ, List.getElem_toArray, List.getElem_cons_zero, List.getElem_cons_succ])
            refine wpAnyH_take (i := 10) (v := ?_) rfl (by kernel_rfl) (by kernel_rfl) (by kernel_rfl) (fun _ _ _ h => h) (Or.inl ⟨by rfl, ?_⟩) (by assumption) ?_
            rotate_left
            · (intro w hSw; (try dsimp only at hSw); go_simp; try with_reducible rfl)
            (try simp only [Act.put, List.setIfInBounds_toArray, List.set_cons_zero, List.set_cons_succ, List.getElem_toArray, List.getElem_cons_zero, List.getElem_cons_succ])
            refine wpAnyH_ready (rs := [12]) (by kernel_rfl) (by simp) ?_
            refine AllReadyH.cons rfl (fun K hK => ?_) ?_
            · go_simp
              refine hK.out _ _ ?_ (fun hHeld3 => ?_)
              · (try dsimp only); exact HX.out _ (by repeat' (first | (with_reducible assumption) | (with_reducible refine below_setRowN ?_ ?_ _) | (with_reducible refine Below.setCell ?_ ?_ _) | (with_reducible refine below_drewN' ?_ _) | (with_reducible refine Below.drew ?_) | (with_reducible refine Below.alloc ?_ ?_ _) | (with_reducible exact Below.refl _ _) | (with_reducible exact Nat.le_refl _) | (simp; done) | omega | (simp; omega)))
              clear hK K hHeld2
              (try simp only [Act.put, List.setIfInBounds_toArray, List.set_cons_zero, List.set_cons_succ, List.getElem_toArray, List.getElem_cons_zero, List.getElem_cons_succ])
              refine wpAnyH_ready (rs := [13]) (by kernel_rfl) (by simp) ?_
              refine AllReadyH.cons rfl (fun K hK => ?_) ?_
              · (rw [if_pos (by rfl)]; refine wp_store_row 76 _ _ (by rfl) _ _ (by rfl) (by rfl) 76 #[.bool false, .int .i64 0, .int .i64 0, .int .i64 0, .string ⟨#[]⟩, .int .i64 0] (by repeat' (first | (with_reducible refine drew_at ?_) | (with_reducible refine setRow_off ?_ ?_ _) | (with_reducible exact setRow_at (by assumption) _) | (with_reducible exact alloc_new _) | (with_reducible refine alloc_at _ _ (by simp; done)) | (with_reducible refine alloc_old ?_ _) | (with_reducible refine Below.at hb9 ?_ ?_) | (simp; done) | (simp; omega) | omega)) (by kernel_rfl) (by rfl) (by first | (simp; done) | simp [Value.oneCell']) ?_)
                refine hK.out _ _ ?_ (fun hHeld4 => ?_)
                · (try dsimp only); exact HX.out _ (by repeat' (first | (with_reducible assumption) | (with_reducible refine below_setRowN ?_ ?_ _) | (with_reducible refine Below.setCell ?_ ?_ _) | (with_reducible refine below_drewN' ?_ _) | (with_reducible refine Below.drew ?_) | (with_reducible refine Below.alloc ?_ ?_ _) | (with_reducible exact Below.refl _ _) | (with_reducible exact Nat.le_refl _) | (simp; done) | omega | (simp; omega)))
                clear hK K hHeld3
                (try simp only [Act.put, List.setIfInBounds_toArray, List.set_cons_zero, List.set_cons_succ, List.getElem_toArray, List.getElem_cons_zero, List.getElem_cons_succ])
                refine wpAnyH_ready (rs := [14]) (by kernel_rfl) (by simp) ?_
                refine AllReadyH.cons rfl (fun K hK => ?_) ?_
                · (rw [if_pos (by rfl)]; refine wp_store_row 29 _ _ (by rfl) _ _ (by rfl) (by rfl) 29 #[.int .i64 0, .int .i64 0, .int .i64 0, .string ⟨#[]⟩] (by repeat' (first | (with_reducible refine drew_at ?_) | (with_reducible refine setRow_off ?_ ?_ _) | (with_reducible exact setRow_at (by assumption) _) | (with_reducible exact alloc_new _) | (with_reducible refine alloc_at _ _ (by simp; done)) | (with_reducible refine alloc_old ?_ _) | (with_reducible refine Below.at hb9 ?_ ?_) | (simp; done) | (simp; omega) | omega)) (by kernel_rfl) (by rfl) (by first | (simp; done) | simp [Value.oneCell']) ?_)
                  refine hK.out _ _ ?_ (fun hHeld5 => ?_)
                  · (try dsimp only); exact HX.out _ (by repeat' (first | (with_reducible assumption) | (with_reducible refine below_setRowN ?_ ?_ _) | (with_reducible refine Below.setCell ?_ ?_ _) | (with_reducible refine below_drewN' ?_ _) | (with_reducible refine Below.drew ?_) | (with_reducible refine Below.alloc ?_ ?_ _) | (with_reducible exact Below.refl _ _) | (with_reducible exact Nat.le_refl _) | (simp; done) | omega | (simp; omega)))
                  clear hK K hHeld4
                  (try simp only [Act.put, List.setIfInBounds_toArray, List.set_cons_zero, List.set_cons_succ, List.getElem_toArray, List.getElem_cons_zero, List.getElem_cons_succ])
                  refine wpAnyH_take (i := 15) (v := ?_) rfl (by kernel_rfl) (by kernel_rfl) (by kernel_rfl) (fun _ _ _ h => h) (Or.inl ⟨by rfl, ?_⟩) (by assumption) ?_
                  rotate_left
                  · (intro w hSw; (try dsimp only at hSw); go_simp; try with_reducible rfl)
                  (try simp only [Act.put, List.setIfInBounds_toArray, List.set_cons_zero, List.set_cons_succ, List.getElem_toArray, List.getElem_cons_zero, List.getElem_cons_succ])
                  refine wpAnyH_take (i := 16) (v := ?_) rfl (by kernel_rfl) (by kernel_rfl) (by kernel_rfl) (fun _ _ _ h => h) (Or.inl ⟨by rfl, ?_⟩) (by assumption) ?_
                  rotate_left
                  · (intro w hSw; (try dsimp only at hSw); go_simp; try with_reducible rfl)
                  (try simp only [Act.put, List.setIfInBounds_toArray, List.set_cons_zero, List.set_cons_succ, List.getElem_toArray, List.getElem_cons_zero, List.getElem_cons_succ])
                  refine wpAnyH_done (by kernel_rfl) ?_ _
                  go_wp2
                  go_meet
                  refine ⟨_, _, rfl, rfl, rfl, rfl, ?_, ?_, ?_, ?_, by repeat' (first | (with_reducible assumption) | (with_reducible refine below_setRowN ?_ ?_ _) | (with_reducible refine Below.setCell ?_ ?_ _) | (with_reducible refine below_drewN' ?_ _) | (with_reducible refine Below.drew ?_) | (with_reducible refine Below.alloc ?_ ?_ _) | (with_reducible exact Below.refl _ _) | (with_reducible exact Nat.le_refl _) | (simp; done) | omega | (simp; omega))⟩
                  · first | (refine setRow_at (old := #[.bool false, .int .i64 0, .int .i64 0, .int .i64 0, .string ⟨#[]⟩, .int .i64 0]) ?_ _; repeat' (first | (with_reducible refine drew_at ?_) | (with_reducible refine setRow_off ?_ ?_ _) | (with_reducible exact setRow_at (by assumption) _) | (with_reducible exact alloc_new _) | (with_reducible refine alloc_at _ _ (by simp; done)) | (with_reducible refine alloc_old ?_ _) | (with_reducible refine Below.at hb9 ?_ ?_) | (simp; done) | (simp; omega) | omega)) | (refine setRow_off (setRow_at (old := #[.bool false, .int .i64 0, .int .i64 0, .int .i64 0, .string ⟨#[]⟩, .int .i64 0]) ?_ _) ?_ _; repeat' (first | (with_reducible refine drew_at ?_) | (with_reducible refine setRow_off ?_ ?_ _) | (with_reducible exact setRow_at (by assumption) _) | (with_reducible exact alloc_new _) | (with_reducible refine alloc_at _ _ (by simp; done)) | (with_reducible refine alloc_old ?_ _) | (with_reducible refine Below.at hb9 ?_ ?_) | (simp; done) | (simp; omega) | omega))
                  · first | (refine setRow_at (old := #[.int .i64 0, .int .i64 0, .int .i64 0, .string ⟨#[]⟩]) ?_ _; repeat' (first | (with_reducible refine drew_at ?_) | (with_reducible refine setRow_off ?_ ?_ _) | (with_reducible exact setRow_at (by assumption) _) | (with_reducible exact alloc_new _) | (with_reducible refine alloc_at _ _ (by simp; done)) | (with_reducible refine alloc_old ?_ _) | (with_reducible refine Below.at hb9 ?_ ?_) | (simp; done) | (simp; omega) | omega)) | (refine setRow_off (setRow_at (old := #[.int .i64 0, .int .i64 0, .int .i64 0, .string ⟨#[]⟩]) ?_ _) ?_ _; repeat' (first | (with_reducible refine drew_at ?_) | (with_reducible refine setRow_off ?_ ?_ _) | (with_reducible exact setRow_at (by assumption) _) | (with_reducible exact alloc_new _) | (with_reducible refine alloc_at _ _ (by simp; done)) | (with_reducible refine alloc_old ?_ _) | (with_reducible refine Below.at hb9 ?_ ?_) | (simp; done) | (simp; omega) | omega))
                  · first | (simp; done) | (simp; omega) | omega
                  · first | (simp; done) | (simp; omega) | omega
                exact AllReadyH.nil
              exact AllReadyH.nil
            exact AllReadyH.nil
          refine AllReadyH.cons rfl (fun K hK => ?_) ?_
          · go_simp
            refine hK.out _ _ ?_ (fun hHeld2 => ?_)
            · (try dsimp only); exact HX.out _ (by repeat' (first | (with_reducible assumption) | (with_reducible refine below_setRowN ?_ ?_ _) | (with_reducible refine Below.setCell ?_ ?_ _) | (with_reducible refine below_drewN' ?_ _) | (with_reducible refine Below.drew ?_) | (with_reducible refine Below.alloc ?_ ?_ _) | (with_reducible exact Below.refl _ _) | (with_reducible exact Nat.le_refl _) | (simp; done) | omega | (simp; omega)))
            clear hK K hHeld1
            (try simp only [Act.put, List.setIfInBounds_toArray, List.set_cons_zero, List.set_cons_succ, List.getElem_toArray, List.getElem_cons_zero, List.getElem_cons_succ])
            refine wpAnyH_ready (rs := [5]) (by kernel_rfl) (by simp) ?_
            refine AllReadyH.cons rfl (fun K hK => ?_) ?_
            · (go_simp; go_at_call 41; (with_reducible refine (HRT.out _).mono ?_); rintro e w9 ⟨rfl, hb9⟩; have hcur : Below w8.heap.size w8 w9 := (Below.trans (by repeat' (first | (with_reducible assumption) | (with_reducible refine below_setRowN ?_ ?_ _) | (with_reducible refine Below.setCell ?_ ?_ _) | (with_reducible refine below_drewN' ?_ _) | (with_reducible refine Below.drew ?_) | (with_reducible refine Below.alloc ?_ ?_ _) | (with_reducible exact Below.refl _ _) | (with_reducible exact Nat.le_refl _) | (simp; done) | omega | (simp; omega))) (hb9.mono (by first | (simp; done) | omega | (simp; omega)))); have hcs := hcur.size; have hcs9 := hb9.size; (try simp at hcs9))
              refine hK.out _ _ ?_ (fun hHeld3 => ?_)
              · (try dsimp only); exact HX.out _ (by repeat' (first | (with_reducible assumption) | (with_reducible refine below_setRowN ?_ ?_ _) | (with_reducible refine Below.setCell ?_ ?_ _) | (with_reducible refine below_drewN' ?_ _) | (with_reducible refine Below.drew ?_) | (with_reducible refine Below.alloc ?_ ?_ _) | (with_reducible exact Below.refl _ _) | (with_reducible exact Nat.le_refl _) | (simp; done) | omega | (simp; omega)))
              clear hK K hHeld2
              (try simp only [Act.put, List.setIfInBounds_toArray, List.set_cons_zero, List.set_cons_succ, List.getElem_toArray, List.getElem_cons_zero, List.getElem_cons_succ])
              refine wpAnyH_take (i := 6) (v := ?_) rfl (by kernel_rfl) (by kernel_rfl) (by kernel_rfl) (fun _ _ _ h => h) (Or.inl ⟨by rfl, ?_⟩) (by assumption) ?_
              rotate_left
              · (intro w hSw; (try dsimp only at hSw); go_simp; try with_reducible rfl)
              (try simp only [Act.put, List.setIfInBounds_toArray, List.set_cons_zero, List.set_cons_succ, List.getElem_toArray, List.getElem_cons_zero, List.getElem_cons_succ])
              refine wpAnyH_take (i := 7) (v := ?_) rfl (by kernel_rfl) (by kernel_rfl) (by kernel_rfl) (fun _ _ _ h => h) (Or.inl ⟨by rfl, ?_⟩) (by assumption) ?_
              rotate_left
              · (intro w hSw; (try dsimp only at hSw); go_simp; try with_reducible rfl)
              (try simp only [Act.put, List.setIfInBounds_toArray, List.set_cons_zero, List.set_cons_succ, List.getElem_toArray, List.getElem_cons_zero, List.getElem_cons_succ])
              refine wpAnyH_take (i := 8) (v := ?_) rfl (by kernel_rfl) (by kernel_rfl) (by kernel_rfl) (fun _ _ _ h => h) (Or.inl ⟨by rfl, ?_⟩) (by assumption) ?_
              rotate_left
              · (intro w hSw; (try dsimp only at hSw); go_simp; try with_reducible rfl)
              (try simp only [Act.put, List.setIfInBounds_toArray, List.set_cons_zero, List.set_cons_succ, List.getElem_toArray, List.getElem_cons_zero, List.getElem_cons_succ])
              refine wpAnyH_take (i := 9) (v := ?_) rfl (by kernel_rfl) (by kernel_rfl) (by kernel_rfl) (fun _ _ _ h => h) (Or.inl ⟨by rfl, ?_⟩) (by assumption) ?_
              rotate_left
              · (intro w hSw; (try dsimp only at hSw); go_simp; try with_reducible rfl)
              (try simp only [Act.put, List.setIfInBounds_toArray, List.set_cons_zero, List.set_cons_succ, List.getElem_toArray, List.getElem_cons_zero, List.getElem_cons_succ])
              refine wpAnyH_take (i := 10) (v := ?_) rfl (by kernel_rfl) (by kernel_rfl) (by kernel_rfl) (fun _ _ _ h => h) (Or.inl ⟨by rfl, ?_⟩) (by assumption) ?_
              rotate_left
              · (intro w hSw; (try dsimp only at hSw); go_simp; try with_reducible rfl)
              (try simp only [Act.put, List.setIfInBounds_toArray, List.set_cons_zero, List.set_cons_succ, List.getElem_toArray, List.getElem_cons_zero, List.getElem_cons_succ])
              refine wpAnyH_ready (rs := [13]) (by kernel_rfl) (by simp) ?_
              refine AllReadyH.cons rfl (fun K hK => ?_) ?_
              · (rw [if_pos (by rfl)]; refine wp_store_row 76 _ _ (by rfl) _ _ (by rfl) (by rfl) 76 #[.bool false, .int .i64 0, .int .i64 0, .int .i64 0, .string ⟨#[]⟩, .int .i64 0] (by repeat' (first | (with_reducible refine drew_at ?_) | (with_reducible refine setRow_off ?_ ?_ _) | (with_reducible exact setRow_at (by assumption) _) | (with_reducible exact alloc_new _) | (with_reducible refine alloc_at _ _ (by simp; done)) | (with_reducible refine alloc_old ?_ _) | (with_reducible refine Below.at hb9 ?_ ?_) | (simp; done) | (simp; omega) | omega)) (by kernel_rfl) (by rfl) (by first | (simp; done) | simp [Value.oneCell']) ?_)
                refine hK.out _ _ ?_ (fun hHeld4 => ?_)
                · (try dsimp only); exact HX.out _ (by repeat' (first | (with_reducible assumption) | (with_reducible refine below_setRowN ?_ ?_ _) | (with_reducible refine Below.setCell ?_ ?_ _) | (with_reducible refine below_drewN' ?_ _) | (with_reducible refine Below.drew ?_) | (with_reducible refine Below.alloc ?_ ?_ _) | (with_reducible exact Below.refl _ _) | (with_reducible exact Nat.le_refl _) | (simp; done) | omega | (simp; omega)))
                clear hK K hHeld3
                (try simp only [Act.put, List.setIfInBounds_toArray, List.set_cons_zero, List.set_cons_succ, List.getElem_toArray, List.getElem_cons_zero, List.getElem_cons_succ])
                refine wpAnyH_ready (rs := [14]) (by kernel_rfl) (by simp) ?_
                refine AllReadyH.cons rfl (fun K hK => ?_) ?_
                · (rw [if_pos (by rfl)]; refine wp_store_row 29 _ _ (by rfl) _ _ (by rfl) (by rfl) 29 #[.int .i64 0, .int .i64 0, .int .i64 0, .string ⟨#[]⟩] (by repeat' (first | (with_reducible refine drew_at ?_) | (with_reducible refine setRow_off ?_ ?_ _) | (with_reducible exact setRow_at (by assumption) _) | (with_reducible exact alloc_new _) | (with_reducible refine alloc_at _ _ (by simp; done)) | (with_reducible refine alloc_old ?_ _) | (with_reducible refine Below.at hb9 ?_ ?_) | (simp; done) | (simp; omega) | omega)) (by kernel_rfl) (by rfl) (by first | (simp; done) | simp [Value.oneCell']) ?_)
                  refine hK.out _ _ ?_ (fun hHeld5 => ?_)
                  · (try dsimp only); exact HX.out _ (by repeat' (first | (with_reducible assumption) | (with_reducible refine below_setRowN ?_ ?_ _) | (with_reducible refine Below.setCell ?_ ?_ _) | (with_reducible refine below_drewN' ?_ _) | (with_reducible refine Below.drew ?_) | (with_reducible refine Below.alloc ?_ ?_ _) | (with_reducible exact Below.refl _ _) | (with_reducible exact Nat.le_refl _) | (simp; done) | omega | (simp; omega)))
                  clear hK K hHeld4
                  (try simp only [Act.put, List.setIfInBounds_toArray, List.set_cons_zero, List.set_cons_succ, List.getElem_toArray, List.getElem_cons_zero, List.getElem_cons_succ])
                  refine wpAnyH_take (i := 15) (v := ?_) rfl (by kernel_rfl) (by kernel_rfl) (by kernel_rfl) (fun _ _ _ h => h) (Or.inl ⟨by rfl, ?_⟩) (by assumption) ?_
                  rotate_left
                  · (intro w hSw; (try dsimp only at hSw); go_simp; try with_reducible rfl)
                  (try simp only [Act.put, List.setIfInBounds_toArray, List.set_cons_zero, List.set_cons_succ, List.getElem_toArray, List.getElem_cons_zero, List.getElem_cons_succ])
                  refine wpAnyH_take (i := 16) (v := ?_) rfl (by kernel_rfl) (by kernel_rfl) (by kernel_rfl) (fun _ _ _ h => h) (Or.inl ⟨by rfl, ?_⟩) (by assumption) ?_
                  rotate_left
                  · (intro w hSw; (try dsimp only at hSw); go_simp; try with_reducible rfl)
                  (try simp only [Act.put, List.setIfInBounds_toArray, List.set_cons_zero, List.set_cons_succ, List.getElem_toArray, List.getElem_cons_zero, List.getElem_cons_succ])
                  refine wpAnyH_done (by kernel_rfl) ?_ _
                  go_wp2
                  go_meet
                  refine ⟨_, _, rfl, rfl, rfl, rfl, ?_, ?_, ?_, ?_, by repeat' (first | (with_reducible assumption) | (with_reducible refine below_setRowN ?_ ?_ _) | (with_reducible refine Below.setCell ?_ ?_ _) | (with_reducible refine below_drewN' ?_ _) | (with_reducible refine Below.drew ?_) | (with_reducible refine Below.alloc ?_ ?_ _) | (with_reducible exact Below.refl _ _) | (with_reducible exact Nat.le_refl _) | (simp; done) | omega | (simp; omega))⟩
                  · first | (refine setRow_at (old := #[.bool false, .int .i64 0, .int .i64 0, .int .i64 0, .string ⟨#[]⟩, .int .i64 0]) ?_ _; repeat' (first | (with_reducible refine drew_at ?_) | (with_reducible refine setRow_off ?_ ?_ _) | (with_reducible exact setRow_at (by assumption) _) | (with_reducible exact alloc_new _) | (with_reducible refine alloc_at _ _ (by simp; done)) | (with_reducible refine alloc_old ?_ _) | (with_reducible refine Below.at hb9 ?_ ?_) | (simp; done) | (simp; omega) | omega)) | (refine setRow_off (setRow_at (old := #[.bool false, .int .i64 0, .int .i64 0, .int .i64 0, .string ⟨#[]⟩, .int .i64 0]) ?_ _) ?_ _; repeat' (first | (with_reducible refine drew_at ?_) | (with_reducible refine setRow_off ?_ ?_ _) | (with_reducible exact setRow_at (by assumption) _) | (with_reducible exact alloc_new _) | (with_reducible refine alloc_at _ _ (by simp; done)) | (with_reducible refine alloc_old ?_ _) | (with_reducible refine Below.at hb9 ?_ ?_) | (simp; done) | (simp; omega) | omega))
                  · first | (refine setRow_at (old := #[.int .i64 0, .int .i64 0, .int .i64 0, .string ⟨#[]⟩]) ?_ _; repeat' (first | (with_reducible refine drew_at ?_) | (with_reducible refine setRow_off ?_ ?_ _) | (with_reducible exact setRow_at (by assumption) _) | (with_reducible exact alloc_new _) | (with_reducible refine alloc_at _ _ (by simp; done)) | (with_reducible refine alloc_old ?_ _) | (with_reducible refine Below.at hb9 ?_ ?_) | (simp; done) | (simp; omega) | omega)) | (refine setRow_off (setRow_at (old := #[.int .i64 0, .int .i64 0, .int .i64 0, .string ⟨#[]⟩]) ?_ _) ?_ _; repeat' (first | (with_reducible refine drew_at ?_) | (with_reducible refine setRow_off ?_ ?_ _) | (with_reducible exact setRow_at (by assumption) _) | (with_reducible exact alloc_new _) | (with_reducible refine alloc_at _ _ (by simp; done)) | (with_reducible refine alloc_old ?_ _) | (with_reducible refine Below.at hb9 ?_ ?_) | (simp; done) | (simp; omega) | omega))
                  · first | (simp; done) | (simp; omega) | omega
                  · first | (simp; done) | (simp; omega) | omega
                exact AllReadyH.nil
              exact AllReadyH.nil
            exact AllReadyH.nil
          exact AllReadyH.nil
        refine AllReadyH.cons rfl (fun K hK => ?_) ?_
        · go_simp
          refine hK.out _ _ ?_ (fun hHeld1 => ?_)
          · (try dsimp only); exact HX.out _ (by repeat' (first | (with_reducible assumption) | (with_reducible refine below_setRowN ?_ ?_ _) | (with_reducible refine Below.setCell ?_ ?_ _) | (with_reducible refine below_drewN' ?_ _) | (with_reducible refine Below.drew ?_) | (with_reducible refine Below.alloc ?_ ?_ _) | (with_reducible exact Below.refl _ _) | (with_reducible exact Nat.le_refl _) | (simp; done) | omega | (simp; omega)))
          clear hK K hHeld0
          (try simp only [Act.put, List.setIfInBounds_toArray, List.set_cons_zero, List.set_cons_succ, List.getElem_toArray, List.getElem_cons_zero, List.getElem_cons_succ])
          refine wpAnyH_ready (rs := [5, 11]) (by kernel_rfl) (by simp) ?_
          refine AllReadyH.cons rfl (fun K hK => ?_) ?_
          · (go_simp; go_at_call 41; (with_reducible refine (HRT.out _).mono ?_); rintro e w9 ⟨rfl, hb9⟩; have hcur : Below w8.heap.size w8 w9 := (Below.trans (by repeat' (first | (with_reducible assumption) | (with_reducible refine below_setRowN ?_ ?_ _) | (with_reducible refine Below.setCell ?_ ?_ _) | (with_reducible refine below_drewN' ?_ _) | (with_reducible refine Below.drew ?_) | (with_reducible refine Below.alloc ?_ ?_ _) | (with_reducible exact Below.refl _ _) | (with_reducible exact Nat.le_refl _) | (simp; done) | omega | (simp; omega))) (hb9.mono (by first | (simp; done) | omega | (simp; omega)))); have hcs := hcur.size; have hcs9 := hb9.size; (try simp at hcs9))
            refine hK.out _ _ ?_ (fun hHeld2 => ?_)
            · (try dsimp only); exact HX.out _ (by repeat' (first | (with_reducible assumption) | (with_reducible refine below_setRowN ?_ ?_ _) | (with_reducible refine Below.setCell ?_ ?_ _) | (with_reducible refine below_drewN' ?_ _) | (with_reducible refine Below.drew ?_) | (with_reducible refine Below.alloc ?_ ?_ _) | (with_reducible exact Below.refl _ _) | (with_reducible exact Nat.le_refl _) | (simp; done) | omega | (simp; omega)))
            clear hK K hHeld1
            (try simp only [Act.put, List.setIfInBounds_toArray, List.set_cons_zero, List.set_cons_succ, List.getElem_toArray, List.getElem_cons_zero, List.getElem_cons_succ])
            refine wpAnyH_take (i := 6) (v := ?_) rfl (by kernel_rfl) (by kernel_rfl) (by kernel_rfl) (fun _ _ _ h => h) (Or.inl ⟨by rfl, ?_⟩) (by assumption) ?_
            rotate_left
            · (intro w hSw; (try dsimp only at hSw); go_simp; try with_reducible rfl)
            (try simp only [Act.put, List.setIfInBounds_toArray, List.set_cons_zero, List.set_cons_succ, List.getElem_toArray, List.getElem_cons_zero, List.getElem_cons_succ])
            refine wpAnyH_take (i := 7) (v := ?_) rfl (by kernel_rfl) (by kernel_rfl) (by kernel_rfl) (fun _ _ _ h => h) (Or.inl ⟨by rfl, ?_⟩) (by assumption) ?_
            rotate_left
            · (intro w hSw; (try dsimp only at hSw); go_simp; try with_reducible rfl)
            (try simp only [Act.put, List.setIfInBounds_toArray, List.set_cons_zero, List.set_cons_succ, List.getElem_toArray, List.getElem_cons_zero, List.getElem_cons_succ])
            refine wpAnyH_take (i := 8) (v := ?_) rfl (by kernel_rfl) (by kernel_rfl) (by kernel_rfl) (fun _ _ _ h => h) (Or.inl ⟨by rfl, ?_⟩) (by assumption) ?_
            rotate_left
            · (intro w hSw; (try dsimp only at hSw); go_simp; try with_reducible rfl)
            (try simp only [Act.put, List.setIfInBounds_toArray, List.set_cons_zero, List.set_cons_succ, List.getElem_toArray, List.getElem_cons_zero, List.getElem_cons_succ])
            refine wpAnyH_take (i := 9) (v := ?_) rfl (by kernel_rfl) (by kernel_rfl) (by kernel_rfl) (fun _ _ _ h => h) (Or.inl ⟨by rfl, ?_⟩) (by assumption) ?_
            rotate_left
            · (intro w hSw; (try dsimp only at hSw); go_simp; try with_reducible rfl)
            (try simp only [Act.put, List.setIfInBounds_toArray, List.set_cons_zero, List.set_cons_succ, List.getElem_toArray, List.getElem_cons_zero, List.getElem_cons_succ])
            refine wpAnyH_take (i := 10) (v := ?_) rfl (by kernel_rfl) (by kernel_rfl) (by kernel_rfl) (fun _ _ _ h => h) (Or.inl ⟨by rfl, ?_⟩) (by assumption) ?_
            rotate_left
            · (intro w hSw; (try dsimp only at hSw); go_simp; try with_reducible rfl)
            (try simp only [Act.put, List.setIfInBounds_toArray, List.set_cons_zero, List.set_cons_succ, List.getElem_toArray, List.getElem_cons_zero, List.getElem_cons_succ])
            refine wpAnyH_ready (rs := [11]) (by kernel_rfl) (by simp) ?_
            refine AllReadyH.cons rfl (fun K hK => ?_) ?_
            · go_simp
              refine hK.out _ _ ?_ (fun hHeld3 => ?_)
              · (try dsimp only); exact HX.out _ (by repeat' (first | (with_reducible assumption) | (with_reducible refine below_setRowN ?_ ?_ _) | (with_reducible refine Below.setCell ?_ ?_ _) | (with_reducible refine below_drewN' ?_ _) | (with_reducible refine Below.drew ?_) | (with_reducible refine Below.alloc ?_ ?_ _) | (with_reducible exact Below.refl _ _) | (with_reducible exact Nat.le_refl _) | (simp; done) | omega | (simp; omega)))
              clear hK K hHeld2
              (try simp only [Act.put, List.setIfInBounds_toArray, List.set_cons_zero, List.set_cons_succ, List.getElem_toArray, List.getElem_cons_zero, List.getElem_cons_succ])
              refine wpAnyH_ready (rs := [13]) (by kernel_rfl) (by simp) ?_
              refine AllReadyH.cons rfl (fun K hK => ?_) ?_
              · (rw [if_pos (by rfl)]; refine wp_store_row 76 _ _ (by rfl) _ _ (by rfl) (by rfl) 76 #[.bool false, .int .i64 0, .int .i64 0, .int .i64 0, .string ⟨#[]⟩, .int .i64 0] (by repeat' (first | (with_reducible refine drew_at ?_) | (with_reducible refine setRow_off ?_ ?_ _) | (with_reducible exact setRow_at (by assumption) _) | (with_reducible exact alloc_new _) | (with_reducible refine alloc_at _ _ (by simp; done)) | (with_reducible refine alloc_old ?_ _) | (with_reducible refine Below.at hb9 ?_ ?_) | (simp; done) | (simp; omega) | omega)) (by kernel_rfl) (by rfl) (by first | (simp; done) | simp [Value.oneCell']) ?_)
                refine hK.out _ _ ?_ (fun hHeld4 => ?_)
                · (try dsimp only); exact HX.out _ (by repeat' (first | (with_reducible assumption) | (with_reducible refine below_setRowN ?_ ?_ _) | (with_reducible refine Below.setCell ?_ ?_ _) | (with_reducible refine below_drewN' ?_ _) | (with_reducible refine Below.drew ?_) | (with_reducible refine Below.alloc ?_ ?_ _) | (with_reducible exact Below.refl _ _) | (with_reducible exact Nat.le_refl _) | (simp; done) | omega | (simp; omega)))
                clear hK K hHeld3
                (try simp only [Act.put, List.setIfInBounds_toArray, List.set_cons_zero, List.set_cons_succ, List.getElem_toArray, List.getElem_cons_zero, List.getElem_cons_succ])
                refine wpAnyH_ready (rs := [14]) (by kernel_rfl) (by simp) ?_
                refine AllReadyH.cons rfl (fun K hK => ?_) ?_
                · (rw [if_pos (by rfl)]; refine wp_store_row 29 _ _ (by rfl) _ _ (by rfl) (by rfl) 29 #[.int .i64 0, .int .i64 0, .int .i64 0, .string ⟨#[]⟩] (by repeat' (first | (with_reducible refine drew_at ?_) | (with_reducible refine setRow_off ?_ ?_ _) | (with_reducible exact setRow_at (by assumption) _) | (with_reducible exact alloc_new _) | (with_reducible refine alloc_at _ _ (by simp; done)) | (with_reducible refine alloc_old ?_ _) | (with_reducible refine Below.at hb9 ?_ ?_) | (simp; done) | (simp; omega) | omega)) (by kernel_rfl) (by rfl) (by first | (simp; done) | simp [Value.oneCell']) ?_)
                  refine hK.out _ _ ?_ (fun hHeld5 => ?_)
                  · (try dsimp only); exact HX.out _ (by repeat' (first | (with_reducible assumption) | (with_reducible refine below_setRowN ?_ ?_ _) | (with_reducible refine Below.setCell ?_ ?_ _) | (with_reducible refine below_drewN' ?_ _) | (with_reducible refine Below.drew ?_) | (with_reducible refine Below.alloc ?_ ?_ _) | (with_reducible exact Below.refl _ _) | (with_reducible exact Nat.le_refl _) | (simp; done) | omega | (simp; omega)))
                  clear hK K hHeld4
                  (try simp only [Act.put, List.setIfInBounds_toArray, List.set_cons_zero, List.set_cons_succ, List.getElem_toArray, List.getElem_cons_zero, List.getElem_cons_succ])
                  refine wpAnyH_take (i := 15) (v := ?_) rfl (by kernel_rfl) (by kernel_rfl) (by kernel_rfl) (fun _ _ _ h => h) (Or.inl ⟨by rfl, ?_⟩) (by assumption) ?_
                  rotate_left
                  · (intro w hSw; (try dsimp only at hSw); go_simp; try with_reducible rfl)
                  (try simp only [Act.put, List.setIfInBounds_toArray, List.set_cons_zero, List.set_cons_succ, List.getElem_toArray, List.getElem_cons_zero, List.getElem_cons_succ])
                  refine wpAnyH_take (i := 16) (v := ?_) rfl (by kernel_rfl) (by kernel_rfl) (by kernel_rfl) (fun _ _ _ h => h) (Or.inl ⟨by rfl, ?_⟩) (by assumption) ?_
                  rotate_left
                  · (intro w hSw; (try dsimp only at hSw); go_simp; try with_reducible rfl)
                  (try simp only [Act.put, List.setIfInBounds_toArray, List.set_cons_zero, List.set_cons_succ, List.getElem_toArray, List.getElem_cons_zero, List.getElem_cons_succ])
                  refine wpAnyH_done (by kernel_rfl) ?_ _
                  go_wp2
                  go_meet
                  refine ⟨_, _, rfl, rfl, rfl, rfl, ?_, ?_, ?_, ?_, by repeat' (first | (with_reducible assumption) | (with_reducible refine below_setRowN ?_ ?_ _) | (with_reducible refine Below.setCell ?_ ?_ _) | (with_reducible refine below_drewN' ?_ _) | (with_reducible refine Below.drew ?_) | (with_reducible refine Below.alloc ?_ ?_ _) | (with_reducible exact Below.refl _ _) | (with_reducible exact Nat.le_refl _) | (simp; done) | omega | (simp; omega))⟩
                  · first | (refine setRow_at (old := #[.bool false, .int .i64 0, .int .i64 0, .int .i64 0, .string ⟨#[]⟩, .int .i64 0]) ?_ _; repeat' (first | (with_reducible refine drew_at ?_) | (with_reducible refine setRow_off ?_ ?_ _) | (with_reducible exact setRow_at (by assumption) _) | (with_reducible exact alloc_new _) | (with_reducible refine alloc_at _ _ (by simp; done)) | (with_reducible refine alloc_old ?_ _) | (with_reducible refine Below.at hb9 ?_ ?_) | (simp; done) | (simp; omega) | omega)) | (refine setRow_off (setRow_at (old := #[.bool false, .int .i64 0, .int .i64 0, .int .i64 0, .string ⟨#[]⟩, .int .i64 0]) ?_ _) ?_ _; repeat' (first | (with_reducible refine drew_at ?_) | (with_reducible refine setRow_off ?_ ?_ _) | (with_reducible exact setRow_at (by assumption) _) | (with_reducible exact alloc_new _) | (with_reducible refine alloc_at _ _ (by simp; done)) | (with_reducible refine alloc_old ?_ _) | (with_reducible refine Below.at hb9 ?_ ?_) | (simp; done) | (simp; omega) | omega))
                  · first | (refine setRow_at (old := #[.int .i64 0, .int .i64 0, .int .i64 0, .string ⟨#[]⟩]) ?_ _; repeat' (first | (with_reducible refine drew_at ?_) | (with_reducible refine setRow_off ?_ ?_ _) | (with_reducible exact setRow_at (by assumption) _) | (with_reducible exact alloc_new _) | (with_reducible refine alloc_at _ _ (by simp; done)) | (with_reducible refine alloc_old ?_ _) | (with_reducible refine Below.at hb9 ?_ ?_) | (simp; done) | (simp; omega) | omega)) | (refine setRow_off (setRow_at (old := #[.int .i64 0, .int .i64 0, .int .i64 0, .string ⟨#[]⟩]) ?_ _) ?_ _; repeat' (first | (with_reducible refine drew_at ?_) | (with_reducible refine setRow_off ?_ ?_ _) | (with_reducible exact setRow_at (by assumption) _) | (with_reducible exact alloc_new _) | (with_reducible refine alloc_at _ _ (by simp; done)) | (with_reducible refine alloc_old ?_ _) | (with_reducible refine Below.at hb9 ?_ ?_) | (simp; done) | (simp; omega) | omega))
                  · first | (simp; done) | (simp; omega) | omega
                  · first | (simp; done) | (simp; omega) | omega
                exact AllReadyH.nil
              exact AllReadyH.nil
            exact AllReadyH.nil
          refine AllReadyH.cons rfl (fun K hK => ?_) ?_
          · go_simp
            refine hK.out _ _ ?_ (fun hHeld2 => ?_)
            · (try dsimp only); exact HX.out _ (by repeat' (first | (with_reducible assumption) | (with_reducible refine below_setRowN ?_ ?_ _) | (with_reducible refine Below.setCell ?_ ?_ _) | (with_reducible refine below_drewN' ?_ _) | (with_reducible refine Below.drew ?_) | (with_reducible refine Below.alloc ?_ ?_ _) | (with_reducible exact Below.refl _ _) | (with_reducible exact Nat.le_refl _) | (simp; done) | omega | (simp; omega)))
            clear hK K hHeld1
            (try simp only [Act.put, List.setIfInBounds_toArray, List.set_cons_zero, List.set_cons_succ, List.getElem_toArray, List.getElem_cons_zero, List.getElem_cons_succ])
            refine wpAnyH_ready (rs := [5]) (by kernel_rfl) (by simp) ?_
            refine AllReadyH.cons rfl (fun K hK => ?_) ?_
            · (go_simp; go_at_call 41; (with_reducible refine (HRT.out _).mono ?_); rintro e w9 ⟨rfl, hb9⟩; have hcur : Below w8.heap.size w8 w9 := (Below.trans (by repeat' (first | (with_reducible assumption) | (with_reducible refine below_setRowN ?_ ?_ _) | (with_reducible refine Below.setCell ?_ ?_ _) | (with_reducible refine below_drewN' ?_ _) | (with_reducible refine Below.drew ?_) | (with_reducible refine Below.alloc ?_ ?_ _) | (with_reducible exact Below.refl _ _) | (with_reducible exact Nat.le_refl _) | (simp; done) | omega | (simp; omega))) (hb9.mono (by first | (simp; done) | omega | (simp; omega)))); have hcs := hcur.size; have hcs9 := hb9.size; (try simp at hcs9))
              refine hK.out _ _ ?_ (fun hHeld3 => ?_)
              · (try dsimp only); exact HX.out _ (by repeat' (first | (with_reducible assumption) | (with_reducible refine below_setRowN ?_ ?_ _) | (with_reducible refine Below.setCell ?_ ?_ _) | (with_reducible refine below_drewN' ?_ _) | (with_reducible refine Below.drew ?_) | (with_reducible refine Below.alloc ?_ ?_ _) | (with_reducible exact Below.refl _ _) | (with_reducible exact Nat.le_refl _) | (simp; done) | omega | (simp; omega)))
              clear hK K hHeld2
              (try simp only [Act.put, List.setIfInBounds_toArray, List.set_cons_zero, List.set_cons_succ, List.getElem_toArray, List.getElem_cons_zero, List.getElem_cons_succ])
              refine wpAnyH_take (i := 6) (v := ?_) rfl (by kernel_rfl) (by kernel_rfl) (by kernel_rfl) (fun _ _ _ h => h) (Or.inl ⟨by rfl, ?_⟩) (by assumption) ?_
              rotate_left
              · (intro w hSw; (try dsimp only at hSw); go_simp; try with_reducible rfl)
              (try simp only [Act.put, List.setIfInBounds_toArray, List.set_cons_zero, List.set_cons_succ, List.getElem_toArray, List.getElem_cons_zero, List.getElem_cons_succ])
              refine wpAnyH_take (i := 7) (v := ?_) rfl (by kernel_rfl) (by kernel_rfl) (by kernel_rfl) (fun _ _ _ h => h) (Or.inl ⟨by rfl, ?_⟩) (by assumption) ?_
              rotate_left
              · (intro w hSw; (try dsimp only at hSw); go_simp; try with_reducible rfl)
              (try simp only [Act.put, List.setIfInBounds_toArray, List.set_cons_zero, List.set_cons_succ, List.getElem_toArray, List.getElem_cons_zero, List.getElem_cons_succ])
              refine wpAnyH_take (i := 8) (v := ?_) rfl (by kernel_rfl) (by kernel_rfl) (by kernel_rfl) (fun _ _ _ h => h) (Or.inl ⟨by rfl, ?_⟩) (by assumption) ?_
              rotate_left
              · (intro w hSw; (try dsimp only at hSw); go_simp; try with_reducible rfl)
              (try simp only [Act.put, List.setIfInBounds_toArray, List.set_cons_zero, List.set_cons_succ, List.getElem_toArray, List.getElem_cons_zero, List.getElem_cons_succ])
              refine wpAnyH_take (i := 9) (v := ?_) rfl (by kernel_rfl) (by kernel_rfl) (by kernel_rfl) (fun _ _ _ h => h) (Or.inl ⟨by rfl, ?_⟩) (by assumption) ?_
              rotate_left
              · (intro w hSw; (try dsimp only at hSw); go_simp; try with_reducible rfl)
              (try simp only [Act.put, List.setIfInBounds_toArray, List.set_cons_zero, List.set_cons_succ, List.getElem_toArray, List.getElem_cons_zero, List.getElem_cons_succ])
              refine wpAnyH_take (i := 10) (v := ?_) rfl (by kernel_rfl) (by kernel_rfl) (by kernel_rfl) (fun _ _ _ h => h) (Or.inl ⟨by rfl, ?_⟩) (by assumption) ?_
              rotate_left
              · (intro w hSw; (try dsimp only at hSw); go_simp; try with_reducible rfl)
              (try simp only [Act.put, List.setIfInBounds_toArray, List.set_cons_zero, List.set_cons_succ, List.getElem_toArray, List.getElem_cons_zero, List.getElem_cons_succ])
              refine wpAnyH_ready (rs := [13]) (by kernel_rfl) (by simp) ?_
              refine AllReadyH.cons rfl (fun K hK => ?_) ?_
              · (rw [if_pos (by rfl)]; refine wp_store_row 76 _ _ (by rfl) _ _ (by rfl) (by rfl) 76 #[.bool false, .int .i64 0, .int .i64 0, .int .i64 0, .string ⟨#[]⟩, .int .i64 0] (by repeat' (first | (with_reducible refine drew_at ?_) | (with_reducible refine setRow_off ?_ ?_ _) | (with_reducible exact setRow_at (by assumption) _) | (with_reducible exact alloc_new _) | (with_reducible refine alloc_at _ _ (by simp; done)) | (with_reducible refine alloc_old ?_ _) | (with_reducible refine Below.at hb9 ?_ ?_) | (simp; done) | (simp; omega) | omega)) (by kernel_rfl) (by rfl) (by first | (simp; done) | simp [Value.oneCell']) ?_)
                refine hK.out _ _ ?_ (fun hHeld4 => ?_)
                · (try dsimp only); exact HX.out _ (by repeat' (first | (with_reducible assumption) | (with_reducible refine below_setRowN ?_ ?_ _) | (with_reducible refine Below.setCell ?_ ?_ _) | (with_reducible refine below_drewN' ?_ _) | (with_reducible refine Below.drew ?_) | (with_reducible refine Below.alloc ?_ ?_ _) | (with_reducible exact Below.refl _ _) | (with_reducible exact Nat.le_refl _) | (simp; done) | omega | (simp; omega)))
                clear hK K hHeld3
                (try simp only [Act.put, List.setIfInBounds_toArray, List.set_cons_zero, List.set_cons_succ, List.getElem_toArray, List.getElem_cons_zero, List.getElem_cons_succ])
                refine wpAnyH_ready (rs := [14]) (by kernel_rfl) (by simp) ?_
                refine AllReadyH.cons rfl (fun K hK => ?_) ?_
                · (rw [if_pos (by rfl)]; refine wp_store_row 29 _ _ (by rfl) _ _ (by rfl) (by rfl) 29 #[.int .i64 0, .int .i64 0, .int .i64 0, .string ⟨#[]⟩] (by repeat' (first | (with_reducible refine drew_at ?_) | (with_reducible refine setRow_off ?_ ?_ _) | (with_reducible exact setRow_at (by assumption) _) | (with_reducible exact alloc_new _) | (with_reducible refine alloc_at _ _ (by simp; done)) | (with_reducible refine alloc_old ?_ _) | (with_reducible refine Below.at hb9 ?_ ?_) | (simp; done) | (simp; omega) | omega)) (by kernel_rfl) (by rfl) (by first | (simp; done) | simp [Value.oneCell']) ?_)
                  refine hK.out _ _ ?_ (fun hHeld5 => ?_)
                  · (try dsimp only); exact HX.out _ (by repeat' (first | (with_reducible assumption) | (with_reducible refine below_setRowN ?_ ?_ _) | (with_reducible refine Below.setCell ?_ ?_ _) | (with_reducible refine below_drewN' ?_ _) | (with_reducible refine Below.drew ?_) | (with_reducible refine Below.alloc ?_ ?_ _) | (with_reducible exact Below.refl _ _) | (with_reducible exact Nat.le_refl _) | (simp; done) | omega | (simp; omega)))
                  clear hK K hHeld4
                  (try simp only [Act.put, List.setIfInBounds_toArray, List.set_cons_zero, List.set_cons_succ, List.getElem_toArray, List.getElem_cons_zero, List.getElem_cons_succ])
                  refine wpAnyH_take (i := 15) (v := ?_) rfl (by kernel_rfl) (by kernel_rfl) (by kernel_rfl) (fun _ _ _ h => h) (Or.inl ⟨by rfl, ?_⟩) (by assumption) ?_
                  rotate_left
                  · (intro w hSw; (try dsimp only at hSw); go_simp; try with_reducible rfl)
                  (try simp only [Act.put, List.setIfInBounds_toArray, List.set_cons_zero, List.set_cons_succ, List.getElem_toArray, List.getElem_cons_zero, List.getElem_cons_succ])
                  refine wpAnyH_take (i := 16) (v := ?_) rfl (by kernel_rfl) (by kernel_rfl) (by kernel_rfl) (fun _ _ _ h => h) (Or.inl ⟨by rfl, ?_⟩) (by assumption) ?_
                  rotate_left
                  · (intro w hSw; (try dsimp only at hSw); go_simp; try with_reducible rfl)
                  (try simp only [Act.put, List.setIfInBounds_toArray, List.set_cons_zero, List.set_cons_succ, List.getElem_toArray, List.getElem_cons_zero, List.getElem_cons_succ])
                  refine wpAnyH_done (by kernel_rfl) ?_ _
                  go_wp2
                  go_meet
                  refine ⟨_, _, rfl, rfl, rfl, rfl, ?_, ?_, ?_, ?_, by repeat' (first | (with_reducible assumption) | (with_reducible refine below_setRowN ?_ ?_ _) | (with_reducible refine Below.setCell ?_ ?_ _) | (with_reducible refine below_drewN' ?_ _) | (with_reducible refine Below.drew ?_) | (with_reducible refine Below.alloc ?_ ?_ _) | (with_reducible exact Below.refl _ _) | (with_reducible exact Nat.le_refl _) | (simp; done) | omega | (simp; omega))⟩
                  · first | (refine setRow_at (old := #[.bool false, .int .i64 0, .int .i64 0, .int .i64 0, .string ⟨#[]⟩, .int .i64 0]) ?_ _; repeat' (first | (with_reducible refine drew_at ?_) | (with_reducible refine setRow_off ?_ ?_ _) | (with_reducible exact setRow_at (by assumption) _) | (with_reducible exact alloc_new _) | (with_reducible refine alloc_at _ _ (by simp; done)) | (with_reducible refine alloc_old ?_ _) | (with_reducible refine Below.at hb9 ?_ ?_) | (simp; done) | (simp; omega) | omega)) | (refine setRow_off (setRow_at (old := #[.bool false, .int .i64 0, .int .i64 0, .int .i64 0, .string ⟨#[]⟩, .int .i64 0]) ?_ _) ?_ _; repeat' (first | (with_reducible refine drew_at ?_) | (with_reducible refine setRow_off ?_ ?_ _) | (with_reducible exact setRow_at (by assumption) _) | (with_reducible exact alloc_new _) | (with_reducible refine alloc_at _ _ (by simp; done)) | (with_reducible refine alloc_old ?_ _) | (with_reducible refine Below.at hb9 ?_ ?_) | (simp; done) | (simp; omega) | omega))
                  · first | (refine setRow_at (old := #[.int .i64 0, .int .i64 0, .int .i64 0, .string ⟨#[]⟩]) ?_ _; repeat' (first | (with_reducible refine drew_at ?_) | (with_reducible refine setRow_off ?_ ?_ _) | (with_reducible exact setRow_at (by assumption) _) | (with_reducible exact alloc_new _) | (with_reducible refine alloc_at _ _ (by simp; done)) | (with_reducible refine alloc_old ?_ _) | (with_reducible refine Below.at hb9 ?_ ?_) | (simp; done) | (simp; omega) | omega)) | (refine setRow_off (setRow_at (old := #[.int .i64 0, .int .i64 0, .int .i64 0, .string ⟨#[]⟩]) ?_ _) ?_ _; repeat' (first | (with_reducible refine drew_at ?_) | (with_reducible refine setRow_off ?_ ?_ _) | (with_reducible exact setRow_at (by assumption) _) | (with_reducible exact alloc_new _) | (with_reducible refine alloc_at _ _ (by simp; done)) | (with_reducible refine alloc_old ?_ _) | (with_reducible refine Below.at hb9 ?_ ?_) | (simp; done) | (simp; omega) | omega))
                  · first | (simp; done) | (simp; omega) | omega
                  · first | (simp; done) | (simp; omega) | omega
                exact AllReadyH.nil
              exact AllReadyH.nil
            exact AllReadyH.nil
          exact AllReadyH.nil
        exact AllReadyH.nil
      case rest =>
      obtain ⟨n, d, rfl, rfl, rfl, rfl, hN, hD, hn8, hd8, hb9⟩ := hcut
      have hR9 := Below.at hb9 HR8.out hl8
      have hA9 := Below.at hb9 HA.out hn7
      have hB9 : Below w5.heap.size w5 wc := HB8.out.trans (hb9.mono HB8.out.size)
      have hJ9 : JoinAt wc w5.heap.size j2 := HJ8.out.below hb9
      have fN := fun i => cell_at hN i
      have fR := fun i => cell_at hR9 i
      have uR := fun i => frozen_at hR9 i
      have hrl := block_lt hR9
      have hnr : n ≠ w6.heap.size := by omega
      have hdr : d ≠ w6.heap.size := by omega
      have har : w7.heap.size ≠ w6.heap.size := by omega
      have hjr : w5.heap.size ≠ w6.heap.size := by omega
      have HR9 := Lib.hid hR9
      have HA9 := Lib.hid hA9
      have HB9 := Lib.hid hB9
      have HJ9 := Lib.hid hJ9
      have HD9 := Lib.hid hD
      clear hR9 hA9 hB9 hJ9 hD hN HR8 HA HB8 HJ8 HX hb9 HRT
      go_upto_region 15 with (fail)
      go_cut [] (fun wx => JoinAt wx w5.heap.size j2 ∧ wx.heap[w6.heap.size]? = some (.cells #[.bool j2.is, .int .i64 j2.pk.src, .int .i64 j2.pk.dst, .int .i64 j2.pk.seq, .string j2.pk.data, .int .i64 j2.len] 76 (0, 0)) ∧ wx.heap[d]? = some (.cells #[.int .i64 psrc, .int .i64 pdst, .int .i64 pseq, .string pdata] 29 (0, 0)) ∧ wx.heap[w7.heap.size]? = some (.cells #[.int .i64 psrc, .int .i64 pdst, .int .i64 pseq, .string pdata] 29 (0, 0)) ∧ Below w5.heap.size w5 wx)
      case first =>
        go_wp2
        go_meet
        have hB := HB9.out
        have hs5 : w5.heap.size ≤ w6.heap.size := by omega
        exact ⟨set_other (set_other (set_other (set_other (set_other (set_other HJ9.out hjr _ _) hjr _ _) hjr _ _) hjr _ _) hjr _ _) hjr _ _, stored6 HR9.out, set_other (set_other (set_other (set_other (set_other (set_other HD9.out hdr _ _) hdr _ _) hdr _ _) hdr _ _) hdr _ _) hdr _ _, set_other (set_other (set_other (set_other (set_other (set_other HA9.out har _ _) har _ _) har _ _) har _ _) har _ _) har _ _, by repeat' (first | (with_reducible assumption) | (with_reducible refine below_setRowN ?_ ?_ _) | (with_reducible refine Below.setCell ?_ ?_ _) | (with_reducible refine below_drewN' ?_ _) | (with_reducible refine Below.drew ?_) | (with_reducible refine Below.alloc ?_ ?_ _) | (with_reducible exact Below.refl _ _) | (with_reducible exact Nat.le_refl _) | (simp; done) | omega | (simp; omega))⟩
      case rest =>
      obtain ⟨hJ, hR, hD, hA, hB⟩ := hcut
      obtain ⟨wz, rfl⟩ : ∃ x : World, x = wc := ⟨_, rfl⟩
      have hJp := fun p : In (Aft wz) => hJ.below p.h
      have fR := aft_cells hR
      have fD := aft_cells hD
      have fA := aft_cells hA
      have HJp := Lib.hid hJp
      have HRz := Lib.hid hR
      have HBz := Lib.hid hB
      clear hJp hJ hR hD hA hB fN uR hrl hnr hdr har hjr HR9 HA9 HB9 HJ9 HD9
      go_upto_region 16 with (fail)
      refine wp_region_in (Aft wz) (by kernel_rfl) (by kernel_rfl) (Below.drew (Below.refl _ _)) ?_
      repeat (go_big_quiet_step (first
        | (go_at_call 40; exact aft_drew (join_begun _ _ _ (HJp.out _)))
        | (go_at_call 42; exact aft_drew (join_has _ _ _ (HJp.out _)))))
      refine wpQuiet_nil ?_
      intro _ hw'
      obtain ⟨p3, rfl⟩ := hw'
      go_wp2
      go_roundw
      case rel => exact ⟨m + 1, j2, by omega, by go_num, HJp.out _, aft_at HRz.out _, HOK, HBz.out.trans (p3.h.mono HBz.out.size)⟩
      case measure => simp [intOf]; omega
    · have hmI : ¬ ((m : Int) < (X.length : Int)) := by omega
      go_wp2
      go_ret
      have h15 := HB1.out.trans (HB15.out.mono HB1.out.size)
      exact ⟨rfl, h15.trans (HB.out.mono h15.size)⟩
theorem joinTakes_walkI (l : List PaM) (a : Option Addr) (c : Nat) (at_ : Int) (o : List Int) (b : Option Addr) (d : Nat) (w : World) (hl : l.length ≤ maxLen) (h : ParcelsAt w a l) (ho : IntsAt .u64 w b o) (hox : ∀ x ∈ o, 0 ≤ x ∧ x < 18446744073709551616) (hod : o.length ≤ d) :
    Calls Try.prog 12 #[.slice a l.length c, .int .i64 at_, .slice b o.length d] w fun e w' => e = .returned (.bool true) ∧ Below w.heap.size w w' := by
  have e : o = (o.map Int.toNat).map (fun n : Nat => (n : Int)) := by
    rw [List.map_map]
    conv => lhs; rw [← List.map_id o]
    exact List.map_congr_left fun x hx => by have := (hox x hx).1; simp; omega
  have hl2 : o.length = (o.map Int.toNat).length := by rw [List.length_map]
  have h64 : ∀ x ∈ o.map Int.toNat, x < 2 ^ 64 := fun x hx => by
    obtain ⟨y, hy, rfl⟩ := List.mem_map.1 hx
    have := hox y hy; omega
  have hc : CellsOff w b ((o.map Int.toNat).map UV) [] := by
    have h1 : (o.map Int.toNat).map UV = o.map (Value.int .u64) := by
      rw [List.map_map]
      exact List.map_congr_left fun x hx => by have := (hox x hx).1; simp [UV]; omega
    rw [h1]
    intro i u hu
    rw [List.getElem?_map] at hu
    cases hi : o[i]? with
    | none => rw [hi] at hu; simp at hu
    | some y =>
      rw [hi] at hu
      simp at hu
      obtain ⟨blk, off, e1, hcell⟩ := ho i (List.getElem?_eq_some_iff.1 hi).1
      exact ⟨blk, off, e1, by simp, by rw [hcell, ← hu, List.getD_eq_getElem?_getD, hi]; rfl⟩
  rw [hl2]
  exact joinTakes_walk l a c at_ _ b d w hl h hc h64 (by omega)
end Go.Proofs.Ytmehfflomgldeaa
