/- The walk of InboxOdd. -/
import Derived.Test.YtajbfmdgnkpjgaaScript16
import Derived.Test.YtajbfmdgnkpjgaaInboxNil
namespace Go.Proofs.Ytajbfmdgnkpjgaa
set_option linter.unusedVariables false
set_option linter.unusedSimpArgs false
open Go.RowKit Go.ChangeMaps Go.WideShapes Go.WideMaps
theorem at_below {x y : World} {k : Nat} {o : Obj} (h : Below x.heap.size x y) (hk : x.heap[k]? = some o) : y.heap[k]? = some o := Below.at h hk (block_lt hk)
theorem below_then {w a c : World} (h : Below w.heap.size w a) (hb : Below a.heap.size a c) : Below w.heap.size w c := h.trans (hb.mono h.size)
theorem below_only' {w a c : World} {B : List Nat} (h : Below w.heap.size w a) (ho : Only B a c) (hB : ∀ k ∈ B, w.heap.size ≤ k) : Below w.heap.size w c := h.trans (only_below ho hB h.size)
set_option maxRecDepth 100000 in
set_option maxHeartbeats 2000000 in
theorem inboxOdd_walk (p : Pk) (w : World) (hp : p.Wf) : Calls Try.prog 6 #[p.val] w fun e w' => e = .returned (.bool true) ∧ Below w.heap.size w w' := by
  have hp1 := hp.1
  have hp2 := hp.2.2
  obtain ⟨p0, p1, p2, p3⟩ := p
  have HV := Lib.hid lives16_calls
  have K0 := Lib.hid (fun w => box_new 2 w)
  have F1 := fun w b B h => box_come ⟨p0, p1, p2, p3⟩ w b B (IS.new 2) hp1 hp2 h
  have F2 := fun w b B h => box_come ⟨p0, p1, p2, p3⟩ w b B (⟨2, [], [⟨p0, p1, p2, p3⟩], []⟩ : IS) hp1 hp2 h
  have e2 : IS.come ⟨2, [], [⟨p0, p1, p2, p3⟩], []⟩ ⟨p0, p1, p2, p3⟩ = (⟨2, [], [⟨p0, p1, p2, p3⟩], []⟩, 13) := by
    unfold IS.come
    rw [if_pos (IS.any_key.2 ⟨_, List.mem_singleton.2 rfl, rfl, rfl⟩)]
  have e1 : inR ⟨p0, p1, p2, p3⟩ = true → IS.come (IS.new 2) ⟨p0, p1, p2, p3⟩ = (⟨2, [], [⟨p0, p1, p2, p3⟩], []⟩, 0) := fun h => IS.come_new rfl h
  have e3 : inR ⟨p0, p1, p2, p3⟩ = false → IS.come (IS.new 2) ⟨p0, p1, p2, p3⟩ = (IS.new 2, 1) := fun h => by
    unfold IS.come; rw [h]; rfl
  dsimp only [Pk.val] at F1 F2 ⊢
  clear hp hp1 hp2
  by_cases hin : inR ⟨p0, p1, p2, p3⟩ = true
  · rw [e1 hin] at F1
    rw [e2] at F2
    have hI := hin
    unfold inR at hI
    rw [decide_eq_true_eq] at hI
    dsimp only at hI
    have d1 : decide (0 ≤ p0) = true := decide_eq_true (by omega)
    have d2 : decide (p0 ≤ 4095) = true := decide_eq_true (by omega)
    have d3 : decide (0 ≤ p2) = true := decide_eq_true (by omega)
    have d4 : decide (p2 ≤ 65535) = true := decide_eq_true (by omega)
    have K1 := Lib.hid F1
    have K2 := Lib.hid F2
    clear F1 F2 e1 e2 e3 hI
    have HIN := Lib.hid hin
    clear hin
    have hrs : (IS.ready ⟨2, [], [⟨p0, p1, p2, p3⟩], []⟩).isSome = (p2 == 0) := by
      by_cases h0 : p2 = 0
      · rw [IS.ready_one (p := ⟨p0, p1, p2, p3⟩) (by show p2 = 0; exact h0), h0]; rfl
      · have hn : IS.ready ⟨2, [], [⟨p0, p1, p2, p3⟩], []⟩ = none := IS.ready_unique (by simp) (by
          intro q hq
          have hq2 : q ∈ [(⟨p0, p1, p2, p3⟩ : Pk)] := hq
          rw [List.mem_singleton.1 hq2]
          exact decide_eq_false (by show ¬ p2 = 0; exact h0))
        rw [hn]
        exact (beq_eq_false_iff_ne.2 h0).symm
    have F5 := fun w b B h => box_waits w b B (⟨2, [], [⟨p0, p1, p2, p3⟩], []⟩ : IS) h
    have F6 := fun w b B h => box_isready w b B (⟨2, [], [⟨p0, p1, p2, p3⟩], []⟩ : IS) h
    rw [hrs] at F6
    have K5 := Lib.hid F5
    have K6 := Lib.hid F6
    clear hrs F5 F6
    have N1 := Lib.hid (fun w => nilbox_come ⟨p0, p1, p2, p3⟩ w)
    have N2 := Lib.hid nilbox_recv
    have N3 := Lib.hid nilbox_peek
    have N4 := Lib.hid nilbox_tell
    have N5 := Lib.hid nilbox_len
    have N6 := Lib.hid nilbox_room
    have N7 := Lib.hid nilbox_waits
    have N8 := Lib.hid (nilbox_next 1)
    have N9 := Lib.hid nilbox_ready
    go_enter Try.func6, Try.ntmps6
    go_upto_region 8 with (first | (go_at_call 11; ((with_reducible refine (HV.out _).mono ?_); rintro e w1 ⟨rfl, hb1⟩; have hB1 : Below w.heap.size w w1 := Below.trans ((Below.refl _ _).alloc (Nat.le_refl _) _) (hb1.mono (by simp)); have hP := Below.at hb1 (alloc_new _) (by simp); have fp := fun j => cell_at hP j; have HP := Lib.hid hP; have HWW := Lib.hid hB1; have hbs := hB1.size; have hpl := block_lt hP; clear hb1 hB1 hP)) | (go_at_call 12; ((with_reducible refine (K0.out _).mono ?_); rintro e w2 ⟨b, B, rfl, hB2, hge, hb2⟩; have hP := Below.at hb2 HP.out hpl; have fp := fun j => cell_at hP j; have HP := Lib.hid hP; have HG : Hid (∀ k ∈ B, w.heap.size < k) := Lib.hid (fun k hk => Nat.lt_of_lt_of_le hpl (hge k hk)); have HB := Lib.hid hB2; have hw9 := HWW.out.trans (hb2.mono hbs); have HWW := Lib.hid hw9; clear hw9 hB2 hge hb2 hP hpl hbs)) | (go_at_call 13; (first | (with_reducible refine (K1.out _ b B HB.out).mono ?_) | (with_reducible refine (K2.out _ b B HB.out).mono ?_)); rintro e w3 ⟨rfl, hBn, hOn⟩; have hP := hOn.at HP.out (fun hm => Nat.lt_irrefl _ (HG.out _ hm)); have fp := fun j => cell_at hP j; have HP := Lib.hid hP; have hw9 := below_only' HWW.out hOn (fun k hk => Nat.le_of_lt (HG.out k hk)); have HB := Lib.hid hBn; have HWW := Lib.hid hw9; clear hBn hOn hw9 hP))
    clear K0 K1 HV
    go_upto_region 12 with (first | (go_at_call 13; ((with_reducible refine (N1.out _).mono ?_); rintro e w3 ⟨rfl, hb3⟩; have hP9 := at_below hb3 (by first | exact HP.out | exact alloc_old HP.out _ | exact drewN_at HP.out _); have hB9 := BoxAt.below (by first | exact HB.out | exact HB.out.alloc _ | exact HB.out.drewN _) hb3; have hw9 := below_then (by first | exact HWW.out | exact HWW.out.alloc HWW.out.size _ | exact below_drewN' HWW.out _) hb3; have fp := fun j => cell_at hP9 j; have hpl := block_lt hP9; have HP := Lib.hid hP9; have HB := Lib.hid hB9; have HWW := Lib.hid hw9; clear hP9 hB9 hw9 hb3)) | (go_at_call 15; ((with_reducible refine (N2.out _).mono ?_); rintro e w3 ⟨rfl, hb3⟩; have hP9 := at_below hb3 (by first | exact HP.out | exact alloc_old HP.out _ | exact drewN_at HP.out _); have hB9 := BoxAt.below (by first | exact HB.out | exact HB.out.alloc _ | exact HB.out.drewN _) hb3; have hw9 := below_then (by first | exact HWW.out | exact HWW.out.alloc HWW.out.size _ | exact below_drewN' HWW.out _) hb3; have fp := fun j => cell_at hP9 j; have hpl := block_lt hP9; have HP := Lib.hid hP9; have HB := Lib.hid hB9; have HWW := Lib.hid hw9; clear hP9 hB9 hw9 hb3)) | (go_at_call 27; ((with_reducible refine (N3.out _).mono ?_); rintro e w3 ⟨rfl, hb3⟩; have hP9 := at_below hb3 (by first | exact HP.out | exact alloc_old HP.out _ | exact drewN_at HP.out _); have hB9 := BoxAt.below (by first | exact HB.out | exact HB.out.alloc _ | exact HB.out.drewN _) hb3; have hw9 := below_then (by first | exact HWW.out | exact HWW.out.alloc HWW.out.size _ | exact below_drewN' HWW.out _) hb3; have fp := fun j => cell_at hP9 j; have hpl := block_lt hP9; have HP := Lib.hid hP9; have HB := Lib.hid hB9; have HWW := Lib.hid hw9; clear hP9 hB9 hw9 hb3)) | (go_at_call 14; ((with_reducible refine (N4.out _).mono ?_); rintro e w3 ⟨rfl, hb3⟩; have hP9 := at_below hb3 (by first | exact HP.out | exact alloc_old HP.out _ | exact drewN_at HP.out _); have hB9 := BoxAt.below (by first | exact HB.out | exact HB.out.alloc _ | exact HB.out.drewN _) hb3; have hw9 := below_then (by first | exact HWW.out | exact HWW.out.alloc HWW.out.size _ | exact below_drewN' HWW.out _) hb3; have fp := fun j => cell_at hP9 j; have hpl := block_lt hP9; have HP := Lib.hid hP9; have HB := Lib.hid hB9; have HWW := Lib.hid hw9; clear hP9 hB9 hw9 hb3)) | (go_at_call 18; ((with_reducible refine (N9.out _).mono ?_); rintro e w3 ⟨rfl, hb3⟩; have hP9 := at_below hb3 (by first | exact HP.out | exact alloc_old HP.out _ | exact drewN_at HP.out _); have hB9 := BoxAt.below (by first | exact HB.out | exact HB.out.alloc _ | exact HB.out.drewN _) hb3; have hw9 := below_then (by first | exact HWW.out | exact HWW.out.alloc HWW.out.size _ | exact below_drewN' HWW.out _) hb3; have fp := fun j => cell_at hP9 j; have hpl := block_lt hP9; have HP := Lib.hid hP9; have HB := Lib.hid hB9; have HWW := Lib.hid hw9; clear hP9 hB9 hw9 hb3)) | (go_at_call 17; ((with_reducible refine (N5.out _).mono ?_); rintro e w' ⟨rfl, k, rfl⟩)) | (go_at_call 28; ((with_reducible refine (N6.out _).mono ?_); rintro e w' ⟨rfl, k, rfl⟩)) | (go_at_call 16; ((with_reducible refine (N7.out _).mono ?_); rintro e w' ⟨rfl, k, rfl⟩)) | (go_at_call 19; ((with_reducible refine (N8.out _).mono ?_); rintro e w' ⟨rfl, k, rfl⟩)))
    go_upto_region 14 with (fail)
    clear N1 N2 N3 N4 N5 N6 N7 N8 N9 d1 d2 d3 d4
    obtain ⟨wo, hwo⟩ : ∃ x : World, x = w3 := ⟨_, rfl⟩
    refine wp_region_held_drew (S := (fun w' => (∀ j, w'.cell? ⟨w.heap.size, j, none⟩ = (#[.int .i64 p0, .int .i64 p1, .int .i64 p2, .string p3] : Array Value)[j]?))) (by kernel_rfl) ?_ (fun hHeld0 => ?_)
    · (try dsimp only); first | exact f5 | exact fp | exact fun j => cell_at HP.out j
    refine wpAnyH_take (i := 0) (v := ?_) rfl (by kernel_rfl) (by kernel_rfl) (by kernel_rfl) (fun _ _ _ h => h) (Or.inl ⟨by rfl, ?_⟩) (by assumption) ?_
    rotate_left
    · (intro w hSw; (try dsimp only at hSw); go_simp; try with_reducible rfl)
    (try simp only [Act.put, List.setIfInBounds_toArray, List.set_cons_zero, List.set_cons_succ, List.getElem_toArray, List.getElem_cons_zero, List.getElem_cons_succ])
    refine wpAnyH_take (i := 1) (v := ?_) rfl (by kernel_rfl) (by kernel_rfl) (by kernel_rfl) (fun _ _ _ h => h) (Or.inl ⟨by rfl, ?_⟩) (by assumption) ?_
    rotate_left
    · (intro w hSw; (try dsimp only at hSw); go_simp; try with_reducible rfl)
    (try simp only [Act.put, List.setIfInBounds_toArray, List.set_cons_zero, List.set_cons_succ, List.getElem_toArray, List.getElem_cons_zero, List.getElem_cons_succ])
    refine wpAnyH_take (i := 2) (v := ?_) rfl (by kernel_rfl) (by kernel_rfl) (by kernel_rfl) (fun _ _ _ h => h) (Or.inl ⟨by rfl, ?_⟩) (by assumption) ?_
    rotate_left
    · (intro w hSw; (try dsimp only at hSw); go_simp; try with_reducible rfl)
    (try simp only [Act.put, List.setIfInBounds_toArray, List.set_cons_zero, List.set_cons_succ, List.getElem_toArray, List.getElem_cons_zero, List.getElem_cons_succ])
    refine wpAnyH_take (i := 3) (v := ?_) rfl (by kernel_rfl) (by kernel_rfl) (by kernel_rfl) (fun _ _ _ h => h) (Or.inl ⟨by rfl, ?_⟩) (by assumption) ?_
    rotate_left
    · (intro w hSw; (try dsimp only at hSw); go_simp; try with_reducible rfl)
    (try simp only [Act.put, List.setIfInBounds_toArray, List.set_cons_zero, List.set_cons_succ, List.getElem_toArray, List.getElem_cons_zero, List.getElem_cons_succ])
    refine wpAnyH_take (i := 4) (v := ?_) rfl (by kernel_rfl) (by kernel_rfl) (by kernel_rfl) (fun _ _ _ h => h) (Or.inl ⟨by rfl, ?_⟩) (by assumption) ?_
    rotate_left
    · (intro w hSw; (try dsimp only at hSw); go_simp; try with_reducible rfl)
    (try simp only [Act.put, List.setIfInBounds_toArray, List.set_cons_zero, List.set_cons_succ, List.getElem_toArray, List.getElem_cons_zero, List.getElem_cons_succ])
    refine wpAnyH_take (i := 5) (v := ?_) rfl (by kernel_rfl) (by kernel_rfl) (by kernel_rfl) (fun _ _ _ h => h) (Or.inl ⟨by rfl, ?_⟩) (by assumption) ?_
    rotate_left
    · (intro w hSw; (try dsimp only at hSw); go_simp; try with_reducible rfl)
    (try simp only [Act.put, List.setIfInBounds_toArray, List.set_cons_zero, List.set_cons_succ, List.getElem_toArray, List.getElem_cons_zero, List.getElem_cons_succ])
    refine wpAnyH_take (i := 6) (v := ?_) rfl (by kernel_rfl) (by kernel_rfl) (by kernel_rfl) (fun _ _ _ h => h) (Or.inl ⟨by rfl, ?_⟩) (by assumption) ?_
    rotate_left
    · (intro w hSw; (try dsimp only at hSw); go_simp; try with_reducible rfl)
    (try simp only [Act.put, List.setIfInBounds_toArray, List.set_cons_zero, List.set_cons_succ, List.getElem_toArray, List.getElem_cons_zero, List.getElem_cons_succ])
    refine wpAnyH_take (i := 7) (v := ?_) rfl (by kernel_rfl) (by kernel_rfl) (by kernel_rfl) (fun _ _ _ h => h) (Or.inl ⟨by rfl, ?_⟩) (by assumption) ?_
    rotate_left
    · (intro w hSw; (try dsimp only at hSw); go_simp; try with_reducible rfl)
    (try simp only [Act.put, List.setIfInBounds_toArray, List.set_cons_zero, List.set_cons_succ, List.getElem_toArray, List.getElem_cons_zero, List.getElem_cons_succ])
    refine wpAnyH_ready (rs := [8]) (by kernel_rfl) (by simp) ?_
    refine AllReadyH.cons rfl (fun K hK => ?_) ?_
    · (go_simp; (go_at_call 16; ((with_reducible refine (K5.out _ b B (by first | exact HB.out.drew | exact HB.out.drew.drewN _ | exact HB.out)).mono ?_); rintro e w' ⟨rfl, k, rfl⟩)))
      refine hK.out _ _ ?_ (fun hHeld1 => ?_)
      · (try dsimp only); first | exact f5 | exact fp | exact fun j => cell_at HP.out j
      clear hK K hHeld0
      (try simp only [Act.put, List.setIfInBounds_toArray, List.set_cons_zero, List.set_cons_succ, List.getElem_toArray, List.getElem_cons_zero, List.getElem_cons_succ])
      refine wpAnyH_take (i := 9) (v := ?_) rfl (by kernel_rfl) (by kernel_rfl) (by kernel_rfl) (fun _ _ _ h => h) (Or.inl ⟨by rfl, ?_⟩) (by assumption) ?_
      rotate_left
      · (intro w hSw; (try dsimp only at hSw); go_simp; try with_reducible rfl)
      (try simp only [Act.put, List.setIfInBounds_toArray, List.set_cons_zero, List.set_cons_succ, List.getElem_toArray, List.getElem_cons_zero, List.getElem_cons_succ])
      refine wpAnyH_take (i := 10) (v := ?_) rfl (by kernel_rfl) (by kernel_rfl) (by kernel_rfl) (fun _ _ _ h => h) (Or.inl ⟨by rfl, ?_⟩) (by assumption) ?_
      rotate_left
      · (intro w hSw; (try dsimp only at hSw); go_simp; try with_reducible rfl)
      (try simp only [Act.put, List.setIfInBounds_toArray, List.set_cons_zero, List.set_cons_succ, List.getElem_toArray, List.getElem_cons_zero, List.getElem_cons_succ])
      refine wpAnyH_take (i := 11) (v := ?_) rfl (by kernel_rfl) (by kernel_rfl) (by kernel_rfl) (fun _ _ _ h => h) (Or.inl ⟨by rfl, ?_⟩) (by assumption) ?_
      rotate_left
      · (intro w hSw; (try dsimp only at hSw); go_simp; try with_reducible rfl)
      (try simp only [Act.put, List.setIfInBounds_toArray, List.set_cons_zero, List.set_cons_succ, List.getElem_toArray, List.getElem_cons_zero, List.getElem_cons_succ])
      refine wpAnyH_take (i := 12) (v := ?_) rfl (by kernel_rfl) (by kernel_rfl) (by kernel_rfl) (fun _ _ _ h => h) (Or.inl ⟨by rfl, ?_⟩) (by assumption) ?_
      rotate_left
      · (intro w hSw; (try dsimp only at hSw); go_simp; try with_reducible rfl)
      (try simp only [Act.put, List.setIfInBounds_toArray, List.set_cons_zero, List.set_cons_succ, List.getElem_toArray, List.getElem_cons_zero, List.getElem_cons_succ])
      refine wpAnyH_take (i := 14) (v := ?_) rfl (by kernel_rfl) (by kernel_rfl) (by kernel_rfl) (fun _ _ _ h => h) (Or.inl ⟨by rfl, ?_⟩) (by assumption) ?_
      rotate_left
      · (intro w hSw; (try dsimp only at hSw); go_simp; try with_reducible rfl)
      (try simp only [Act.put, List.setIfInBounds_toArray, List.set_cons_zero, List.set_cons_succ, List.getElem_toArray, List.getElem_cons_zero, List.getElem_cons_succ])
      refine wpAnyH_take (i := 15) (v := ?_) rfl (by kernel_rfl) (by kernel_rfl) (by kernel_rfl) (fun _ _ _ h => h) (Or.inl ⟨by rfl, ?_⟩) (by assumption) ?_
      rotate_left
      · (intro w hSw; (try dsimp only at hSw); go_simp; try with_reducible rfl)
      (try simp only [Act.put, List.setIfInBounds_toArray, List.set_cons_zero, List.set_cons_succ, List.getElem_toArray, List.getElem_cons_zero, List.getElem_cons_succ])
      refine wpAnyH_take (i := 16) (v := ?_) rfl (by kernel_rfl) (by kernel_rfl) (by kernel_rfl) (fun _ _ _ h => h) (Or.inl ⟨by rfl, ?_⟩) (by assumption) ?_
      rotate_left
      · (intro w hSw; (try dsimp only at hSw); go_simp; try with_reducible rfl)
      (try simp only [Act.put, List.setIfInBounds_toArray, List.set_cons_zero, List.set_cons_succ, List.getElem_toArray, List.getElem_cons_zero, List.getElem_cons_succ])
      refine wpAnyH_ready (rs := [13]) (by kernel_rfl) (by simp) ?_
      refine AllReadyH.cons rfl (fun K hK => ?_) ?_
      · (go_simp; go_at_call 18; ((with_reducible refine (K6.out _ b B (HB.out.drewN _)).mono ?_); rintro e w5 ⟨rfl, hb5⟩; have hP5 := at_below hb5 (drewN_at HP.out _); have hw5 := below_then (below_drewN' HWW.out _) hb5; have f5 := fun j => cell_at hP5 j; have HW5 := Lib.hid hw5; clear hw5 hP5 hb5))
        refine hK.out _ _ ?_ (fun hHeld2 => ?_)
        · (try dsimp only); first | exact f5 | exact fp | exact fun j => cell_at HP.out j
        clear hK K hHeld1
        (try simp only [Act.put, List.setIfInBounds_toArray, List.set_cons_zero, List.set_cons_succ, List.getElem_toArray, List.getElem_cons_zero, List.getElem_cons_succ])
        refine wpAnyH_take (i := 17) (v := ?_) rfl (by kernel_rfl) (by kernel_rfl) (by kernel_rfl) (fun _ _ _ h => h) (Or.inl ⟨by rfl, ?_⟩) (by assumption) ?_
        rotate_left
        · (intro w hSw; (try dsimp only at hSw); go_simp; try with_reducible rfl)
        (try simp only [Act.put, List.setIfInBounds_toArray, List.set_cons_zero, List.set_cons_succ, List.getElem_toArray, List.getElem_cons_zero, List.getElem_cons_succ])
        refine wpAnyH_take (i := 18) (v := ?_) rfl (by kernel_rfl) (by kernel_rfl) (by kernel_rfl) (fun _ _ _ h => h) (Or.inl ⟨by rfl, ?_⟩) (by assumption) ?_
        rotate_left
        · (intro w hSw; (try dsimp only at hSw); go_simp; try with_reducible rfl)
        (try simp only [Act.put, List.setIfInBounds_toArray, List.set_cons_zero, List.set_cons_succ, List.getElem_toArray, List.getElem_cons_zero, List.getElem_cons_succ])
        refine wpAnyH_take (i := 19) (v := ?_) rfl (by kernel_rfl) (by kernel_rfl) (by kernel_rfl) (fun _ _ _ h => h) (Or.inl ⟨by rfl, ?_⟩) (by assumption) ?_
        rotate_left
        · (intro w hSw; (try dsimp only at hSw); go_simp; try with_reducible rfl)
        (try simp only [Act.put, List.setIfInBounds_toArray, List.set_cons_zero, List.set_cons_succ, List.getElem_toArray, List.getElem_cons_zero, List.getElem_cons_succ])
        refine wpAnyH_done (by kernel_rfl) ?_ _
        go_wp2
        go_ret
        exact ⟨rfl, HW5.out⟩
      exact AllReadyH.nil
    exact AllReadyH.nil
  · rw [Bool.not_eq_true] at hin
    rw [e3 hin] at F1
    have K1 := Lib.hid F1
    have K2 := Lib.hid F1
    have K5 := Lib.hid (fun w b B h => box_waits w b B (IS.new 2) h)
    clear F1 F2 e1 e2 e3
    unfold inR at hin
    rw [decide_eq_false_iff_not] at hin
    dsimp only at hin
    by_cases i1 : 0 ≤ p0
    · have d1 : decide (0 ≤ p0) = true := decide_eq_true i1
      by_cases i2 : p0 ≤ 4095
      · have d2 : decide (p0 ≤ 4095) = true := decide_eq_true i2
        by_cases i3 : 0 ≤ p2
        · have d3 : decide (0 ≤ p2) = true := decide_eq_true i3
          have d4 : decide (p2 ≤ 65535) = false := decide_eq_false (by omega)
          clear hin i1 i2 i3
          have N1 := Lib.hid (fun w => nilbox_come ⟨p0, p1, p2, p3⟩ w)
          have N2 := Lib.hid nilbox_recv
          have N3 := Lib.hid nilbox_peek
          have N4 := Lib.hid nilbox_tell
          have N5 := Lib.hid nilbox_len
          have N6 := Lib.hid nilbox_room
          have N7 := Lib.hid nilbox_waits
          have N8 := Lib.hid (nilbox_next 1)
          have N9 := Lib.hid nilbox_ready
          go_enter Try.func6, Try.ntmps6
          go_upto_region 8 with (first | (go_at_call 11; ((with_reducible refine (HV.out _).mono ?_); rintro e w1 ⟨rfl, hb1⟩; have hB1 : Below w.heap.size w w1 := Below.trans ((Below.refl _ _).alloc (Nat.le_refl _) _) (hb1.mono (by simp)); have hP := Below.at hb1 (alloc_new _) (by simp); have fp := fun j => cell_at hP j; have HP := Lib.hid hP; have HWW := Lib.hid hB1; have hbs := hB1.size; have hpl := block_lt hP; clear hb1 hB1 hP)) | (go_at_call 12; ((with_reducible refine (K0.out _).mono ?_); rintro e w2 ⟨b, B, rfl, hB2, hge, hb2⟩; have hP := Below.at hb2 HP.out hpl; have fp := fun j => cell_at hP j; have HP := Lib.hid hP; have HG : Hid (∀ k ∈ B, w.heap.size < k) := Lib.hid (fun k hk => Nat.lt_of_lt_of_le hpl (hge k hk)); have HB := Lib.hid hB2; have hw9 := HWW.out.trans (hb2.mono hbs); have HWW := Lib.hid hw9; clear hw9 hB2 hge hb2 hP hpl hbs)) | (go_at_call 13; (first | (with_reducible refine (K1.out _ b B HB.out).mono ?_) | (with_reducible refine (K2.out _ b B HB.out).mono ?_)); rintro e w3 ⟨rfl, hBn, hOn⟩; have hP := hOn.at HP.out (fun hm => Nat.lt_irrefl _ (HG.out _ hm)); have fp := fun j => cell_at hP j; have HP := Lib.hid hP; have hw9 := below_only' HWW.out hOn (fun k hk => Nat.le_of_lt (HG.out k hk)); have HB := Lib.hid hBn; have HWW := Lib.hid hw9; clear hBn hOn hw9 hP))
          clear K0 K1 HV
          go_upto_region 12 with (first | (go_at_call 13; ((with_reducible refine (N1.out _).mono ?_); rintro e w3 ⟨rfl, hb3⟩; have hP9 := at_below hb3 (by first | exact HP.out | exact alloc_old HP.out _ | exact drewN_at HP.out _); have hB9 := BoxAt.below (by first | exact HB.out | exact HB.out.alloc _ | exact HB.out.drewN _) hb3; have hw9 := below_then (by first | exact HWW.out | exact HWW.out.alloc HWW.out.size _ | exact below_drewN' HWW.out _) hb3; have fp := fun j => cell_at hP9 j; have hpl := block_lt hP9; have HP := Lib.hid hP9; have HB := Lib.hid hB9; have HWW := Lib.hid hw9; clear hP9 hB9 hw9 hb3)) | (go_at_call 15; ((with_reducible refine (N2.out _).mono ?_); rintro e w3 ⟨rfl, hb3⟩; have hP9 := at_below hb3 (by first | exact HP.out | exact alloc_old HP.out _ | exact drewN_at HP.out _); have hB9 := BoxAt.below (by first | exact HB.out | exact HB.out.alloc _ | exact HB.out.drewN _) hb3; have hw9 := below_then (by first | exact HWW.out | exact HWW.out.alloc HWW.out.size _ | exact below_drewN' HWW.out _) hb3; have fp := fun j => cell_at hP9 j; have hpl := block_lt hP9; have HP := Lib.hid hP9; have HB := Lib.hid hB9; have HWW := Lib.hid hw9; clear hP9 hB9 hw9 hb3)) | (go_at_call 27; ((with_reducible refine (N3.out _).mono ?_); rintro e w3 ⟨rfl, hb3⟩; have hP9 := at_below hb3 (by first | exact HP.out | exact alloc_old HP.out _ | exact drewN_at HP.out _); have hB9 := BoxAt.below (by first | exact HB.out | exact HB.out.alloc _ | exact HB.out.drewN _) hb3; have hw9 := below_then (by first | exact HWW.out | exact HWW.out.alloc HWW.out.size _ | exact below_drewN' HWW.out _) hb3; have fp := fun j => cell_at hP9 j; have hpl := block_lt hP9; have HP := Lib.hid hP9; have HB := Lib.hid hB9; have HWW := Lib.hid hw9; clear hP9 hB9 hw9 hb3)) | (go_at_call 14; ((with_reducible refine (N4.out _).mono ?_); rintro e w3 ⟨rfl, hb3⟩; have hP9 := at_below hb3 (by first | exact HP.out | exact alloc_old HP.out _ | exact drewN_at HP.out _); have hB9 := BoxAt.below (by first | exact HB.out | exact HB.out.alloc _ | exact HB.out.drewN _) hb3; have hw9 := below_then (by first | exact HWW.out | exact HWW.out.alloc HWW.out.size _ | exact below_drewN' HWW.out _) hb3; have fp := fun j => cell_at hP9 j; have hpl := block_lt hP9; have HP := Lib.hid hP9; have HB := Lib.hid hB9; have HWW := Lib.hid hw9; clear hP9 hB9 hw9 hb3)) | (go_at_call 18; ((with_reducible refine (N9.out _).mono ?_); rintro e w3 ⟨rfl, hb3⟩; have hP9 := at_below hb3 (by first | exact HP.out | exact alloc_old HP.out _ | exact drewN_at HP.out _); have hB9 := BoxAt.below (by first | exact HB.out | exact HB.out.alloc _ | exact HB.out.drewN _) hb3; have hw9 := below_then (by first | exact HWW.out | exact HWW.out.alloc HWW.out.size _ | exact below_drewN' HWW.out _) hb3; have fp := fun j => cell_at hP9 j; have hpl := block_lt hP9; have HP := Lib.hid hP9; have HB := Lib.hid hB9; have HWW := Lib.hid hw9; clear hP9 hB9 hw9 hb3)) | (go_at_call 17; ((with_reducible refine (N5.out _).mono ?_); rintro e w' ⟨rfl, k, rfl⟩)) | (go_at_call 28; ((with_reducible refine (N6.out _).mono ?_); rintro e w' ⟨rfl, k, rfl⟩)) | (go_at_call 16; ((with_reducible refine (N7.out _).mono ?_); rintro e w' ⟨rfl, k, rfl⟩)) | (go_at_call 19; ((with_reducible refine (N8.out _).mono ?_); rintro e w' ⟨rfl, k, rfl⟩)))
          go_wp2_with (first | (go_at_call 16; ((with_reducible refine (K5.out _ b B (by first | exact HB.out | exact HB.out.drewN _)).mono ?_); rintro e w' ⟨rfl, k, rfl⟩)))
          go_ret
          exact ⟨rfl, by first | exact HWW.out | exact below_drewN' HWW.out _⟩
        · have d3 : decide (0 ≤ p2) = false := decide_eq_false i3
          clear hin i1 i2 i3
          have N1 := Lib.hid (fun w => nilbox_come ⟨p0, p1, p2, p3⟩ w)
          have N2 := Lib.hid nilbox_recv
          have N3 := Lib.hid nilbox_peek
          have N4 := Lib.hid nilbox_tell
          have N5 := Lib.hid nilbox_len
          have N6 := Lib.hid nilbox_room
          have N7 := Lib.hid nilbox_waits
          have N8 := Lib.hid (nilbox_next 1)
          have N9 := Lib.hid nilbox_ready
          go_enter Try.func6, Try.ntmps6
          go_upto_region 8 with (first | (go_at_call 11; ((with_reducible refine (HV.out _).mono ?_); rintro e w1 ⟨rfl, hb1⟩; have hB1 : Below w.heap.size w w1 := Below.trans ((Below.refl _ _).alloc (Nat.le_refl _) _) (hb1.mono (by simp)); have hP := Below.at hb1 (alloc_new _) (by simp); have fp := fun j => cell_at hP j; have HP := Lib.hid hP; have HWW := Lib.hid hB1; have hbs := hB1.size; have hpl := block_lt hP; clear hb1 hB1 hP)) | (go_at_call 12; ((with_reducible refine (K0.out _).mono ?_); rintro e w2 ⟨b, B, rfl, hB2, hge, hb2⟩; have hP := Below.at hb2 HP.out hpl; have fp := fun j => cell_at hP j; have HP := Lib.hid hP; have HG : Hid (∀ k ∈ B, w.heap.size < k) := Lib.hid (fun k hk => Nat.lt_of_lt_of_le hpl (hge k hk)); have HB := Lib.hid hB2; have hw9 := HWW.out.trans (hb2.mono hbs); have HWW := Lib.hid hw9; clear hw9 hB2 hge hb2 hP hpl hbs)) | (go_at_call 13; (first | (with_reducible refine (K1.out _ b B HB.out).mono ?_) | (with_reducible refine (K2.out _ b B HB.out).mono ?_)); rintro e w3 ⟨rfl, hBn, hOn⟩; have hP := hOn.at HP.out (fun hm => Nat.lt_irrefl _ (HG.out _ hm)); have fp := fun j => cell_at hP j; have HP := Lib.hid hP; have hw9 := below_only' HWW.out hOn (fun k hk => Nat.le_of_lt (HG.out k hk)); have HB := Lib.hid hBn; have HWW := Lib.hid hw9; clear hBn hOn hw9 hP))
          clear K0 K1 HV
          go_upto_region 12 with (first | (go_at_call 13; ((with_reducible refine (N1.out _).mono ?_); rintro e w3 ⟨rfl, hb3⟩; have hP9 := at_below hb3 (by first | exact HP.out | exact alloc_old HP.out _ | exact drewN_at HP.out _); have hB9 := BoxAt.below (by first | exact HB.out | exact HB.out.alloc _ | exact HB.out.drewN _) hb3; have hw9 := below_then (by first | exact HWW.out | exact HWW.out.alloc HWW.out.size _ | exact below_drewN' HWW.out _) hb3; have fp := fun j => cell_at hP9 j; have hpl := block_lt hP9; have HP := Lib.hid hP9; have HB := Lib.hid hB9; have HWW := Lib.hid hw9; clear hP9 hB9 hw9 hb3)) | (go_at_call 15; ((with_reducible refine (N2.out _).mono ?_); rintro e w3 ⟨rfl, hb3⟩; have hP9 := at_below hb3 (by first | exact HP.out | exact alloc_old HP.out _ | exact drewN_at HP.out _); have hB9 := BoxAt.below (by first | exact HB.out | exact HB.out.alloc _ | exact HB.out.drewN _) hb3; have hw9 := below_then (by first | exact HWW.out | exact HWW.out.alloc HWW.out.size _ | exact below_drewN' HWW.out _) hb3; have fp := fun j => cell_at hP9 j; have hpl := block_lt hP9; have HP := Lib.hid hP9; have HB := Lib.hid hB9; have HWW := Lib.hid hw9; clear hP9 hB9 hw9 hb3)) | (go_at_call 27; ((with_reducible refine (N3.out _).mono ?_); rintro e w3 ⟨rfl, hb3⟩; have hP9 := at_below hb3 (by first | exact HP.out | exact alloc_old HP.out _ | exact drewN_at HP.out _); have hB9 := BoxAt.below (by first | exact HB.out | exact HB.out.alloc _ | exact HB.out.drewN _) hb3; have hw9 := below_then (by first | exact HWW.out | exact HWW.out.alloc HWW.out.size _ | exact below_drewN' HWW.out _) hb3; have fp := fun j => cell_at hP9 j; have hpl := block_lt hP9; have HP := Lib.hid hP9; have HB := Lib.hid hB9; have HWW := Lib.hid hw9; clear hP9 hB9 hw9 hb3)) | (go_at_call 14; ((with_reducible refine (N4.out _).mono ?_); rintro e w3 ⟨rfl, hb3⟩; have hP9 := at_below hb3 (by first | exact HP.out | exact alloc_old HP.out _ | exact drewN_at HP.out _); have hB9 := BoxAt.below (by first | exact HB.out | exact HB.out.alloc _ | exact HB.out.drewN _) hb3; have hw9 := below_then (by first | exact HWW.out | exact HWW.out.alloc HWW.out.size _ | exact below_drewN' HWW.out _) hb3; have fp := fun j => cell_at hP9 j; have hpl := block_lt hP9; have HP := Lib.hid hP9; have HB := Lib.hid hB9; have HWW := Lib.hid hw9; clear hP9 hB9 hw9 hb3)) | (go_at_call 18; ((with_reducible refine (N9.out _).mono ?_); rintro e w3 ⟨rfl, hb3⟩; have hP9 := at_below hb3 (by first | exact HP.out | exact alloc_old HP.out _ | exact drewN_at HP.out _); have hB9 := BoxAt.below (by first | exact HB.out | exact HB.out.alloc _ | exact HB.out.drewN _) hb3; have hw9 := below_then (by first | exact HWW.out | exact HWW.out.alloc HWW.out.size _ | exact below_drewN' HWW.out _) hb3; have fp := fun j => cell_at hP9 j; have hpl := block_lt hP9; have HP := Lib.hid hP9; have HB := Lib.hid hB9; have HWW := Lib.hid hw9; clear hP9 hB9 hw9 hb3)) | (go_at_call 17; ((with_reducible refine (N5.out _).mono ?_); rintro e w' ⟨rfl, k, rfl⟩)) | (go_at_call 28; ((with_reducible refine (N6.out _).mono ?_); rintro e w' ⟨rfl, k, rfl⟩)) | (go_at_call 16; ((with_reducible refine (N7.out _).mono ?_); rintro e w' ⟨rfl, k, rfl⟩)) | (go_at_call 19; ((with_reducible refine (N8.out _).mono ?_); rintro e w' ⟨rfl, k, rfl⟩)))
          go_wp2_with (first | (go_at_call 16; ((with_reducible refine (K5.out _ b B (by first | exact HB.out | exact HB.out.drewN _)).mono ?_); rintro e w' ⟨rfl, k, rfl⟩)))
          go_ret
          exact ⟨rfl, by first | exact HWW.out | exact below_drewN' HWW.out _⟩
      · have d2 : decide (p0 ≤ 4095) = false := decide_eq_false i2
        clear hin i1 i2
        have N1 := Lib.hid (fun w => nilbox_come ⟨p0, p1, p2, p3⟩ w)
        have N2 := Lib.hid nilbox_recv
        have N3 := Lib.hid nilbox_peek
        have N4 := Lib.hid nilbox_tell
        have N5 := Lib.hid nilbox_len
        have N6 := Lib.hid nilbox_room
        have N7 := Lib.hid nilbox_waits
        have N8 := Lib.hid (nilbox_next 1)
        have N9 := Lib.hid nilbox_ready
        go_enter Try.func6, Try.ntmps6
        go_upto_region 8 with (first | (go_at_call 11; ((with_reducible refine (HV.out _).mono ?_); rintro e w1 ⟨rfl, hb1⟩; have hB1 : Below w.heap.size w w1 := Below.trans ((Below.refl _ _).alloc (Nat.le_refl _) _) (hb1.mono (by simp)); have hP := Below.at hb1 (alloc_new _) (by simp); have fp := fun j => cell_at hP j; have HP := Lib.hid hP; have HWW := Lib.hid hB1; have hbs := hB1.size; have hpl := block_lt hP; clear hb1 hB1 hP)) | (go_at_call 12; ((with_reducible refine (K0.out _).mono ?_); rintro e w2 ⟨b, B, rfl, hB2, hge, hb2⟩; have hP := Below.at hb2 HP.out hpl; have fp := fun j => cell_at hP j; have HP := Lib.hid hP; have HG : Hid (∀ k ∈ B, w.heap.size < k) := Lib.hid (fun k hk => Nat.lt_of_lt_of_le hpl (hge k hk)); have HB := Lib.hid hB2; have hw9 := HWW.out.trans (hb2.mono hbs); have HWW := Lib.hid hw9; clear hw9 hB2 hge hb2 hP hpl hbs)) | (go_at_call 13; (first | (with_reducible refine (K1.out _ b B HB.out).mono ?_) | (with_reducible refine (K2.out _ b B HB.out).mono ?_)); rintro e w3 ⟨rfl, hBn, hOn⟩; have hP := hOn.at HP.out (fun hm => Nat.lt_irrefl _ (HG.out _ hm)); have fp := fun j => cell_at hP j; have HP := Lib.hid hP; have hw9 := below_only' HWW.out hOn (fun k hk => Nat.le_of_lt (HG.out k hk)); have HB := Lib.hid hBn; have HWW := Lib.hid hw9; clear hBn hOn hw9 hP))
        clear K0 K1 HV
        go_upto_region 12 with (first | (go_at_call 13; ((with_reducible refine (N1.out _).mono ?_); rintro e w3 ⟨rfl, hb3⟩; have hP9 := at_below hb3 (by first | exact HP.out | exact alloc_old HP.out _ | exact drewN_at HP.out _); have hB9 := BoxAt.below (by first | exact HB.out | exact HB.out.alloc _ | exact HB.out.drewN _) hb3; have hw9 := below_then (by first | exact HWW.out | exact HWW.out.alloc HWW.out.size _ | exact below_drewN' HWW.out _) hb3; have fp := fun j => cell_at hP9 j; have hpl := block_lt hP9; have HP := Lib.hid hP9; have HB := Lib.hid hB9; have HWW := Lib.hid hw9; clear hP9 hB9 hw9 hb3)) | (go_at_call 15; ((with_reducible refine (N2.out _).mono ?_); rintro e w3 ⟨rfl, hb3⟩; have hP9 := at_below hb3 (by first | exact HP.out | exact alloc_old HP.out _ | exact drewN_at HP.out _); have hB9 := BoxAt.below (by first | exact HB.out | exact HB.out.alloc _ | exact HB.out.drewN _) hb3; have hw9 := below_then (by first | exact HWW.out | exact HWW.out.alloc HWW.out.size _ | exact below_drewN' HWW.out _) hb3; have fp := fun j => cell_at hP9 j; have hpl := block_lt hP9; have HP := Lib.hid hP9; have HB := Lib.hid hB9; have HWW := Lib.hid hw9; clear hP9 hB9 hw9 hb3)) | (go_at_call 27; ((with_reducible refine (N3.out _).mono ?_); rintro e w3 ⟨rfl, hb3⟩; have hP9 := at_below hb3 (by first | exact HP.out | exact alloc_old HP.out _ | exact drewN_at HP.out _); have hB9 := BoxAt.below (by first | exact HB.out | exact HB.out.alloc _ | exact HB.out.drewN _) hb3; have hw9 := below_then (by first | exact HWW.out | exact HWW.out.alloc HWW.out.size _ | exact below_drewN' HWW.out _) hb3; have fp := fun j => cell_at hP9 j; have hpl := block_lt hP9; have HP := Lib.hid hP9; have HB := Lib.hid hB9; have HWW := Lib.hid hw9; clear hP9 hB9 hw9 hb3)) | (go_at_call 14; ((with_reducible refine (N4.out _).mono ?_); rintro e w3 ⟨rfl, hb3⟩; have hP9 := at_below hb3 (by first | exact HP.out | exact alloc_old HP.out _ | exact drewN_at HP.out _); have hB9 := BoxAt.below (by first | exact HB.out | exact HB.out.alloc _ | exact HB.out.drewN _) hb3; have hw9 := below_then (by first | exact HWW.out | exact HWW.out.alloc HWW.out.size _ | exact below_drewN' HWW.out _) hb3; have fp := fun j => cell_at hP9 j; have hpl := block_lt hP9; have HP := Lib.hid hP9; have HB := Lib.hid hB9; have HWW := Lib.hid hw9; clear hP9 hB9 hw9 hb3)) | (go_at_call 18; ((with_reducible refine (N9.out _).mono ?_); rintro e w3 ⟨rfl, hb3⟩; have hP9 := at_below hb3 (by first | exact HP.out | exact alloc_old HP.out _ | exact drewN_at HP.out _); have hB9 := BoxAt.below (by first | exact HB.out | exact HB.out.alloc _ | exact HB.out.drewN _) hb3; have hw9 := below_then (by first | exact HWW.out | exact HWW.out.alloc HWW.out.size _ | exact below_drewN' HWW.out _) hb3; have fp := fun j => cell_at hP9 j; have hpl := block_lt hP9; have HP := Lib.hid hP9; have HB := Lib.hid hB9; have HWW := Lib.hid hw9; clear hP9 hB9 hw9 hb3)) | (go_at_call 17; ((with_reducible refine (N5.out _).mono ?_); rintro e w' ⟨rfl, k, rfl⟩)) | (go_at_call 28; ((with_reducible refine (N6.out _).mono ?_); rintro e w' ⟨rfl, k, rfl⟩)) | (go_at_call 16; ((with_reducible refine (N7.out _).mono ?_); rintro e w' ⟨rfl, k, rfl⟩)) | (go_at_call 19; ((with_reducible refine (N8.out _).mono ?_); rintro e w' ⟨rfl, k, rfl⟩)))
        go_wp2_with (first | (go_at_call 16; ((with_reducible refine (K5.out _ b B (by first | exact HB.out | exact HB.out.drewN _)).mono ?_); rintro e w' ⟨rfl, k, rfl⟩)))
        go_ret
        exact ⟨rfl, by first | exact HWW.out | exact below_drewN' HWW.out _⟩
    · have d1 : decide (0 ≤ p0) = false := decide_eq_false i1
      clear hin i1
      have N1 := Lib.hid (fun w => nilbox_come ⟨p0, p1, p2, p3⟩ w)
      have N2 := Lib.hid nilbox_recv
      have N3 := Lib.hid nilbox_peek
      have N4 := Lib.hid nilbox_tell
      have N5 := Lib.hid nilbox_len
      have N6 := Lib.hid nilbox_room
      have N7 := Lib.hid nilbox_waits
      have N8 := Lib.hid (nilbox_next 1)
      have N9 := Lib.hid nilbox_ready
      go_enter Try.func6, Try.ntmps6
      go_upto_region 8 with (first | (go_at_call 11; ((with_reducible refine (HV.out _).mono ?_); rintro e w1 ⟨rfl, hb1⟩; have hB1 : Below w.heap.size w w1 := Below.trans ((Below.refl _ _).alloc (Nat.le_refl _) _) (hb1.mono (by simp)); have hP := Below.at hb1 (alloc_new _) (by simp); have fp := fun j => cell_at hP j; have HP := Lib.hid hP; have HWW := Lib.hid hB1; have hbs := hB1.size; have hpl := block_lt hP; clear hb1 hB1 hP)) | (go_at_call 12; ((with_reducible refine (K0.out _).mono ?_); rintro e w2 ⟨b, B, rfl, hB2, hge, hb2⟩; have hP := Below.at hb2 HP.out hpl; have fp := fun j => cell_at hP j; have HP := Lib.hid hP; have HG : Hid (∀ k ∈ B, w.heap.size < k) := Lib.hid (fun k hk => Nat.lt_of_lt_of_le hpl (hge k hk)); have HB := Lib.hid hB2; have hw9 := HWW.out.trans (hb2.mono hbs); have HWW := Lib.hid hw9; clear hw9 hB2 hge hb2 hP hpl hbs)) | (go_at_call 13; (first | (with_reducible refine (K1.out _ b B HB.out).mono ?_) | (with_reducible refine (K2.out _ b B HB.out).mono ?_)); rintro e w3 ⟨rfl, hBn, hOn⟩; have hP := hOn.at HP.out (fun hm => Nat.lt_irrefl _ (HG.out _ hm)); have fp := fun j => cell_at hP j; have HP := Lib.hid hP; have hw9 := below_only' HWW.out hOn (fun k hk => Nat.le_of_lt (HG.out k hk)); have HB := Lib.hid hBn; have HWW := Lib.hid hw9; clear hBn hOn hw9 hP))
      clear K0 K1 HV
      go_upto_region 12 with (first | (go_at_call 13; ((with_reducible refine (N1.out _).mono ?_); rintro e w3 ⟨rfl, hb3⟩; have hP9 := at_below hb3 (by first | exact HP.out | exact alloc_old HP.out _ | exact drewN_at HP.out _); have hB9 := BoxAt.below (by first | exact HB.out | exact HB.out.alloc _ | exact HB.out.drewN _) hb3; have hw9 := below_then (by first | exact HWW.out | exact HWW.out.alloc HWW.out.size _ | exact below_drewN' HWW.out _) hb3; have fp := fun j => cell_at hP9 j; have hpl := block_lt hP9; have HP := Lib.hid hP9; have HB := Lib.hid hB9; have HWW := Lib.hid hw9; clear hP9 hB9 hw9 hb3)) | (go_at_call 15; ((with_reducible refine (N2.out _).mono ?_); rintro e w3 ⟨rfl, hb3⟩; have hP9 := at_below hb3 (by first | exact HP.out | exact alloc_old HP.out _ | exact drewN_at HP.out _); have hB9 := BoxAt.below (by first | exact HB.out | exact HB.out.alloc _ | exact HB.out.drewN _) hb3; have hw9 := below_then (by first | exact HWW.out | exact HWW.out.alloc HWW.out.size _ | exact below_drewN' HWW.out _) hb3; have fp := fun j => cell_at hP9 j; have hpl := block_lt hP9; have HP := Lib.hid hP9; have HB := Lib.hid hB9; have HWW := Lib.hid hw9; clear hP9 hB9 hw9 hb3)) | (go_at_call 27; ((with_reducible refine (N3.out _).mono ?_); rintro e w3 ⟨rfl, hb3⟩; have hP9 := at_below hb3 (by first | exact HP.out | exact alloc_old HP.out _ | exact drewN_at HP.out _); have hB9 := BoxAt.below (by first | exact HB.out | exact HB.out.alloc _ | exact HB.out.drewN _) hb3; have hw9 := below_then (by first | exact HWW.out | exact HWW.out.alloc HWW.out.size _ | exact below_drewN' HWW.out _) hb3; have fp := fun j => cell_at hP9 j; have hpl := block_lt hP9; have HP := Lib.hid hP9; have HB := Lib.hid hB9; have HWW := Lib.hid hw9; clear hP9 hB9 hw9 hb3)) | (go_at_call 14; ((with_reducible refine (N4.out _).mono ?_); rintro e w3 ⟨rfl, hb3⟩; have hP9 := at_below hb3 (by first | exact HP.out | exact alloc_old HP.out _ | exact drewN_at HP.out _); have hB9 := BoxAt.below (by first | exact HB.out | exact HB.out.alloc _ | exact HB.out.drewN _) hb3; have hw9 := below_then (by first | exact HWW.out | exact HWW.out.alloc HWW.out.size _ | exact below_drewN' HWW.out _) hb3; have fp := fun j => cell_at hP9 j; have hpl := block_lt hP9; have HP := Lib.hid hP9; have HB := Lib.hid hB9; have HWW := Lib.hid hw9; clear hP9 hB9 hw9 hb3)) | (go_at_call 18; ((with_reducible refine (N9.out _).mono ?_); rintro e w3 ⟨rfl, hb3⟩; have hP9 := at_below hb3 (by first | exact HP.out | exact alloc_old HP.out _ | exact drewN_at HP.out _); have hB9 := BoxAt.below (by first | exact HB.out | exact HB.out.alloc _ | exact HB.out.drewN _) hb3; have hw9 := below_then (by first | exact HWW.out | exact HWW.out.alloc HWW.out.size _ | exact below_drewN' HWW.out _) hb3; have fp := fun j => cell_at hP9 j; have hpl := block_lt hP9; have HP := Lib.hid hP9; have HB := Lib.hid hB9; have HWW := Lib.hid hw9; clear hP9 hB9 hw9 hb3)) | (go_at_call 17; ((with_reducible refine (N5.out _).mono ?_); rintro e w' ⟨rfl, k, rfl⟩)) | (go_at_call 28; ((with_reducible refine (N6.out _).mono ?_); rintro e w' ⟨rfl, k, rfl⟩)) | (go_at_call 16; ((with_reducible refine (N7.out _).mono ?_); rintro e w' ⟨rfl, k, rfl⟩)) | (go_at_call 19; ((with_reducible refine (N8.out _).mono ?_); rintro e w' ⟨rfl, k, rfl⟩)))
      go_wp2_with (first | (go_at_call 16; ((with_reducible refine (K5.out _ b B (by first | exact HB.out | exact HB.out.drewN _)).mono ?_); rintro e w' ⟨rfl, k, rfl⟩)))
      go_ret
      exact ⟨rfl, by first | exact HWW.out | exact below_drewN' HWW.out _⟩
end Go.Proofs.Ytajbfmdgnkpjgaa
