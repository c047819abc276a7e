/- A ring of cells: New, Push and Pop. -/
import Derived.Test.YtajbfmdgnkpjgaaRPkC
namespace Go.Proofs.Ytajbfmdgnkpjgaa
set_option linter.unusedVariables false
open Go.RowKit

theorem infoK : (Try.prog.info? 30).map (fun i => (i.zero, i.size, i.bytes)) = some (some (.agg #[.int .i64 0, .int .i64 0, .int .i64 0, .string ⟨#[]⟩]), 4, 40) := by kernel_rfl
theorem made_packets (n : Nat) : madeCells (Value.agg #[.int .i64 0, .int .i64 0, .int .i64 0, .string ⟨#[]⟩]).cells (n * 4) = (flatK (List.replicate n Pk.zero)).toArray := by
  apply Array.ext_getElem?
  intro i
  by_cases hi : i < n * 4
  · have e1 : (flatK (List.replicate n Pk.zero))[4 * (i / 4) + i % 4]? = ((List.replicate n Pk.zero).getD (i / 4) Pk.zero).cells[i % 4]? := flatK_get _ _ _ (by rw [List.length_replicate]; omega) (by omega)
    rw [show 4 * (i / 4) + i % 4 = i from by omega] at e1
    rw [show (flatK (List.replicate n Pk.zero)).toArray[i]? = (flatK (List.replicate n Pk.zero))[i]? from List.getElem?_toArray .., e1]
    have e2 : (List.replicate n Pk.zero).getD (i / 4) Pk.zero = Pk.zero := by
      rw [List.getD_eq_getElem?_getD, List.getElem?_replicate]; split <;> rfl
    rw [e2]
    have h2 : i % 4 = 0 ∨ i % 4 = 1 ∨ i % 4 = 2 ∨ i % 4 = 3 := by omega
    unfold madeCells
    simp only [Array.getElem?_map, Array.getElem?_range, hi, if_true, Option.map_some, Value.cells]
    rcases h2 with h2 | h2 | h2 | h2
    · simp [h2, Pk.cells, Pk.zero]
    · simp [h2, Pk.cells, Pk.zero]
    · simp [h2, Pk.cells, Pk.zero]
    · simp [h2, Pk.cells, Pk.zero]
  · rw [Array.getElem?_eq_none (by rw [size_madeCells]; omega), Array.getElem?_eq_none (by simp [flatK_len]; omega)]
set_option maxRecDepth 100000 in
theorem newK_walk (n : Nat) (h1 : 1 ≤ n) (h2 : n ≤ 4096) (begin' : Int) (w : World) :
    Calls Try.prog 55 #[.int .i64 (n : Int), .int .u32 begin'] w fun e w' => e = .returned (.pointer (some ⟨w.heap.size + 1, 0, none⟩)) ∧ w' = (w.alloc (.cells (madeCells (Value.agg #[.int .i64 0, .int .i64 0, .int .i64 0, .string ⟨#[]⟩]).cells (n * 4)) 30)).alloc (.cells #[.slice (some ⟨w.heap.size, 0, none⟩) n n, .int .u32 begin', .int .u32 begin', .int .i64 0, .bool false] 132) := by
  go_enter Try.func55, Try.ntmps55
  go_wp2_with (first | (at_make; refine make_new 26 30 _ 4 40 infoK Try.underlying26 n (by omega) (by unfold maxLen; omega) rfl _ _ rfl .i64 .i64 _ _ rfl rfl (by first | rfl | omega) (by first | rfl | omega) ?_))
  go_ret
  exact ⟨rfl, rfl⟩
theorem ringK_new (n : Nat) (h1 : 1 ≤ n) (h2 : n ≤ 4096) (w : World) :
    Calls Try.prog 55 #[.int .i64 (n : Int), .int .u32 0] w fun e w' => e = .returned (.pointer (some ⟨w.heap.size + 1, 0, none⟩)) ∧ RingK w' (w.heap.size + 1) w.heap.size (RS.new n 0) ∧ w'.heap.size = w.heap.size + 2 ∧ Below w.heap.size w w' := by
  have hok := RS.new_ok (α := Pk) (n : Int) 0 (by omega)
  have hn : (RS.new (n : Int) 0 : RS Pk).n = n := by show (min (max (n : Int) 1) 4096).toNat = n; omega
  refine (newK_walk n h1 h2 0 w).mono ?_
  rintro e w' ⟨rfl, rfl⟩
  refine ⟨rfl, ⟨hok, List.replicate n Pk.zero, 0, ⟨?_, ?_, by omega⟩, by rw [List.length_replicate]; exact hn.symm, hok.n1, fun i hi => by simp [RS.new] at hi, fun v hv => by simp [RS.new] at hv⟩, by simp, ?_⟩
  · have := alloc_new (w := w.alloc (.cells (madeCells (Value.agg #[.int .i64 0, .int .i64 0, .int .i64 0, .string ⟨#[]⟩]).cells (n * 4)) 30)) (.cells #[.slice (some ⟨w.heap.size, 0, none⟩) n n, .int .u32 0, .int .u32 0, .int .i64 0, .bool false] 132)
    rw [World.size_alloc] at this
    rw [this, List.length_replicate]
    rfl
  · apply alloc_old
    rw [made_packets]
    exact alloc_new _
  · exact ((Below.refl _ _).alloc (Nat.le_refl _) _).alloc (by simp) _
theorem ringK_push (w : World) (b g : Nat) (s : RS Pk) (v : Pk) (h : RingK w b g s) :
    Calls Try.prog 57 #[.pointer (some ⟨b, 0, none⟩), v.val] w fun e w' => e = .returned (.int .i64 (s.push v).2) ∧ RingK w' b g (s.push v).1 ∧ Only [b, g] w w' := by
  have hlt := h.lt
  have HL := fun w h => ringK_lay w b g s v h
  have hal : ∀ (w : World) (o : Obj), RingK w b g s → RingK (w.alloc o) b g s := fun w o hr => hr.below ((Below.refl _ _).alloc (Nat.le_refl _) _) hr.lt.1 hr.lt.2
  obtain ⟨v0, v1, v2, v3⟩ := v
  by_cases e1 : (s.lay ⟨v0, v1, v2, v3⟩).2 = 0
  · have e2 : s.push ⟨v0, v1, v2, v3⟩ = (s.lay ⟨v0, v1, v2, v3⟩).1.publish := by rw [RS.push_eq, if_pos e1]
    have e3 : (s.lay ⟨v0, v1, v2, v3⟩).1.publish.2 = 0 := by
      have hl : (s.lay ⟨v0, v1, v2, v3⟩).1.ld = some ⟨v0, v1, v2, v3⟩ := by
        unfold RS.lay at e1 ⊢
        by_cases c1 : s.ld.isSome = true
        · rw [if_pos c1] at e1; simp at e1
        · by_cases c2 : s.q.length = s.n
          · rw [if_neg c1, if_pos c2] at e1; simp at e1
          · rw [if_neg c1, if_neg c2]
      unfold RS.publish; rw [hl]
    rw [e2]
    rw [e1] at HL
    have HP := fun w h => ringK_publish w b g (s.lay ⟨v0, v1, v2, v3⟩).1 h
    rw [e3] at HP ⊢
    generalize (s.lay ⟨v0, v1, v2, v3⟩).1.publish.1 = s2 at HP ⊢
    generalize (s.lay ⟨v0, v1, v2, v3⟩).1 = s1 at HL HP
    have HL2 := Lib.hid HL
    have HP2 := Lib.hid HP
    have HA := Lib.hid hal
    clear HL HP e1 e2 e3 hal
    go_enter Try.func57, Try.ntmps57
    go_wp2_with (first | (go_at_call 75; ((with_reducible refine (HL2.out _ (HA.out _ _ h)).mono ?_); rintro e w1 ⟨rfl, hR, hO⟩)) | (go_at_call 76; ((with_reducible refine (HP2.out _ hR).mono ?_); rintro e w2 ⟨rfl, hR2, hO2⟩)))
    go_ret
    exact ⟨rfl, hR2, ((Only.refl _ _).alloc _).trans (hO.trans hO2)⟩
  · have e2 : s.push ⟨v0, v1, v2, v3⟩ = s.lay ⟨v0, v1, v2, v3⟩ := by rw [RS.push_eq, if_neg e1]
    rw [e2]
    have hne : ((s.lay ⟨v0, v1, v2, v3⟩).2 != 0) = true := by rw [bne_iff_ne]; exact e1
    generalize s.lay ⟨v0, v1, v2, v3⟩ = r at HL hne ⊢
    obtain ⟨s1, r2⟩ := r
    dsimp only at HL hne ⊢
    have HL2 := Lib.hid HL
    have HA := Lib.hid hal
    clear HL e1 e2 hal
    go_enter Try.func57, Try.ntmps57
    go_wp2_with (first | (go_at_call 75; ((with_reducible refine (HL2.out _ (HA.out _ _ h)).mono ?_); rintro e w1 ⟨rfl, hR, hO⟩)))
    go_ret
    exact ⟨rfl, hR, ((Only.refl _ _).alloc _).trans hO⟩
theorem ringK_pop (w : World) (b g : Nat) (s : RS Pk) (h : RingK w b g s) :
    Calls Try.prog 58 #[.pointer (some ⟨b, 0, none⟩)] w fun e w' => e = .returned (.tuple #[(s.q.headD Pk.zero).val, .int .i64 s.peekE]) ∧ RingK w' b g s.free ∧ Only [b, g] w w' := by
  have hlt := h.lt
  have HK := fun w h => ringK_peek w b g s h
  have HF := fun w h => ringK_free w b g s h
  have hal : ∀ (w : World) (o : Obj), RingK w b g s → RingK (w.alloc o) b g s := fun w o hr => hr.below ((Below.refl _ _).alloc (Nat.le_refl _) _) hr.lt.1 hr.lt.2
  have hcs : (s.peekE = 8 ∧ s.free = s) ∨ s.peekE = 0 := by
    by_cases e1 : s.q.length = 0
    · exact .inl ⟨by unfold RS.peekE; rw [if_pos e1], by unfold RS.free; rw [if_pos e1]⟩
    · exact .inr (by unfold RS.peekE; rw [if_neg e1])
  generalize s.q.headD Pk.zero = y at HK ⊢
  obtain ⟨y0, y1, y2, y3⟩ := y
  rcases hcs with ⟨e2, e3⟩ | e2
  · rw [e3]
    rw [e2] at HK ⊢
    have HK2 := Lib.hid HK
    have HA := Lib.hid hal
    clear HK HF e2 e3 hal
    go_enter Try.func58, Try.ntmps58
    go_wp2_with (first | (go_at_call 60; ((with_reducible refine (HK2.out _ (HA.out _ _ h)).mono ?_); rintro e w1 ⟨rfl, hb1⟩; have hs1 := hb1.size; have hR := Below.at hb1 (alloc_new _) (by simp); have f0 := fun j => cell_at hR j; have g0 := fun j => frozen_at hR j; have hz1 : w.heap.size < w1.heap.size := (by simp at hs1; omega); have HR1 := Lib.hid hR; have HB1 := Lib.hid hb1; clear hR hb1 hs1)))
    have hb : Below w.heap.size w (((((w1.setCell ⟨w.heap.size, 0, none⟩ (.int .i64 y0)).setCell ⟨w.heap.size, 1, none⟩ (.int .i64 y1)).setCell ⟨w.heap.size, 2, none⟩ (.int .i64 y2)).setCell ⟨w.heap.size, 3, none⟩ (.string y3)).alloc (.cells #[.int .i64 y0, .int .i64 y1, .int .i64 y2, .string y3] 30)) := by
      have := HB1.out
      have h1 : Below w.heap.size w w1 := ((Below.refl _ _).alloc (Nat.le_refl _) _).trans (this.mono (by simp))
      repeat' (first | (with_reducible assumption) | (with_reducible refine Below.setCell ?_ ?_ _) | (with_reducible refine below_drewN' ?_ _) | (with_reducible refine Below.drew ?_) | (with_reducible refine Below.alloc ?_ ?_ _) | (with_reducible exact Below.refl _ _) | (with_reducible exact Nat.le_refl _) | omega | (simp; done) | (simp; omega))
    refine bodyPost_ret (res_row_tmp rfl _ _ w.heap.size 30 _ (0, 0) _ rfl ?_ Try.underlying30 rfl (by kernel_rfl)) rfl ⟨rfl, ?_, ?_⟩
    · exact alloc_old (stored4 HR1.out) _
    · exact h.below hb hlt.1 hlt.2
    · exact Only.ofBelow hb _
  · rw [e2] at HK HF ⊢
    generalize s.free = s2 at HF ⊢
    have HK2 := Lib.hid HK
    have HF2 := Lib.hid HF
    have HA := Lib.hid hal
    clear HK HF e2 hal
    go_enter Try.func58, Try.ntmps58
    go_wp2_with (first
      | (go_at_call 60; ((with_reducible refine (HK2.out _ (HA.out _ _ h)).mono ?_); rintro e w1 ⟨rfl, hb1⟩; have hs1 := hb1.size; have hR := Below.at hb1 (alloc_new _) (by simp); have hz1 : w.heap.size < w1.heap.size := (by simp at hs1; omega); have HR1 := Lib.hid hR; have HB1 := Lib.hid hb1; clear hR hb1 hs1))
      | (go_at_call 77; ((with_reducible refine (HF2.out _ ?_).mono ?_); exact HA.out _ _ ((HA.out _ _ h).below HB1.out (by have := hlt.1; simp; omega) (by have := hlt.2; simp; omega)); rintro e w2 ⟨rfl, hR2, hO2⟩; have hN := hO2.at (alloc_new _) (by have := hlt; simp; omega); have hM := hO2.at (alloc_old HR1.out _) (by have := hlt; simp; omega); have f0 := fun j => cell_at hN j; have m0 := fun j => cell_at hM j; have g0 := fun j => frozen_at hM j; have hs2 := hO2.size; have HM := Lib.hid hM; clear hN hM)))
    refine bodyPost_ret (res_row_tmp rfl _ _ w.heap.size 30 _ (0, 0) _ rfl (stored4 HM.out) Try.underlying30 rfl (by kernel_rfl)) rfl ⟨rfl, ?_, ?_⟩
    · exact hR2.only (S := [w.heap.size]) (((((Only.refl _ _).setCell (by simp) _).setCell (by simp) _).setCell (by simp) _).setCell (by simp) _) (by have := hlt; simp; omega) (by have := hlt; simp; omega)
    · have h1 : Only [b, g] w w1 := Only.ofBelow (((Below.refl _ _).alloc (Nat.le_refl _) _).trans (HB1.out.mono (by simp))) _
      exact (((((h1.alloc _).trans hO2).setCell' (Nat.le_refl _) _).setCell' (Nat.le_refl _) _).setCell' (Nat.le_refl _) _).setCell' (Nat.le_refl _) _
end Go.Proofs.Ytajbfmdgnkpjgaa
