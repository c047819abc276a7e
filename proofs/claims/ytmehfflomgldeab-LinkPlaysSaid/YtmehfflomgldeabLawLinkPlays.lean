/- The walk of LinkPlays. -/
import Derived.Test.YtmehfflomgldeabRefLinkH
import Derived.Test.YtmehfflomgldeabScript13
import Derived.Test.YtmehfflomgldeabInC
import Derived.Deep.DeepCutAuto
import Derived.BigQuiet
namespace Go.Proofs.Ytmehfflomgldeab
set_option linter.unusedVariables false
open Go.RowKit
theorem RL.sel {w : World} {s : LS} {r : LA} {n : Nat} (h : RL w s r (List.range n)) (T : List Nat) (hT : ∀ x ∈ T, x < n ∨ w.heap.size ≤ x) : RL w s r T :=
  (h.offNew (T.filter (fun x => decide (w.heap.size ≤ x))) (fun x hx => by simpa using (List.mem_filter.1 hx).2)).weak (fun x hx => by
    rcases hT x hx with h1 | h1
    · exact List.mem_append_right _ (List.mem_range.2 h1)
    · exact List.mem_append_left _ (List.mem_filter.2 ⟨hx, by simpa using h1⟩))
/-- The blocks that were made between two worlds. -/
def fr (a b : World) : List Nat := List.range' a.heap.size (b.heap.size - a.heap.size)
theorem mem_fr {a b : World} {x : Nat} (h : a.heap.size ≤ b.heap.size) : x ∈ fr a b ↔ a.heap.size ≤ x ∧ x < b.heap.size := by unfold fr; rw [List.mem_range'_1]; omega
theorem RL.fresh {a b : World} {s : LS} {r : LA} {S : List Nat} (h : RL a s r S) (hb : Below a.heap.size a b) : RL b s r (fr a b ++ S) :=
  (h.offNew (fr a b) (fun x hx => ((mem_fr hb.size).1 hx).1)).below hb
theorem fr_lt {a b : World} {S : List Nat} (hb : Below a.heap.size a b) (hS : ∀ x ∈ S, x < a.heap.size) : ∀ x ∈ fr a b ++ S, x < b.heap.size := fun x hx => by
  have := hb.size
  rcases List.mem_append.1 hx with h | h
  · exact ((mem_fr hb.size).1 h).2
  · have := hS x h; omega
theorem RL.sel2 {a b c : World} {s : LS} {r : LA} {S : List Nat} (h : RL c s r (fr a b ++ S)) (hab : a.heap.size ≤ b.heap.size) (T : List Nat) (hT : ∀ x ∈ T, x ∈ S ∨ (a.heap.size ≤ x ∧ x < b.heap.size) ∨ c.heap.size ≤ x) : RL c s r T :=
  (h.offNew (T.filter (fun x => decide (c.heap.size ≤ x))) (fun x hx => by simpa using (List.mem_filter.1 hx).2)).weak (fun x hx => by
    rcases hT x hx with h1 | h1 | h1
    · exact List.mem_append_right _ (List.mem_append_right _ h1)
    · exact List.mem_append_right _ (List.mem_append_left _ ((mem_fr hab).2 h1))
    · exact List.mem_append_left _ (List.mem_filter.2 ⟨hx, by simpa using h1⟩))
theorem RL.fin {a b c c' : World} {s : LS} {r : LA} {S : List Nat} {n d : Nat} {V C : Array Value} (h : RL c s r (fr a b ++ S)) (hab : a.heap.size ≤ b.heap.size) (hc : Below c.heap.size c c')
    (hn : (a.heap.size ≤ n ∧ n < b.heap.size) ∨ c.heap.size ≤ n) (hd : (a.heap.size ≤ d ∧ d < b.heap.size) ∨ c.heap.size ≤ d) : RL ((c'.setRow n V).setRow d C) s r S :=
  ((h.sel2 hab (n :: d :: S) (fun x hx => by
    rcases List.mem_cons.1 hx with rfl | hx
    · exact .inr hn
    rcases List.mem_cons.1 hx with rfl | hx
    · exact .inr hd
    · exact .inl hx)).onlyT (T := [n, d]) (only_setRowN (only_setRowN (Only.ofBelow hc _) (.inl (by simp)) _) (.inl (by simp)) _) (fun x hx => by
      rcases List.mem_cons.1 hx with rfl | hx
      · exact List.mem_cons_self ..
      · rw [List.mem_singleton.1 hx]; exact List.mem_cons_of_mem _ (List.mem_cons_self ..))).weak (fun x hx => List.mem_cons_of_mem _ (List.mem_cons_of_mem _ hx))
theorem flyI_eq {s : LS} (h : s.Ok) (k : Int) : s.flyI k = s.fly k := by
  unfold LS.flyI
  split
  · rfl
  · rename_i hk
    rw [LS.is_iff] at hk
    symm
    unfold LS.fly
    rw [List.count_eq_zero]
    intro hm
    obtain ⟨c, hc, rfl⟩ := List.mem_map.1 hm
    exact hk (h.win c hc)
theorem comI_eq {s : LS} (h : s.Ok) (k : Int) : s.comI k = s.com k := by
  unfold LS.comI
  split
  · rfl
  · rename_i hk
    rw [LS.is_iff] at hk
    symm
    unfold LS.com
    rw [List.count_eq_zero]
    intro hm
    exact hk (h.bin k hm)
set_option maxRecDepth 100000 in
set_option maxHeartbeats 8000000 in
theorem linkPlays_walk (p q z : Int) (a : Option Addr) (c : Nat) (l : List O13) (w : World) (hl : l.length ≤ maxLen) (hc : l.length ≤ c) (hr : Script13 w a l) :
    Calls Try.prog 3 #[.agg #[.int .i64 p, .int .i64 q, .int .i64 z], .slice a l.length c] w fun e w' => e = .returned (.bool true) ∧ Below w.heap.size w w' := by
  have HE := Lib.hid (fun w => early13_calls a l.length c w hl hc)
  have hs := hr.take 150
  have hlt : (l.take 150).length = min l.length 150 := by rw [List.length_take]; omega
  rw [← hlt] at HE
  have hc2 : (l.take 150).length ≤ c := by omega
  have hl2 : (l.take 150).length ≤ 150 := by omega
  generalize l.take 150 = ls at *
  clear hr hlt
  unfold maxLen at hl
  have HV := Lib.hid lives13_calls
  have hN := fun w => link_new p q z w
  have hM := fun w => ref_new p q z w (List.range w.heap.size) (fun x hx => List.mem_range.1 hx)
  generalize LS.new (clampN p 8) (clampN q 64) (clampN z 64) = s0 at *
  have HN := Lib.hid hN
  have HM := Lib.hid hM
  have HS := Lib.hid hs
  clear hN hM hs
  go_enter Try.func3, Try.ntmps3
  go_upto_region 3 with (first
    | (go_at_call 15; ((with_reducible refine (HV.out _).mono ?_); rintro e w1 ⟨rfl, hb1⟩; have hF := Below.at hb1 (alloc_new _) (by simp); have f0 := cell_at hF 0; have f1 := cell_at hF 1; have f2 := cell_at hF 2; have hb1' : Below w.heap.size w w1 := (Below.trans ((Below.refl _ _).alloc (Nat.le_refl _) _) (hb1.mono (by simp))); have hlw := block_lt hF; have HF1 := Lib.hid hF; have H1 := Lib.hid hb1'; clear hF hb1 hb1')))
  go_cut [5, 6] (fun v5 v6 wx => ∃ b B g r, v5 = .pointer (some ⟨b, 0, none⟩) ∧ v6 = .pointer (some ⟨g, 0, none⟩) ∧ LinkAt wx b B s0 ∧ wx.heap[g]? = some (.cells #[.int .i64 (s0.lanes : Int), .int .i64 (s0.depth : Int), .int .i64 (s0.size : Int), .slice r.a1 s0.cr.length r.c1, .slice r.a2 s0.wd.length r.c2, .slice r.a3 s0.fa.length r.c3, .slice r.a4 s0.bk.length r.c4] 30 (0, 0)) ∧ RL wx s0 r (g :: B) ∧ (∀ k ∈ B, w1.heap.size ≤ k) ∧ w1.heap.size ≤ g ∧ g ∉ B ∧ Below w1.heap.size w1 wx)
  case first =>
    have HX : Hid (∀ w', Below w1.heap.size w1 w' → (w'.cell? ⟨w.heap.size, 0, none⟩ = some (.int .i64 p) ∧ w'.cell? ⟨w.heap.size, 1, none⟩ = some (.int .i64 q) ∧ w'.cell? ⟨w.heap.size, 2, none⟩ = some (.int .i64 z))) := fun w' hb => by
      have h := Below.at hb HF1.out hlw
      exact ⟨cell_at h 0, cell_at h 1, cell_at h 2⟩
    refine wp_region_held_drew (S := (fun w' => (w'.cell? ⟨w.heap.size, 0, none⟩ = some (.int .i64 p) ∧ w'.cell? ⟨w.heap.size, 1, none⟩ = some (.int .i64 q) ∧ w'.cell? ⟨w.heap.size, 2, none⟩ = some (.int .i64 z)))) (by kernel_rfl) ?_ (fun hHeld0 => ?_)
    · (try dsimp only); first | go_keep | exact HX.out _ hcur | exact HX.out _ (by repeat' (first | (with_reducible assumption) | (with_reducible refine below_setRowN ?_ ?_ _) | (with_reducible refine Below.setCell ?_ ?_ _) | (with_reducible refine below_drewN' ?_ _) | (with_reducible refine Below.drew ?_) | (with_reducible refine Below.alloc ?_ ?_ _) | (with_reducible exact Below.refl _ _) | (with_reducible exact Nat.le_refl _) | (simp; done) | omega | (simp; omega)))
    refine wpAnyH_take (i := 0) (v := ?_) rfl (by kernel_rfl) (by kernel_rfl) (by kernel_rfl) (fun _ _ _ h => h) (Or.inl ⟨by rfl, ?_⟩) (by assumption) ?_
    rotate_left
    · (intro w hSw; (try dsimp only at hSw); go_simp; try with_reducible rfl)
    (try simp only [Act.put, List.setIfInBounds_toArray, List.set_cons_zero, List.set_cons_succ, List.getElem_toArray, List.getElem_cons_zero, List.getElem_cons_succ])
    refine wpAnyH_take (i := 1) (v := ?_) rfl (by kernel_rfl) (by kernel_rfl) (by kernel_rfl) (fun _ _ _ h => h) (Or.inl ⟨by rfl, ?_⟩) (by assumption) ?_
    rotate_left
    · (intro w hSw; (try dsimp only at hSw); go_simp; try with_reducible rfl)
    (try simp only [Act.put, List.setIfInBounds_toArray, List.set_cons_zero, List.set_cons_succ, List.getElem_toArray, List.getElem_cons_zero, List.getElem_cons_succ])
    refine wpAnyH_take (i := 2) (v := ?_) rfl (by kernel_rfl) (by kernel_rfl) (by kernel_rfl) (fun _ _ _ h => h) (Or.inl ⟨by rfl, ?_⟩) (by assumption) ?_
    rotate_left
    · (intro w hSw; (try dsimp only at hSw); go_simp; try with_reducible rfl)
    (try simp only [Act.put, List.setIfInBounds_toArray, List.set_cons_zero, List.set_cons_succ, List.getElem_toArray, List.getElem_cons_zero, List.getElem_cons_succ])
    refine wpAnyH_take (i := 3) (v := ?_) rfl (by kernel_rfl) (by kernel_rfl) (by kernel_rfl) (fun _ _ _ h => h) (Or.inl ⟨by rfl, ?_⟩) (by assumption) ?_
    rotate_left
    · (intro w hSw; (try dsimp only at hSw); go_simp; try with_reducible rfl)
    (try simp only [Act.put, List.setIfInBounds_toArray, List.set_cons_zero, List.set_cons_succ, List.getElem_toArray, List.getElem_cons_zero, List.getElem_cons_succ])
    refine wpAnyH_take (i := 4) (v := ?_) rfl (by kernel_rfl) (by kernel_rfl) (by kernel_rfl) (fun _ _ _ h => h) (Or.inl ⟨by rfl, ?_⟩) (by assumption) ?_
    rotate_left
    · (intro w hSw; (try dsimp only at hSw); go_simp; try with_reducible rfl)
    (try simp only [Act.put, List.setIfInBounds_toArray, List.set_cons_zero, List.set_cons_succ, List.getElem_toArray, List.getElem_cons_zero, List.getElem_cons_succ])
    refine wpAnyH_take (i := 5) (v := ?_) rfl (by kernel_rfl) (by kernel_rfl) (by kernel_rfl) (fun _ _ _ h => h) (Or.inl ⟨by rfl, ?_⟩) (by assumption) ?_
    rotate_left
    · (intro w hSw; (try dsimp only at hSw); go_simp; try with_reducible rfl)
    (try simp only [Act.put, List.setIfInBounds_toArray, List.set_cons_zero, List.set_cons_succ, List.getElem_toArray, List.getElem_cons_zero, List.getElem_cons_succ])
    refine wpAnyH_take (i := 7) (v := ?_) rfl (by kernel_rfl) (by kernel_rfl) (by kernel_rfl) (fun _ _ _ h => h) (Or.inl ⟨by rfl, ?_⟩) (by assumption) ?_
    rotate_left
    · (intro w hSw; (try dsimp only at hSw); go_simp; try with_reducible rfl)
    (try simp only [Act.put, List.setIfInBounds_toArray, List.set_cons_zero, List.set_cons_succ, List.getElem_toArray, List.getElem_cons_zero, List.getElem_cons_succ])
    refine wpAnyH_take (i := 8) (v := ?_) rfl (by kernel_rfl) (by kernel_rfl) (by kernel_rfl) (fun _ _ _ h => h) (Or.inl ⟨by rfl, ?_⟩) (by assumption) ?_
    rotate_left
    · (intro w hSw; (try dsimp only at hSw); go_simp; try with_reducible rfl)
    (try simp only [Act.put, List.setIfInBounds_toArray, List.set_cons_zero, List.set_cons_succ, List.getElem_toArray, List.getElem_cons_zero, List.getElem_cons_succ])
    refine wpAnyH_take (i := 9) (v := ?_) rfl (by kernel_rfl) (by kernel_rfl) (by kernel_rfl) (fun _ _ _ h => h) (Or.inl ⟨by rfl, ?_⟩) (by assumption) ?_
    rotate_left
    · (intro w hSw; (try dsimp only at hSw); go_simp; try with_reducible rfl)
    (try simp only [Act.put, List.setIfInBounds_toArray, List.set_cons_zero, List.set_cons_succ, List.getElem_toArray, List.getElem_cons_zero, List.getElem_cons_succ])
    refine wpAnyH_take (i := 10) (v := ?_) rfl (by kernel_rfl) (by kernel_rfl) (by kernel_rfl) (fun _ _ _ h => h) (Or.inl ⟨by rfl, ?_⟩) (by assumption) ?_
    rotate_left
    · (intro w hSw; (try dsimp only at hSw); go_simp; try with_reducible rfl)
    (try simp only [Act.put, List.setIfInBounds_toArray, List.set_cons_zero, List.set_cons_succ, List.getElem_toArray, List.getElem_cons_zero, List.getElem_cons_succ])
    refine wpAnyH_take (i := 11) (v := ?_) rfl (by kernel_rfl) (by kernel_rfl) (by kernel_rfl) (fun _ _ _ h => h) (Or.inl ⟨by rfl, ?_⟩) (by assumption) ?_
    rotate_left
    · (intro w hSw; (try dsimp only at hSw); go_simp; try with_reducible rfl)
    (try simp only [Act.put, List.setIfInBounds_toArray, List.set_cons_zero, List.set_cons_succ, List.getElem_toArray, List.getElem_cons_zero, List.getElem_cons_succ])
    refine wpAnyH_take (i := 12) (v := ?_) rfl (by kernel_rfl) (by kernel_rfl) (by kernel_rfl) (fun _ _ _ h => h) (Or.inl ⟨by rfl, ?_⟩) (by assumption) ?_
    rotate_left
    · (intro w hSw; (try dsimp only at hSw); go_simp; try with_reducible rfl)
    (try simp only [Act.put, List.setIfInBounds_toArray, List.set_cons_zero, List.set_cons_succ, List.getElem_toArray, List.getElem_cons_zero, List.getElem_cons_succ])
    refine wpAnyH_ready (rs := [6, 14]) (by kernel_rfl) (by simp) ?_
    refine AllReadyH.cons rfl (fun K hK => ?_) ?_
    · (go_simp; go_at_call 16; (with_reducible refine (HN.out _).mono ?_); rintro e w2 ⟨b, B, rfl, hK, hB, hb2⟩; have hcur : Below w1.heap.size w1 w2 := (Below.trans (by repeat' (first | (with_reducible assumption) | (with_reducible refine below_setRowN ?_ ?_ _) | (with_reducible refine Below.setCell ?_ ?_ _) | (with_reducible refine below_drewN' ?_ _) | (with_reducible refine Below.drew ?_) | (with_reducible refine Below.alloc ?_ ?_ _) | (with_reducible exact Below.refl _ _) | (with_reducible exact Nat.le_refl _) | (simp; done) | omega | (simp; omega))) (hb2.mono (by first | (simp; done) | omega | (have := hcur.size; first | omega | (simp; omega))))); have hcs := hcur.size; have HK := Lib.hid hK; have HB := Lib.hid hB; (first | (have HT : Hid (w2.heap[w1.heap.size]? = some (.cells #[.int .i64 0, .int .i64 0, .int .i64 0, .slice none 0 0, .slice none 0 0, .slice none 0 0, .slice none 0 0] 30 (0, 0))) := Below.at hb2 HT.out (block_lt HT.out)) | (have HT : Hid (w2.heap[w1.heap.size]? = some (.cells #[.int .i64 0, .int .i64 0, .int .i64 0, .slice none 0 0, .slice none 0 0, .slice none 0 0, .slice none 0 0] 30 (0, 0))) := Below.at hb2 (alloc_new _) (by simp)) | (have HT : Hid (w2.heap[w3.heap.size]? = some (.cells #[.int .i64 0, .int .i64 0, .int .i64 0, .slice none 0 0, .slice none 0 0, .slice none 0 0, .slice none 0 0] 30 (0, 0))) := Below.at hb2 (alloc_new _) (by simp)) | skip); clear hK hB)
      refine hK.out _ _ ?_ (fun hHeld1 => ?_)
      · (try dsimp only); first | go_keep | exact HX.out _ hcur | exact HX.out _ (by repeat' (first | (with_reducible assumption) | (with_reducible refine below_setRowN ?_ ?_ _) | (with_reducible refine Below.setCell ?_ ?_ _) | (with_reducible refine below_drewN' ?_ _) | (with_reducible refine Below.drew ?_) | (with_reducible refine Below.alloc ?_ ?_ _) | (with_reducible exact Below.refl _ _) | (with_reducible exact Nat.le_refl _) | (simp; done) | omega | (simp; omega)))
      clear hK K hHeld0
      (try simp only [Act.put, List.setIfInBounds_toArray, List.set_cons_zero, List.set_cons_succ, List.getElem_toArray, List.getElem_cons_zero, List.getElem_cons_succ])
      refine wpAnyH_ready (rs := [13, 14]) (by kernel_rfl) (by simp) ?_
      refine AllReadyH.cons rfl (fun K hK => ?_) ?_
      · (go_simp; go_at_call 17; (with_reducible refine (HM.out _).mono ?_); rintro e w3 ⟨r, rfl, hR, hb3⟩; have hcur : Below w1.heap.size w1 w3 := (Below.trans (by repeat' (first | (with_reducible assumption) | (with_reducible refine below_setRowN ?_ ?_ _) | (with_reducible refine Below.setCell ?_ ?_ _) | (with_reducible refine below_drewN' ?_ _) | (with_reducible refine Below.drew ?_) | (with_reducible refine Below.alloc ?_ ?_ _) | (with_reducible exact Below.refl _ _) | (with_reducible exact Nat.le_refl _) | (simp; done) | omega | (simp; omega))) (hb3.mono (by first | (simp; done) | omega | (have := hcur.size; first | omega | (simp; omega))))); have hcs := hcur.size; have HR := Lib.hid hR; (first | (have HT : Hid (w3.heap[w1.heap.size]? = some (.cells #[.int .i64 0, .int .i64 0, .int .i64 0, .slice none 0 0, .slice none 0 0, .slice none 0 0, .slice none 0 0] 30 (0, 0))) := Below.at hb3 HT.out (block_lt HT.out)) | (have HT : Hid (w3.heap[w1.heap.size]? = some (.cells #[.int .i64 0, .int .i64 0, .int .i64 0, .slice none 0 0, .slice none 0 0, .slice none 0 0, .slice none 0 0] 30 (0, 0))) := Below.at hb3 (alloc_new _) (by simp)) | (have HT : Hid (w3.heap[w2.heap.size]? = some (.cells #[.int .i64 0, .int .i64 0, .int .i64 0, .slice none 0 0, .slice none 0 0, .slice none 0 0, .slice none 0 0] 30 (0, 0))) := Below.at hb3 (alloc_new _) (by simp)) | skip); clear hR)
        refine hK.out _ _ ?_ (fun hHeld2 => ?_)
        · (try dsimp only); first | go_keep | exact HX.out _ hcur | exact HX.out _ (by repeat' (first | (with_reducible assumption) | (with_reducible refine below_setRowN ?_ ?_ _) | (with_reducible refine Below.setCell ?_ ?_ _) | (with_reducible refine below_drewN' ?_ _) | (with_reducible refine Below.drew ?_) | (with_reducible refine Below.alloc ?_ ?_ _) | (with_reducible exact Below.refl _ _) | (with_reducible exact Nat.le_refl _) | (simp; done) | omega | (simp; omega)))
        clear hK K hHeld1
        (try simp only [Act.put, List.setIfInBounds_toArray, List.set_cons_zero, List.set_cons_succ, List.getElem_toArray, List.getElem_cons_zero, List.getElem_cons_succ])
        refine wpAnyH_ready (rs := [14]) (by kernel_rfl) (by simp) ?_
        refine AllReadyH.cons rfl (fun K hK => ?_) ?_
        · go_simp
          refine hK.out _ _ ?_ (fun hHeld3 => ?_)
          · (try dsimp only); first | go_keep | exact HX.out _ hcur | exact HX.out _ (by repeat' (first | (with_reducible assumption) | (with_reducible refine below_setRowN ?_ ?_ _) | (with_reducible refine Below.setCell ?_ ?_ _) | (with_reducible refine below_drewN' ?_ _) | (with_reducible refine Below.drew ?_) | (with_reducible refine Below.alloc ?_ ?_ _) | (with_reducible exact Below.refl _ _) | (with_reducible exact Nat.le_refl _) | (simp; done) | omega | (simp; omega)))
          clear hK K hHeld2
          (try simp only [Act.put, List.setIfInBounds_toArray, List.set_cons_zero, List.set_cons_succ, List.getElem_toArray, List.getElem_cons_zero, List.getElem_cons_succ])
          refine wpAnyH_take (i := 15) (v := ?_) rfl (by kernel_rfl) (by kernel_rfl) (by kernel_rfl) (fun _ _ _ h => h) (Or.inl ⟨by rfl, ?_⟩) (by assumption) ?_
          rotate_left
          · (intro w hSw; (try dsimp only at hSw); go_simp; try with_reducible rfl)
          (try simp only [Act.put, List.setIfInBounds_toArray, List.set_cons_zero, List.set_cons_succ, List.getElem_toArray, List.getElem_cons_zero, List.getElem_cons_succ])
          refine wpAnyH_ready (rs := [16]) (by kernel_rfl) (by simp) ?_
          refine AllReadyH.cons rfl (fun K hK => ?_) ?_
          · (rw [if_pos (by rfl)]; refine wp_store_row 30 _ _ (by rfl) _ _ (by rfl) (by rfl) 30 #[.int .i64 0, .int .i64 0, .int .i64 0, .slice none 0 0, .slice none 0 0, .slice none 0 0, .slice none 0 0] (by first | (with_reducible exact HT.out) | (with_reducible exact alloc_new _)) (by kernel_rfl) (by rfl) (by first | (simp; done) | simp [Value.oneCell']) ?_)
            refine hK.out _ _ ?_ (fun hHeld4 => ?_)
            · (try dsimp only); first | go_keep | exact HX.out _ hcur | exact HX.out _ (by repeat' (first | (with_reducible assumption) | (with_reducible refine below_setRowN ?_ ?_ _) | (with_reducible refine Below.setCell ?_ ?_ _) | (with_reducible refine below_drewN' ?_ _) | (with_reducible refine Below.drew ?_) | (with_reducible refine Below.alloc ?_ ?_ _) | (with_reducible exact Below.refl _ _) | (with_reducible exact Nat.le_refl _) | (simp; done) | omega | (simp; omega)))
            clear hK K hHeld3
            (try simp only [Act.put, List.setIfInBounds_toArray, List.set_cons_zero, List.set_cons_succ, List.getElem_toArray, List.getElem_cons_zero, List.getElem_cons_succ])
            refine wpAnyH_done (by kernel_rfl) ?_ _
            go_wp2
            go_meet
            have hK := HK.out; have hB := HB.out; have hR := HR.out; have hlB := hK.lt
            have e2 := hb2.size; have e3 := hb3.size
            simp at e2 e3 hB
            refine ⟨b, B, _, r, rfl, rfl, ?_, by first | (with_reducible exact setRow_at (alloc_new _) _) | (with_reducible exact setRow_at HT.out _), ?_, fun k hk => (by have := hB k hk; omega), by omega, fun hm => (by have h1 := hB _ hm; have h2 := hlB _ hm; omega), by repeat' (first | (with_reducible assumption) | (with_reducible refine below_setRowN ?_ ?_ _) | (with_reducible refine Below.setCell ?_ ?_ _) | (with_reducible refine below_drewN' ?_ _) | (with_reducible refine Below.drew ?_) | (with_reducible refine Below.alloc ?_ ?_ _) | (with_reducible exact Below.refl _ _) | (with_reducible exact Nat.le_refl _) | (simp; done) | omega | (simp; omega))⟩
            · exact hK.only (S := [_]) (by repeat' (first | (with_reducible exact Only.refl _ _) | (with_reducible refine only_setRowN ?_ (.inl (List.mem_singleton.2 rfl)) _) | (with_reducible refine Only.alloc ?_ _) | (with_reducible refine Only.trans ?_ (Only.ofBelow hb3 _)))) (fun k hk => by have h1 := hB k hk; have h2 := hlB k hk; rw [List.mem_singleton]; omega)
            · refine (hR.sel (_ :: B) (fun x hx => ?_)).onlyT (T := [_]) (by repeat' (first | (with_reducible exact Only.refl _ _) | (with_reducible refine only_setRowN ?_ (.inl (List.mem_singleton.2 rfl)) _) | (with_reducible refine Only.alloc ?_ _))) (by simp)
              rcases List.mem_cons.1 hx with rfl | hx
              · first | (simp; done) | omega | (simp; omega)
              · have h2 := hlB x hx; first | omega | (simp; omega)
          exact AllReadyH.nil
        exact AllReadyH.nil
      refine AllReadyH.cons rfl (fun K hK => ?_) ?_
      · go_simp
        refine hK.out _ _ ?_ (fun hHeld2 => ?_)
        · (try dsimp only); first | go_keep | exact HX.out _ hcur | exact HX.out _ (by repeat' (first | (with_reducible assumption) | (with_reducible refine below_setRowN ?_ ?_ _) | (with_reducible refine Below.setCell ?_ ?_ _) | (with_reducible refine below_drewN' ?_ _) | (with_reducible refine Below.drew ?_) | (with_reducible refine Below.alloc ?_ ?_ _) | (with_reducible exact Below.refl _ _) | (with_reducible exact Nat.le_refl _) | (simp; done) | omega | (simp; omega)))
        clear hK K hHeld1
        (try simp only [Act.put, List.setIfInBounds_toArray, List.set_cons_zero, List.set_cons_succ, List.getElem_toArray, List.getElem_cons_zero, List.getElem_cons_succ])
        refine wpAnyH_ready (rs := [13]) (by kernel_rfl) (by simp) ?_
        refine AllReadyH.cons rfl (fun K hK => ?_) ?_
        · (go_simp; go_at_call 17; (with_reducible refine (HM.out _).mono ?_); rintro e w3 ⟨r, rfl, hR, hb3⟩; have hcur : Below w1.heap.size w1 w3 := (Below.trans (by repeat' (first | (with_reducible assumption) | (with_reducible refine below_setRowN ?_ ?_ _) | (with_reducible refine Below.setCell ?_ ?_ _) | (with_reducible refine below_drewN' ?_ _) | (with_reducible refine Below.drew ?_) | (with_reducible refine Below.alloc ?_ ?_ _) | (with_reducible exact Below.refl _ _) | (with_reducible exact Nat.le_refl _) | (simp; done) | omega | (simp; omega))) (hb3.mono (by first | (simp; done) | omega | (have := hcur.size; first | omega | (simp; omega))))); have hcs := hcur.size; have HR := Lib.hid hR; (first | (have HT : Hid (w3.heap[w1.heap.size]? = some (.cells #[.int .i64 0, .int .i64 0, .int .i64 0, .slice none 0 0, .slice none 0 0, .slice none 0 0, .slice none 0 0] 30 (0, 0))) := Below.at hb3 HT.out (block_lt HT.out)) | (have HT : Hid (w3.heap[w1.heap.size]? = some (.cells #[.int .i64 0, .int .i64 0, .int .i64 0, .slice none 0 0, .slice none 0 0, .slice none 0 0, .slice none 0 0] 30 (0, 0))) := Below.at hb3 (alloc_new _) (by simp)) | (have HT : Hid (w3.heap[w2.heap.size]? = some (.cells #[.int .i64 0, .int .i64 0, .int .i64 0, .slice none 0 0, .slice none 0 0, .slice none 0 0, .slice none 0 0] 30 (0, 0))) := Below.at hb3 (alloc_new _) (by simp)) | skip); clear hR)
          refine hK.out _ _ ?_ (fun hHeld3 => ?_)
          · (try dsimp only); first | go_keep | exact HX.out _ hcur | exact HX.out _ (by repeat' (first | (with_reducible assumption) | (with_reducible refine below_setRowN ?_ ?_ _) | (with_reducible refine Below.setCell ?_ ?_ _) | (with_reducible refine below_drewN' ?_ _) | (with_reducible refine Below.drew ?_) | (with_reducible refine Below.alloc ?_ ?_ _) | (with_reducible exact Below.refl _ _) | (with_reducible exact Nat.le_refl _) | (simp; done) | omega | (simp; omega)))
          clear hK K hHeld2
          (try simp only [Act.put, List.setIfInBounds_toArray, List.set_cons_zero, List.set_cons_succ, List.getElem_toArray, List.getElem_cons_zero, List.getElem_cons_succ])
          refine wpAnyH_take (i := 15) (v := ?_) rfl (by kernel_rfl) (by kernel_rfl) (by kernel_rfl) (fun _ _ _ h => h) (Or.inl ⟨by rfl, ?_⟩) (by assumption) ?_
          rotate_left
          · (intro w hSw; (try dsimp only at hSw); go_simp; try with_reducible rfl)
          (try simp only [Act.put, List.setIfInBounds_toArray, List.set_cons_zero, List.set_cons_succ, List.getElem_toArray, List.getElem_cons_zero, List.getElem_cons_succ])
          refine wpAnyH_ready (rs := [16]) (by kernel_rfl) (by simp) ?_
          refine AllReadyH.cons rfl (fun K hK => ?_) ?_
          · (rw [if_pos (by rfl)]; refine wp_store_row 30 _ _ (by rfl) _ _ (by rfl) (by rfl) 30 #[.int .i64 0, .int .i64 0, .int .i64 0, .slice none 0 0, .slice none 0 0, .slice none 0 0, .slice none 0 0] (by first | (with_reducible exact HT.out) | (with_reducible exact alloc_new _)) (by kernel_rfl) (by rfl) (by first | (simp; done) | simp [Value.oneCell']) ?_)
            refine hK.out _ _ ?_ (fun hHeld4 => ?_)
            · (try dsimp only); first | go_keep | exact HX.out _ hcur | exact HX.out _ (by repeat' (first | (with_reducible assumption) | (with_reducible refine below_setRowN ?_ ?_ _) | (with_reducible refine Below.setCell ?_ ?_ _) | (with_reducible refine below_drewN' ?_ _) | (with_reducible refine Below.drew ?_) | (with_reducible refine Below.alloc ?_ ?_ _) | (with_reducible exact Below.refl _ _) | (with_reducible exact Nat.le_refl _) | (simp; done) | omega | (simp; omega)))
            clear hK K hHeld3
            (try simp only [Act.put, List.setIfInBounds_toArray, List.set_cons_zero, List.set_cons_succ, List.getElem_toArray, List.getElem_cons_zero, List.getElem_cons_succ])
            refine wpAnyH_done (by kernel_rfl) ?_ _
            go_wp2
            go_meet
            have hK := HK.out; have hB := HB.out; have hR := HR.out; have hlB := hK.lt
            have e2 := hb2.size; have e3 := hb3.size
            simp at e2 e3 hB
            refine ⟨b, B, _, r, rfl, rfl, ?_, by first | (with_reducible exact setRow_at (alloc_new _) _) | (with_reducible exact setRow_at HT.out _), ?_, fun k hk => (by have := hB k hk; omega), by omega, fun hm => (by have h1 := hB _ hm; have h2 := hlB _ hm; omega), by repeat' (first | (with_reducible assumption) | (with_reducible refine below_setRowN ?_ ?_ _) | (with_reducible refine Below.setCell ?_ ?_ _) | (with_reducible refine below_drewN' ?_ _) | (with_reducible refine Below.drew ?_) | (with_reducible refine Below.alloc ?_ ?_ _) | (with_reducible exact Below.refl _ _) | (with_reducible exact Nat.le_refl _) | (simp; done) | omega | (simp; omega))⟩
            · exact hK.only (S := [_]) (by repeat' (first | (with_reducible exact Only.refl _ _) | (with_reducible refine only_setRowN ?_ (.inl (List.mem_singleton.2 rfl)) _) | (with_reducible refine Only.alloc ?_ _) | (with_reducible refine Only.trans ?_ (Only.ofBelow hb3 _)))) (fun k hk => by have h1 := hB k hk; have h2 := hlB k hk; rw [List.mem_singleton]; omega)
            · refine (hR.sel (_ :: B) (fun x hx => ?_)).onlyT (T := [_]) (by repeat' (first | (with_reducible exact Only.refl _ _) | (with_reducible refine only_setRowN ?_ (.inl (List.mem_singleton.2 rfl)) _) | (with_reducible refine Only.alloc ?_ _))) (by simp)
              rcases List.mem_cons.1 hx with rfl | hx
              · first | (simp; done) | omega | (simp; omega)
              · have h2 := hlB x hx; first | omega | (simp; omega)
          exact AllReadyH.nil
        exact AllReadyH.nil
      exact AllReadyH.nil
    refine AllReadyH.cons rfl (fun K hK => ?_) ?_
    · go_simp
      refine hK.out _ _ ?_ (fun hHeld1 => ?_)
      · (try dsimp only); first | go_keep | exact HX.out _ hcur | exact HX.out _ (by repeat' (first | (with_reducible assumption) | (with_reducible refine below_setRowN ?_ ?_ _) | (with_reducible refine Below.setCell ?_ ?_ _) | (with_reducible refine below_drewN' ?_ _) | (with_reducible refine Below.drew ?_) | (with_reducible refine Below.alloc ?_ ?_ _) | (with_reducible exact Below.refl _ _) | (with_reducible exact Nat.le_refl _) | (simp; done) | omega | (simp; omega)))
      clear hK K hHeld0
      (try simp only [Act.put, List.setIfInBounds_toArray, List.set_cons_zero, List.set_cons_succ, List.getElem_toArray, List.getElem_cons_zero, List.getElem_cons_succ])
      refine wpAnyH_ready (rs := [6]) (by kernel_rfl) (by simp) ?_
      refine AllReadyH.cons rfl (fun K hK => ?_) ?_
      · (go_simp; go_at_call 16; (with_reducible refine (HN.out _).mono ?_); rintro e w2 ⟨b, B, rfl, hK, hB, hb2⟩; have hcur : Below w1.heap.size w1 w2 := (Below.trans (by repeat' (first | (with_reducible assumption) | (with_reducible refine below_setRowN ?_ ?_ _) | (with_reducible refine Below.setCell ?_ ?_ _) | (with_reducible refine below_drewN' ?_ _) | (with_reducible refine Below.drew ?_) | (with_reducible refine Below.alloc ?_ ?_ _) | (with_reducible exact Below.refl _ _) | (with_reducible exact Nat.le_refl _) | (simp; done) | omega | (simp; omega))) (hb2.mono (by first | (simp; done) | omega | (have := hcur.size; first | omega | (simp; omega))))); have hcs := hcur.size; have HK := Lib.hid hK; have HB := Lib.hid hB; (first | (have HT : Hid (w2.heap[w1.heap.size]? = some (.cells #[.int .i64 0, .int .i64 0, .int .i64 0, .slice none 0 0, .slice none 0 0, .slice none 0 0, .slice none 0 0] 30 (0, 0))) := Below.at hb2 HT.out (block_lt HT.out)) | (have HT : Hid (w2.heap[w1.heap.size]? = some (.cells #[.int .i64 0, .int .i64 0, .int .i64 0, .slice none 0 0, .slice none 0 0, .slice none 0 0, .slice none 0 0] 30 (0, 0))) := Below.at hb2 (alloc_new _) (by simp)) | (have HT : Hid (w2.heap[w3.heap.size]? = some (.cells #[.int .i64 0, .int .i64 0, .int .i64 0, .slice none 0 0, .slice none 0 0, .slice none 0 0, .slice none 0 0] 30 (0, 0))) := Below.at hb2 (alloc_new _) (by simp)) | skip); clear hK hB)
        refine hK.out _ _ ?_ (fun hHeld2 => ?_)
        · (try dsimp only); first | go_keep | exact HX.out _ hcur | exact HX.out _ (by repeat' (first | (with_reducible assumption) | (with_reducible refine below_setRowN ?_ ?_ _) | (with_reducible refine Below.setCell ?_ ?_ _) | (with_reducible refine below_drewN' ?_ _) | (with_reducible refine Below.drew ?_) | (with_reducible refine Below.alloc ?_ ?_ _) | (with_reducible exact Below.refl _ _) | (with_reducible exact Nat.le_refl _) | (simp; done) | omega | (simp; omega)))
        clear hK K hHeld1
        (try simp only [Act.put, List.setIfInBounds_toArray, List.set_cons_zero, List.set_cons_succ, List.getElem_toArray, List.getElem_cons_zero, List.getElem_cons_succ])
        refine wpAnyH_ready (rs := [13]) (by kernel_rfl) (by simp) ?_
        refine AllReadyH.cons rfl (fun K hK => ?_) ?_
        · (go_simp; go_at_call 17; (with_reducible refine (HM.out _).mono ?_); rintro e w3 ⟨r, rfl, hR, hb3⟩; have hcur : Below w1.heap.size w1 w3 := (Below.trans (by repeat' (first | (with_reducible assumption) | (with_reducible refine below_setRowN ?_ ?_ _) | (with_reducible refine Below.setCell ?_ ?_ _) | (with_reducible refine below_drewN' ?_ _) | (with_reducible refine Below.drew ?_) | (with_reducible refine Below.alloc ?_ ?_ _) | (with_reducible exact Below.refl _ _) | (with_reducible exact Nat.le_refl _) | (simp; done) | omega | (simp; omega))) (hb3.mono (by first | (simp; done) | omega | (have := hcur.size; first | omega | (simp; omega))))); have hcs := hcur.size; have HR := Lib.hid hR; (first | (have HT : Hid (w3.heap[w1.heap.size]? = some (.cells #[.int .i64 0, .int .i64 0, .int .i64 0, .slice none 0 0, .slice none 0 0, .slice none 0 0, .slice none 0 0] 30 (0, 0))) := Below.at hb3 HT.out (block_lt HT.out)) | (have HT : Hid (w3.heap[w1.heap.size]? = some (.cells #[.int .i64 0, .int .i64 0, .int .i64 0, .slice none 0 0, .slice none 0 0, .slice none 0 0, .slice none 0 0] 30 (0, 0))) := Below.at hb3 (alloc_new _) (by simp)) | (have HT : Hid (w3.heap[w2.heap.size]? = some (.cells #[.int .i64 0, .int .i64 0, .int .i64 0, .slice none 0 0, .slice none 0 0, .slice none 0 0, .slice none 0 0] 30 (0, 0))) := Below.at hb3 (alloc_new _) (by simp)) | skip); clear hR)
          refine hK.out _ _ ?_ (fun hHeld3 => ?_)
          · (try dsimp only); first | go_keep | exact HX.out _ hcur | exact HX.out _ (by repeat' (first | (with_reducible assumption) | (with_reducible refine below_setRowN ?_ ?_ _) | (with_reducible refine Below.setCell ?_ ?_ _) | (with_reducible refine below_drewN' ?_ _) | (with_reducible refine Below.drew ?_) | (with_reducible refine Below.alloc ?_ ?_ _) | (with_reducible exact Below.refl _ _) | (with_reducible exact Nat.le_refl _) | (simp; done) | omega | (simp; omega)))
          clear hK K hHeld2
          (try simp only [Act.put, List.setIfInBounds_toArray, List.set_cons_zero, List.set_cons_succ, List.getElem_toArray, List.getElem_cons_zero, List.getElem_cons_succ])
          refine wpAnyH_take (i := 15) (v := ?_) rfl (by kernel_rfl) (by kernel_rfl) (by kernel_rfl) (fun _ _ _ h => h) (Or.inl ⟨by rfl, ?_⟩) (by assumption) ?_
          rotate_left
          · (intro w hSw; (try dsimp only at hSw); go_simp; try with_reducible rfl)
          (try simp only [Act.put, List.setIfInBounds_toArray, List.set_cons_zero, List.set_cons_succ, List.getElem_toArray, List.getElem_cons_zero, List.getElem_cons_succ])
          refine wpAnyH_ready (rs := [16]) (by kernel_rfl) (by simp) ?_
          refine AllReadyH.cons rfl (fun K hK => ?_) ?_
          · (rw [if_pos (by rfl)]; refine wp_store_row 30 _ _ (by rfl) _ _ (by rfl) (by rfl) 30 #[.int .i64 0, .int .i64 0, .int .i64 0, .slice none 0 0, .slice none 0 0, .slice none 0 0, .slice none 0 0] (by first | (with_reducible exact HT.out) | (with_reducible exact alloc_new _)) (by kernel_rfl) (by rfl) (by first | (simp; done) | simp [Value.oneCell']) ?_)
            refine hK.out _ _ ?_ (fun hHeld4 => ?_)
            · (try dsimp only); first | go_keep | exact HX.out _ hcur | exact HX.out _ (by repeat' (first | (with_reducible assumption) | (with_reducible refine below_setRowN ?_ ?_ _) | (with_reducible refine Below.setCell ?_ ?_ _) | (with_reducible refine below_drewN' ?_ _) | (with_reducible refine Below.drew ?_) | (with_reducible refine Below.alloc ?_ ?_ _) | (with_reducible exact Below.refl _ _) | (with_reducible exact Nat.le_refl _) | (simp; done) | omega | (simp; omega)))
            clear hK K hHeld3
            (try simp only [Act.put, List.setIfInBounds_toArray, List.set_cons_zero, List.set_cons_succ, List.getElem_toArray, List.getElem_cons_zero, List.getElem_cons_succ])
            refine wpAnyH_done (by kernel_rfl) ?_ _
            go_wp2
            go_meet
            have hK := HK.out; have hB := HB.out; have hR := HR.out; have hlB := hK.lt
            have e2 := hb2.size; have e3 := hb3.size
            simp at e2 e3 hB
            refine ⟨b, B, _, r, rfl, rfl, ?_, by first | (with_reducible exact setRow_at (alloc_new _) _) | (with_reducible exact setRow_at HT.out _), ?_, fun k hk => (by have := hB k hk; omega), by omega, fun hm => (by have h1 := hB _ hm; have h2 := hlB _ hm; omega), by repeat' (first | (with_reducible assumption) | (with_reducible refine below_setRowN ?_ ?_ _) | (with_reducible refine Below.setCell ?_ ?_ _) | (with_reducible refine below_drewN' ?_ _) | (with_reducible refine Below.drew ?_) | (with_reducible refine Below.alloc ?_ ?_ _) | (with_reducible exact Below.refl _ _) | (with_reducible exact Nat.le_refl _) | (simp; done) | omega | (simp; omega))⟩
            · exact hK.only (S := [_]) (by repeat' (first | (with_reducible exact Only.refl _ _) | (with_reducible refine only_setRowN ?_ (.inl (List.mem_singleton.2 rfl)) _) | (with_reducible refine Only.alloc ?_ _) | (with_reducible refine Only.trans ?_ (Only.ofBelow hb3 _)))) (fun k hk => by have h1 := hB k hk; have h2 := hlB k hk; rw [List.mem_singleton]; omega)
            · refine (hR.sel (_ :: B) (fun x hx => ?_)).onlyT (T := [_]) (by repeat' (first | (with_reducible exact Only.refl _ _) | (with_reducible refine only_setRowN ?_ (.inl (List.mem_singleton.2 rfl)) _) | (with_reducible refine Only.alloc ?_ _))) (by simp)
              rcases List.mem_cons.1 hx with rfl | hx
              · first | (simp; done) | omega | (simp; omega)
              · have h2 := hlB x hx; first | omega | (simp; omega)
          exact AllReadyH.nil
        exact AllReadyH.nil
      exact AllReadyH.nil
    exact AllReadyH.nil
  case rest =>
    obtain ⟨b, B, g, r, rfl, rfl, hK, hG, hR, hB, hg, hgB, hb⟩ := hcut
    have HB1 := Lib.hid (H1.out.trans (hb.mono H1.out.size))
    have hw1 := H1.out.size
    have hBw : ∀ k ∈ B, w.heap.size ≤ k := fun k hk => Nat.le_trans hw1 (hB k hk)
    have hgw : w.heap.size ≤ g := Nat.le_trans hw1 hg
    have HBw := Lib.hid hBw
    have HgB := Lib.hid hgB
    have HK0 := Lib.hid hK
    have HG0 := Lib.hid hG
    have HR0 := Lib.hid hR
    have hlsI : ((ls.length : Nat) : Int) ≤ 150 := by omega
    clear hK hG hR hB hgB hb hBw hw1 HF1 H1 HN HM hg f0 f1 f2
    go_wp2_with (first | (go_at_call 18; ((with_reducible refine (HE.out _).mono ?_); rintro e w' ⟨rfl, k, rfl⟩)))
    go_loopw [7] (fun i wr => ∃ (m : Nat) (s : LS) (r : LA), m ≤ ls.length ∧ i = .int .i64 (m : Int) ∧ LinkAt wr b B s ∧ wr.heap[g]? = some (.cells #[.int .i64 (s.lanes : Int), .int .i64 (s.depth : Int), .int .i64 (s.size : Int), .slice r.a1 s.cr.length r.c1, .slice r.a2 s.wd.length r.c2, .slice r.a3 s.fa.length r.c3, .slice r.a4 s.bk.length r.c4] 30 (0, 0)) ∧ RL wr s r (g :: B) ∧ Below w.heap.size w wr) (fun i _ => ls.length - (intOf i).toNat)
    case atStart => exact ⟨0, s0, r, by omega, rfl, HK0.out.drewN _, drewN_at HG0.out _, HR0.out.below (below_drewN' (Below.refl _ _) _), below_drewN' HB1.out _⟩
    case round =>
      clear HK0 HG0 HR0 HB1
      obtain ⟨m, s, r, hm, rfl, hK, hG, hR, hbw⟩ := hrel
      obtain ⟨wo, rfl⟩ : ∃ wo : World, wo = wr := ⟨_, rfl⟩
      by_cases hlm : m < ls.length
      · obtain ⟨blk, off, o, -, rfl, q0, q1, q2⟩ := HS.out m hlm
        obtain ⟨ok, ol, ox⟩ := o
        dsimp only at q0 q1 q2
        have hblk : blk < w.heap.size := World.block_lt_of_cell? w _ q0
        have c0 := (hbw.cell (World.block_lt_of_cell? w _ q0)).trans q0
        have c1 := (hbw.cell (World.block_lt_of_cell? w _ q1)).trans q1
        have c2 := (hbw.cell (World.block_lt_of_cell? w _ q2)).trans q2
        have F1 := fun w h => step_calls ok ol ox w b B s h
        have FR := fun w S h hS => stepRef_calls ok ol ox w s r S h hS
        generalize stepS s ok ol ox = st at *
        obtain ⟨s2, ⟨e1, e2⟩, e3⟩ := st
        dsimp only at F1 FR
        have hlmI : (m : Int) < (ls.length : Int) := by omega
        have F1 := Lib.hid F1
        have FR := Lib.hid FR
        have HK := Lib.hid hK
        have HG := Lib.hid hG
        have HR := Lib.hid hR
        have HBW := Lib.hid hbw
        have HQ := Lib.hid (And.intro q0 (And.intro q1 q2))
        clear hK hG hR hbw q0 q1 q2
        go_upto_region 9 with (first
          | (go_at_call 19; ((with_reducible refine (F1.out _ HK.out).mono ?_); rintro e w3 ⟨rfl, hK3, hO3⟩; have HK3 := Lib.hid hK3; have HO3 := Lib.hid hO3; clear hK3 hO3)))
        have hA := alloc_new (w := w3) (.cells #[.int .i64 e1, .int .u64 e2] 35)
        have hK4 : LinkAt (w3.alloc (.cells #[.int .i64 e1, .int .u64 e2] 35)) b B s2 := HK3.out.alloc _
        have hB3 : Below w.heap.size w w3 := HBW.out.trans (HO3.out.below HBw.out HBW.out.size)
        have hb4 : Below w.heap.size w (w3.alloc (.cells #[.int .i64 e1, .int .u64 e2] 35)) := hB3.alloc hB3.size _
        have hG4 : (w3.alloc (.cells #[.int .i64 e1, .int .u64 e2] 35)).heap[g]? = some (.cells #[.int .i64 (s.lanes : Int), .int .i64 (s.depth : Int), .int .i64 (s.size : Int), .slice r.a1 s.cr.length r.c1, .slice r.a2 s.wd.length r.c2, .slice r.a3 s.fa.length r.c3, .slice r.a4 s.bk.length r.c4] 30 (0, 0)) := alloc_old (HO3.out.at HG.out HgB.out) _
        have hR4 : RL (w3.alloc (.cells #[.int .i64 e1, .int .u64 e2] 35)) s r (g :: B) := (HR.out.onlyT HO3.out (fun x hx => List.mem_cons_of_mem _ hx)).below ((Below.refl _ _).alloc (Nat.le_refl _) _)
        have hS4 : ∀ x ∈ g :: B, x < (w3.alloc (.cells #[.int .i64 e1, .int .u64 e2] 35)).heap.size := fun x hx => by
          rcases List.mem_cons.1 hx with rfl | hx
          · exact block_lt hG4
          · exact hK4.lt x hx
        clear c0 c1 c2
        generalize (w3.alloc (.cells #[.int .i64 e1, .int .u64 e2] 35)) = w4 at *
        have hn3 : w3.heap.size < w4.heap.size := block_lt hA
        have HX : Hid (∀ w', Below w4.heap.size w4 w' → ((∀ j, w'.cell? ⟨g, j, none⟩ = (#[.int .i64 (s.lanes : Int), .int .i64 (s.depth : Int), .int .i64 (s.size : Int), .slice r.a1 s.cr.length r.c1, .slice r.a2 s.wd.length r.c2, .slice r.a3 s.fa.length r.c3, .slice r.a4 s.bk.length r.c4] : Array Value)[j]?) ∧ w'.cell? ⟨blk, off + m * 3, none⟩ = some (.int .i64 ok) ∧ w'.cell? ⟨blk, off + m * 3 + 1, none⟩ = some (.int .i64 ol) ∧ w'.cell? ⟨blk, off + m * 3 + 2, none⟩ = some (.int .u64 ox))) := fun w' h => by
          have h2 : Below w.heap.size w w' := hb4.trans (h.mono hb4.size)
          exact ⟨fun j => cell_at (Below.at h hG4 (block_lt hG4)) j, (h2.cell (p := ⟨blk, _, none⟩) hblk).trans HQ.out.1, (h2.cell (p := ⟨blk, _, none⟩) hblk).trans HQ.out.2.1, (h2.cell (p := ⟨blk, _, none⟩) hblk).trans HQ.out.2.2⟩
        have HA := Lib.hid hA
        have HK4 := Lib.hid hK4
        have HB4 := Lib.hid hb4
        have HG4 := Lib.hid hG4
        have HR4 := Lib.hid hR4
        have HS4 := Lib.hid hS4
        have hg4 := block_lt hG4
        clear hA hK4 hB3 hb4 hG4 hR4 hS4 HK HG HR HBW HK3 HO3 F1
        go_cut [10, 11, 12] (fun v10 v11 v12 wx => ∃ (n d : Nat) (r2 : LA), v10 = .pointer (some ⟨n, 0, none⟩) ∧ v11 = .pointer (some ⟨d, 0, none⟩) ∧ v12 = .int .i64 e3 ∧ wx.heap[n]? = some (.cells #[.int .i64 (s2.lanes : Int), .int .i64 (s2.depth : Int), .int .i64 (s2.size : Int), .slice r2.a1 s2.cr.length r2.c1, .slice r2.a2 s2.wd.length r2.c2, .slice r2.a3 s2.fa.length r2.c3, .slice r2.a4 s2.bk.length r2.c4] 30 (0, 0)) ∧ wx.heap[d]? = some (.cells #[.int .i64 e1, .int .u64 e2] 35 (0, 0)) ∧ RL wx s2 r2 (g :: B) ∧ w4.heap.size ≤ n ∧ w4.heap.size ≤ d ∧ Below w4.heap.size w4 wx)
        case first =>
          refine wp_region_held_drew (S := (fun w' => ((∀ j, w'.cell? ⟨g, j, none⟩ = (#[.int .i64 (s.lanes : Int), .int .i64 (s.depth : Int), .int .i64 (s.size : Int), .slice r.a1 s.cr.length r.c1, .slice r.a2 s.wd.length r.c2, .slice r.a3 s.fa.length r.c3, .slice r.a4 s.bk.length r.c4] : Array Value)[j]?) ∧ w'.cell? ⟨blk, off + m * 3, none⟩ = some (.int .i64 ok) ∧ w'.cell? ⟨blk, off + m * 3 + 1, none⟩ = some (.int .i64 ol) ∧ w'.cell? ⟨blk, off + m * 3 + 2, none⟩ = some (.int .u64 ox)))) (by kernel_rfl) ?_ (fun hHeld0 => ?_)
          · (try dsimp only); exact HX.out _ (by repeat' (first | (with_reducible assumption) | (with_reducible refine below_setRowN ?_ ?_ _) | (with_reducible refine Below.setCell ?_ ?_ _) | (with_reducible refine below_drewN' ?_ _) | (with_reducible refine Below.drew ?_) | (with_reducible refine Below.alloc ?_ ?_ _) | (with_reducible exact Below.refl _ _) | (with_reducible exact Nat.le_refl _) | (simp; done) | omega | (simp; omega)))
          refine wpAnyH_take (i := 0) (v := ?_) rfl (by kernel_rfl) (by kernel_rfl) (by kernel_rfl) (fun _ _ _ h => h) (Or.inl ⟨by rfl, ?_⟩) (by assumption) ?_
          rotate_left
          · (intro w hSw; (try dsimp only at hSw); go_simp; try with_reducible rfl)
          (try simp only [Act.put, List.setIfInBounds_toArray, List.set_cons_zero, List.set_cons_succ, List.getElem_toArray, List.getElem_cons_zero, List.getElem_cons_succ])
          refine wpAnyH_take (i := 1) (v := ?_) rfl (by kernel_rfl) (by kernel_rfl) (by kernel_rfl) (fun _ _ _ h => h) (Or.inl ⟨by rfl, ?_⟩) (by assumption) ?_
          rotate_left
          · (intro w hSw; (try dsimp only at hSw); go_simp; try with_reducible rfl)
          (try simp only [Act.put, List.setIfInBounds_toArray, List.set_cons_zero, List.set_cons_succ, List.getElem_toArray, List.getElem_cons_zero, List.getElem_cons_succ])
          refine wpAnyH_take (i := 2) (v := ?_) rfl (by kernel_rfl) (by kernel_rfl) (by kernel_rfl) (fun _ _ _ h => h) (Or.inl ⟨by rfl, ?_⟩) (by assumption) ?_
          rotate_left
          · (intro w hSw; (try dsimp only at hSw); go_simp; try with_reducible rfl)
          (try simp only [Act.put, List.setIfInBounds_toArray, List.set_cons_zero, List.set_cons_succ, List.getElem_toArray, List.getElem_cons_zero, List.getElem_cons_succ])
          refine wpAnyH_take (i := 3) (v := ?_) rfl (by kernel_rfl) (by kernel_rfl) (by kernel_rfl) (fun _ _ _ h => h) (Or.inl ⟨by rfl, ?_⟩) (by assumption) ?_
          rotate_left
          · (intro w hSw; (try dsimp only at hSw); go_simp; try with_reducible rfl)
          (try simp only [Act.put, List.setIfInBounds_toArray, List.set_cons_zero, List.set_cons_succ, List.getElem_toArray, List.getElem_cons_zero, List.getElem_cons_succ])
          refine wpAnyH_take (i := 4) (v := ?_) rfl (by kernel_rfl) (by kernel_rfl) (by kernel_rfl) (fun _ _ _ h => h) (Or.inl ⟨by rfl, ?_⟩) (by assumption) ?_
          rotate_left
          · (intro w hSw; (try dsimp only at hSw); go_simp; try with_reducible rfl)
          (try simp only [Act.put, List.setIfInBounds_toArray, List.set_cons_zero, List.set_cons_succ, List.getElem_toArray, List.getElem_cons_zero, List.getElem_cons_succ])
          refine wpAnyH_ready (rs := [5, 10, 11]) (by kernel_rfl) (by simp) ?_
          refine AllReadyH.cons rfl (fun K hK => ?_) ?_
          · (go_simp; go_at_call 20; (with_reducible refine (FR.out _ _ (HR4.out.fresh (by repeat' (first | (with_reducible assumption) | (with_reducible refine below_setRowN ?_ ?_ _) | (with_reducible refine Below.setCell ?_ ?_ _) | (with_reducible refine below_drewN' ?_ _) | (with_reducible refine Below.drew ?_) | (with_reducible refine Below.alloc ?_ ?_ _) | (with_reducible exact Below.refl _ _) | (with_reducible exact Nat.le_refl _) | (simp; done) | omega | (simp; omega)))) (fr_lt (by repeat' (first | (with_reducible assumption) | (with_reducible refine below_setRowN ?_ ?_ _) | (with_reducible refine Below.setCell ?_ ?_ _) | (with_reducible refine below_drewN' ?_ _) | (with_reducible refine Below.drew ?_) | (with_reducible refine Below.alloc ?_ ?_ _) | (with_reducible exact Below.refl _ _) | (with_reducible exact Nat.le_refl _) | (simp; done) | omega | (simp; omega))) HS4.out)).mono ?_); rintro e w5 ⟨r2, rfl, hR5, hb5⟩; have hcur : Below w4.heap.size w4 w5 := (Below.trans (by repeat' (first | (with_reducible assumption) | (with_reducible refine below_setRowN ?_ ?_ _) | (with_reducible refine Below.setCell ?_ ?_ _) | (with_reducible refine below_drewN' ?_ _) | (with_reducible refine Below.drew ?_) | (with_reducible refine Below.alloc ?_ ?_ _) | (with_reducible exact Below.refl _ _) | (with_reducible exact Nat.le_refl _) | (simp; done) | omega | (simp; omega))) (hb5.mono (by first | (simp; done) | omega | (simp; omega)))); have hcs := hcur.size; have hcs5 := hb5.size; (try simp at hcs5); have HR5 := Lib.hid hR5; clear hR5)
            refine hK.out _ _ ?_ (fun hHeld1 => ?_)
            · (try dsimp only); exact HX.out _ (by repeat' (first | (with_reducible assumption) | (with_reducible refine below_setRowN ?_ ?_ _) | (with_reducible refine Below.setCell ?_ ?_ _) | (with_reducible refine below_drewN' ?_ _) | (with_reducible refine Below.drew ?_) | (with_reducible refine Below.alloc ?_ ?_ _) | (with_reducible exact Below.refl _ _) | (with_reducible exact Nat.le_refl _) | (simp; done) | omega | (simp; omega)))
            clear hK K hHeld0
            (try simp only [Act.put, List.setIfInBounds_toArray, List.set_cons_zero, List.set_cons_succ, List.getElem_toArray, List.getElem_cons_zero, List.getElem_cons_succ])
            refine wpAnyH_take (i := 6) (v := ?_) rfl (by kernel_rfl) (by kernel_rfl) (by kernel_rfl) (fun _ _ _ h => h) (Or.inl ⟨by rfl, ?_⟩) (by assumption) ?_
            rotate_left
            · (intro w hSw; (try dsimp only at hSw); go_simp; try with_reducible rfl)
            (try simp only [Act.put, List.setIfInBounds_toArray, List.set_cons_zero, List.set_cons_succ, List.getElem_toArray, List.getElem_cons_zero, List.getElem_cons_succ])
            refine wpAnyH_take (i := 7) (v := ?_) rfl (by kernel_rfl) (by kernel_rfl) (by kernel_rfl) (fun _ _ _ h => h) (Or.inl ⟨by rfl, ?_⟩) (by assumption) ?_
            rotate_left
            · (intro w hSw; (try dsimp only at hSw); go_simp; try with_reducible rfl)
            (try simp only [Act.put, List.setIfInBounds_toArray, List.set_cons_zero, List.set_cons_succ, List.getElem_toArray, List.getElem_cons_zero, List.getElem_cons_succ])
            refine wpAnyH_take (i := 8) (v := ?_) rfl (by kernel_rfl) (by kernel_rfl) (by kernel_rfl) (fun _ _ _ h => h) (Or.inl ⟨by rfl, ?_⟩) (by assumption) ?_
            rotate_left
            · (intro w hSw; (try dsimp only at hSw); go_simp; try with_reducible rfl)
            (try simp only [Act.put, List.setIfInBounds_toArray, List.set_cons_zero, List.set_cons_succ, List.getElem_toArray, List.getElem_cons_zero, List.getElem_cons_succ])
            refine wpAnyH_take (i := 9) (v := ?_) rfl (by kernel_rfl) (by kernel_rfl) (by kernel_rfl) (fun _ _ _ h => h) (Or.inl ⟨by rfl, ?_⟩) (by assumption) ?_
            rotate_left
            · (intro w hSw; (try dsimp only at hSw); go_simp; try with_reducible rfl)
            (try simp only [Act.put, List.setIfInBounds_toArray, List.set_cons_zero, List.set_cons_succ, List.getElem_toArray, List.getElem_cons_zero, List.getElem_cons_succ])
            refine wpAnyH_ready (rs := [10, 11]) (by kernel_rfl) (by simp) ?_
            refine AllReadyH.cons rfl (fun K hK => ?_) ?_
            · go_simp
              refine hK.out _ _ ?_ (fun hHeld2 => ?_)
              · (try dsimp only); exact HX.out _ (by repeat' (first | (with_reducible assumption) | (with_reducible refine below_setRowN ?_ ?_ _) | (with_reducible refine Below.setCell ?_ ?_ _) | (with_reducible refine below_drewN' ?_ _) | (with_reducible refine Below.drew ?_) | (with_reducible refine Below.alloc ?_ ?_ _) | (with_reducible exact Below.refl _ _) | (with_reducible exact Nat.le_refl _) | (simp; done) | omega | (simp; omega)))
              clear hK K hHeld1
              (try simp only [Act.put, List.setIfInBounds_toArray, List.set_cons_zero, List.set_cons_succ, List.getElem_toArray, List.getElem_cons_zero, List.getElem_cons_succ])
              refine wpAnyH_ready (rs := [11]) (by kernel_rfl) (by simp) ?_
              refine AllReadyH.cons rfl (fun K hK => ?_) ?_
              · go_simp
                refine hK.out _ _ ?_ (fun hHeld3 => ?_)
                · (try dsimp only); exact HX.out _ (by repeat' (first | (with_reducible assumption) | (with_reducible refine below_setRowN ?_ ?_ _) | (with_reducible refine Below.setCell ?_ ?_ _) | (with_reducible refine below_drewN' ?_ _) | (with_reducible refine Below.drew ?_) | (with_reducible refine Below.alloc ?_ ?_ _) | (with_reducible exact Below.refl _ _) | (with_reducible exact Nat.le_refl _) | (simp; done) | omega | (simp; omega)))
                clear hK K hHeld2
                (try simp only [Act.put, List.setIfInBounds_toArray, List.set_cons_zero, List.set_cons_succ, List.getElem_toArray, List.getElem_cons_zero, List.getElem_cons_succ])
                refine wpAnyH_ready (rs := [12]) (by kernel_rfl) (by simp) ?_
                refine AllReadyH.cons rfl (fun K hK => ?_) ?_
                · (rw [if_pos (by rfl)]; refine wp_store_row 30 _ _ (by rfl) _ _ (by rfl) (by rfl) 30 #[.int .i64 0, .int .i64 0, .int .i64 0, .slice none 0 0, .slice none 0 0, .slice none 0 0, .slice none 0 0] (by repeat' (first | (with_reducible refine drew_at ?_) | (with_reducible refine setRow_off ?_ ?_ _) | (with_reducible exact setRow_at (by assumption) _) | (with_reducible exact alloc_new _) | (with_reducible refine alloc_at _ _ (by simp; done)) | (with_reducible refine alloc_old ?_ _) | (with_reducible refine Below.at hb5 ?_ ?_) | (simp; done) | (simp; omega) | omega)) (by kernel_rfl) (by rfl) (by first | (simp; done) | simp [Value.oneCell']) ?_)
                  refine hK.out _ _ ?_ (fun hHeld4 => ?_)
                  · (try dsimp only); exact HX.out _ (by repeat' (first | (with_reducible assumption) | (with_reducible refine below_setRowN ?_ ?_ _) | (with_reducible refine Below.setCell ?_ ?_ _) | (with_reducible refine below_drewN' ?_ _) | (with_reducible refine Below.drew ?_) | (with_reducible refine Below.alloc ?_ ?_ _) | (with_reducible exact Below.refl _ _) | (with_reducible exact Nat.le_refl _) | (simp; done) | omega | (simp; omega)))
                  clear hK K hHeld3
                  (try simp only [Act.put, List.setIfInBounds_toArray, List.set_cons_zero, List.set_cons_succ, List.getElem_toArray, List.getElem_cons_zero, List.getElem_cons_succ])
                  refine wpAnyH_ready (rs := [13]) (by kernel_rfl) (by simp) ?_
                  refine AllReadyH.cons rfl (fun K hK => ?_) ?_
                  · (rw [if_pos (by rfl)]; refine wp_store_row 35 _ _ (by rfl) _ _ (by rfl) (by rfl) 35 #[.int .i64 0, .int .u64 0] (by repeat' (first | (with_reducible refine drew_at ?_) | (with_reducible refine setRow_off ?_ ?_ _) | (with_reducible exact setRow_at (by assumption) _) | (with_reducible exact alloc_new _) | (with_reducible refine alloc_at _ _ (by simp; done)) | (with_reducible refine alloc_old ?_ _) | (with_reducible refine Below.at hb5 ?_ ?_) | (simp; done) | (simp; omega) | omega)) (by kernel_rfl) (by rfl) (by first | (simp; done) | simp [Value.oneCell']) ?_)
                    refine hK.out _ _ ?_ (fun hHeld5 => ?_)
                    · (try dsimp only); exact HX.out _ (by repeat' (first | (with_reducible assumption) | (with_reducible refine below_setRowN ?_ ?_ _) | (with_reducible refine Below.setCell ?_ ?_ _) | (with_reducible refine below_drewN' ?_ _) | (with_reducible refine Below.drew ?_) | (with_reducible refine Below.alloc ?_ ?_ _) | (with_reducible exact Below.refl _ _) | (with_reducible exact Nat.le_refl _) | (simp; done) | omega | (simp; omega)))
                    clear hK K hHeld4
                    (try simp only [Act.put, List.setIfInBounds_toArray, List.set_cons_zero, List.set_cons_succ, List.getElem_toArray, List.getElem_cons_zero, List.getElem_cons_succ])
                    refine wpAnyH_take (i := 14) (v := ?_) rfl (by kernel_rfl) (by kernel_rfl) (by kernel_rfl) (fun _ _ _ h => h) (Or.inl ⟨by rfl, ?_⟩) (by assumption) ?_
                    rotate_left
                    · (intro w hSw; (try dsimp only at hSw); go_simp; try with_reducible rfl)
                    (try simp only [Act.put, List.setIfInBounds_toArray, List.set_cons_zero, List.set_cons_succ, List.getElem_toArray, List.getElem_cons_zero, List.getElem_cons_succ])
                    refine wpAnyH_done (by kernel_rfl) ?_ _
                    go_wp2
                    go_meet
                    have hR5 := HR5.out
                    refine ⟨_, _, r2, rfl, rfl, rfl, ?_, ?_, ?_, ?_, ?_, by repeat' (first | (with_reducible assumption) | (with_reducible refine below_setRowN ?_ ?_ _) | (with_reducible refine Below.setCell ?_ ?_ _) | (with_reducible refine below_drewN' ?_ _) | (with_reducible refine Below.drew ?_) | (with_reducible refine Below.alloc ?_ ?_ _) | (with_reducible exact Below.refl _ _) | (with_reducible exact Nat.le_refl _) | (simp; done) | omega | (simp; omega))⟩
                    · refine setRow_off (setRow_at (old := #[.int .i64 0, .int .i64 0, .int .i64 0, .slice none 0 0, .slice none 0 0, .slice none 0 0, .slice none 0 0]) ?_ _) ?_ _
                      · repeat' (first | (with_reducible refine drew_at ?_) | (with_reducible refine setRow_off ?_ ?_ _) | (with_reducible exact setRow_at (by assumption) _) | (with_reducible exact alloc_new _) | (with_reducible refine alloc_at _ _ (by simp; done)) | (with_reducible refine alloc_old ?_ _) | (with_reducible refine Below.at hb5 ?_ ?_) | (simp; done) | (simp; omega) | omega)
                      · repeat' (first | (with_reducible refine drew_at ?_) | (with_reducible refine setRow_off ?_ ?_ _) | (with_reducible exact setRow_at (by assumption) _) | (with_reducible exact alloc_new _) | (with_reducible refine alloc_at _ _ (by simp; done)) | (with_reducible refine alloc_old ?_ _) | (with_reducible refine Below.at hb5 ?_ ?_) | (simp; done) | (simp; omega) | omega)
                    · refine setRow_at (old := #[.int .i64 0, .int .u64 0]) ?_ _
                      repeat' (first | (with_reducible refine drew_at ?_) | (with_reducible refine setRow_off ?_ ?_ _) | (with_reducible exact setRow_at (by assumption) _) | (with_reducible exact alloc_new _) | (with_reducible refine alloc_at _ _ (by simp; done)) | (with_reducible refine alloc_old ?_ _) | (with_reducible refine Below.at hb5 ?_ ?_) | (simp; done) | (simp; omega) | omega)
                    · refine hR5.fin ?_ ?_ ?_ ?_
                      · first | (simp; done) | (simp; omega) | omega
                      · repeat' (first | (with_reducible assumption) | (with_reducible refine below_setRowN ?_ ?_ _) | (with_reducible refine Below.setCell ?_ ?_ _) | (with_reducible refine below_drewN' ?_ _) | (with_reducible refine Below.drew ?_) | (with_reducible refine Below.alloc ?_ ?_ _) | (with_reducible exact Below.refl _ _) | (with_reducible exact Nat.le_refl _) | (simp; done) | omega | (simp; omega))
                      · first | (simp; done) | (simp; omega) | omega
                      · first | (simp; done) | (simp; omega) | omega
                    · first | (simp; done) | (simp; omega) | omega
                    · first | (simp; done) | (simp; omega) | omega
                  exact AllReadyH.nil
                exact AllReadyH.nil
              exact AllReadyH.nil
            refine AllReadyH.cons rfl (fun K hK => ?_) ?_
            · go_simp
              refine hK.out _ _ ?_ (fun hHeld2 => ?_)
              · (try dsimp only); exact HX.out _ (by repeat' (first | (with_reducible assumption) | (with_reducible refine below_setRowN ?_ ?_ _) | (with_reducible refine Below.setCell ?_ ?_ _) | (with_reducible refine below_drewN' ?_ _) | (with_reducible refine Below.drew ?_) | (with_reducible refine Below.alloc ?_ ?_ _) | (with_reducible exact Below.refl _ _) | (with_reducible exact Nat.le_refl _) | (simp; done) | omega | (simp; omega)))
              clear hK K hHeld1
              (try simp only [Act.put, List.setIfInBounds_toArray, List.set_cons_zero, List.set_cons_succ, List.getElem_toArray, List.getElem_cons_zero, List.getElem_cons_succ])
              refine wpAnyH_ready (rs := [10]) (by kernel_rfl) (by simp) ?_
              refine AllReadyH.cons rfl (fun K hK => ?_) ?_
              · go_simp
                refine hK.out _ _ ?_ (fun hHeld3 => ?_)
                · (try dsimp only); exact HX.out _ (by repeat' (first | (with_reducible assumption) | (with_reducible refine below_setRowN ?_ ?_ _) | (with_reducible refine Below.setCell ?_ ?_ _) | (with_reducible refine below_drewN' ?_ _) | (with_reducible refine Below.drew ?_) | (with_reducible refine Below.alloc ?_ ?_ _) | (with_reducible exact Below.refl _ _) | (with_reducible exact Nat.le_refl _) | (simp; done) | omega | (simp; omega)))
                clear hK K hHeld2
                (try simp only [Act.put, List.setIfInBounds_toArray, List.set_cons_zero, List.set_cons_succ, List.getElem_toArray, List.getElem_cons_zero, List.getElem_cons_succ])
                refine wpAnyH_ready (rs := [12]) (by kernel_rfl) (by simp) ?_
                refine AllReadyH.cons rfl (fun K hK => ?_) ?_
                · (rw [if_pos (by rfl)]; refine wp_store_row 30 _ _ (by rfl) _ _ (by rfl) (by rfl) 30 #[.int .i64 0, .int .i64 0, .int .i64 0, .slice none 0 0, .slice none 0 0, .slice none 0 0, .slice none 0 0] (by repeat' (first | (with_reducible refine drew_at ?_) | (with_reducible refine setRow_off ?_ ?_ _) | (with_reducible exact setRow_at (by assumption) _) | (with_reducible exact alloc_new _) | (with_reducible refine alloc_at _ _ (by simp; done)) | (with_reducible refine alloc_old ?_ _) | (with_reducible refine Below.at hb5 ?_ ?_) | (simp; done) | (simp; omega) | omega)) (by kernel_rfl) (by rfl) (by first | (simp; done) | simp [Value.oneCell']) ?_)
                  refine hK.out _ _ ?_ (fun hHeld4 => ?_)
                  · (try dsimp only); exact HX.out _ (by repeat' (first | (with_reducible assumption) | (with_reducible refine below_setRowN ?_ ?_ _) | (with_reducible refine Below.setCell ?_ ?_ _) | (with_reducible refine below_drewN' ?_ _) | (with_reducible refine Below.drew ?_) | (with_reducible refine Below.alloc ?_ ?_ _) | (with_reducible exact Below.refl _ _) | (with_reducible exact Nat.le_refl _) | (simp; done) | omega | (simp; omega)))
                  clear hK K hHeld3
                  (try simp only [Act.put, List.setIfInBounds_toArray, List.set_cons_zero, List.set_cons_succ, List.getElem_toArray, List.getElem_cons_zero, List.getElem_cons_succ])
                  refine wpAnyH_ready (rs := [13]) (by kernel_rfl) (by simp) ?_
                  refine AllReadyH.cons rfl (fun K hK => ?_) ?_
                  · (rw [if_pos (by rfl)]; refine wp_store_row 35 _ _ (by rfl) _ _ (by rfl) (by rfl) 35 #[.int .i64 0, .int .u64 0] (by repeat' (first | (with_reducible refine drew_at ?_) | (with_reducible refine setRow_off ?_ ?_ _) | (with_reducible exact setRow_at (by assumption) _) | (with_reducible exact alloc_new _) | (with_reducible refine alloc_at _ _ (by simp; done)) | (with_reducible refine alloc_old ?_ _) | (with_reducible refine Below.at hb5 ?_ ?_) | (simp; done) | (simp; omega) | omega)) (by kernel_rfl) (by rfl) (by first | (simp; done) | simp [Value.oneCell']) ?_)
                    refine hK.out _ _ ?_ (fun hHeld5 => ?_)
                    · (try dsimp only); exact HX.out _ (by repeat' (first | (with_reducible assumption) | (with_reducible refine below_setRowN ?_ ?_ _) | (with_reducible refine Below.setCell ?_ ?_ _) | (with_reducible refine below_drewN' ?_ _) | (with_reducible refine Below.drew ?_) | (with_reducible refine Below.alloc ?_ ?_ _) | (with_reducible exact Below.refl _ _) | (with_reducible exact Nat.le_refl _) | (simp; done) | omega | (simp; omega)))
                    clear hK K hHeld4
                    (try simp only [Act.put, List.setIfInBounds_toArray, List.set_cons_zero, List.set_cons_succ, List.getElem_toArray, List.getElem_cons_zero, List.getElem_cons_succ])
                    refine wpAnyH_take (i := 14) (v := ?_) rfl (by kernel_rfl) (by kernel_rfl) (by kernel_rfl) (fun _ _ _ h => h) (Or.inl ⟨by rfl, ?_⟩) (by assumption) ?_
                    rotate_left
                    · (intro w hSw; (try dsimp only at hSw); go_simp; try with_reducible rfl)
                    (try simp only [Act.put, List.setIfInBounds_toArray, List.set_cons_zero, List.set_cons_succ, List.getElem_toArray, List.getElem_cons_zero, List.getElem_cons_succ])
                    refine wpAnyH_done (by kernel_rfl) ?_ _
                    go_wp2
                    go_meet
                    have hR5 := HR5.out
                    refine ⟨_, _, r2, rfl, rfl, rfl, ?_, ?_, ?_, ?_, ?_, by repeat' (first | (with_reducible assumption) | (with_reducible refine below_setRowN ?_ ?_ _) | (with_reducible refine Below.setCell ?_ ?_ _) | (with_reducible refine below_drewN' ?_ _) | (with_reducible refine Below.drew ?_) | (with_reducible refine Below.alloc ?_ ?_ _) | (with_reducible exact Below.refl _ _) | (with_reducible exact Nat.le_refl _) | (simp; done) | omega | (simp; omega))⟩
                    · refine setRow_off (setRow_at (old := #[.int .i64 0, .int .i64 0, .int .i64 0, .slice none 0 0, .slice none 0 0, .slice none 0 0, .slice none 0 0]) ?_ _) ?_ _
                      · repeat' (first | (with_reducible refine drew_at ?_) | (with_reducible refine setRow_off ?_ ?_ _) | (with_reducible exact setRow_at (by assumption) _) | (with_reducible exact alloc_new _) | (with_reducible refine alloc_at _ _ (by simp; done)) | (with_reducible refine alloc_old ?_ _) | (with_reducible refine Below.at hb5 ?_ ?_) | (simp; done) | (simp; omega) | omega)
                      · repeat' (first | (with_reducible refine drew_at ?_) | (with_reducible refine setRow_off ?_ ?_ _) | (with_reducible exact setRow_at (by assumption) _) | (with_reducible exact alloc_new _) | (with_reducible refine alloc_at _ _ (by simp; done)) | (with_reducible refine alloc_old ?_ _) | (with_reducible refine Below.at hb5 ?_ ?_) | (simp; done) | (simp; omega) | omega)
                    · refine setRow_at (old := #[.int .i64 0, .int .u64 0]) ?_ _
                      repeat' (first | (with_reducible refine drew_at ?_) | (with_reducible refine setRow_off ?_ ?_ _) | (with_reducible exact setRow_at (by assumption) _) | (with_reducible exact alloc_new _) | (with_reducible refine alloc_at _ _ (by simp; done)) | (with_reducible refine alloc_old ?_ _) | (with_reducible refine Below.at hb5 ?_ ?_) | (simp; done) | (simp; omega) | omega)
                    · refine hR5.fin ?_ ?_ ?_ ?_
                      · first | (simp; done) | (simp; omega) | omega
                      · repeat' (first | (with_reducible assumption) | (with_reducible refine below_setRowN ?_ ?_ _) | (with_reducible refine Below.setCell ?_ ?_ _) | (with_reducible refine below_drewN' ?_ _) | (with_reducible refine Below.drew ?_) | (with_reducible refine Below.alloc ?_ ?_ _) | (with_reducible exact Below.refl _ _) | (with_reducible exact Nat.le_refl _) | (simp; done) | omega | (simp; omega))
                      · first | (simp; done) | (simp; omega) | omega
                      · first | (simp; done) | (simp; omega) | omega
                    · first | (simp; done) | (simp; omega) | omega
                    · first | (simp; done) | (simp; omega) | omega
                  exact AllReadyH.nil
                exact AllReadyH.nil
              exact AllReadyH.nil
            exact AllReadyH.nil
          refine AllReadyH.cons rfl (fun K hK => ?_) ?_
          · go_simp
            refine hK.out _ _ ?_ (fun hHeld1 => ?_)
            · (try dsimp only); exact HX.out _ (by repeat' (first | (with_reducible assumption) | (with_reducible refine below_setRowN ?_ ?_ _) | (with_reducible refine Below.setCell ?_ ?_ _) | (with_reducible refine below_drewN' ?_ _) | (with_reducible refine Below.drew ?_) | (with_reducible refine Below.alloc ?_ ?_ _) | (with_reducible exact Below.refl _ _) | (with_reducible exact Nat.le_refl _) | (simp; done) | omega | (simp; omega)))
            clear hK K hHeld0
            (try simp only [Act.put, List.setIfInBounds_toArray, List.set_cons_zero, List.set_cons_succ, List.getElem_toArray, List.getElem_cons_zero, List.getElem_cons_succ])
            refine wpAnyH_ready (rs := [5, 11]) (by kernel_rfl) (by simp) ?_
            refine AllReadyH.cons rfl (fun K hK => ?_) ?_
            · (go_simp; go_at_call 20; (with_reducible refine (FR.out _ _ (HR4.out.fresh (by repeat' (first | (with_reducible assumption) | (with_reducible refine below_setRowN ?_ ?_ _) | (with_reducible refine Below.setCell ?_ ?_ _) | (with_reducible refine below_drewN' ?_ _) | (with_reducible refine Below.drew ?_) | (with_reducible refine Below.alloc ?_ ?_ _) | (with_reducible exact Below.refl _ _) | (with_reducible exact Nat.le_refl _) | (simp; done) | omega | (simp; omega)))) (fr_lt (by repeat' (first | (with_reducible assumption) | (with_reducible refine below_setRowN ?_ ?_ _) | (with_reducible refine Below.setCell ?_ ?_ _) | (with_reducible refine below_drewN' ?_ _) | (with_reducible refine Below.drew ?_) | (with_reducible refine Below.alloc ?_ ?_ _) | (with_reducible exact Below.refl _ _) | (with_reducible exact Nat.le_refl _) | (simp; done) | omega | (simp; omega))) HS4.out)).mono ?_); rintro e w5 ⟨r2, rfl, hR5, hb5⟩; have hcur : Below w4.heap.size w4 w5 := (Below.trans (by repeat' (first | (with_reducible assumption) | (with_reducible refine below_setRowN ?_ ?_ _) | (with_reducible refine Below.setCell ?_ ?_ _) | (with_reducible refine below_drewN' ?_ _) | (with_reducible refine Below.drew ?_) | (with_reducible refine Below.alloc ?_ ?_ _) | (with_reducible exact Below.refl _ _) | (with_reducible exact Nat.le_refl _) | (simp; done) | omega | (simp; omega))) (hb5.mono (by first | (simp; done) | omega | (simp; omega)))); have hcs := hcur.size; have hcs5 := hb5.size; (try simp at hcs5); have HR5 := Lib.hid hR5; clear hR5)
              refine hK.out _ _ ?_ (fun hHeld2 => ?_)
              · (try dsimp only); exact HX.out _ (by repeat' (first | (with_reducible assumption) | (with_reducible refine below_setRowN ?_ ?_ _) | (with_reducible refine Below.setCell ?_ ?_ _) | (with_reducible refine below_drewN' ?_ _) | (with_reducible refine Below.drew ?_) | (with_reducible refine Below.alloc ?_ ?_ _) | (with_reducible exact Below.refl _ _) | (with_reducible exact Nat.le_refl _) | (simp; done) | omega | (simp; omega)))
              clear hK K hHeld1
              (try simp only [Act.put, List.setIfInBounds_toArray, List.set_cons_zero, List.set_cons_succ, List.getElem_toArray, List.getElem_cons_zero, List.getElem_cons_succ])
              refine wpAnyH_take (i := 6) (v := ?_) rfl (by kernel_rfl) (by kernel_rfl) (by kernel_rfl) (fun _ _ _ h => h) (Or.inl ⟨by rfl, ?_⟩) (by assumption) ?_
              rotate_left
              · (intro w hSw; (try dsimp only at hSw); go_simp; try with_reducible rfl)
              (try simp only [Act.put, List.setIfInBounds_toArray, List.set_cons_zero, List.set_cons_succ, List.getElem_toArray, List.getElem_cons_zero, List.getElem_cons_succ])
              refine wpAnyH_take (i := 7) (v := ?_) rfl (by kernel_rfl) (by kernel_rfl) (by kernel_rfl) (fun _ _ _ h => h) (Or.inl ⟨by rfl, ?_⟩) (by assumption) ?_
              rotate_left
              · (intro w hSw; (try dsimp only at hSw); go_simp; try with_reducible rfl)
              (try simp only [Act.put, List.setIfInBounds_toArray, List.set_cons_zero, List.set_cons_succ, List.getElem_toArray, List.getElem_cons_zero, List.getElem_cons_succ])
              refine wpAnyH_take (i := 8) (v := ?_) rfl (by kernel_rfl) (by kernel_rfl) (by kernel_rfl) (fun _ _ _ h => h) (Or.inl ⟨by rfl, ?_⟩) (by assumption) ?_
              rotate_left
              · (intro w hSw; (try dsimp only at hSw); go_simp; try with_reducible rfl)
              (try simp only [Act.put, List.setIfInBounds_toArray, List.set_cons_zero, List.set_cons_succ, List.getElem_toArray, List.getElem_cons_zero, List.getElem_cons_succ])
              refine wpAnyH_take (i := 9) (v := ?_) rfl (by kernel_rfl) (by kernel_rfl) (by kernel_rfl) (fun _ _ _ h => h) (Or.inl ⟨by rfl, ?_⟩) (by assumption) ?_
              rotate_left
              · (intro w hSw; (try dsimp only at hSw); go_simp; try with_reducible rfl)
              (try simp only [Act.put, List.setIfInBounds_toArray, List.set_cons_zero, List.set_cons_succ, List.getElem_toArray, List.getElem_cons_zero, List.getElem_cons_succ])
              refine wpAnyH_ready (rs := [11]) (by kernel_rfl) (by simp) ?_
              refine AllReadyH.cons rfl (fun K hK => ?_) ?_
              · go_simp
                refine hK.out _ _ ?_ (fun hHeld3 => ?_)
                · (try dsimp only); exact HX.out _ (by repeat' (first | (with_reducible assumption) | (with_reducible refine below_setRowN ?_ ?_ _) | (with_reducible refine Below.setCell ?_ ?_ _) | (with_reducible refine below_drewN' ?_ _) | (with_reducible refine Below.drew ?_) | (with_reducible refine Below.alloc ?_ ?_ _) | (with_reducible exact Below.refl _ _) | (with_reducible exact Nat.le_refl _) | (simp; done) | omega | (simp; omega)))
                clear hK K hHeld2
                (try simp only [Act.put, List.setIfInBounds_toArray, List.set_cons_zero, List.set_cons_succ, List.getElem_toArray, List.getElem_cons_zero, List.getElem_cons_succ])
                refine wpAnyH_ready (rs := [12]) (by kernel_rfl) (by simp) ?_
                refine AllReadyH.cons rfl (fun K hK => ?_) ?_
                · (rw [if_pos (by rfl)]; refine wp_store_row 30 _ _ (by rfl) _ _ (by rfl) (by rfl) 30 #[.int .i64 0, .int .i64 0, .int .i64 0, .slice none 0 0, .slice none 0 0, .slice none 0 0, .slice none 0 0] (by repeat' (first | (with_reducible refine drew_at ?_) | (with_reducible refine setRow_off ?_ ?_ _) | (with_reducible exact setRow_at (by assumption) _) | (with_reducible exact alloc_new _) | (with_reducible refine alloc_at _ _ (by simp; done)) | (with_reducible refine alloc_old ?_ _) | (with_reducible refine Below.at hb5 ?_ ?_) | (simp; done) | (simp; omega) | omega)) (by kernel_rfl) (by rfl) (by first | (simp; done) | simp [Value.oneCell']) ?_)
                  refine hK.out _ _ ?_ (fun hHeld4 => ?_)
                  · (try dsimp only); exact HX.out _ (by repeat' (first | (with_reducible assumption) | (with_reducible refine below_setRowN ?_ ?_ _) | (with_reducible refine Below.setCell ?_ ?_ _) | (with_reducible refine below_drewN' ?_ _) | (with_reducible refine Below.drew ?_) | (with_reducible refine Below.alloc ?_ ?_ _) | (with_reducible exact Below.refl _ _) | (with_reducible exact Nat.le_refl _) | (simp; done) | omega | (simp; omega)))
                  clear hK K hHeld3
                  (try simp only [Act.put, List.setIfInBounds_toArray, List.set_cons_zero, List.set_cons_succ, List.getElem_toArray, List.getElem_cons_zero, List.getElem_cons_succ])
                  refine wpAnyH_ready (rs := [13]) (by kernel_rfl) (by simp) ?_
                  refine AllReadyH.cons rfl (fun K hK => ?_) ?_
                  · (rw [if_pos (by rfl)]; refine wp_store_row 35 _ _ (by rfl) _ _ (by rfl) (by rfl) 35 #[.int .i64 0, .int .u64 0] (by repeat' (first | (with_reducible refine drew_at ?_) | (with_reducible refine setRow_off ?_ ?_ _) | (with_reducible exact setRow_at (by assumption) _) | (with_reducible exact alloc_new _) | (with_reducible refine alloc_at _ _ (by simp; done)) | (with_reducible refine alloc_old ?_ _) | (with_reducible refine Below.at hb5 ?_ ?_) | (simp; done) | (simp; omega) | omega)) (by kernel_rfl) (by rfl) (by first | (simp; done) | simp [Value.oneCell']) ?_)
                    refine hK.out _ _ ?_ (fun hHeld5 => ?_)
                    · (try dsimp only); exact HX.out _ (by repeat' (first | (with_reducible assumption) | (with_reducible refine below_setRowN ?_ ?_ _) | (with_reducible refine Below.setCell ?_ ?_ _) | (with_reducible refine below_drewN' ?_ _) | (with_reducible refine Below.drew ?_) | (with_reducible refine Below.alloc ?_ ?_ _) | (with_reducible exact Below.refl _ _) | (with_reducible exact Nat.le_refl _) | (simp; done) | omega | (simp; omega)))
                    clear hK K hHeld4
                    (try simp only [Act.put, List.setIfInBounds_toArray, List.set_cons_zero, List.set_cons_succ, List.getElem_toArray, List.getElem_cons_zero, List.getElem_cons_succ])
                    refine wpAnyH_take (i := 14) (v := ?_) rfl (by kernel_rfl) (by kernel_rfl) (by kernel_rfl) (fun _ _ _ h => h) (Or.inl ⟨by rfl, ?_⟩) (by assumption) ?_
                    rotate_left
                    · (intro w hSw; (try dsimp only at hSw); go_simp; try with_reducible rfl)
                    (try simp only [Act.put, List.setIfInBounds_toArray, List.set_cons_zero, List.set_cons_succ, List.getElem_toArray, List.getElem_cons_zero, List.getElem_cons_succ])
                    refine wpAnyH_done (by kernel_rfl) ?_ _
                    go_wp2
                    go_meet
                    have hR5 := HR5.out
                    refine ⟨_, _, r2, rfl, rfl, rfl, ?_, ?_, ?_, ?_, ?_, by repeat' (first | (with_reducible assumption) | (with_reducible refine below_setRowN ?_ ?_ _) | (with_reducible refine Below.setCell ?_ ?_ _) | (with_reducible refine below_drewN' ?_ _) | (with_reducible refine Below.drew ?_) | (with_reducible refine Below.alloc ?_ ?_ _) | (with_reducible exact Below.refl _ _) | (with_reducible exact Nat.le_refl _) | (simp; done) | omega | (simp; omega))⟩
                    · refine setRow_off (setRow_at (old := #[.int .i64 0, .int .i64 0, .int .i64 0, .slice none 0 0, .slice none 0 0, .slice none 0 0, .slice none 0 0]) ?_ _) ?_ _
                      · repeat' (first | (with_reducible refine drew_at ?_) | (with_reducible refine setRow_off ?_ ?_ _) | (with_reducible exact setRow_at (by assumption) _) | (with_reducible exact alloc_new _) | (with_reducible refine alloc_at _ _ (by simp; done)) | (with_reducible refine alloc_old ?_ _) | (with_reducible refine Below.at hb5 ?_ ?_) | (simp; done) | (simp; omega) | omega)
                      · repeat' (first | (with_reducible refine drew_at ?_) | (with_reducible refine setRow_off ?_ ?_ _) | (with_reducible exact setRow_at (by assumption) _) | (with_reducible exact alloc_new _) | (with_reducible refine alloc_at _ _ (by simp; done)) | (with_reducible refine alloc_old ?_ _) | (with_reducible refine Below.at hb5 ?_ ?_) | (simp; done) | (simp; omega) | omega)
                    · refine setRow_at (old := #[.int .i64 0, .int .u64 0]) ?_ _
                      repeat' (first | (with_reducible refine drew_at ?_) | (with_reducible refine setRow_off ?_ ?_ _) | (with_reducible exact setRow_at (by assumption) _) | (with_reducible exact alloc_new _) | (with_reducible refine alloc_at _ _ (by simp; done)) | (with_reducible refine alloc_old ?_ _) | (with_reducible refine Below.at hb5 ?_ ?_) | (simp; done) | (simp; omega) | omega)
                    · refine hR5.fin ?_ ?_ ?_ ?_
                      · first | (simp; done) | (simp; omega) | omega
                      · repeat' (first | (with_reducible assumption) | (with_reducible refine below_setRowN ?_ ?_ _) | (with_reducible refine Below.setCell ?_ ?_ _) | (with_reducible refine below_drewN' ?_ _) | (with_reducible refine Below.drew ?_) | (with_reducible refine Below.alloc ?_ ?_ _) | (with_reducible exact Below.refl _ _) | (with_reducible exact Nat.le_refl _) | (simp; done) | omega | (simp; omega))
                      · first | (simp; done) | (simp; omega) | omega
                      · first | (simp; done) | (simp; omega) | omega
                    · first | (simp; done) | (simp; omega) | omega
                    · first | (simp; done) | (simp; omega) | omega
                  exact AllReadyH.nil
                exact AllReadyH.nil
              exact AllReadyH.nil
            refine AllReadyH.cons rfl (fun K hK => ?_) ?_
            · go_simp
              refine hK.out _ _ ?_ (fun hHeld2 => ?_)
              · (try dsimp only); exact HX.out _ (by repeat' (first | (with_reducible assumption) | (with_reducible refine below_setRowN ?_ ?_ _) | (with_reducible refine Below.setCell ?_ ?_ _) | (with_reducible refine below_drewN' ?_ _) | (with_reducible refine Below.drew ?_) | (with_reducible refine Below.alloc ?_ ?_ _) | (with_reducible exact Below.refl _ _) | (with_reducible exact Nat.le_refl _) | (simp; done) | omega | (simp; omega)))
              clear hK K hHeld1
              (try simp only [Act.put, List.setIfInBounds_toArray, List.set_cons_zero, List.set_cons_succ, List.getElem_toArray, List.getElem_cons_zero, List.getElem_cons_succ])
              refine wpAnyH_ready (rs := [5]) (by kernel_rfl) (by simp) ?_
              refine AllReadyH.cons rfl (fun K hK => ?_) ?_
              · (go_simp; go_at_call 20; (with_reducible refine (FR.out _ _ (HR4.out.fresh (by repeat' (first | (with_reducible assumption) | (with_reducible refine below_setRowN ?_ ?_ _) | (with_reducible refine Below.setCell ?_ ?_ _) | (with_reducible refine below_drewN' ?_ _) | (with_reducible refine Below.drew ?_) | (with_reducible refine Below.alloc ?_ ?_ _) | (with_reducible exact Below.refl _ _) | (with_reducible exact Nat.le_refl _) | (simp; done) | omega | (simp; omega)))) (fr_lt (by repeat' (first | (with_reducible assumption) | (with_reducible refine below_setRowN ?_ ?_ _) | (with_reducible refine Below.setCell ?_ ?_ _) | (with_reducible refine below_drewN' ?_ _) | (with_reducible refine Below.drew ?_) | (with_reducible refine Below.alloc ?_ ?_ _) | (with_reducible exact Below.refl _ _) | (with_reducible exact Nat.le_refl _) | (simp; done) | omega | (simp; omega))) HS4.out)).mono ?_); rintro e w5 ⟨r2, rfl, hR5, hb5⟩; have hcur : Below w4.heap.size w4 w5 := (Below.trans (by repeat' (first | (with_reducible assumption) | (with_reducible refine below_setRowN ?_ ?_ _) | (with_reducible refine Below.setCell ?_ ?_ _) | (with_reducible refine below_drewN' ?_ _) | (with_reducible refine Below.drew ?_) | (with_reducible refine Below.alloc ?_ ?_ _) | (with_reducible exact Below.refl _ _) | (with_reducible exact Nat.le_refl _) | (simp; done) | omega | (simp; omega))) (hb5.mono (by first | (simp; done) | omega | (simp; omega)))); have hcs := hcur.size; have hcs5 := hb5.size; (try simp at hcs5); have HR5 := Lib.hid hR5; clear hR5)
                refine hK.out _ _ ?_ (fun hHeld3 => ?_)
                · (try dsimp only); exact HX.out _ (by repeat' (first | (with_reducible assumption) | (with_reducible refine below_setRowN ?_ ?_ _) | (with_reducible refine Below.setCell ?_ ?_ _) | (with_reducible refine below_drewN' ?_ _) | (with_reducible refine Below.drew ?_) | (with_reducible refine Below.alloc ?_ ?_ _) | (with_reducible exact Below.refl _ _) | (with_reducible exact Nat.le_refl _) | (simp; done) | omega | (simp; omega)))
                clear hK K hHeld2
                (try simp only [Act.put, List.setIfInBounds_toArray, List.set_cons_zero, List.set_cons_succ, List.getElem_toArray, List.getElem_cons_zero, List.getElem_cons_succ])
                refine wpAnyH_take (i := 6) (v := ?_) rfl (by kernel_rfl) (by kernel_rfl) (by kernel_rfl) (fun _ _ _ h => h) (Or.inl ⟨by rfl, ?_⟩) (by assumption) ?_
                rotate_left
                · (intro w hSw; (try dsimp only at hSw); go_simp; try with_reducible rfl)
                (try simp only [Act.put, List.setIfInBounds_toArray, List.set_cons_zero, List.set_cons_succ, List.getElem_toArray, List.getElem_cons_zero, List.getElem_cons_succ])
                refine wpAnyH_take (i := 7) (v := ?_) rfl (by kernel_rfl) (by kernel_rfl) (by kernel_rfl) (fun _ _ _ h => h) (Or.inl ⟨by rfl, ?_⟩) (by assumption) ?_
                rotate_left
                · (intro w hSw; (try dsimp only at hSw); go_simp; try with_reducible rfl)
                (try simp only [Act.put, List.setIfInBounds_toArray, List.set_cons_zero, List.set_cons_succ, List.getElem_toArray, List.getElem_cons_zero, List.getElem_cons_succ])
                refine wpAnyH_take (i := 8) (v := ?_) rfl (by kernel_rfl) (by kernel_rfl) (by kernel_rfl) (fun _ _ _ h => h) (Or.inl ⟨by rfl, ?_⟩) (by assumption) ?_
                rotate_left
                · (intro w hSw; (try dsimp only at hSw); go_simp; try with_reducible rfl)
                (try simp only [Act.put, List.setIfInBounds_toArray, List.set_cons_zero, List.set_cons_succ, List.getElem_toArray, List.getElem_cons_zero, List.getElem_cons_succ])
                refine wpAnyH_take (i := 9) (v := ?_) rfl (by kernel_rfl) (by kernel_rfl) (by kernel_rfl) (fun _ _ _ h => h) (Or.inl ⟨by rfl, ?_⟩) (by assumption) ?_
                rotate_left
                · (intro w hSw; (try dsimp only at hSw); go_simp; try with_reducible rfl)
                (try simp only [Act.put, List.setIfInBounds_toArray, List.set_cons_zero, List.set_cons_succ, List.getElem_toArray, List.getElem_cons_zero, List.getElem_cons_succ])
                refine wpAnyH_ready (rs := [12]) (by kernel_rfl) (by simp) ?_
                refine AllReadyH.cons rfl (fun K hK => ?_) ?_
                · (rw [if_pos (by rfl)]; refine wp_store_row 30 _ _ (by rfl) _ _ (by rfl) (by rfl) 30 #[.int .i64 0, .int .i64 0, .int .i64 0, .slice none 0 0, .slice none 0 0, .slice none 0 0, .slice none 0 0] (by repeat' (first | (with_reducible refine drew_at ?_) | (with_reducible refine setRow_off ?_ ?_ _) | (with_reducible exact setRow_at (by assumption) _) | (with_reducible exact alloc_new _) | (with_reducible refine alloc_at _ _ (by simp; done)) | (with_reducible refine alloc_old ?_ _) | (with_reducible refine Below.at hb5 ?_ ?_) | (simp; done) | (simp; omega) | omega)) (by kernel_rfl) (by rfl) (by first | (simp; done) | simp [Value.oneCell']) ?_)
                  refine hK.out _ _ ?_ (fun hHeld4 => ?_)
                  · (try dsimp only); exact HX.out _ (by repeat' (first | (with_reducible assumption) | (with_reducible refine below_setRowN ?_ ?_ _) | (with_reducible refine Below.setCell ?_ ?_ _) | (with_reducible refine below_drewN' ?_ _) | (with_reducible refine Below.drew ?_) | (with_reducible refine Below.alloc ?_ ?_ _) | (with_reducible exact Below.refl _ _) | (with_reducible exact Nat.le_refl _) | (simp; done) | omega | (simp; omega)))
                  clear hK K hHeld3
                  (try simp only [Act.put, List.setIfInBounds_toArray, List.set_cons_zero, List.set_cons_succ, List.getElem_toArray, List.getElem_cons_zero, List.getElem_cons_succ])
                  refine wpAnyH_ready (rs := [13]) (by kernel_rfl) (by simp) ?_
                  refine AllReadyH.cons rfl (fun K hK => ?_) ?_
                  · (rw [if_pos (by rfl)]; refine wp_store_row 35 _ _ (by rfl) _ _ (by rfl) (by rfl) 35 #[.int .i64 0, .int .u64 0] (by repeat' (first | (with_reducible refine drew_at ?_) | (with_reducible refine setRow_off ?_ ?_ _) | (with_reducible exact setRow_at (by assumption) _) | (with_reducible exact alloc_new _) | (with_reducible refine alloc_at _ _ (by simp; done)) | (with_reducible refine alloc_old ?_ _) | (with_reducible refine Below.at hb5 ?_ ?_) | (simp; done) | (simp; omega) | omega)) (by kernel_rfl) (by rfl) (by first | (simp; done) | simp [Value.oneCell']) ?_)
                    refine hK.out _ _ ?_ (fun hHeld5 => ?_)
                    · (try dsimp only); exact HX.out _ (by repeat' (first | (with_reducible assumption) | (with_reducible refine below_setRowN ?_ ?_ _) | (with_reducible refine Below.setCell ?_ ?_ _) | (with_reducible refine below_drewN' ?_ _) | (with_reducible refine Below.drew ?_) | (with_reducible refine Below.alloc ?_ ?_ _) | (with_reducible exact Below.refl _ _) | (with_reducible exact Nat.le_refl _) | (simp; done) | omega | (simp; omega)))
                    clear hK K hHeld4
                    (try simp only [Act.put, List.setIfInBounds_toArray, List.set_cons_zero, List.set_cons_succ, List.getElem_toArray, List.getElem_cons_zero, List.getElem_cons_succ])
                    refine wpAnyH_take (i := 14) (v := ?_) rfl (by kernel_rfl) (by kernel_rfl) (by kernel_rfl) (fun _ _ _ h => h) (Or.inl ⟨by rfl, ?_⟩) (by assumption) ?_
                    rotate_left
                    · (intro w hSw; (try dsimp only at hSw); go_simp; try with_reducible rfl)
                    (try simp only [Act.put, List.setIfInBounds_toArray, List.set_cons_zero, List.set_cons_succ, List.getElem_toArray, List.getElem_cons_zero, List.getElem_cons_succ])
                    refine wpAnyH_done (by kernel_rfl) ?_ _
                    go_wp2
                    go_meet
                    have hR5 := HR5.out
                    refine ⟨_, _, r2, rfl, rfl, rfl, ?_, ?_, ?_, ?_, ?_, by repeat' (first | (with_reducible assumption) | (with_reducible refine below_setRowN ?_ ?_ _) | (with_reducible refine Below.setCell ?_ ?_ _) | (with_reducible refine below_drewN' ?_ _) | (with_reducible refine Below.drew ?_) | (with_reducible refine Below.alloc ?_ ?_ _) | (with_reducible exact Below.refl _ _) | (with_reducible exact Nat.le_refl _) | (simp; done) | omega | (simp; omega))⟩
                    · refine setRow_off (setRow_at (old := #[.int .i64 0, .int .i64 0, .int .i64 0, .slice none 0 0, .slice none 0 0, .slice none 0 0, .slice none 0 0]) ?_ _) ?_ _
                      · repeat' (first | (with_reducible refine drew_at ?_) | (with_reducible refine setRow_off ?_ ?_ _) | (with_reducible exact setRow_at (by assumption) _) | (with_reducible exact alloc_new _) | (with_reducible refine alloc_at _ _ (by simp; done)) | (with_reducible refine alloc_old ?_ _) | (with_reducible refine Below.at hb5 ?_ ?_) | (simp; done) | (simp; omega) | omega)
                      · repeat' (first | (with_reducible refine drew_at ?_) | (with_reducible refine setRow_off ?_ ?_ _) | (with_reducible exact setRow_at (by assumption) _) | (with_reducible exact alloc_new _) | (with_reducible refine alloc_at _ _ (by simp; done)) | (with_reducible refine alloc_old ?_ _) | (with_reducible refine Below.at hb5 ?_ ?_) | (simp; done) | (simp; omega) | omega)
                    · refine setRow_at (old := #[.int .i64 0, .int .u64 0]) ?_ _
                      repeat' (first | (with_reducible refine drew_at ?_) | (with_reducible refine setRow_off ?_ ?_ _) | (with_reducible exact setRow_at (by assumption) _) | (with_reducible exact alloc_new _) | (with_reducible refine alloc_at _ _ (by simp; done)) | (with_reducible refine alloc_old ?_ _) | (with_reducible refine Below.at hb5 ?_ ?_) | (simp; done) | (simp; omega) | omega)
                    · refine hR5.fin ?_ ?_ ?_ ?_
                      · first | (simp; done) | (simp; omega) | omega
                      · repeat' (first | (with_reducible assumption) | (with_reducible refine below_setRowN ?_ ?_ _) | (with_reducible refine Below.setCell ?_ ?_ _) | (with_reducible refine below_drewN' ?_ _) | (with_reducible refine Below.drew ?_) | (with_reducible refine Below.alloc ?_ ?_ _) | (with_reducible exact Below.refl _ _) | (with_reducible exact Nat.le_refl _) | (simp; done) | omega | (simp; omega))
                      · first | (simp; done) | (simp; omega) | omega
                      · first | (simp; done) | (simp; omega) | omega
                    · first | (simp; done) | (simp; omega) | omega
                    · first | (simp; done) | (simp; omega) | omega
                  exact AllReadyH.nil
                exact AllReadyH.nil
              exact AllReadyH.nil
            exact AllReadyH.nil
          refine AllReadyH.cons rfl (fun K hK => ?_) ?_
          · go_simp
            refine hK.out _ _ ?_ (fun hHeld1 => ?_)
            · (try dsimp only); exact HX.out _ (by repeat' (first | (with_reducible assumption) | (with_reducible refine below_setRowN ?_ ?_ _) | (with_reducible refine Below.setCell ?_ ?_ _) | (with_reducible refine below_drewN' ?_ _) | (with_reducible refine Below.drew ?_) | (with_reducible refine Below.alloc ?_ ?_ _) | (with_reducible exact Below.refl _ _) | (with_reducible exact Nat.le_refl _) | (simp; done) | omega | (simp; omega)))
            clear hK K hHeld0
            (try simp only [Act.put, List.setIfInBounds_toArray, List.set_cons_zero, List.set_cons_succ, List.getElem_toArray, List.getElem_cons_zero, List.getElem_cons_succ])
            refine wpAnyH_ready (rs := [5, 10]) (by kernel_rfl) (by simp) ?_
            refine AllReadyH.cons rfl (fun K hK => ?_) ?_
            · (go_simp; go_at_call 20; (with_reducible refine (FR.out _ _ (HR4.out.fresh (by repeat' (first | (with_reducible assumption) | (with_reducible refine below_setRowN ?_ ?_ _) | (with_reducible refine Below.setCell ?_ ?_ _) | (with_reducible refine below_drewN' ?_ _) | (with_reducible refine Below.drew ?_) | (with_reducible refine Below.alloc ?_ ?_ _) | (with_reducible exact Below.refl _ _) | (with_reducible exact Nat.le_refl _) | (simp; done) | omega | (simp; omega)))) (fr_lt (by repeat' (first | (with_reducible assumption) | (with_reducible refine below_setRowN ?_ ?_ _) | (with_reducible refine Below.setCell ?_ ?_ _) | (with_reducible refine below_drewN' ?_ _) | (with_reducible refine Below.drew ?_) | (with_reducible refine Below.alloc ?_ ?_ _) | (with_reducible exact Below.refl _ _) | (with_reducible exact Nat.le_refl _) | (simp; done) | omega | (simp; omega))) HS4.out)).mono ?_); rintro e w5 ⟨r2, rfl, hR5, hb5⟩; have hcur : Below w4.heap.size w4 w5 := (Below.trans (by repeat' (first | (with_reducible assumption) | (with_reducible refine below_setRowN ?_ ?_ _) | (with_reducible refine Below.setCell ?_ ?_ _) | (with_reducible refine below_drewN' ?_ _) | (with_reducible refine Below.drew ?_) | (with_reducible refine Below.alloc ?_ ?_ _) | (with_reducible exact Below.refl _ _) | (with_reducible exact Nat.le_refl _) | (simp; done) | omega | (simp; omega))) (hb5.mono (by first | (simp; done) | omega | (simp; omega)))); have hcs := hcur.size; have hcs5 := hb5.size; (try simp at hcs5); have HR5 := Lib.hid hR5; clear hR5)
              refine hK.out _ _ ?_ (fun hHeld2 => ?_)
              · (try dsimp only); exact HX.out _ (by repeat' (first | (with_reducible assumption) | (with_reducible refine below_setRowN ?_ ?_ _) | (with_reducible refine Below.setCell ?_ ?_ _) | (with_reducible refine below_drewN' ?_ _) | (with_reducible refine Below.drew ?_) | (with_reducible refine Below.alloc ?_ ?_ _) | (with_reducible exact Below.refl _ _) | (with_reducible exact Nat.le_refl _) | (simp; done) | omega | (simp; omega)))
              clear hK K hHeld1
              (try simp only [Act.put, List.setIfInBounds_toArray, List.set_cons_zero, List.set_cons_succ, List.getElem_toArray, List.getElem_cons_zero, List.getElem_cons_succ])
              refine wpAnyH_take (i := 6) (v := ?_) rfl (by kernel_rfl) (by kernel_rfl) (by kernel_rfl) (fun _ _ _ h => h) (Or.inl ⟨by rfl, ?_⟩) (by assumption) ?_
              rotate_left
              · (intro w hSw; (try dsimp only at hSw); go_simp; try with_reducible rfl)
              (try simp only [Act.put, List.setIfInBounds_toArray, List.set_cons_zero, List.set_cons_succ, List.getElem_toArray, List.getElem_cons_zero, List.getElem_cons_succ])
              refine wpAnyH_take (i := 7) (v := ?_) rfl (by kernel_rfl) (by kernel_rfl) (by kernel_rfl) (fun _ _ _ h => h) (Or.inl ⟨by rfl, ?_⟩) (by assumption) ?_
              rotate_left
              · (intro w hSw; (try dsimp only at hSw); go_simp; try with_reducible rfl)
              (try simp only [Act.put, List.setIfInBounds_toArray, List.set_cons_zero, List.set_cons_succ, List.getElem_toArray, List.getElem_cons_zero, List.getElem_cons_succ])
              refine wpAnyH_take (i := 8) (v := ?_) rfl (by kernel_rfl) (by kernel_rfl) (by kernel_rfl) (fun _ _ _ h => h) (Or.inl ⟨by rfl, ?_⟩) (by assumption) ?_
              rotate_left
              · (intro w hSw; (try dsimp only at hSw); go_simp; try with_reducible rfl)
              (try simp only [Act.put, List.setIfInBounds_toArray, List.set_cons_zero, List.set_cons_succ, List.getElem_toArray, List.getElem_cons_zero, List.getElem_cons_succ])
              refine wpAnyH_take (i := 9) (v := ?_) rfl (by kernel_rfl) (by kernel_rfl) (by kernel_rfl) (fun _ _ _ h => h) (Or.inl ⟨by rfl, ?_⟩) (by assumption) ?_
              rotate_left
              · (intro w hSw; (try dsimp only at hSw); go_simp; try with_reducible rfl)
              (try simp only [Act.put, List.setIfInBounds_toArray, List.set_cons_zero, List.set_cons_succ, List.getElem_toArray, List.getElem_cons_zero, List.getElem_cons_succ])
              refine wpAnyH_ready (rs := [10]) (by kernel_rfl) (by simp) ?_
              refine AllReadyH.cons rfl (fun K hK => ?_) ?_
              · go_simp
                refine hK.out _ _ ?_ (fun hHeld3 => ?_)
                · (try dsimp only); exact HX.out _ (by repeat' (first | (with_reducible assumption) | (with_reducible refine below_setRowN ?_ ?_ _) | (with_reducible refine Below.setCell ?_ ?_ _) | (with_reducible refine below_drewN' ?_ _) | (with_reducible refine Below.drew ?_) | (with_reducible refine Below.alloc ?_ ?_ _) | (with_reducible exact Below.refl _ _) | (with_reducible exact Nat.le_refl _) | (simp; done) | omega | (simp; omega)))
                clear hK K hHeld2
                (try simp only [Act.put, List.setIfInBounds_toArray, List.set_cons_zero, List.set_cons_succ, List.getElem_toArray, List.getElem_cons_zero, List.getElem_cons_succ])
                refine wpAnyH_ready (rs := [12]) (by kernel_rfl) (by simp) ?_
                refine AllReadyH.cons rfl (fun K hK => ?_) ?_
                · (rw [if_pos (by rfl)]; refine wp_store_row 30 _ _ (by rfl) _ _ (by rfl) (by rfl) 30 #[.int .i64 0, .int .i64 0, .int .i64 0, .slice none 0 0, .slice none 0 0, .slice none 0 0, .slice none 0 0] (by repeat' (first | (with_reducible refine drew_at ?_) | (with_reducible refine setRow_off ?_ ?_ _) | (with_reducible exact setRow_at (by assumption) _) | (with_reducible exact alloc_new _) | (with_reducible refine alloc_at _ _ (by simp; done)) | (with_reducible refine alloc_old ?_ _) | (with_reducible refine Below.at hb5 ?_ ?_) | (simp; done) | (simp; omega) | omega)) (by kernel_rfl) (by rfl) (by first | (simp; done) | simp [Value.oneCell']) ?_)
                  refine hK.out _ _ ?_ (fun hHeld4 => ?_)
                  · (try dsimp only); exact HX.out _ (by repeat' (first | (with_reducible assumption) | (with_reducible refine below_setRowN ?_ ?_ _) | (with_reducible refine Below.setCell ?_ ?_ _) | (with_reducible refine below_drewN' ?_ _) | (with_reducible refine Below.drew ?_) | (with_reducible refine Below.alloc ?_ ?_ _) | (with_reducible exact Below.refl _ _) | (with_reducible exact Nat.le_refl _) | (simp; done) | omega | (simp; omega)))
                  clear hK K hHeld3
                  (try simp only [Act.put, List.setIfInBounds_toArray, List.set_cons_zero, List.set_cons_succ, List.getElem_toArray, List.getElem_cons_zero, List.getElem_cons_succ])
                  refine wpAnyH_ready (rs := [13]) (by kernel_rfl) (by simp) ?_
                  refine AllReadyH.cons rfl (fun K hK => ?_) ?_
                  · (rw [if_pos (by rfl)]; refine wp_store_row 35 _ _ (by rfl) _ _ (by rfl) (by rfl) 35 #[.int .i64 0, .int .u64 0] (by repeat' (first | (with_reducible refine drew_at ?_) | (with_reducible refine setRow_off ?_ ?_ _) | (with_reducible exact setRow_at (by assumption) _) | (with_reducible exact alloc_new _) | (with_reducible refine alloc_at _ _ (by simp; done)) | (with_reducible refine alloc_old ?_ _) | (with_reducible refine Below.at hb5 ?_ ?_) | (simp; done) | (simp; omega) | omega)) (by kernel_rfl) (by rfl) (by first | (simp; done) | simp [Value.oneCell']) ?_)
                    refine hK.out _ _ ?_ (fun hHeld5 => ?_)
                    · (try dsimp only); exact HX.out _ (by repeat' (first | (with_reducible assumption) | (with_reducible refine below_setRowN ?_ ?_ _) | (with_reducible refine Below.setCell ?_ ?_ _) | (with_reducible refine below_drewN' ?_ _) | (with_reducible refine Below.drew ?_) | (with_reducible refine Below.alloc ?_ ?_ _) | (with_reducible exact Below.refl _ _) | (with_reducible exact Nat.le_refl _) | (simp; done) | omega | (simp; omega)))
                    clear hK K hHeld4
                    (try simp only [Act.put, List.setIfInBounds_toArray, List.set_cons_zero, List.set_cons_succ, List.getElem_toArray, List.getElem_cons_zero, List.getElem_cons_succ])
                    refine wpAnyH_take (i := 14) (v := ?_) rfl (by kernel_rfl) (by kernel_rfl) (by kernel_rfl) (fun _ _ _ h => h) (Or.inl ⟨by rfl, ?_⟩) (by assumption) ?_
                    rotate_left
                    · (intro w hSw; (try dsimp only at hSw); go_simp; try with_reducible rfl)
                    (try simp only [Act.put, List.setIfInBounds_toArray, List.set_cons_zero, List.set_cons_succ, List.getElem_toArray, List.getElem_cons_zero, List.getElem_cons_succ])
                    refine wpAnyH_done (by kernel_rfl) ?_ _
                    go_wp2
                    go_meet
                    have hR5 := HR5.out
                    refine ⟨_, _, r2, rfl, rfl, rfl, ?_, ?_, ?_, ?_, ?_, by repeat' (first | (with_reducible assumption) | (with_reducible refine below_setRowN ?_ ?_ _) | (with_reducible refine Below.setCell ?_ ?_ _) | (with_reducible refine below_drewN' ?_ _) | (with_reducible refine Below.drew ?_) | (with_reducible refine Below.alloc ?_ ?_ _) | (with_reducible exact Below.refl _ _) | (with_reducible exact Nat.le_refl _) | (simp; done) | omega | (simp; omega))⟩
                    · refine setRow_off (setRow_at (old := #[.int .i64 0, .int .i64 0, .int .i64 0, .slice none 0 0, .slice none 0 0, .slice none 0 0, .slice none 0 0]) ?_ _) ?_ _
                      · repeat' (first | (with_reducible refine drew_at ?_) | (with_reducible refine setRow_off ?_ ?_ _) | (with_reducible exact setRow_at (by assumption) _) | (with_reducible exact alloc_new _) | (with_reducible refine alloc_at _ _ (by simp; done)) | (with_reducible refine alloc_old ?_ _) | (with_reducible refine Below.at hb5 ?_ ?_) | (simp; done) | (simp; omega) | omega)
                      · repeat' (first | (with_reducible refine drew_at ?_) | (with_reducible refine setRow_off ?_ ?_ _) | (with_reducible exact setRow_at (by assumption) _) | (with_reducible exact alloc_new _) | (with_reducible refine alloc_at _ _ (by simp; done)) | (with_reducible refine alloc_old ?_ _) | (with_reducible refine Below.at hb5 ?_ ?_) | (simp; done) | (simp; omega) | omega)
                    · refine setRow_at (old := #[.int .i64 0, .int .u64 0]) ?_ _
                      repeat' (first | (with_reducible refine drew_at ?_) | (with_reducible refine setRow_off ?_ ?_ _) | (with_reducible exact setRow_at (by assumption) _) | (with_reducible exact alloc_new _) | (with_reducible refine alloc_at _ _ (by simp; done)) | (with_reducible refine alloc_old ?_ _) | (with_reducible refine Below.at hb5 ?_ ?_) | (simp; done) | (simp; omega) | omega)
                    · refine hR5.fin ?_ ?_ ?_ ?_
                      · first | (simp; done) | (simp; omega) | omega
                      · repeat' (first | (with_reducible assumption) | (with_reducible refine below_setRowN ?_ ?_ _) | (with_reducible refine Below.setCell ?_ ?_ _) | (with_reducible refine below_drewN' ?_ _) | (with_reducible refine Below.drew ?_) | (with_reducible refine Below.alloc ?_ ?_ _) | (with_reducible exact Below.refl _ _) | (with_reducible exact Nat.le_refl _) | (simp; done) | omega | (simp; omega))
                      · first | (simp; done) | (simp; omega) | omega
                      · first | (simp; done) | (simp; omega) | omega
                    · first | (simp; done) | (simp; omega) | omega
                    · first | (simp; done) | (simp; omega) | omega
                  exact AllReadyH.nil
                exact AllReadyH.nil
              exact AllReadyH.nil
            refine AllReadyH.cons rfl (fun K hK => ?_) ?_
            · go_simp
              refine hK.out _ _ ?_ (fun hHeld2 => ?_)
              · (try dsimp only); exact HX.out _ (by repeat' (first | (with_reducible assumption) | (with_reducible refine below_setRowN ?_ ?_ _) | (with_reducible refine Below.setCell ?_ ?_ _) | (with_reducible refine below_drewN' ?_ _) | (with_reducible refine Below.drew ?_) | (with_reducible refine Below.alloc ?_ ?_ _) | (with_reducible exact Below.refl _ _) | (with_reducible exact Nat.le_refl _) | (simp; done) | omega | (simp; omega)))
              clear hK K hHeld1
              (try simp only [Act.put, List.setIfInBounds_toArray, List.set_cons_zero, List.set_cons_succ, List.getElem_toArray, List.getElem_cons_zero, List.getElem_cons_succ])
              refine wpAnyH_ready (rs := [5]) (by kernel_rfl) (by simp) ?_
              refine AllReadyH.cons rfl (fun K hK => ?_) ?_
              · (go_simp; go_at_call 20; (with_reducible refine (FR.out _ _ (HR4.out.fresh (by repeat' (first | (with_reducible assumption) | (with_reducible refine below_setRowN ?_ ?_ _) | (with_reducible refine Below.setCell ?_ ?_ _) | (with_reducible refine below_drewN' ?_ _) | (with_reducible refine Below.drew ?_) | (with_reducible refine Below.alloc ?_ ?_ _) | (with_reducible exact Below.refl _ _) | (with_reducible exact Nat.le_refl _) | (simp; done) | omega | (simp; omega)))) (fr_lt (by repeat' (first | (with_reducible assumption) | (with_reducible refine below_setRowN ?_ ?_ _) | (with_reducible refine Below.setCell ?_ ?_ _) | (with_reducible refine below_drewN' ?_ _) | (with_reducible refine Below.drew ?_) | (with_reducible refine Below.alloc ?_ ?_ _) | (with_reducible exact Below.refl _ _) | (with_reducible exact Nat.le_refl _) | (simp; done) | omega | (simp; omega))) HS4.out)).mono ?_); rintro e w5 ⟨r2, rfl, hR5, hb5⟩; have hcur : Below w4.heap.size w4 w5 := (Below.trans (by repeat' (first | (with_reducible assumption) | (with_reducible refine below_setRowN ?_ ?_ _) | (with_reducible refine Below.setCell ?_ ?_ _) | (with_reducible refine below_drewN' ?_ _) | (with_reducible refine Below.drew ?_) | (with_reducible refine Below.alloc ?_ ?_ _) | (with_reducible exact Below.refl _ _) | (with_reducible exact Nat.le_refl _) | (simp; done) | omega | (simp; omega))) (hb5.mono (by first | (simp; done) | omega | (simp; omega)))); have hcs := hcur.size; have hcs5 := hb5.size; (try simp at hcs5); have HR5 := Lib.hid hR5; clear hR5)
                refine hK.out _ _ ?_ (fun hHeld3 => ?_)
                · (try dsimp only); exact HX.out _ (by repeat' (first | (with_reducible assumption) | (with_reducible refine below_setRowN ?_ ?_ _) | (with_reducible refine Below.setCell ?_ ?_ _) | (with_reducible refine below_drewN' ?_ _) | (with_reducible refine Below.drew ?_) | (with_reducible refine Below.alloc ?_ ?_ _) | (with_reducible exact Below.refl _ _) | (with_reducible exact Nat.le_refl _) | (simp; done) | omega | (simp; omega)))
                clear hK K hHeld2
                (try simp only [Act.put, List.setIfInBounds_toArray, List.set_cons_zero, List.set_cons_succ, List.getElem_toArray, List.getElem_cons_zero, List.getElem_cons_succ])
                refine wpAnyH_take (i := 6) (v := ?_) rfl (by kernel_rfl) (by kernel_rfl) (by kernel_rfl) (fun _ _ _ h => h) (Or.inl ⟨by rfl, ?_⟩) (by assumption) ?_
                rotate_left
                · (intro w hSw; (try dsimp only at hSw); go_simp; try with_reducible rfl)
                (try simp only [Act.put, List.setIfInBounds_toArray, List.set_cons_zero, List.set_cons_succ, List.getElem_toArray, List.getElem_cons_zero, List.getElem_cons_succ])
                refine wpAnyH_take (i := 7) (v := ?_) rfl (by kernel_rfl) (by kernel_rfl) (by kernel_rfl) (fun _ _ _ h => h) (Or.inl ⟨by rfl, ?_⟩) (by assumption) ?_
                rotate_left
                · (intro w hSw; (try dsimp only at hSw); go_simp; try with_reducible rfl)
                (try simp only [Act.put, List.setIfInBounds_toArray, List.set_cons_zero, List.set_cons_succ, List.getElem_toArray, List.getElem_cons_zero, List.getElem_cons_succ])
                refine wpAnyH_take (i := 8) (v := ?_) rfl (by kernel_rfl) (by kernel_rfl) (by kernel_rfl) (fun _ _ _ h => h) (Or.inl ⟨by rfl, ?_⟩) (by assumption) ?_
                rotate_left
                · (intro w hSw; (try dsimp only at hSw); go_simp; try with_reducible rfl)
                (try simp only [Act.put, List.setIfInBounds_toArray, List.set_cons_zero, List.set_cons_succ, List.getElem_toArray, List.getElem_cons_zero, List.getElem_cons_succ])
                refine wpAnyH_take (i := 9) (v := ?_) rfl (by kernel_rfl) (by kernel_rfl) (by kernel_rfl) (fun _ _ _ h => h) (Or.inl ⟨by rfl, ?_⟩) (by assumption) ?_
                rotate_left
                · (intro w hSw; (try dsimp only at hSw); go_simp; try with_reducible rfl)
                (try simp only [Act.put, List.setIfInBounds_toArray, List.set_cons_zero, List.set_cons_succ, List.getElem_toArray, List.getElem_cons_zero, List.getElem_cons_succ])
                refine wpAnyH_ready (rs := [12]) (by kernel_rfl) (by simp) ?_
                refine AllReadyH.cons rfl (fun K hK => ?_) ?_
                · (rw [if_pos (by rfl)]; refine wp_store_row 30 _ _ (by rfl) _ _ (by rfl) (by rfl) 30 #[.int .i64 0, .int .i64 0, .int .i64 0, .slice none 0 0, .slice none 0 0, .slice none 0 0, .slice none 0 0] (by repeat' (first | (with_reducible refine drew_at ?_) | (with_reducible refine setRow_off ?_ ?_ _) | (with_reducible exact setRow_at (by assumption) _) | (with_reducible exact alloc_new _) | (with_reducible refine alloc_at _ _ (by simp; done)) | (with_reducible refine alloc_old ?_ _) | (with_reducible refine Below.at hb5 ?_ ?_) | (simp; done) | (simp; omega) | omega)) (by kernel_rfl) (by rfl) (by first | (simp; done) | simp [Value.oneCell']) ?_)
                  refine hK.out _ _ ?_ (fun hHeld4 => ?_)
                  · (try dsimp only); exact HX.out _ (by repeat' (first | (with_reducible assumption) | (with_reducible refine below_setRowN ?_ ?_ _) | (with_reducible refine Below.setCell ?_ ?_ _) | (with_reducible refine below_drewN' ?_ _) | (with_reducible refine Below.drew ?_) | (with_reducible refine Below.alloc ?_ ?_ _) | (with_reducible exact Below.refl _ _) | (with_reducible exact Nat.le_refl _) | (simp; done) | omega | (simp; omega)))
                  clear hK K hHeld3
                  (try simp only [Act.put, List.setIfInBounds_toArray, List.set_cons_zero, List.set_cons_succ, List.getElem_toArray, List.getElem_cons_zero, List.getElem_cons_succ])
                  refine wpAnyH_ready (rs := [13]) (by kernel_rfl) (by simp) ?_
                  refine AllReadyH.cons rfl (fun K hK => ?_) ?_
                  · (rw [if_pos (by rfl)]; refine wp_store_row 35 _ _ (by rfl) _ _ (by rfl) (by rfl) 35 #[.int .i64 0, .int .u64 0] (by repeat' (first | (with_reducible refine drew_at ?_) | (with_reducible refine setRow_off ?_ ?_ _) | (with_reducible exact setRow_at (by assumption) _) | (with_reducible exact alloc_new _) | (with_reducible refine alloc_at _ _ (by simp; done)) | (with_reducible refine alloc_old ?_ _) | (with_reducible refine Below.at hb5 ?_ ?_) | (simp; done) | (simp; omega) | omega)) (by kernel_rfl) (by rfl) (by first | (simp; done) | simp [Value.oneCell']) ?_)
                    refine hK.out _ _ ?_ (fun hHeld5 => ?_)
                    · (try dsimp only); exact HX.out _ (by repeat' (first | (with_reducible assumption) | (with_reducible refine below_setRowN ?_ ?_ _) | (with_reducible refine Below.setCell ?_ ?_ _) | (with_reducible refine below_drewN' ?_ _) | (with_reducible refine Below.drew ?_) | (with_reducible refine Below.alloc ?_ ?_ _) | (with_reducible exact Below.refl _ _) | (with_reducible exact Nat.le_refl _) | (simp; done) | omega | (simp; omega)))
                    clear hK K hHeld4
                    (try simp only [Act.put, List.setIfInBounds_toArray, List.set_cons_zero, List.set_cons_succ, List.getElem_toArray, List.getElem_cons_zero, List.getElem_cons_succ])
                    refine wpAnyH_take (i := 14) (v := ?_) rfl (by kernel_rfl) (by kernel_rfl) (by kernel_rfl) (fun _ _ _ h => h) (Or.inl ⟨by rfl, ?_⟩) (by assumption) ?_
                    rotate_left
                    · (intro w hSw; (try dsimp only at hSw); go_simp; try with_reducible rfl)
                    (try simp only [Act.put, List.setIfInBounds_toArray, List.set_cons_zero, List.set_cons_succ, List.getElem_toArray, List.getElem_cons_zero, List.getElem_cons_succ])
                    refine wpAnyH_done (by kernel_rfl) ?_ _
                    go_wp2
                    go_meet
                    have hR5 := HR5.out
                    refine ⟨_, _, r2, rfl, rfl, rfl, ?_, ?_, ?_, ?_, ?_, by repeat' (first | (with_reducible assumption) | (with_reducible refine below_setRowN ?_ ?_ _) | (with_reducible refine Below.setCell ?_ ?_ _) | (with_reducible refine below_drewN' ?_ _) | (with_reducible refine Below.drew ?_) | (with_reducible refine Below.alloc ?_ ?_ _) | (with_reducible exact Below.refl _ _) | (with_reducible exact Nat.le_refl _) | (simp; done) | omega | (simp; omega))⟩
                    · refine setRow_off (setRow_at (old := #[.int .i64 0, .int .i64 0, .int .i64 0, .slice none 0 0, .slice none 0 0, .slice none 0 0, .slice none 0 0]) ?_ _) ?_ _
                      · repeat' (first | (with_reducible refine drew_at ?_) | (with_reducible refine setRow_off ?_ ?_ _) | (with_reducible exact setRow_at (by assumption) _) | (with_reducible exact alloc_new _) | (with_reducible refine alloc_at _ _ (by simp; done)) | (with_reducible refine alloc_old ?_ _) | (with_reducible refine Below.at hb5 ?_ ?_) | (simp; done) | (simp; omega) | omega)
                      · repeat' (first | (with_reducible refine drew_at ?_) | (with_reducible refine setRow_off ?_ ?_ _) | (with_reducible exact setRow_at (by assumption) _) | (with_reducible exact alloc_new _) | (with_reducible refine alloc_at _ _ (by simp; done)) | (with_reducible refine alloc_old ?_ _) | (with_reducible refine Below.at hb5 ?_ ?_) | (simp; done) | (simp; omega) | omega)
                    · refine setRow_at (old := #[.int .i64 0, .int .u64 0]) ?_ _
                      repeat' (first | (with_reducible refine drew_at ?_) | (with_reducible refine setRow_off ?_ ?_ _) | (with_reducible exact setRow_at (by assumption) _) | (with_reducible exact alloc_new _) | (with_reducible refine alloc_at _ _ (by simp; done)) | (with_reducible refine alloc_old ?_ _) | (with_reducible refine Below.at hb5 ?_ ?_) | (simp; done) | (simp; omega) | omega)
                    · refine hR5.fin ?_ ?_ ?_ ?_
                      · first | (simp; done) | (simp; omega) | omega
                      · repeat' (first | (with_reducible assumption) | (with_reducible refine below_setRowN ?_ ?_ _) | (with_reducible refine Below.setCell ?_ ?_ _) | (with_reducible refine below_drewN' ?_ _) | (with_reducible refine Below.drew ?_) | (with_reducible refine Below.alloc ?_ ?_ _) | (with_reducible exact Below.refl _ _) | (with_reducible exact Nat.le_refl _) | (simp; done) | omega | (simp; omega))
                      · first | (simp; done) | (simp; omega) | omega
                      · first | (simp; done) | (simp; omega) | omega
                    · first | (simp; done) | (simp; omega) | omega
                    · first | (simp; done) | (simp; omega) | omega
                  exact AllReadyH.nil
                exact AllReadyH.nil
              exact AllReadyH.nil
            exact AllReadyH.nil
          exact AllReadyH.nil
        case rest =>
        obtain ⟨n, d, r2, rfl, rfl, rfl, hN, hD, hR2, hn4, hd4, hb5⟩ := hcut
        have hG5 := Below.at hb5 HG4.out hg4
        have hA5 := Below.at hb5 HA.out hn3
        have hB5 : Below w.heap.size w wc := HB4.out.trans (hb5.mono HB4.out.size)
        have hK5 : LinkAt wc b B s2 := HK4.out.below hb5
        have fN := fun j => cell_at hN j
        have fG := fun j => cell_at hG5 j
        have uG := fun j => frozen_at hG5 j
        have hgl := block_lt hG5
        have hng : n ≠ g := by omega
        have hdg : d ≠ g := by omega
        have hag : w3.heap.size ≠ g := fun e => by
          have h1 := HA.out; have h2 := HG4.out
          rw [e] at h1; rw [h1] at h2; simp at h2
        have HG5 := Lib.hid hG5
        have HA5 := Lib.hid hA5
        have HB5 := Lib.hid hB5
        have HK5 := Lib.hid hK5
        have HD5 := Lib.hid hD
        have HR5 := Lib.hid hR2
        clear hG5 hA5 hB5 hK5 hD hR2 hN HG4 HA HB4 HK4 HR4 HS4 HX FR hb5 hn4 hd4
        go_upto_region 10 with (fail)
        go_cut [] (fun wx => LinkAt wx b B s2 ∧ wx.heap[g]? = some (.cells #[.int .i64 (s2.lanes : Int), .int .i64 (s2.depth : Int), .int .i64 (s2.size : Int), .slice r2.a1 s2.cr.length r2.c1, .slice r2.a2 s2.wd.length r2.c2, .slice r2.a3 s2.fa.length r2.c3, .slice r2.a4 s2.bk.length r2.c4] 30 (0, 0)) ∧ RL wx s2 r2 (g :: B) ∧ wx.heap[d]? = some (.cells #[.int .i64 e1, .int .u64 e2] 35 (0, 0)) ∧ wx.heap[w3.heap.size]? = some (.cells #[.int .i64 e1, .int .u64 e2] 35 (0, 0)) ∧ Below w.heap.size w wx)
        case first =>
          go_wp2
          go_meet
          have hB := HB5.out
          exact ⟨HK5.out.only (S := [g]) (by repeat' (first | (with_reducible assumption) | (with_reducible refine only_setRowN ?_ ?_ _) | (with_reducible exact Only.refl _ _) | (with_reducible refine Only.setCell ?_ ?_ _) | (with_reducible refine Only.drewN ?_ _) | (with_reducible refine Only.drew ?_) | (with_reducible refine Only.alloc ?_ _) | (simp; done) | (simp; omega))) (fun k hk => by rw [List.mem_singleton]; exact fun e => HgB.out (e ▸ hk)), stored7 HG5.out, HR5.out.onlyT (T := [g]) (by repeat' (first | (with_reducible assumption) | (with_reducible refine only_setRowN ?_ ?_ _) | (with_reducible exact Only.refl _ _) | (with_reducible refine Only.setCell ?_ ?_ _) | (with_reducible refine Only.drewN ?_ _) | (with_reducible refine Only.drew ?_) | (with_reducible refine Only.alloc ?_ _) | (simp; done) | (simp; omega))) (fun x hx => by rw [List.mem_singleton.1 hx]; exact List.mem_cons_self ..), set_other (set_other (set_other (set_other (set_other (set_other (set_other HD5.out hdg _ _) hdg _ _) hdg _ _) hdg _ _) hdg _ _) hdg _ _) hdg _ _, set_other (set_other (set_other (set_other (set_other (set_other (set_other HA5.out hag _ _) hag _ _) hag _ _) hag _ _) hag _ _) hag _ _) hag _ _, by repeat' (first | (with_reducible assumption) | (with_reducible refine below_setRowN ?_ ?_ _) | (with_reducible refine Below.setCell ?_ ?_ _) | (with_reducible refine below_drewN' ?_ _) | (with_reducible refine Below.drew ?_) | (with_reducible refine Below.alloc ?_ ?_ _) | (with_reducible exact Below.refl _ _) | (with_reducible exact Nat.le_refl _) | (simp; done) | omega | (simp; omega))⟩
        case rest =>
        obtain ⟨hK, hG, hR, hD, hA, hB⟩ := hcut
        obtain ⟨w6, rfl⟩ : ∃ x : World, x = wc := ⟨_, rfl⟩
        have HCL := Lib.hid hR.ok.crl
        have hL8 := hR.ok.l8
        have fD := fun j => cell_at hD j
        have fA := fun j => cell_at hA j
        have HKp := Lib.hid (fun p : In (Aft w6) => hK.below p.h)
        have HRp := Lib.hid (fun p : In (Aft w6) => hR.below p.h)
        have fGp := aft_cells hG
        have HK6 := Lib.hid hK
        have HG6 := Lib.hid hG
        have HR6 := Lib.hid hR
        have HB6 := Lib.hid hB
        clear hK hG hR hD hA hB fN fG uG hgl hng hdg hag HG5 HA5 HB5 HK5 HD5 HR5
        go_wp2
        clear fD fA
        go_loopw [13] (fun v13 wr => ∃ k : Int, -1 ≤ k ∧ k ≤ (s2.lanes : Int) + 1 ∧ v13 = .int .i64 k ∧ Aft w6 wr) (fun v13 _ => ((s2.lanes : Int) + 1 - intOf v13).toNat)
        case atStart => exact ⟨-1, by omega, by omega, rfl, Below.refl _ _⟩
        case round =>
          obtain ⟨k, hk1, hk2, rfl, hw⟩ := hrel
          obtain ⟨p1, rfl⟩ := toIn hw
          by_cases hkl : k ≤ (s2.lanes : Int)
          · have G1 := fun w h => link_credits w b B s2 k h
            have G2 := fun w h => link_far w b B s2 k h
            have G3 := fun w h => link_flying w b B s2 k h
            have G4 := fun w h => link_coming w b B s2 k h
            have G5 := fun w h => link_may w b B s2 k h
            have R1 : ∀ w, RL w s2 r2 (g :: B) → Calls Try.prog 22 #[.agg #[.int .i64 (s2.lanes : Int), .int .i64 (s2.depth : Int), .int .i64 (s2.size : Int), .slice r2.a1 s2.cr.length r2.c1, .slice r2.a2 s2.wd.length r2.c2, .slice r2.a3 s2.fa.length r2.c3, .slice r2.a4 s2.bk.length r2.c4], .slice r2.a1 s2.cr.length r2.c1, .int .i64 k] w fun e w' => e = .returned (.int .i64 ((s2.crI k : Nat) : Int)) ∧ Below w.heap.size w w' := fun w h => ref_has w s2 r2 r2.a1 r2.c1 s2.cr k _ h.r1 h.ok.crl
            have R2 : ∀ w, RL w s2 r2 (g :: B) → Calls Try.prog 22 #[.agg #[.int .i64 (s2.lanes : Int), .int .i64 (s2.depth : Int), .int .i64 (s2.size : Int), .slice r2.a1 s2.cr.length r2.c1, .slice r2.a2 s2.wd.length r2.c2, .slice r2.a3 s2.fa.length r2.c3, .slice r2.a4 s2.bk.length r2.c4], .slice r2.a3 s2.fa.length r2.c3, .int .i64 k] w fun e w' => e = .returned (.int .i64 ((s2.faI k : Nat) : Int)) ∧ Below w.heap.size w w' := fun w h => ref_has w s2 r2 r2.a3 r2.c3 s2.fa k _ h.r3 h.ok.fal
            have R3 : ∀ w, RL w s2 r2 (g :: B) → Calls Try.prog 25 #[.agg #[.int .i64 (s2.lanes : Int), .int .i64 (s2.depth : Int), .int .i64 (s2.size : Int), .slice r2.a1 s2.cr.length r2.c1, .slice r2.a2 s2.wd.length r2.c2, .slice r2.a3 s2.fa.length r2.c3, .slice r2.a4 s2.bk.length r2.c4], .int .i64 k] w fun e w' => e = .returned (.int .i64 ((s2.flyI k : Nat) : Int)) ∧ Below w.heap.size w w' := fun w h => by rw [flyI_eq h.ok]; exact ref_flying w s2 r2 k _ h
            have R4 : ∀ w, RL w s2 r2 (g :: B) → Calls Try.prog 27 #[.agg #[.int .i64 (s2.lanes : Int), .int .i64 (s2.depth : Int), .int .i64 (s2.size : Int), .slice r2.a1 s2.cr.length r2.c1, .slice r2.a2 s2.wd.length r2.c2, .slice r2.a3 s2.fa.length r2.c3, .slice r2.a4 s2.bk.length r2.c4], .int .i64 k] w fun e w' => e = .returned (.int .i64 ((s2.comI k : Nat) : Int)) ∧ Below w.heap.size w w' := fun w h => by rw [comI_eq h.ok]; exact ref_coming w s2 r2 k _ h
            generalize s2.crI k = x1 at *
            generalize s2.faI k = x2 at *
            generalize s2.flyI k = x3 at *
            generalize s2.comI k = x4 at *
            have G1 := Lib.hid G1
            have G2 := Lib.hid G2
            have G3 := Lib.hid G3
            have G4 := Lib.hid G4
            have G5 := Lib.hid G5
            have R1 := Lib.hid R1
            have R2 := Lib.hid R2
            have R3 := Lib.hid R3
            have R4 := Lib.hid R4
            go_upto_region 16 with (fail)
            go_cut [14] (fun v14 wx => v14 = .bool (s2.may k) ∧ Aft w6 wx)
            case first =>
              by_cases hk0 : k < 0
              · have e : s2.may k = false := by
                  have : s2.is k = false := by rw [Bool.eq_false_iff]; intro h; rw [LS.is_iff] at h; omega
                  unfold LS.may; rw [this]; rfl
                have E := Lib.hid e
                clear e
                go_wp2
                go_meet
                exact ⟨by rw [E.out], p1.h⟩
              · by_cases hkL : k < (s2.lanes : Int)
                · obtain ⟨i, rfl⟩ := Int.eq_ofNat_of_zero_le (by omega : 0 ≤ k)
                  have hi : i < s2.cr.length := by rw [HCL.out]; omega
                  obtain ⟨blk2, off2, ea, _, hcell⟩ := (HRp.out p1).r1 i (NV (s2.cr.getD i 0)) (by rw [List.getElem?_map, List.getElem?_eq_getElem hi, List.getD_eq_getElem?_getD, List.getElem?_eq_getElem hi]; rfl)
                  have hmx : max (i : Int) 0 = (i : Int) := by omega
                  have hiI : (i : Int) < (s2.cr.length : Int) := by omega
                  have e : s2.may (i : Int) = (decide (0 < s2.cr.getD i 0) && decide (s2.wd.length < s2.size)) := by
                    have : s2.is (i : Int) = true := by rw [LS.is_iff]; omega
                    unfold LS.may; rw [this, Int.toNat_natCast]; rfl
                  generalize s2.cr.getD i 0 = x at *
                  have E := Lib.hid e
                  clear e
                  have fG1 := fGp p1
                  rw [ea] at fG1
                  clear fGp ea
                  by_cases hx : 0 < x
                  · have hxI : (0 : Int) < (x : Int) := by omega
                    by_cases hw : s2.wd.length < s2.size
                    · have hwI : (s2.wd.length : Int) < (s2.size : Int) := by omega
                      go_wp2
                      go_meet
                      exact ⟨by rw [E.out, decide_eq_true hx, decide_eq_true hw]; rfl, p1.h⟩
                    · have hwI : ¬ ((s2.wd.length : Int) < (s2.size : Int)) := by omega
                      go_wp2
                      go_meet
                      exact ⟨by rw [E.out, decide_eq_true hx, decide_eq_false hw]; rfl, p1.h⟩
                  · have hxI : ¬ ((0 : Int) < (x : Int)) := by omega
                    go_wp2
                    go_meet
                    exact ⟨by rw [E.out, decide_eq_false hx]; rfl, p1.h⟩
                · have e : s2.may k = false := by
                    have : s2.is k = false := by rw [Bool.eq_false_iff]; intro h; rw [LS.is_iff] at h; omega
                    unfold LS.may; rw [this]; rfl
                  have E := Lib.hid e
                  clear e
                  go_wp2
                  go_meet
                  exact ⟨by rw [E.out], p1.h⟩
            case rest =>
            obtain ⟨rfl, hw2⟩ := hcut
            clear hw
            obtain ⟨p2, rfl⟩ := toIn hw2
            generalize s2.may k = mb at *
            go_upto_region 17 with (fail)
            refine wp_region_in (Aft w6) (by kernel_rfl) (by kernel_rfl) (Below.drew p2.h) ?_
            repeat (go_big_quiet_step (first
              | (go_at_call 21; exact aft_drew (G1.out _ (HKp.out _)))
              | (go_at_call 23; exact aft_drew (G2.out _ (HKp.out _)))
              | (go_at_call 24; exact aft_calls (G3.out _ (HKp.out _)))
              | (go_at_call 26; exact aft_calls (G4.out _ (HKp.out _)))
              | (go_at_call 28; exact aft_drew (G5.out _ (HKp.out _)))
              | (go_at_call 22; first | with_reducible exact aft_calls (R1.out _ (HRp.out _)) | with_reducible exact aft_calls (R2.out _ (HRp.out _)))
              | (go_at_call 25; exact aft_calls (R3.out _ (HRp.out _)))
              | (go_at_call 27; exact aft_calls (R4.out _ (HRp.out _)))))
            refine wpQuiet_nil ?_
            intro _ hw'
            obtain ⟨p3, rfl⟩ := hw'
            go_wp2
            go_roundw
            case rel => exact ⟨k + 1, by omega, by omega, by go_num, p3.h⟩
            case measure => simp [intOf]; omega
          · have hkI : ¬ (k ≤ (s2.lanes : Int)) := hkl
            go_wp2
            go_roundw
            case rel => exact ⟨m + 1, s2, r2, by omega, by go_num, HKp.out _, aft_at HG6.out _, HRp.out _, HB6.out.trans (p1.h.mono HB6.out.size)⟩
            case measure => simp [intOf]; omega
      · have hmI : ¬ ((m : Int) < (ls.length : Int)) := by omega
        have HBW := Lib.hid hbw
        clear hK hG hR hbw
        go_wp2
        go_ret
        exact ⟨rfl, HBW.out⟩
end Go.Proofs.Ytmehfflomgldeab
