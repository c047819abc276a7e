/- A link's New. -/
import Derived.Test.YtmehfflomgldeabLinkE
import Derived.Test.YtmehfflomgldeabKit2
import Derived.Test.YtmehfflomgldeabTwo
import Derived.Deep.RegionWith
namespace Go.Proofs.Ytmehfflomgldeab
set_option linter.unusedVariables false
open Go.RowKit
theorem drew_at {w : World} {b : Nat} {o : Obj} (h : w.heap[b]? = some o) : w.drew.heap[b]? = some o := h
def clampN (x : Int) (m : Nat) : Nat := (min (max x 1) (m : Int)).toNat
theorem ring_newN (n : Nat) (h1 : 1 ≤ n) (h2 : n ≤ 4096) (w : World) :
    Calls Try.prog 53 #[.int .i64 (n : Int), .int .u32 0] w fun e w' => ∃ b g, e = .returned (.pointer (some ⟨b, 0, none⟩)) ∧ RingAt w' b g (RS.new n 0) ∧ b ≠ g ∧ w.heap.size ≤ b ∧ w.heap.size ≤ g ∧ b < w'.heap.size ∧ g < w'.heap.size ∧ Below w.heap.size w w' := by
  refine (ring_new (n : Int) 0 w (by omega) (by omega)).mono ?_
  rintro e w' ⟨b, g, rfl, hr, hb, hg, hB⟩
  exact ⟨b, g, rfl, hr, hr.ne, hb, hg, hr.lt.1, hr.lt.2, hB⟩
theorem ringC_newN (n : Nat) (h1 : 1 ≤ n) (h2 : n ≤ 4096) (w : World) :
    Calls Try.prog 54 #[.int .i64 (n : Int), .int .u32 0] w fun e w' => ∃ b g, e = .returned (.pointer (some ⟨b, 0, none⟩)) ∧ RingC w' b g (RS.new n 0) ∧ b ≠ g ∧ w.heap.size ≤ b ∧ w.heap.size ≤ g ∧ b < w'.heap.size ∧ g < w'.heap.size ∧ Below w.heap.size w w' := by
  refine (ringC_new n h1 h2 w).mono ?_
  rintro e w' ⟨rfl, hr, _, hB⟩
  exact ⟨_, _, rfl, hr, hr.ne, by omega, by omega, hr.lt.1, hr.lt.2, hB⟩
/-- A link that was just made, its credits not laid yet. -/
structure NewRaw (w0 w : World) (b bb bg wb wg cb fb L LD Z : Nat) : Prop where
  obj : w.heap[b]? = some (.cells #[.pointer (some ⟨bb, 0, none⟩), .pointer (some ⟨wb, 0, none⟩), .slice (some ⟨cb, 0, none⟩) L L, .slice (some ⟨fb, 0, none⟩) L L] 102 (0, 0))
  crs : w.heap[cb]? = some (.cells (Array.replicate L (NV 0)) 3 (0, 0))
  fas : w.heap[fb]? = some (.cells (Array.replicate L (NV 0)) 3 (0, 0))
  back : RingAt w bb bg (RS.new LD 0)
  words : RingC w wb wg (RS.new Z 0)
  nd : [b, bb, bg, wb, wg, cb, fb].Nodup
  ge : ∀ k ∈ [b, bb, bg, wb, wg, cb, fb], w0.heap.size ≤ k
  bel : Below w0.heap.size w0 w
theorem rep_set {m L D : Nat} (h : m < L) : List.replicate (m + 1) D ++ List.replicate (L - (m + 1)) 0 = (List.replicate m D ++ List.replicate (L - m) 0).set m D := by
  obtain ⟨k, hk⟩ : ∃ k, L - m = k + 1 := ⟨L - m - 1, by omega⟩
  rw [hk, show L - (m + 1) = k from by omega, List.set_append_right _ _ (by simp), List.length_replicate, Nat.sub_self, List.replicate_succ (n := k), List.set_cons_zero, List.replicate_succ', List.append_assoc]
  rfl
set_option maxRecDepth 100000 in
set_option maxHeartbeats 4000000 in
theorem link_new (lanes depth size : Int) (w : World) :
    Calls Try.prog 16 #[.int .i64 lanes, .int .i64 depth, .int .i64 size] w fun e w' => ∃ b B, e = .returned (.pointer (some ⟨b, 0, none⟩)) ∧ LinkAt w' b B (LS.new (clampN lanes 8) (clampN depth 64) (clampN size 64)) ∧ (∀ k ∈ B, w.heap.size ≤ k) ∧ Below w.heap.size w w' := by
  obtain ⟨L, hL⟩ : ∃ L : Nat, L = clampN lanes 8 := ⟨_, rfl⟩
  obtain ⟨D, hD⟩ : ∃ D : Nat, D = clampN depth 64 := ⟨_, rfl⟩
  obtain ⟨Z, hZ⟩ : ∃ Z : Nat, Z = clampN size 64 := ⟨_, rfl⟩
  rw [← hL, ← hD, ← hZ]
  unfold clampN at hL hD hZ
  have l1 : min (max lanes 1) 8 = (L : Int) := by omega
  have l2 : min (max depth 1) 64 = (D : Int) := by omega
  have l3 : min (max size 1) 64 = (Z : Int) := by omega
  have b1 : 1 ≤ L := by omega
  have b2 : L ≤ 8 := by omega
  have b3 : 1 ≤ D := by omega
  have b4 : D ≤ 64 := by omega
  have b5 : 1 ≤ Z := by omega
  have b6 : Z ≤ 64 := by omega
  clear hL hD hZ
  have m1 : 1 ≤ L * D := Nat.le_trans (by decide) (Nat.mul_le_mul b1 b3)
  have m2 : L * D ≤ 512 := Nat.le_trans (Nat.mul_le_mul b2 b4) (by decide)
  have HM : Hid (IntKind.i64.wrap ((L : Int) * (D : Int)) = ((L * D : Nat) : Int)) := by
    unfold Hid
    have e : (L : Int) * (D : Int) = ((L * D : Nat) : Int) := by simp
    rw [e]
    exact IntWalk.i64_in _ (by omega)
  have hm := HM.out
  have H1 := Lib.hid (fun w => ring_newN (L * D) m1 (by omega) w)
  have H2 := Lib.hid (fun w => ringC_newN Z b5 (by omega) w)
  have HOK := Lib.hid (LS.new_ok (lanes := L) (depth := D) (size := Z) b1 b2 b3 b4 b5 b6)
  have hLDe : ∃ LD, LD = L * D := ⟨_, rfl⟩
  obtain ⟨LD, hLD⟩ := hLDe
  rw [← hLD] at m1 m2 H1 hm
  have HLD := Lib.hid hLD
  clear hLD HM
  go_enter Try.func16, Try.ntmps16
  go_upto_region 2 with (fail)
  have hz0 : madeCells (Value.int .i64 0).cells L = ((List.replicate L 0).map NV).toArray := by
    have := made_ints L
    rw [Nat.mul_one] at this
    rw [this]
    simp
  have hmk : ∀ w, (Instr.makeSlice 27 (.int .i64 (L : Int)) (.int .i64 (L : Int))).run Try.prog w = .ok (.slice (some ⟨w.heap.size, 0, none⟩) L L) (w.alloc (.cells ((List.replicate L 0).map NV).toArray 3)) := fun w => by
    obtain ⟨i, hi, hz, hsize, hby⟩ := info_parts infoInt
    have hr := run_make (P := Try.prog) w 27 3 i _ Try.underlying27 hi hz .i64 .i64 L L (by omega) (Int.le_refl _) (by rw [hby]; omega) (by omega)
    rw [hsize, Nat.mul_one, Int.toNat_natCast, hz0] at hr
    exact hr
  clear hz0
  go_cut [7] (fun s7 wx => ∃ b bb bg wb wg cb fb, s7 = .pointer (some ⟨b, 0, none⟩) ∧ NewRaw w wx b bb bg wb wg cb fb L LD Z)
  case first =>
    refine wp_region_any (by kernel_rfl) ?_
    change wpAny _ _ _ _ _ _ _ (World.drew _)
    refine wpAny_take (i := 0) (v := ?_) rfl (by kernel_rfl) (by kernel_rfl) (by kernel_rfl) (fun _ _ _ h => h) (Or.inl ⟨by rfl, ?_⟩) ?_
    rotate_left
    · intro w; go_simp; try with_reducible rfl
    refine wpAny_take (i := 1) (v := ?_) rfl (by kernel_rfl) (by kernel_rfl) (by kernel_rfl) (fun _ _ _ h => h) (Or.inl ⟨by rfl, ?_⟩) ?_
    rotate_left
    · intro w; go_simp; try with_reducible rfl
    refine wpAny_take (i := 2) (v := ?_) rfl (by kernel_rfl) (by kernel_rfl) (by kernel_rfl) (fun _ _ _ h => h) (Or.inl ⟨by rfl, ?_⟩) ?_
    rotate_left
    · intro w; go_simp; try with_reducible rfl
    refine wpAny_take (i := 5) (v := ?_) rfl (by kernel_rfl) (by kernel_rfl) (by kernel_rfl) (fun _ _ _ h => h) (Or.inl ⟨by rfl, ?_⟩) ?_
    rotate_left
    · intro w; go_simp; try with_reducible rfl
    refine wpAny_take (i := 6) (v := ?_) rfl (by kernel_rfl) (by kernel_rfl) (by kernel_rfl) (fun _ _ _ h => h) (Or.inl ⟨by rfl, ?_⟩) ?_
    rotate_left
    · intro w; go_simp; try with_reducible rfl
    refine wpAny_take (i := 7) (v := ?_) rfl (by kernel_rfl) (by kernel_rfl) (by kernel_rfl) (fun _ _ _ h => h) (Or.inl ⟨by rfl, ?_⟩) ?_
    rotate_left
    · intro w; go_simp; try with_reducible rfl
    refine wpAny_take (i := 9) (v := ?_) rfl (by kernel_rfl) (by kernel_rfl) (by kernel_rfl) (fun _ _ _ h => h) (Or.inl ⟨by rfl, ?_⟩) ?_
    rotate_left
    · intro w; go_simp; try with_reducible rfl
    refine wpAny_take (i := 11) (v := ?_) rfl (by kernel_rfl) (by kernel_rfl) (by kernel_rfl) (fun _ _ _ h => h) (Or.inl ⟨by rfl, ?_⟩) ?_
    rotate_left
    · intro w; go_simp; try with_reducible rfl
    refine wpAny_ready (rs := [3, 10, 12]) (by kernel_rfl) (by simp) ?_
    refine AllReady.cons rfl (fun K hK => ?_) ?_
    · go_simp
      go_wp2_with (first | (go_at_call 53; ((with_reducible refine (H1.out _).mono ?_); rintro e w1 ⟨bb, bg, rfl, hR1, hn1, hg1, hg1', hl1, hl1', hb1⟩; have hs1 := hb1.size; have hw1 : Below w.heap.size w w1 := Below.trans (by repeat' (first | (with_reducible assumption) | (with_reducible refine Below.setCell ?_ ?_ _) | (with_reducible refine below_drewN' ?_ _) | (with_reducible refine Below.drew ?_) | (with_reducible refine Below.alloc ?_ ?_ _) | (with_reducible exact Below.refl _ _) | (with_reducible exact Nat.le_refl _) | omega | (simp; done) | (simp; omega))) (hb1.mono (by first | exact Nat.le_refl _ | (simp; omega) | (simp; done))))) | (go_at_call 54; ((with_reducible refine (H2.out _).mono ?_); rintro e w2 ⟨wb, wg, rfl, hR2, hn2, hg2, hg2', hl2, hl2', hb2⟩; have hs2 := hb2.size; have hw12 : Below w1.heap.size w1 w2 := Below.trans (by repeat' (first | (with_reducible assumption) | (with_reducible refine Below.setCell ?_ ?_ _) | (with_reducible refine below_drewN' ?_ _) | (with_reducible refine Below.drew ?_) | (with_reducible refine Below.alloc ?_ ?_ _) | (with_reducible exact Below.refl _ _) | (with_reducible exact Nat.le_refl _) | omega | (simp; done) | (simp; omega))) (hb2.mono (by first | exact Nat.le_refl _ | (simp; omega) | (simp; done))); have hw2 : Below w.heap.size w w2 := hw1.trans (hw12.mono hw1.size))))
      refine wpAny_take (i := 4) (v := ?_) rfl (by kernel_rfl) (by kernel_rfl) (by kernel_rfl) (fun _ _ _ h => h) (Or.inl ⟨by rfl, ?_⟩) ?_
      rotate_left
      · intro w; go_simp; try with_reducible rfl
      refine wpAny_ready (rs := [8, 10, 12]) (by kernel_rfl) (by simp) ?_
      refine AllReady.cons rfl (fun K hK => ?_) ?_
      · go_simp
        go_wp2_with (first | (go_at_call 53; ((with_reducible refine (H1.out _).mono ?_); rintro e w1 ⟨bb, bg, rfl, hR1, hn1, hg1, hg1', hl1, hl1', hb1⟩; have hs1 := hb1.size; have hw1 : Below w.heap.size w w1 := Below.trans (by repeat' (first | (with_reducible assumption) | (with_reducible refine Below.setCell ?_ ?_ _) | (with_reducible refine below_drewN' ?_ _) | (with_reducible refine Below.drew ?_) | (with_reducible refine Below.alloc ?_ ?_ _) | (with_reducible exact Below.refl _ _) | (with_reducible exact Nat.le_refl _) | omega | (simp; done) | (simp; omega))) (hb1.mono (by first | exact Nat.le_refl _ | (simp; omega) | (simp; done))))) | (go_at_call 54; ((with_reducible refine (H2.out _).mono ?_); rintro e w2 ⟨wb, wg, rfl, hR2, hn2, hg2, hg2', hl2, hl2', hb2⟩; have hs2 := hb2.size; have hw12 : Below w1.heap.size w1 w2 := Below.trans (by repeat' (first | (with_reducible assumption) | (with_reducible refine Below.setCell ?_ ?_ _) | (with_reducible refine below_drewN' ?_ _) | (with_reducible refine Below.drew ?_) | (with_reducible refine Below.alloc ?_ ?_ _) | (with_reducible exact Below.refl _ _) | (with_reducible exact Nat.le_refl _) | omega | (simp; done) | (simp; omega))) (hb2.mono (by first | exact Nat.le_refl _ | (simp; omega) | (simp; done))); have hw2 : Below w.heap.size w w2 := hw1.trans (hw12.mono hw1.size))))
        refine wpAny_ready (rs := [10, 12]) (by kernel_rfl) (by simp) ?_
        refine AllReady.cons rfl (fun K hK => ?_) ?_
        · go_simp
          refine hK _ _ ?_
          clear hK K
          refine wpAny_ready (rs := [12]) (by kernel_rfl) (by simp) ?_
          refine AllReady.cons rfl (fun K hK => ?_) ?_
          · go_simp
            refine hK _ _ ?_
            clear hK K
            refine wpAny_take (i := 13) (v := ?_) rfl (by kernel_rfl) (by kernel_rfl) (by kernel_rfl) (fun _ _ _ h => h) (Or.inl ⟨by rfl, ?_⟩) ?_
            rotate_left
            · intro w; go_simp; try with_reducible rfl
            refine wpAny_ready (rs := [14]) (by kernel_rfl) (by simp) ?_
            refine AllReady.cons rfl (fun K hK => ?_) ?_
            · go_simp
              refine hK _ _ ?_
              clear hK K
              refine wpAny_ready (rs := [15]) (by kernel_rfl) (by simp) ?_
              refine AllReady.cons rfl (fun K hK => ?_) ?_
              · go_simp
                refine hK _ _ ?_
                clear hK K
                refine wpAny_done (by kernel_rfl) ?_ _
                go_wp2
                go_meet
                have hq1 := hw1.size
                have hq2 := hw2.size
                have hq12 := hw12.size
                try simp at hs1
                try simp at hs2
                refine ⟨_, _, bg, _, wg, _, _, rfl, ⟨alloc_at _ _ (by first | rfl | (simp; done)), ?_, ?_, ?_, ?_, ?_, ?_, ?_⟩⟩
                · repeat' (first | (with_reducible refine drew_at ?_) | (exact alloc_at _ _ (by first | rfl | (simp; done) | (simp; omega))) | (with_reducible refine alloc_old ?_ _) | (with_reducible refine Below.at hb2 ?_ (by first | omega | (simp; done) | (simp; omega))) | (with_reducible refine Below.at hb1 ?_ (by first | omega | (simp; done) | (simp; omega))))
                · repeat' (first | (with_reducible refine drew_at ?_) | (exact alloc_at _ _ (by first | rfl | (simp; done) | (simp; omega))) | (with_reducible refine alloc_old ?_ _) | (with_reducible refine Below.at hb2 ?_ (by first | omega | (simp; done) | (simp; omega))) | (with_reducible refine Below.at hb1 ?_ (by first | omega | (simp; done) | (simp; omega))))
                · exact hR1.below (B := w1.heap.size) (by repeat' (first | (with_reducible assumption) | (with_reducible refine Below.setCell ?_ ?_ _) | (with_reducible refine below_drewN' ?_ _) | (with_reducible refine Below.drew ?_) | (with_reducible refine Below.alloc ?_ ?_ _) | (with_reducible exact Below.refl _ _) | (with_reducible exact Nat.le_refl _) | omega | (simp; done) | (simp; omega))) hl1 hl1'
                · exact hR2.below (B := w2.heap.size) (by repeat' (first | (with_reducible assumption) | (with_reducible refine Below.setCell ?_ ?_ _) | (with_reducible refine below_drewN' ?_ _) | (with_reducible refine Below.drew ?_) | (with_reducible refine Below.alloc ?_ ?_ _) | (with_reducible exact Below.refl _ _) | (with_reducible exact Nat.le_refl _) | omega | (simp; done) | (simp; omega))) hl2 hl2'
                · (simp at hg1 hg1' hl1 hl1' hg2 hg2' hl2 hl2' hs1 hs2 ⊢; omega)
                · (simp at hg1 hg1' hl1 hl1' hg2 hg2' hl2 hl2' hs1 hs2 ⊢; omega)
                · repeat' (first | (with_reducible assumption) | (with_reducible refine Below.setCell ?_ ?_ _) | (with_reducible refine below_drewN' ?_ _) | (with_reducible refine Below.drew ?_) | (with_reducible refine Below.alloc ?_ ?_ _) | (with_reducible exact Below.refl _ _) | (with_reducible exact Nat.le_refl _) | omega | (simp; done) | (simp; omega))
              exact AllReady.nil
            exact AllReady.nil
          exact AllReady.nil
        refine AllReady.cons rfl (fun K hK => ?_) ?_
        · go_simp
          refine hK _ _ ?_
          clear hK K
          refine wpAny_ready (rs := [10]) (by kernel_rfl) (by simp) ?_
          refine AllReady.cons rfl (fun K hK => ?_) ?_
          · go_simp
            refine hK _ _ ?_
            clear hK K
            refine wpAny_take (i := 13) (v := ?_) rfl (by kernel_rfl) (by kernel_rfl) (by kernel_rfl) (fun _ _ _ h => h) (Or.inl ⟨by rfl, ?_⟩) ?_
            rotate_left
            · intro w; go_simp; try with_reducible rfl
            refine wpAny_ready (rs := [14]) (by kernel_rfl) (by simp) ?_
            refine AllReady.cons rfl (fun K hK => ?_) ?_
            · go_simp
              refine hK _ _ ?_
              clear hK K
              refine wpAny_ready (rs := [15]) (by kernel_rfl) (by simp) ?_
              refine AllReady.cons rfl (fun K hK => ?_) ?_
              · go_simp
                refine hK _ _ ?_
                clear hK K
                refine wpAny_done (by kernel_rfl) ?_ _
                go_wp2
                go_meet
                have hq1 := hw1.size
                have hq2 := hw2.size
                have hq12 := hw12.size
                try simp at hs1
                try simp at hs2
                refine ⟨_, _, bg, _, wg, _, _, rfl, ⟨alloc_at _ _ (by first | rfl | (simp; done)), ?_, ?_, ?_, ?_, ?_, ?_, ?_⟩⟩
                · repeat' (first | (with_reducible refine drew_at ?_) | (exact alloc_at _ _ (by first | rfl | (simp; done) | (simp; omega))) | (with_reducible refine alloc_old ?_ _) | (with_reducible refine Below.at hb2 ?_ (by first | omega | (simp; done) | (simp; omega))) | (with_reducible refine Below.at hb1 ?_ (by first | omega | (simp; done) | (simp; omega))))
                · repeat' (first | (with_reducible refine drew_at ?_) | (exact alloc_at _ _ (by first | rfl | (simp; done) | (simp; omega))) | (with_reducible refine alloc_old ?_ _) | (with_reducible refine Below.at hb2 ?_ (by first | omega | (simp; done) | (simp; omega))) | (with_reducible refine Below.at hb1 ?_ (by first | omega | (simp; done) | (simp; omega))))
                · exact hR1.below (B := w1.heap.size) (by repeat' (first | (with_reducible assumption) | (with_reducible refine Below.setCell ?_ ?_ _) | (with_reducible refine below_drewN' ?_ _) | (with_reducible refine Below.drew ?_) | (with_reducible refine Below.alloc ?_ ?_ _) | (with_reducible exact Below.refl _ _) | (with_reducible exact Nat.le_refl _) | omega | (simp; done) | (simp; omega))) hl1 hl1'
                · exact hR2.below (B := w2.heap.size) (by repeat' (first | (with_reducible assumption) | (with_reducible refine Below.setCell ?_ ?_ _) | (with_reducible refine below_drewN' ?_ _) | (with_reducible refine Below.drew ?_) | (with_reducible refine Below.alloc ?_ ?_ _) | (with_reducible exact Below.refl _ _) | (with_reducible exact Nat.le_refl _) | omega | (simp; done) | (simp; omega))) hl2 hl2'
                · (simp at hg1 hg1' hl1 hl1' hg2 hg2' hl2 hl2' hs1 hs2 ⊢; omega)
                · (simp at hg1 hg1' hl1 hl1' hg2 hg2' hl2 hl2' hs1 hs2 ⊢; omega)
                · repeat' (first | (with_reducible assumption) | (with_reducible refine Below.setCell ?_ ?_ _) | (with_reducible refine below_drewN' ?_ _) | (with_reducible refine Below.drew ?_) | (with_reducible refine Below.alloc ?_ ?_ _) | (with_reducible exact Below.refl _ _) | (with_reducible exact Nat.le_refl _) | omega | (simp; done) | (simp; omega))
              exact AllReady.nil
            exact AllReady.nil
          exact AllReady.nil
        exact AllReady.nil
      refine AllReady.cons rfl (fun K hK => ?_) ?_
      · go_simp
        refine hK _ _ ?_
        clear hK K
        refine wpAny_ready (rs := [8, 12]) (by kernel_rfl) (by simp) ?_
        refine AllReady.cons rfl (fun K hK => ?_) ?_
        · go_simp
          go_wp2_with (first | (go_at_call 53; ((with_reducible refine (H1.out _).mono ?_); rintro e w1 ⟨bb, bg, rfl, hR1, hn1, hg1, hg1', hl1, hl1', hb1⟩; have hs1 := hb1.size; have hw1 : Below w.heap.size w w1 := Below.trans (by repeat' (first | (with_reducible assumption) | (with_reducible refine Below.setCell ?_ ?_ _) | (with_reducible refine below_drewN' ?_ _) | (with_reducible refine Below.drew ?_) | (with_reducible refine Below.alloc ?_ ?_ _) | (with_reducible exact Below.refl _ _) | (with_reducible exact Nat.le_refl _) | omega | (simp; done) | (simp; omega))) (hb1.mono (by first | exact Nat.le_refl _ | (simp; omega) | (simp; done))))) | (go_at_call 54; ((with_reducible refine (H2.out _).mono ?_); rintro e w2 ⟨wb, wg, rfl, hR2, hn2, hg2, hg2', hl2, hl2', hb2⟩; have hs2 := hb2.size; have hw12 : Below w1.heap.size w1 w2 := Below.trans (by repeat' (first | (with_reducible assumption) | (with_reducible refine Below.setCell ?_ ?_ _) | (with_reducible refine below_drewN' ?_ _) | (with_reducible refine Below.drew ?_) | (with_reducible refine Below.alloc ?_ ?_ _) | (with_reducible exact Below.refl _ _) | (with_reducible exact Nat.le_refl _) | omega | (simp; done) | (simp; omega))) (hb2.mono (by first | exact Nat.le_refl _ | (simp; omega) | (simp; done))); have hw2 : Below w.heap.size w w2 := hw1.trans (hw12.mono hw1.size))))
          refine wpAny_ready (rs := [12]) (by kernel_rfl) (by simp) ?_
          refine AllReady.cons rfl (fun K hK => ?_) ?_
          · go_simp
            refine hK _ _ ?_
            clear hK K
            refine wpAny_take (i := 13) (v := ?_) rfl (by kernel_rfl) (by kernel_rfl) (by kernel_rfl) (fun _ _ _ h => h) (Or.inl ⟨by rfl, ?_⟩) ?_
            rotate_left
            · intro w; go_simp; try with_reducible rfl
            refine wpAny_ready (rs := [14]) (by kernel_rfl) (by simp) ?_
            refine AllReady.cons rfl (fun K hK => ?_) ?_
            · go_simp
              refine hK _ _ ?_
              clear hK K
              refine wpAny_ready (rs := [15]) (by kernel_rfl) (by simp) ?_
              refine AllReady.cons rfl (fun K hK => ?_) ?_
              · go_simp
                refine hK _ _ ?_
                clear hK K
                refine wpAny_done (by kernel_rfl) ?_ _
                go_wp2
                go_meet
                have hq1 := hw1.size
                have hq2 := hw2.size
                have hq12 := hw12.size
                try simp at hs1
                try simp at hs2
                refine ⟨_, _, bg, _, wg, _, _, rfl, ⟨alloc_at _ _ (by first | rfl | (simp; done)), ?_, ?_, ?_, ?_, ?_, ?_, ?_⟩⟩
                · repeat' (first | (with_reducible refine drew_at ?_) | (exact alloc_at _ _ (by first | rfl | (simp; done) | (simp; omega))) | (with_reducible refine alloc_old ?_ _) | (with_reducible refine Below.at hb2 ?_ (by first | omega | (simp; done) | (simp; omega))) | (with_reducible refine Below.at hb1 ?_ (by first | omega | (simp; done) | (simp; omega))))
                · repeat' (first | (with_reducible refine drew_at ?_) | (exact alloc_at _ _ (by first | rfl | (simp; done) | (simp; omega))) | (with_reducible refine alloc_old ?_ _) | (with_reducible refine Below.at hb2 ?_ (by first | omega | (simp; done) | (simp; omega))) | (with_reducible refine Below.at hb1 ?_ (by first | omega | (simp; done) | (simp; omega))))
                · exact hR1.below (B := w1.heap.size) (by repeat' (first | (with_reducible assumption) | (with_reducible refine Below.setCell ?_ ?_ _) | (with_reducible refine below_drewN' ?_ _) | (with_reducible refine Below.drew ?_) | (with_reducible refine Below.alloc ?_ ?_ _) | (with_reducible exact Below.refl _ _) | (with_reducible exact Nat.le_refl _) | omega | (simp; done) | (simp; omega))) hl1 hl1'
                · exact hR2.below (B := w2.heap.size) (by repeat' (first | (with_reducible assumption) | (with_reducible refine Below.setCell ?_ ?_ _) | (with_reducible refine below_drewN' ?_ _) | (with_reducible refine Below.drew ?_) | (with_reducible refine Below.alloc ?_ ?_ _) | (with_reducible exact Below.refl _ _) | (with_reducible exact Nat.le_refl _) | omega | (simp; done) | (simp; omega))) hl2 hl2'
                · (simp at hg1 hg1' hl1 hl1' hg2 hg2' hl2 hl2' hs1 hs2 ⊢; omega)
                · (simp at hg1 hg1' hl1 hl1' hg2 hg2' hl2 hl2' hs1 hs2 ⊢; omega)
                · repeat' (first | (with_reducible assumption) | (with_reducible refine Below.setCell ?_ ?_ _) | (with_reducible refine below_drewN' ?_ _) | (with_reducible refine Below.drew ?_) | (with_reducible refine Below.alloc ?_ ?_ _) | (with_reducible exact Below.refl _ _) | (with_reducible exact Nat.le_refl _) | omega | (simp; done) | (simp; omega))
              exact AllReady.nil
            exact AllReady.nil
          exact AllReady.nil
        refine AllReady.cons rfl (fun K hK => ?_) ?_
        · go_simp
          refine hK _ _ ?_
          clear hK K
          refine wpAny_ready (rs := [8]) (by kernel_rfl) (by simp) ?_
          refine AllReady.cons rfl (fun K hK => ?_) ?_
          · go_simp
            go_wp2_with (first | (go_at_call 53; ((with_reducible refine (H1.out _).mono ?_); rintro e w1 ⟨bb, bg, rfl, hR1, hn1, hg1, hg1', hl1, hl1', hb1⟩; have hs1 := hb1.size; have hw1 : Below w.heap.size w w1 := Below.trans (by repeat' (first | (with_reducible assumption) | (with_reducible refine Below.setCell ?_ ?_ _) | (with_reducible refine below_drewN' ?_ _) | (with_reducible refine Below.drew ?_) | (with_reducible refine Below.alloc ?_ ?_ _) | (with_reducible exact Below.refl _ _) | (with_reducible exact Nat.le_refl _) | omega | (simp; done) | (simp; omega))) (hb1.mono (by first | exact Nat.le_refl _ | (simp; omega) | (simp; done))))) | (go_at_call 54; ((with_reducible refine (H2.out _).mono ?_); rintro e w2 ⟨wb, wg, rfl, hR2, hn2, hg2, hg2', hl2, hl2', hb2⟩; have hs2 := hb2.size; have hw12 : Below w1.heap.size w1 w2 := Below.trans (by repeat' (first | (with_reducible assumption) | (with_reducible refine Below.setCell ?_ ?_ _) | (with_reducible refine below_drewN' ?_ _) | (with_reducible refine Below.drew ?_) | (with_reducible refine Below.alloc ?_ ?_ _) | (with_reducible exact Below.refl _ _) | (with_reducible exact Nat.le_refl _) | omega | (simp; done) | (simp; omega))) (hb2.mono (by first | exact Nat.le_refl _ | (simp; omega) | (simp; done))); have hw2 : Below w.heap.size w w2 := hw1.trans (hw12.mono hw1.size))))
            refine wpAny_take (i := 13) (v := ?_) rfl (by kernel_rfl) (by kernel_rfl) (by kernel_rfl) (fun _ _ _ h => h) (Or.inl ⟨by rfl, ?_⟩) ?_
            rotate_left
            · intro w; go_simp; try with_reducible rfl
            refine wpAny_ready (rs := [14]) (by kernel_rfl) (by simp) ?_
            refine AllReady.cons rfl (fun K hK => ?_) ?_
            · go_simp
              refine hK _ _ ?_
              clear hK K
              refine wpAny_ready (rs := [15]) (by kernel_rfl) (by simp) ?_
              refine AllReady.cons rfl (fun K hK => ?_) ?_
              · go_simp
                refine hK _ _ ?_
                clear hK K
                refine wpAny_done (by kernel_rfl) ?_ _
                go_wp2
                go_meet
                have hq1 := hw1.size
                have hq2 := hw2.size
                have hq12 := hw12.size
                try simp at hs1
                try simp at hs2
                refine ⟨_, _, bg, _, wg, _, _, rfl, ⟨alloc_at _ _ (by first | rfl | (simp; done)), ?_, ?_, ?_, ?_, ?_, ?_, ?_⟩⟩
                · repeat' (first | (with_reducible refine drew_at ?_) | (exact alloc_at _ _ (by first | rfl | (simp; done) | (simp; omega))) | (with_reducible refine alloc_old ?_ _) | (with_reducible refine Below.at hb2 ?_ (by first | omega | (simp; done) | (simp; omega))) | (with_reducible refine Below.at hb1 ?_ (by first | omega | (simp; done) | (simp; omega))))
                · repeat' (first | (with_reducible refine drew_at ?_) | (exact alloc_at _ _ (by first | rfl | (simp; done) | (simp; omega))) | (with_reducible refine alloc_old ?_ _) | (with_reducible refine Below.at hb2 ?_ (by first | omega | (simp; done) | (simp; omega))) | (with_reducible refine Below.at hb1 ?_ (by first | omega | (simp; done) | (simp; omega))))
                · exact hR1.below (B := w1.heap.size) (by repeat' (first | (with_reducible assumption) | (with_reducible refine Below.setCell ?_ ?_ _) | (with_reducible refine below_drewN' ?_ _) | (with_reducible refine Below.drew ?_) | (with_reducible refine Below.alloc ?_ ?_ _) | (with_reducible exact Below.refl _ _) | (with_reducible exact Nat.le_refl _) | omega | (simp; done) | (simp; omega))) hl1 hl1'
                · exact hR2.below (B := w2.heap.size) (by repeat' (first | (with_reducible assumption) | (with_reducible refine Below.setCell ?_ ?_ _) | (with_reducible refine below_drewN' ?_ _) | (with_reducible refine Below.drew ?_) | (with_reducible refine Below.alloc ?_ ?_ _) | (with_reducible exact Below.refl _ _) | (with_reducible exact Nat.le_refl _) | omega | (simp; done) | (simp; omega))) hl2 hl2'
                · (simp at hg1 hg1' hl1 hl1' hg2 hg2' hl2 hl2' hs1 hs2 ⊢; omega)
                · (simp at hg1 hg1' hl1 hl1' hg2 hg2' hl2 hl2' hs1 hs2 ⊢; omega)
                · repeat' (first | (with_reducible assumption) | (with_reducible refine Below.setCell ?_ ?_ _) | (with_reducible refine below_drewN' ?_ _) | (with_reducible refine Below.drew ?_) | (with_reducible refine Below.alloc ?_ ?_ _) | (with_reducible exact Below.refl _ _) | (with_reducible exact Nat.le_refl _) | omega | (simp; done) | (simp; omega))
              exact AllReady.nil
            exact AllReady.nil
          exact AllReady.nil
        exact AllReady.nil
      refine AllReady.cons rfl (fun K hK => ?_) ?_
      · go_simp
        refine hK _ _ ?_
        clear hK K
        refine wpAny_ready (rs := [8, 10]) (by kernel_rfl) (by simp) ?_
        refine AllReady.cons rfl (fun K hK => ?_) ?_
        · go_simp
          go_wp2_with (first | (go_at_call 53; ((with_reducible refine (H1.out _).mono ?_); rintro e w1 ⟨bb, bg, rfl, hR1, hn1, hg1, hg1', hl1, hl1', hb1⟩; have hs1 := hb1.size; have hw1 : Below w.heap.size w w1 := Below.trans (by repeat' (first | (with_reducible assumption) | (with_reducible refine Below.setCell ?_ ?_ _) | (with_reducible refine below_drewN' ?_ _) | (with_reducible refine Below.drew ?_) | (with_reducible refine Below.alloc ?_ ?_ _) | (with_reducible exact Below.refl _ _) | (with_reducible exact Nat.le_refl _) | omega | (simp; done) | (simp; omega))) (hb1.mono (by first | exact Nat.le_refl _ | (simp; omega) | (simp; done))))) | (go_at_call 54; ((with_reducible refine (H2.out _).mono ?_); rintro e w2 ⟨wb, wg, rfl, hR2, hn2, hg2, hg2', hl2, hl2', hb2⟩; have hs2 := hb2.size; have hw12 : Below w1.heap.size w1 w2 := Below.trans (by repeat' (first | (with_reducible assumption) | (with_reducible refine Below.setCell ?_ ?_ _) | (with_reducible refine below_drewN' ?_ _) | (with_reducible refine Below.drew ?_) | (with_reducible refine Below.alloc ?_ ?_ _) | (with_reducible exact Below.refl _ _) | (with_reducible exact Nat.le_refl _) | omega | (simp; done) | (simp; omega))) (hb2.mono (by first | exact Nat.le_refl _ | (simp; omega) | (simp; done))); have hw2 : Below w.heap.size w w2 := hw1.trans (hw12.mono hw1.size))))
          refine wpAny_ready (rs := [10]) (by kernel_rfl) (by simp) ?_
          refine AllReady.cons rfl (fun K hK => ?_) ?_
          · go_simp
            refine hK _ _ ?_
            clear hK K
            refine wpAny_take (i := 13) (v := ?_) rfl (by kernel_rfl) (by kernel_rfl) (by kernel_rfl) (fun _ _ _ h => h) (Or.inl ⟨by rfl, ?_⟩) ?_
            rotate_left
            · intro w; go_simp; try with_reducible rfl
            refine wpAny_ready (rs := [14]) (by kernel_rfl) (by simp) ?_
            refine AllReady.cons rfl (fun K hK => ?_) ?_
            · go_simp
              refine hK _ _ ?_
              clear hK K
              refine wpAny_ready (rs := [15]) (by kernel_rfl) (by simp) ?_
              refine AllReady.cons rfl (fun K hK => ?_) ?_
              · go_simp
                refine hK _ _ ?_
                clear hK K
                refine wpAny_done (by kernel_rfl) ?_ _
                go_wp2
                go_meet
                have hq1 := hw1.size
                have hq2 := hw2.size
                have hq12 := hw12.size
                try simp at hs1
                try simp at hs2
                refine ⟨_, _, bg, _, wg, _, _, rfl, ⟨alloc_at _ _ (by first | rfl | (simp; done)), ?_, ?_, ?_, ?_, ?_, ?_, ?_⟩⟩
                · repeat' (first | (with_reducible refine drew_at ?_) | (exact alloc_at _ _ (by first | rfl | (simp; done) | (simp; omega))) | (with_reducible refine alloc_old ?_ _) | (with_reducible refine Below.at hb2 ?_ (by first | omega | (simp; done) | (simp; omega))) | (with_reducible refine Below.at hb1 ?_ (by first | omega | (simp; done) | (simp; omega))))
                · repeat' (first | (with_reducible refine drew_at ?_) | (exact alloc_at _ _ (by first | rfl | (simp; done) | (simp; omega))) | (with_reducible refine alloc_old ?_ _) | (with_reducible refine Below.at hb2 ?_ (by first | omega | (simp; done) | (simp; omega))) | (with_reducible refine Below.at hb1 ?_ (by first | omega | (simp; done) | (simp; omega))))
                · exact hR1.below (B := w1.heap.size) (by repeat' (first | (with_reducible assumption) | (with_reducible refine Below.setCell ?_ ?_ _) | (with_reducible refine below_drewN' ?_ _) | (with_reducible refine Below.drew ?_) | (with_reducible refine Below.alloc ?_ ?_ _) | (with_reducible exact Below.refl _ _) | (with_reducible exact Nat.le_refl _) | omega | (simp; done) | (simp; omega))) hl1 hl1'
                · exact hR2.below (B := w2.heap.size) (by repeat' (first | (with_reducible assumption) | (with_reducible refine Below.setCell ?_ ?_ _) | (with_reducible refine below_drewN' ?_ _) | (with_reducible refine Below.drew ?_) | (with_reducible refine Below.alloc ?_ ?_ _) | (with_reducible exact Below.refl _ _) | (with_reducible exact Nat.le_refl _) | omega | (simp; done) | (simp; omega))) hl2 hl2'
                · (simp at hg1 hg1' hl1 hl1' hg2 hg2' hl2 hl2' hs1 hs2 ⊢; omega)
                · (simp at hg1 hg1' hl1 hl1' hg2 hg2' hl2 hl2' hs1 hs2 ⊢; omega)
                · repeat' (first | (with_reducible assumption) | (with_reducible refine Below.setCell ?_ ?_ _) | (with_reducible refine below_drewN' ?_ _) | (with_reducible refine Below.drew ?_) | (with_reducible refine Below.alloc ?_ ?_ _) | (with_reducible exact Below.refl _ _) | (with_reducible exact Nat.le_refl _) | omega | (simp; done) | (simp; omega))
              exact AllReady.nil
            exact AllReady.nil
          exact AllReady.nil
        refine AllReady.cons rfl (fun K hK => ?_) ?_
        · go_simp
          refine hK _ _ ?_
          clear hK K
          refine wpAny_ready (rs := [8]) (by kernel_rfl) (by simp) ?_
          refine AllReady.cons rfl (fun K hK => ?_) ?_
          · go_simp
            go_wp2_with (first | (go_at_call 53; ((with_reducible refine (H1.out _).mono ?_); rintro e w1 ⟨bb, bg, rfl, hR1, hn1, hg1, hg1', hl1, hl1', hb1⟩; have hs1 := hb1.size; have hw1 : Below w.heap.size w w1 := Below.trans (by repeat' (first | (with_reducible assumption) | (with_reducible refine Below.setCell ?_ ?_ _) | (with_reducible refine below_drewN' ?_ _) | (with_reducible refine Below.drew ?_) | (with_reducible refine Below.alloc ?_ ?_ _) | (with_reducible exact Below.refl _ _) | (with_reducible exact Nat.le_refl _) | omega | (simp; done) | (simp; omega))) (hb1.mono (by first | exact Nat.le_refl _ | (simp; omega) | (simp; done))))) | (go_at_call 54; ((with_reducible refine (H2.out _).mono ?_); rintro e w2 ⟨wb, wg, rfl, hR2, hn2, hg2, hg2', hl2, hl2', hb2⟩; have hs2 := hb2.size; have hw12 : Below w1.heap.size w1 w2 := Below.trans (by repeat' (first | (with_reducible assumption) | (with_reducible refine Below.setCell ?_ ?_ _) | (with_reducible refine below_drewN' ?_ _) | (with_reducible refine Below.drew ?_) | (with_reducible refine Below.alloc ?_ ?_ _) | (with_reducible exact Below.refl _ _) | (with_reducible exact Nat.le_refl _) | omega | (simp; done) | (simp; omega))) (hb2.mono (by first | exact Nat.le_refl _ | (simp; omega) | (simp; done))); have hw2 : Below w.heap.size w w2 := hw1.trans (hw12.mono hw1.size))))
            refine wpAny_take (i := 13) (v := ?_) rfl (by kernel_rfl) (by kernel_rfl) (by kernel_rfl) (fun _ _ _ h => h) (Or.inl ⟨by rfl, ?_⟩) ?_
            rotate_left
            · intro w; go_simp; try with_reducible rfl
            refine wpAny_ready (rs := [14]) (by kernel_rfl) (by simp) ?_
            refine AllReady.cons rfl (fun K hK => ?_) ?_
            · go_simp
              refine hK _ _ ?_
              clear hK K
              refine wpAny_ready (rs := [15]) (by kernel_rfl) (by simp) ?_
              refine AllReady.cons rfl (fun K hK => ?_) ?_
              · go_simp
                refine hK _ _ ?_
                clear hK K
                refine wpAny_done (by kernel_rfl) ?_ _
                go_wp2
                go_meet
                have hq1 := hw1.size
                have hq2 := hw2.size
                have hq12 := hw12.size
                try simp at hs1
                try simp at hs2
                refine ⟨_, _, bg, _, wg, _, _, rfl, ⟨alloc_at _ _ (by first | rfl | (simp; done)), ?_, ?_, ?_, ?_, ?_, ?_, ?_⟩⟩
                · repeat' (first | (with_reducible refine drew_at ?_) | (exact alloc_at _ _ (by first | rfl | (simp; done) | (simp; omega))) | (with_reducible refine alloc_old ?_ _) | (with_reducible refine Below.at hb2 ?_ (by first | omega | (simp; done) | (simp; omega))) | (with_reducible refine Below.at hb1 ?_ (by first | omega | (simp; done) | (simp; omega))))
                · repeat' (first | (with_reducible refine drew_at ?_) | (exact alloc_at _ _ (by first | rfl | (simp; done) | (simp; omega))) | (with_reducible refine alloc_old ?_ _) | (with_reducible refine Below.at hb2 ?_ (by first | omega | (simp; done) | (simp; omega))) | (with_reducible refine Below.at hb1 ?_ (by first | omega | (simp; done) | (simp; omega))))
                · exact hR1.below (B := w1.heap.size) (by repeat' (first | (with_reducible assumption) | (with_reducible refine Below.setCell ?_ ?_ _) | (with_reducible refine below_drewN' ?_ _) | (with_reducible refine Below.drew ?_) | (with_reducible refine Below.alloc ?_ ?_ _) | (with_reducible exact Below.refl _ _) | (with_reducible exact Nat.le_refl _) | omega | (simp; done) | (simp; omega))) hl1 hl1'
                · exact hR2.below (B := w2.heap.size) (by repeat' (first | (with_reducible assumption) | (with_reducible refine Below.setCell ?_ ?_ _) | (with_reducible refine below_drewN' ?_ _) | (with_reducible refine Below.drew ?_) | (with_reducible refine Below.alloc ?_ ?_ _) | (with_reducible exact Below.refl _ _) | (with_reducible exact Nat.le_refl _) | omega | (simp; done) | (simp; omega))) hl2 hl2'
                · (simp at hg1 hg1' hl1 hl1' hg2 hg2' hl2 hl2' hs1 hs2 ⊢; omega)
                · (simp at hg1 hg1' hl1 hl1' hg2 hg2' hl2 hl2' hs1 hs2 ⊢; omega)
                · repeat' (first | (with_reducible assumption) | (with_reducible refine Below.setCell ?_ ?_ _) | (with_reducible refine below_drewN' ?_ _) | (with_reducible refine Below.drew ?_) | (with_reducible refine Below.alloc ?_ ?_ _) | (with_reducible exact Below.refl _ _) | (with_reducible exact Nat.le_refl _) | omega | (simp; done) | (simp; omega))
              exact AllReady.nil
            exact AllReady.nil
          exact AllReady.nil
        exact AllReady.nil
      exact AllReady.nil
    refine AllReady.cons rfl (fun K hK => ?_) ?_
    · go_simp
      refine hK _ _ ?_
      clear hK K
      refine wpAny_ready (rs := [3, 12]) (by kernel_rfl) (by simp) ?_
      refine AllReady.cons rfl (fun K hK => ?_) ?_
      · go_simp
        go_wp2_with (first | (go_at_call 53; ((with_reducible refine (H1.out _).mono ?_); rintro e w1 ⟨bb, bg, rfl, hR1, hn1, hg1, hg1', hl1, hl1', hb1⟩; have hs1 := hb1.size; have hw1 : Below w.heap.size w w1 := Below.trans (by repeat' (first | (with_reducible assumption) | (with_reducible refine Below.setCell ?_ ?_ _) | (with_reducible refine below_drewN' ?_ _) | (with_reducible refine Below.drew ?_) | (with_reducible refine Below.alloc ?_ ?_ _) | (with_reducible exact Below.refl _ _) | (with_reducible exact Nat.le_refl _) | omega | (simp; done) | (simp; omega))) (hb1.mono (by first | exact Nat.le_refl _ | (simp; omega) | (simp; done))))) | (go_at_call 54; ((with_reducible refine (H2.out _).mono ?_); rintro e w2 ⟨wb, wg, rfl, hR2, hn2, hg2, hg2', hl2, hl2', hb2⟩; have hs2 := hb2.size; have hw12 : Below w1.heap.size w1 w2 := Below.trans (by repeat' (first | (with_reducible assumption) | (with_reducible refine Below.setCell ?_ ?_ _) | (with_reducible refine below_drewN' ?_ _) | (with_reducible refine Below.drew ?_) | (with_reducible refine Below.alloc ?_ ?_ _) | (with_reducible exact Below.refl _ _) | (with_reducible exact Nat.le_refl _) | omega | (simp; done) | (simp; omega))) (hb2.mono (by first | exact Nat.le_refl _ | (simp; omega) | (simp; done))); have hw2 : Below w.heap.size w w2 := hw1.trans (hw12.mono hw1.size))))
        refine wpAny_take (i := 4) (v := ?_) rfl (by kernel_rfl) (by kernel_rfl) (by kernel_rfl) (fun _ _ _ h => h) (Or.inl ⟨by rfl, ?_⟩) ?_
        rotate_left
        · intro w; go_simp; try with_reducible rfl
        refine wpAny_ready (rs := [8, 12]) (by kernel_rfl) (by simp) ?_
        refine AllReady.cons rfl (fun K hK => ?_) ?_
        · go_simp
          go_wp2_with (first | (go_at_call 53; ((with_reducible refine (H1.out _).mono ?_); rintro e w1 ⟨bb, bg, rfl, hR1, hn1, hg1, hg1', hl1, hl1', hb1⟩; have hs1 := hb1.size; have hw1 : Below w.heap.size w w1 := Below.trans (by repeat' (first | (with_reducible assumption) | (with_reducible refine Below.setCell ?_ ?_ _) | (with_reducible refine below_drewN' ?_ _) | (with_reducible refine Below.drew ?_) | (with_reducible refine Below.alloc ?_ ?_ _) | (with_reducible exact Below.refl _ _) | (with_reducible exact Nat.le_refl _) | omega | (simp; done) | (simp; omega))) (hb1.mono (by first | exact Nat.le_refl _ | (simp; omega) | (simp; done))))) | (go_at_call 54; ((with_reducible refine (H2.out _).mono ?_); rintro e w2 ⟨wb, wg, rfl, hR2, hn2, hg2, hg2', hl2, hl2', hb2⟩; have hs2 := hb2.size; have hw12 : Below w1.heap.size w1 w2 := Below.trans (by repeat' (first | (with_reducible assumption) | (with_reducible refine Below.setCell ?_ ?_ _) | (with_reducible refine below_drewN' ?_ _) | (with_reducible refine Below.drew ?_) | (with_reducible refine Below.alloc ?_ ?_ _) | (with_reducible exact Below.refl _ _) | (with_reducible exact Nat.le_refl _) | omega | (simp; done) | (simp; omega))) (hb2.mono (by first | exact Nat.le_refl _ | (simp; omega) | (simp; done))); have hw2 : Below w.heap.size w w2 := hw1.trans (hw12.mono hw1.size))))
          refine wpAny_ready (rs := [12]) (by kernel_rfl) (by simp) ?_
          refine AllReady.cons rfl (fun K hK => ?_) ?_
          · go_simp
            refine hK _ _ ?_
            clear hK K
            refine wpAny_take (i := 13) (v := ?_) rfl (by kernel_rfl) (by kernel_rfl) (by kernel_rfl) (fun _ _ _ h => h) (Or.inl ⟨by rfl, ?_⟩) ?_
            rotate_left
            · intro w; go_simp; try with_reducible rfl
            refine wpAny_ready (rs := [14]) (by kernel_rfl) (by simp) ?_
            refine AllReady.cons rfl (fun K hK => ?_) ?_
            · go_simp
              refine hK _ _ ?_
              clear hK K
              refine wpAny_ready (rs := [15]) (by kernel_rfl) (by simp) ?_
              refine AllReady.cons rfl (fun K hK => ?_) ?_
              · go_simp
                refine hK _ _ ?_
                clear hK K
                refine wpAny_done (by kernel_rfl) ?_ _
                go_wp2
                go_meet
                have hq1 := hw1.size
                have hq2 := hw2.size
                have hq12 := hw12.size
                try simp at hs1
                try simp at hs2
                refine ⟨_, _, bg, _, wg, _, _, rfl, ⟨alloc_at _ _ (by first | rfl | (simp; done)), ?_, ?_, ?_, ?_, ?_, ?_, ?_⟩⟩
                · repeat' (first | (with_reducible refine drew_at ?_) | (exact alloc_at _ _ (by first | rfl | (simp; done) | (simp; omega))) | (with_reducible refine alloc_old ?_ _) | (with_reducible refine Below.at hb2 ?_ (by first | omega | (simp; done) | (simp; omega))) | (with_reducible refine Below.at hb1 ?_ (by first | omega | (simp; done) | (simp; omega))))
                · repeat' (first | (with_reducible refine drew_at ?_) | (exact alloc_at _ _ (by first | rfl | (simp; done) | (simp; omega))) | (with_reducible refine alloc_old ?_ _) | (with_reducible refine Below.at hb2 ?_ (by first | omega | (simp; done) | (simp; omega))) | (with_reducible refine Below.at hb1 ?_ (by first | omega | (simp; done) | (simp; omega))))
                · exact hR1.below (B := w1.heap.size) (by repeat' (first | (with_reducible assumption) | (with_reducible refine Below.setCell ?_ ?_ _) | (with_reducible refine below_drewN' ?_ _) | (with_reducible refine Below.drew ?_) | (with_reducible refine Below.alloc ?_ ?_ _) | (with_reducible exact Below.refl _ _) | (with_reducible exact Nat.le_refl _) | omega | (simp; done) | (simp; omega))) hl1 hl1'
                · exact hR2.below (B := w2.heap.size) (by repeat' (first | (with_reducible assumption) | (with_reducible refine Below.setCell ?_ ?_ _) | (with_reducible refine below_drewN' ?_ _) | (with_reducible refine Below.drew ?_) | (with_reducible refine Below.alloc ?_ ?_ _) | (with_reducible exact Below.refl _ _) | (with_reducible exact Nat.le_refl _) | omega | (simp; done) | (simp; omega))) hl2 hl2'
                · (simp at hg1 hg1' hl1 hl1' hg2 hg2' hl2 hl2' hs1 hs2 ⊢; omega)
                · (simp at hg1 hg1' hl1 hl1' hg2 hg2' hl2 hl2' hs1 hs2 ⊢; omega)
                · repeat' (first | (with_reducible assumption) | (with_reducible refine Below.setCell ?_ ?_ _) | (with_reducible refine below_drewN' ?_ _) | (with_reducible refine Below.drew ?_) | (with_reducible refine Below.alloc ?_ ?_ _) | (with_reducible exact Below.refl _ _) | (with_reducible exact Nat.le_refl _) | omega | (simp; done) | (simp; omega))
              exact AllReady.nil
            exact AllReady.nil
          exact AllReady.nil
        refine AllReady.cons rfl (fun K hK => ?_) ?_
        · go_simp
          refine hK _ _ ?_
          clear hK K
          refine wpAny_ready (rs := [8]) (by kernel_rfl) (by simp) ?_
          refine AllReady.cons rfl (fun K hK => ?_) ?_
          · go_simp
            go_wp2_with (first | (go_at_call 53; ((with_reducible refine (H1.out _).mono ?_); rintro e w1 ⟨bb, bg, rfl, hR1, hn1, hg1, hg1', hl1, hl1', hb1⟩; have hs1 := hb1.size; have hw1 : Below w.heap.size w w1 := Below.trans (by repeat' (first | (with_reducible assumption) | (with_reducible refine Below.setCell ?_ ?_ _) | (with_reducible refine below_drewN' ?_ _) | (with_reducible refine Below.drew ?_) | (with_reducible refine Below.alloc ?_ ?_ _) | (with_reducible exact Below.refl _ _) | (with_reducible exact Nat.le_refl _) | omega | (simp; done) | (simp; omega))) (hb1.mono (by first | exact Nat.le_refl _ | (simp; omega) | (simp; done))))) | (go_at_call 54; ((with_reducible refine (H2.out _).mono ?_); rintro e w2 ⟨wb, wg, rfl, hR2, hn2, hg2, hg2', hl2, hl2', hb2⟩; have hs2 := hb2.size; have hw12 : Below w1.heap.size w1 w2 := Below.trans (by repeat' (first | (with_reducible assumption) | (with_reducible refine Below.setCell ?_ ?_ _) | (with_reducible refine below_drewN' ?_ _) | (with_reducible refine Below.drew ?_) | (with_reducible refine Below.alloc ?_ ?_ _) | (with_reducible exact Below.refl _ _) | (with_reducible exact Nat.le_refl _) | omega | (simp; done) | (simp; omega))) (hb2.mono (by first | exact Nat.le_refl _ | (simp; omega) | (simp; done))); have hw2 : Below w.heap.size w w2 := hw1.trans (hw12.mono hw1.size))))
            refine wpAny_take (i := 13) (v := ?_) rfl (by kernel_rfl) (by kernel_rfl) (by kernel_rfl) (fun _ _ _ h => h) (Or.inl ⟨by rfl, ?_⟩) ?_
            rotate_left
            · intro w; go_simp; try with_reducible rfl
            refine wpAny_ready (rs := [14]) (by kernel_rfl) (by simp) ?_
            refine AllReady.cons rfl (fun K hK => ?_) ?_
            · go_simp
              refine hK _ _ ?_
              clear hK K
              refine wpAny_ready (rs := [15]) (by kernel_rfl) (by simp) ?_
              refine AllReady.cons rfl (fun K hK => ?_) ?_
              · go_simp
                refine hK _ _ ?_
                clear hK K
                refine wpAny_done (by kernel_rfl) ?_ _
                go_wp2
                go_meet
                have hq1 := hw1.size
                have hq2 := hw2.size
                have hq12 := hw12.size
                try simp at hs1
                try simp at hs2
                refine ⟨_, _, bg, _, wg, _, _, rfl, ⟨alloc_at _ _ (by first | rfl | (simp; done)), ?_, ?_, ?_, ?_, ?_, ?_, ?_⟩⟩
                · repeat' (first | (with_reducible refine drew_at ?_) | (exact alloc_at _ _ (by first | rfl | (simp; done) | (simp; omega))) | (with_reducible refine alloc_old ?_ _) | (with_reducible refine Below.at hb2 ?_ (by first | omega | (simp; done) | (simp; omega))) | (with_reducible refine Below.at hb1 ?_ (by first | omega | (simp; done) | (simp; omega))))
                · repeat' (first | (with_reducible refine drew_at ?_) | (exact alloc_at _ _ (by first | rfl | (simp; done) | (simp; omega))) | (with_reducible refine alloc_old ?_ _) | (with_reducible refine Below.at hb2 ?_ (by first | omega | (simp; done) | (simp; omega))) | (with_reducible refine Below.at hb1 ?_ (by first | omega | (simp; done) | (simp; omega))))
                · exact hR1.below (B := w1.heap.size) (by repeat' (first | (with_reducible assumption) | (with_reducible refine Below.setCell ?_ ?_ _) | (with_reducible refine below_drewN' ?_ _) | (with_reducible refine Below.drew ?_) | (with_reducible refine Below.alloc ?_ ?_ _) | (with_reducible exact Below.refl _ _) | (with_reducible exact Nat.le_refl _) | omega | (simp; done) | (simp; omega))) hl1 hl1'
                · exact hR2.below (B := w2.heap.size) (by repeat' (first | (with_reducible assumption) | (with_reducible refine Below.setCell ?_ ?_ _) | (with_reducible refine below_drewN' ?_ _) | (with_reducible refine Below.drew ?_) | (with_reducible refine Below.alloc ?_ ?_ _) | (with_reducible exact Below.refl _ _) | (with_reducible exact Nat.le_refl _) | omega | (simp; done) | (simp; omega))) hl2 hl2'
                · (simp at hg1 hg1' hl1 hl1' hg2 hg2' hl2 hl2' hs1 hs2 ⊢; omega)
                · (simp at hg1 hg1' hl1 hl1' hg2 hg2' hl2 hl2' hs1 hs2 ⊢; omega)
                · repeat' (first | (with_reducible assumption) | (with_reducible refine Below.setCell ?_ ?_ _) | (with_reducible refine below_drewN' ?_ _) | (with_reducible refine Below.drew ?_) | (with_reducible refine Below.alloc ?_ ?_ _) | (with_reducible exact Below.refl _ _) | (with_reducible exact Nat.le_refl _) | omega | (simp; done) | (simp; omega))
              exact AllReady.nil
            exact AllReady.nil
          exact AllReady.nil
        exact AllReady.nil
      refine AllReady.cons rfl (fun K hK => ?_) ?_
      · go_simp
        refine hK _ _ ?_
        clear hK K
        refine wpAny_ready (rs := [3]) (by kernel_rfl) (by simp) ?_
        refine AllReady.cons rfl (fun K hK => ?_) ?_
        · go_simp
          go_wp2_with (first | (go_at_call 53; ((with_reducible refine (H1.out _).mono ?_); rintro e w1 ⟨bb, bg, rfl, hR1, hn1, hg1, hg1', hl1, hl1', hb1⟩; have hs1 := hb1.size; have hw1 : Below w.heap.size w w1 := Below.trans (by repeat' (first | (with_reducible assumption) | (with_reducible refine Below.setCell ?_ ?_ _) | (with_reducible refine below_drewN' ?_ _) | (with_reducible refine Below.drew ?_) | (with_reducible refine Below.alloc ?_ ?_ _) | (with_reducible exact Below.refl _ _) | (with_reducible exact Nat.le_refl _) | omega | (simp; done) | (simp; omega))) (hb1.mono (by first | exact Nat.le_refl _ | (simp; omega) | (simp; done))))) | (go_at_call 54; ((with_reducible refine (H2.out _).mono ?_); rintro e w2 ⟨wb, wg, rfl, hR2, hn2, hg2, hg2', hl2, hl2', hb2⟩; have hs2 := hb2.size; have hw12 : Below w1.heap.size w1 w2 := Below.trans (by repeat' (first | (with_reducible assumption) | (with_reducible refine Below.setCell ?_ ?_ _) | (with_reducible refine below_drewN' ?_ _) | (with_reducible refine Below.drew ?_) | (with_reducible refine Below.alloc ?_ ?_ _) | (with_reducible exact Below.refl _ _) | (with_reducible exact Nat.le_refl _) | omega | (simp; done) | (simp; omega))) (hb2.mono (by first | exact Nat.le_refl _ | (simp; omega) | (simp; done))); have hw2 : Below w.heap.size w w2 := hw1.trans (hw12.mono hw1.size))))
          refine wpAny_take (i := 4) (v := ?_) rfl (by kernel_rfl) (by kernel_rfl) (by kernel_rfl) (fun _ _ _ h => h) (Or.inl ⟨by rfl, ?_⟩) ?_
          rotate_left
          · intro w; go_simp; try with_reducible rfl
          refine wpAny_ready (rs := [8]) (by kernel_rfl) (by simp) ?_
          refine AllReady.cons rfl (fun K hK => ?_) ?_
          · go_simp
            go_wp2_with (first | (go_at_call 53; ((with_reducible refine (H1.out _).mono ?_); rintro e w1 ⟨bb, bg, rfl, hR1, hn1, hg1, hg1', hl1, hl1', hb1⟩; have hs1 := hb1.size; have hw1 : Below w.heap.size w w1 := Below.trans (by repeat' (first | (with_reducible assumption) | (with_reducible refine Below.setCell ?_ ?_ _) | (with_reducible refine below_drewN' ?_ _) | (with_reducible refine Below.drew ?_) | (with_reducible refine Below.alloc ?_ ?_ _) | (with_reducible exact Below.refl _ _) | (with_reducible exact Nat.le_refl _) | omega | (simp; done) | (simp; omega))) (hb1.mono (by first | exact Nat.le_refl _ | (simp; omega) | (simp; done))))) | (go_at_call 54; ((with_reducible refine (H2.out _).mono ?_); rintro e w2 ⟨wb, wg, rfl, hR2, hn2, hg2, hg2', hl2, hl2', hb2⟩; have hs2 := hb2.size; have hw12 : Below w1.heap.size w1 w2 := Below.trans (by repeat' (first | (with_reducible assumption) | (with_reducible refine Below.setCell ?_ ?_ _) | (with_reducible refine below_drewN' ?_ _) | (with_reducible refine Below.drew ?_) | (with_reducible refine Below.alloc ?_ ?_ _) | (with_reducible exact Below.refl _ _) | (with_reducible exact Nat.le_refl _) | omega | (simp; done) | (simp; omega))) (hb2.mono (by first | exact Nat.le_refl _ | (simp; omega) | (simp; done))); have hw2 : Below w.heap.size w w2 := hw1.trans (hw12.mono hw1.size))))
            refine wpAny_take (i := 13) (v := ?_) rfl (by kernel_rfl) (by kernel_rfl) (by kernel_rfl) (fun _ _ _ h => h) (Or.inl ⟨by rfl, ?_⟩) ?_
            rotate_left
            · intro w; go_simp; try with_reducible rfl
            refine wpAny_ready (rs := [14]) (by kernel_rfl) (by simp) ?_
            refine AllReady.cons rfl (fun K hK => ?_) ?_
            · go_simp
              refine hK _ _ ?_
              clear hK K
              refine wpAny_ready (rs := [15]) (by kernel_rfl) (by simp) ?_
              refine AllReady.cons rfl (fun K hK => ?_) ?_
              · go_simp
                refine hK _ _ ?_
                clear hK K
                refine wpAny_done (by kernel_rfl) ?_ _
                go_wp2
                go_meet
                have hq1 := hw1.size
                have hq2 := hw2.size
                have hq12 := hw12.size
                try simp at hs1
                try simp at hs2
                refine ⟨_, _, bg, _, wg, _, _, rfl, ⟨alloc_at _ _ (by first | rfl | (simp; done)), ?_, ?_, ?_, ?_, ?_, ?_, ?_⟩⟩
                · repeat' (first | (with_reducible refine drew_at ?_) | (exact alloc_at _ _ (by first | rfl | (simp; done) | (simp; omega))) | (with_reducible refine alloc_old ?_ _) | (with_reducible refine Below.at hb2 ?_ (by first | omega | (simp; done) | (simp; omega))) | (with_reducible refine Below.at hb1 ?_ (by first | omega | (simp; done) | (simp; omega))))
                · repeat' (first | (with_reducible refine drew_at ?_) | (exact alloc_at _ _ (by first | rfl | (simp; done) | (simp; omega))) | (with_reducible refine alloc_old ?_ _) | (with_reducible refine Below.at hb2 ?_ (by first | omega | (simp; done) | (simp; omega))) | (with_reducible refine Below.at hb1 ?_ (by first | omega | (simp; done) | (simp; omega))))
                · exact hR1.below (B := w1.heap.size) (by repeat' (first | (with_reducible assumption) | (with_reducible refine Below.setCell ?_ ?_ _) | (with_reducible refine below_drewN' ?_ _) | (with_reducible refine Below.drew ?_) | (with_reducible refine Below.alloc ?_ ?_ _) | (with_reducible exact Below.refl _ _) | (with_reducible exact Nat.le_refl _) | omega | (simp; done) | (simp; omega))) hl1 hl1'
                · exact hR2.below (B := w2.heap.size) (by repeat' (first | (with_reducible assumption) | (with_reducible refine Below.setCell ?_ ?_ _) | (with_reducible refine below_drewN' ?_ _) | (with_reducible refine Below.drew ?_) | (with_reducible refine Below.alloc ?_ ?_ _) | (with_reducible exact Below.refl _ _) | (with_reducible exact Nat.le_refl _) | omega | (simp; done) | (simp; omega))) hl2 hl2'
                · (simp at hg1 hg1' hl1 hl1' hg2 hg2' hl2 hl2' hs1 hs2 ⊢; omega)
                · (simp at hg1 hg1' hl1 hl1' hg2 hg2' hl2 hl2' hs1 hs2 ⊢; omega)
                · repeat' (first | (with_reducible assumption) | (with_reducible refine Below.setCell ?_ ?_ _) | (with_reducible refine below_drewN' ?_ _) | (with_reducible refine Below.drew ?_) | (with_reducible refine Below.alloc ?_ ?_ _) | (with_reducible exact Below.refl _ _) | (with_reducible exact Nat.le_refl _) | omega | (simp; done) | (simp; omega))
              exact AllReady.nil
            exact AllReady.nil
          exact AllReady.nil
        exact AllReady.nil
      exact AllReady.nil
    refine AllReady.cons rfl (fun K hK => ?_) ?_
    · go_simp
      refine hK _ _ ?_
      clear hK K
      refine wpAny_ready (rs := [3, 10]) (by kernel_rfl) (by simp) ?_
      refine AllReady.cons rfl (fun K hK => ?_) ?_
      · go_simp
        go_wp2_with (first | (go_at_call 53; ((with_reducible refine (H1.out _).mono ?_); rintro e w1 ⟨bb, bg, rfl, hR1, hn1, hg1, hg1', hl1, hl1', hb1⟩; have hs1 := hb1.size; have hw1 : Below w.heap.size w w1 := Below.trans (by repeat' (first | (with_reducible assumption) | (with_reducible refine Below.setCell ?_ ?_ _) | (with_reducible refine below_drewN' ?_ _) | (with_reducible refine Below.drew ?_) | (with_reducible refine Below.alloc ?_ ?_ _) | (with_reducible exact Below.refl _ _) | (with_reducible exact Nat.le_refl _) | omega | (simp; done) | (simp; omega))) (hb1.mono (by first | exact Nat.le_refl _ | (simp; omega) | (simp; done))))) | (go_at_call 54; ((with_reducible refine (H2.out _).mono ?_); rintro e w2 ⟨wb, wg, rfl, hR2, hn2, hg2, hg2', hl2, hl2', hb2⟩; have hs2 := hb2.size; have hw12 : Below w1.heap.size w1 w2 := Below.trans (by repeat' (first | (with_reducible assumption) | (with_reducible refine Below.setCell ?_ ?_ _) | (with_reducible refine below_drewN' ?_ _) | (with_reducible refine Below.drew ?_) | (with_reducible refine Below.alloc ?_ ?_ _) | (with_reducible exact Below.refl _ _) | (with_reducible exact Nat.le_refl _) | omega | (simp; done) | (simp; omega))) (hb2.mono (by first | exact Nat.le_refl _ | (simp; omega) | (simp; done))); have hw2 : Below w.heap.size w w2 := hw1.trans (hw12.mono hw1.size))))
        refine wpAny_take (i := 4) (v := ?_) rfl (by kernel_rfl) (by kernel_rfl) (by kernel_rfl) (fun _ _ _ h => h) (Or.inl ⟨by rfl, ?_⟩) ?_
        rotate_left
        · intro w; go_simp; try with_reducible rfl
        refine wpAny_ready (rs := [8, 10]) (by kernel_rfl) (by simp) ?_
        refine AllReady.cons rfl (fun K hK => ?_) ?_
        · go_simp
          go_wp2_with (first | (go_at_call 53; ((with_reducible refine (H1.out _).mono ?_); rintro e w1 ⟨bb, bg, rfl, hR1, hn1, hg1, hg1', hl1, hl1', hb1⟩; have hs1 := hb1.size; have hw1 : Below w.heap.size w w1 := Below.trans (by repeat' (first | (with_reducible assumption) | (with_reducible refine Below.setCell ?_ ?_ _) | (with_reducible refine below_drewN' ?_ _) | (with_reducible refine Below.drew ?_) | (with_reducible refine Below.alloc ?_ ?_ _) | (with_reducible exact Below.refl _ _) | (with_reducible exact Nat.le_refl _) | omega | (simp; done) | (simp; omega))) (hb1.mono (by first | exact Nat.le_refl _ | (simp; omega) | (simp; done))))) | (go_at_call 54; ((with_reducible refine (H2.out _).mono ?_); rintro e w2 ⟨wb, wg, rfl, hR2, hn2, hg2, hg2', hl2, hl2', hb2⟩; have hs2 := hb2.size; have hw12 : Below w1.heap.size w1 w2 := Below.trans (by repeat' (first | (with_reducible assumption) | (with_reducible refine Below.setCell ?_ ?_ _) | (with_reducible refine below_drewN' ?_ _) | (with_reducible refine Below.drew ?_) | (with_reducible refine Below.alloc ?_ ?_ _) | (with_reducible exact Below.refl _ _) | (with_reducible exact Nat.le_refl _) | omega | (simp; done) | (simp; omega))) (hb2.mono (by first | exact Nat.le_refl _ | (simp; omega) | (simp; done))); have hw2 : Below w.heap.size w w2 := hw1.trans (hw12.mono hw1.size))))
          refine wpAny_ready (rs := [10]) (by kernel_rfl) (by simp) ?_
          refine AllReady.cons rfl (fun K hK => ?_) ?_
          · go_simp
            refine hK _ _ ?_
            clear hK K
            refine wpAny_take (i := 13) (v := ?_) rfl (by kernel_rfl) (by kernel_rfl) (by kernel_rfl) (fun _ _ _ h => h) (Or.inl ⟨by rfl, ?_⟩) ?_
            rotate_left
            · intro w; go_simp; try with_reducible rfl
            refine wpAny_ready (rs := [14]) (by kernel_rfl) (by simp) ?_
            refine AllReady.cons rfl (fun K hK => ?_) ?_
            · go_simp
              refine hK _ _ ?_
              clear hK K
              refine wpAny_ready (rs := [15]) (by kernel_rfl) (by simp) ?_
              refine AllReady.cons rfl (fun K hK => ?_) ?_
              · go_simp
                refine hK _ _ ?_
                clear hK K
                refine wpAny_done (by kernel_rfl) ?_ _
                go_wp2
                go_meet
                have hq1 := hw1.size
                have hq2 := hw2.size
                have hq12 := hw12.size
                try simp at hs1
                try simp at hs2
                refine ⟨_, _, bg, _, wg, _, _, rfl, ⟨alloc_at _ _ (by first | rfl | (simp; done)), ?_, ?_, ?_, ?_, ?_, ?_, ?_⟩⟩
                · repeat' (first | (with_reducible refine drew_at ?_) | (exact alloc_at _ _ (by first | rfl | (simp; done) | (simp; omega))) | (with_reducible refine alloc_old ?_ _) | (with_reducible refine Below.at hb2 ?_ (by first | omega | (simp; done) | (simp; omega))) | (with_reducible refine Below.at hb1 ?_ (by first | omega | (simp; done) | (simp; omega))))
                · repeat' (first | (with_reducible refine drew_at ?_) | (exact alloc_at _ _ (by first | rfl | (simp; done) | (simp; omega))) | (with_reducible refine alloc_old ?_ _) | (with_reducible refine Below.at hb2 ?_ (by first | omega | (simp; done) | (simp; omega))) | (with_reducible refine Below.at hb1 ?_ (by first | omega | (simp; done) | (simp; omega))))
                · exact hR1.below (B := w1.heap.size) (by repeat' (first | (with_reducible assumption) | (with_reducible refine Below.setCell ?_ ?_ _) | (with_reducible refine below_drewN' ?_ _) | (with_reducible refine Below.drew ?_) | (with_reducible refine Below.alloc ?_ ?_ _) | (with_reducible exact Below.refl _ _) | (with_reducible exact Nat.le_refl _) | omega | (simp; done) | (simp; omega))) hl1 hl1'
                · exact hR2.below (B := w2.heap.size) (by repeat' (first | (with_reducible assumption) | (with_reducible refine Below.setCell ?_ ?_ _) | (with_reducible refine below_drewN' ?_ _) | (with_reducible refine Below.drew ?_) | (with_reducible refine Below.alloc ?_ ?_ _) | (with_reducible exact Below.refl _ _) | (with_reducible exact Nat.le_refl _) | omega | (simp; done) | (simp; omega))) hl2 hl2'
                · (simp at hg1 hg1' hl1 hl1' hg2 hg2' hl2 hl2' hs1 hs2 ⊢; omega)
                · (simp at hg1 hg1' hl1 hl1' hg2 hg2' hl2 hl2' hs1 hs2 ⊢; omega)
                · repeat' (first | (with_reducible assumption) | (with_reducible refine Below.setCell ?_ ?_ _) | (with_reducible refine below_drewN' ?_ _) | (with_reducible refine Below.drew ?_) | (with_reducible refine Below.alloc ?_ ?_ _) | (with_reducible exact Below.refl _ _) | (with_reducible exact Nat.le_refl _) | omega | (simp; done) | (simp; omega))
              exact AllReady.nil
            exact AllReady.nil
          exact AllReady.nil
        refine AllReady.cons rfl (fun K hK => ?_) ?_
        · go_simp
          refine hK _ _ ?_
          clear hK K
          refine wpAny_ready (rs := [8]) (by kernel_rfl) (by simp) ?_
          refine AllReady.cons rfl (fun K hK => ?_) ?_
          · go_simp
            go_wp2_with (first | (go_at_call 53; ((with_reducible refine (H1.out _).mono ?_); rintro e w1 ⟨bb, bg, rfl, hR1, hn1, hg1, hg1', hl1, hl1', hb1⟩; have hs1 := hb1.size; have hw1 : Below w.heap.size w w1 := Below.trans (by repeat' (first | (with_reducible assumption) | (with_reducible refine Below.setCell ?_ ?_ _) | (with_reducible refine below_drewN' ?_ _) | (with_reducible refine Below.drew ?_) | (with_reducible refine Below.alloc ?_ ?_ _) | (with_reducible exact Below.refl _ _) | (with_reducible exact Nat.le_refl _) | omega | (simp; done) | (simp; omega))) (hb1.mono (by first | exact Nat.le_refl _ | (simp; omega) | (simp; done))))) | (go_at_call 54; ((with_reducible refine (H2.out _).mono ?_); rintro e w2 ⟨wb, wg, rfl, hR2, hn2, hg2, hg2', hl2, hl2', hb2⟩; have hs2 := hb2.size; have hw12 : Below w1.heap.size w1 w2 := Below.trans (by repeat' (first | (with_reducible assumption) | (with_reducible refine Below.setCell ?_ ?_ _) | (with_reducible refine below_drewN' ?_ _) | (with_reducible refine Below.drew ?_) | (with_reducible refine Below.alloc ?_ ?_ _) | (with_reducible exact Below.refl _ _) | (with_reducible exact Nat.le_refl _) | omega | (simp; done) | (simp; omega))) (hb2.mono (by first | exact Nat.le_refl _ | (simp; omega) | (simp; done))); have hw2 : Below w.heap.size w w2 := hw1.trans (hw12.mono hw1.size))))
            refine wpAny_take (i := 13) (v := ?_) rfl (by kernel_rfl) (by kernel_rfl) (by kernel_rfl) (fun _ _ _ h => h) (Or.inl ⟨by rfl, ?_⟩) ?_
            rotate_left
            · intro w; go_simp; try with_reducible rfl
            refine wpAny_ready (rs := [14]) (by kernel_rfl) (by simp) ?_
            refine AllReady.cons rfl (fun K hK => ?_) ?_
            · go_simp
              refine hK _ _ ?_
              clear hK K
              refine wpAny_ready (rs := [15]) (by kernel_rfl) (by simp) ?_
              refine AllReady.cons rfl (fun K hK => ?_) ?_
              · go_simp
                refine hK _ _ ?_
                clear hK K
                refine wpAny_done (by kernel_rfl) ?_ _
                go_wp2
                go_meet
                have hq1 := hw1.size
                have hq2 := hw2.size
                have hq12 := hw12.size
                try simp at hs1
                try simp at hs2
                refine ⟨_, _, bg, _, wg, _, _, rfl, ⟨alloc_at _ _ (by first | rfl | (simp; done)), ?_, ?_, ?_, ?_, ?_, ?_, ?_⟩⟩
                · repeat' (first | (with_reducible refine drew_at ?_) | (exact alloc_at _ _ (by first | rfl | (simp; done) | (simp; omega))) | (with_reducible refine alloc_old ?_ _) | (with_reducible refine Below.at hb2 ?_ (by first | omega | (simp; done) | (simp; omega))) | (with_reducible refine Below.at hb1 ?_ (by first | omega | (simp; done) | (simp; omega))))
                · repeat' (first | (with_reducible refine drew_at ?_) | (exact alloc_at _ _ (by first | rfl | (simp; done) | (simp; omega))) | (with_reducible refine alloc_old ?_ _) | (with_reducible refine Below.at hb2 ?_ (by first | omega | (simp; done) | (simp; omega))) | (with_reducible refine Below.at hb1 ?_ (by first | omega | (simp; done) | (simp; omega))))
                · exact hR1.below (B := w1.heap.size) (by repeat' (first | (with_reducible assumption) | (with_reducible refine Below.setCell ?_ ?_ _) | (with_reducible refine below_drewN' ?_ _) | (with_reducible refine Below.drew ?_) | (with_reducible refine Below.alloc ?_ ?_ _) | (with_reducible exact Below.refl _ _) | (with_reducible exact Nat.le_refl _) | omega | (simp; done) | (simp; omega))) hl1 hl1'
                · exact hR2.below (B := w2.heap.size) (by repeat' (first | (with_reducible assumption) | (with_reducible refine Below.setCell ?_ ?_ _) | (with_reducible refine below_drewN' ?_ _) | (with_reducible refine Below.drew ?_) | (with_reducible refine Below.alloc ?_ ?_ _) | (with_reducible exact Below.refl _ _) | (with_reducible exact Nat.le_refl _) | omega | (simp; done) | (simp; omega))) hl2 hl2'
                · (simp at hg1 hg1' hl1 hl1' hg2 hg2' hl2 hl2' hs1 hs2 ⊢; omega)
                · (simp at hg1 hg1' hl1 hl1' hg2 hg2' hl2 hl2' hs1 hs2 ⊢; omega)
                · repeat' (first | (with_reducible assumption) | (with_reducible refine Below.setCell ?_ ?_ _) | (with_reducible refine below_drewN' ?_ _) | (with_reducible refine Below.drew ?_) | (with_reducible refine Below.alloc ?_ ?_ _) | (with_reducible exact Below.refl _ _) | (with_reducible exact Nat.le_refl _) | omega | (simp; done) | (simp; omega))
              exact AllReady.nil
            exact AllReady.nil
          exact AllReady.nil
        exact AllReady.nil
      refine AllReady.cons rfl (fun K hK => ?_) ?_
      · go_simp
        refine hK _ _ ?_
        clear hK K
        refine wpAny_ready (rs := [3]) (by kernel_rfl) (by simp) ?_
        refine AllReady.cons rfl (fun K hK => ?_) ?_
        · go_simp
          go_wp2_with (first | (go_at_call 53; ((with_reducible refine (H1.out _).mono ?_); rintro e w1 ⟨bb, bg, rfl, hR1, hn1, hg1, hg1', hl1, hl1', hb1⟩; have hs1 := hb1.size; have hw1 : Below w.heap.size w w1 := Below.trans (by repeat' (first | (with_reducible assumption) | (with_reducible refine Below.setCell ?_ ?_ _) | (with_reducible refine below_drewN' ?_ _) | (with_reducible refine Below.drew ?_) | (with_reducible refine Below.alloc ?_ ?_ _) | (with_reducible exact Below.refl _ _) | (with_reducible exact Nat.le_refl _) | omega | (simp; done) | (simp; omega))) (hb1.mono (by first | exact Nat.le_refl _ | (simp; omega) | (simp; done))))) | (go_at_call 54; ((with_reducible refine (H2.out _).mono ?_); rintro e w2 ⟨wb, wg, rfl, hR2, hn2, hg2, hg2', hl2, hl2', hb2⟩; have hs2 := hb2.size; have hw12 : Below w1.heap.size w1 w2 := Below.trans (by repeat' (first | (with_reducible assumption) | (with_reducible refine Below.setCell ?_ ?_ _) | (with_reducible refine below_drewN' ?_ _) | (with_reducible refine Below.drew ?_) | (with_reducible refine Below.alloc ?_ ?_ _) | (with_reducible exact Below.refl _ _) | (with_reducible exact Nat.le_refl _) | omega | (simp; done) | (simp; omega))) (hb2.mono (by first | exact Nat.le_refl _ | (simp; omega) | (simp; done))); have hw2 : Below w.heap.size w w2 := hw1.trans (hw12.mono hw1.size))))
          refine wpAny_take (i := 4) (v := ?_) rfl (by kernel_rfl) (by kernel_rfl) (by kernel_rfl) (fun _ _ _ h => h) (Or.inl ⟨by rfl, ?_⟩) ?_
          rotate_left
          · intro w; go_simp; try with_reducible rfl
          refine wpAny_ready (rs := [8]) (by kernel_rfl) (by simp) ?_
          refine AllReady.cons rfl (fun K hK => ?_) ?_
          · go_simp
            go_wp2_with (first | (go_at_call 53; ((with_reducible refine (H1.out _).mono ?_); rintro e w1 ⟨bb, bg, rfl, hR1, hn1, hg1, hg1', hl1, hl1', hb1⟩; have hs1 := hb1.size; have hw1 : Below w.heap.size w w1 := Below.trans (by repeat' (first | (with_reducible assumption) | (with_reducible refine Below.setCell ?_ ?_ _) | (with_reducible refine below_drewN' ?_ _) | (with_reducible refine Below.drew ?_) | (with_reducible refine Below.alloc ?_ ?_ _) | (with_reducible exact Below.refl _ _) | (with_reducible exact Nat.le_refl _) | omega | (simp; done) | (simp; omega))) (hb1.mono (by first | exact Nat.le_refl _ | (simp; omega) | (simp; done))))) | (go_at_call 54; ((with_reducible refine (H2.out _).mono ?_); rintro e w2 ⟨wb, wg, rfl, hR2, hn2, hg2, hg2', hl2, hl2', hb2⟩; have hs2 := hb2.size; have hw12 : Below w1.heap.size w1 w2 := Below.trans (by repeat' (first | (with_reducible assumption) | (with_reducible refine Below.setCell ?_ ?_ _) | (with_reducible refine below_drewN' ?_ _) | (with_reducible refine Below.drew ?_) | (with_reducible refine Below.alloc ?_ ?_ _) | (with_reducible exact Below.refl _ _) | (with_reducible exact Nat.le_refl _) | omega | (simp; done) | (simp; omega))) (hb2.mono (by first | exact Nat.le_refl _ | (simp; omega) | (simp; done))); have hw2 : Below w.heap.size w w2 := hw1.trans (hw12.mono hw1.size))))
            refine wpAny_take (i := 13) (v := ?_) rfl (by kernel_rfl) (by kernel_rfl) (by kernel_rfl) (fun _ _ _ h => h) (Or.inl ⟨by rfl, ?_⟩) ?_
            rotate_left
            · intro w; go_simp; try with_reducible rfl
            refine wpAny_ready (rs := [14]) (by kernel_rfl) (by simp) ?_
            refine AllReady.cons rfl (fun K hK => ?_) ?_
            · go_simp
              refine hK _ _ ?_
              clear hK K
              refine wpAny_ready (rs := [15]) (by kernel_rfl) (by simp) ?_
              refine AllReady.cons rfl (fun K hK => ?_) ?_
              · go_simp
                refine hK _ _ ?_
                clear hK K
                refine wpAny_done (by kernel_rfl) ?_ _
                go_wp2
                go_meet
                have hq1 := hw1.size
                have hq2 := hw2.size
                have hq12 := hw12.size
                try simp at hs1
                try simp at hs2
                refine ⟨_, _, bg, _, wg, _, _, rfl, ⟨alloc_at _ _ (by first | rfl | (simp; done)), ?_, ?_, ?_, ?_, ?_, ?_, ?_⟩⟩
                · repeat' (first | (with_reducible refine drew_at ?_) | (exact alloc_at _ _ (by first | rfl | (simp; done) | (simp; omega))) | (with_reducible refine alloc_old ?_ _) | (with_reducible refine Below.at hb2 ?_ (by first | omega | (simp; done) | (simp; omega))) | (with_reducible refine Below.at hb1 ?_ (by first | omega | (simp; done) | (simp; omega))))
                · repeat' (first | (with_reducible refine drew_at ?_) | (exact alloc_at _ _ (by first | rfl | (simp; done) | (simp; omega))) | (with_reducible refine alloc_old ?_ _) | (with_reducible refine Below.at hb2 ?_ (by first | omega | (simp; done) | (simp; omega))) | (with_reducible refine Below.at hb1 ?_ (by first | omega | (simp; done) | (simp; omega))))
                · exact hR1.below (B := w1.heap.size) (by repeat' (first | (with_reducible assumption) | (with_reducible refine Below.setCell ?_ ?_ _) | (with_reducible refine below_drewN' ?_ _) | (with_reducible refine Below.drew ?_) | (with_reducible refine Below.alloc ?_ ?_ _) | (with_reducible exact Below.refl _ _) | (with_reducible exact Nat.le_refl _) | omega | (simp; done) | (simp; omega))) hl1 hl1'
                · exact hR2.below (B := w2.heap.size) (by repeat' (first | (with_reducible assumption) | (with_reducible refine Below.setCell ?_ ?_ _) | (with_reducible refine below_drewN' ?_ _) | (with_reducible refine Below.drew ?_) | (with_reducible refine Below.alloc ?_ ?_ _) | (with_reducible exact Below.refl _ _) | (with_reducible exact Nat.le_refl _) | omega | (simp; done) | (simp; omega))) hl2 hl2'
                · (simp at hg1 hg1' hl1 hl1' hg2 hg2' hl2 hl2' hs1 hs2 ⊢; omega)
                · (simp at hg1 hg1' hl1 hl1' hg2 hg2' hl2 hl2' hs1 hs2 ⊢; omega)
                · repeat' (first | (with_reducible assumption) | (with_reducible refine Below.setCell ?_ ?_ _) | (with_reducible refine below_drewN' ?_ _) | (with_reducible refine Below.drew ?_) | (with_reducible refine Below.alloc ?_ ?_ _) | (with_reducible exact Below.refl _ _) | (with_reducible exact Nat.le_refl _) | omega | (simp; done) | (simp; omega))
              exact AllReady.nil
            exact AllReady.nil
          exact AllReady.nil
        exact AllReady.nil
      exact AllReady.nil
    exact AllReady.nil
  case rest =>
    obtain ⟨b, bb, bg, wb, wg, cb, fb, rfl, hN⟩ := hcut
    have c2 := cell_at hN.obj 2
    have hbc : b ≠ cb := (nodup7 hN.nd).2.2.2.2.1
    have hcb : cb ≠ b := hbc.symm
    have HN := Lib.hid hN
    clear hN hmk hm H1 H2
    go_wp2
    go_loopw [35] (fun i wr => ∃ m : Nat, m ≤ L ∧ i = .int .i64 (m : Int) ∧ wr.heap[cb]? = some (.cells ((List.replicate m D ++ List.replicate (L - m) 0).map NV).toArray 3 (0, 0)) ∧ Only [cb] wc wr) (fun i _ => L - (intOf i).toNat)
    case atStart => exact ⟨0, by omega, rfl, by have := HN.out.crs; simpa using this, Only.refl _ _⟩
    case round =>
      obtain ⟨m, hm, rfl, hrow, hO⟩ := hrel
      by_cases hlm : m < L
      · have d2 := only_cell hO (off1 hbc) c2
        have dc := nat_cell (i := m) hrow (by simp; omega)
        have df := frozen_at hrow m
        have HROW := Lib.hid hrow
        have HO := Lib.hid hO
        have hlmI : (m : Int) < (L : Int) := by omega
        clear hrow hO
        generalize (List.replicate m D ++ List.replicate (L - m) 0).getD m 0 = x at *
        go_wp2
        go_roundw
        case rel => exact ⟨m + 1, by omega, by go_num, by rw [rep_set hlm]; exact nat_set HROW.out D, HO.out.setCell (by simp) _⟩
        case measure => simp [intOf] <;> omega
      · obtain rfl : m = L := by omega
        have HROW := Lib.hid hrow
        have HO := Lib.hid hO
        clear hrow hO
        go_wp2
        go_ret
        have hr := HN.out
        have hO := HO.out
        obtain ⟨n1, n2, n3, n4, n5, n6, n7, n8, n9, n10, n11, n12, n13, n14, n15, n16, n17, n18, n19, n20, n21⟩ := nodup7 hr.nd
        have hrow := HROW.out
        rw [Nat.sub_self, List.replicate_zero, List.append_nil] at hrow
        have hfa := hO.at hr.fas (off1 n21.symm)
        have e1 : (RS.new (LD : Int) 0 : RS Int).n = m * D := by rw [← HLD.out]; show (min (max (LD : Int) 1) 4096).toNat = LD; omega
        have e2 : (RS.new (Z : Int) 0 : RS Cl).n = Z := by show (min (max (Z : Int) 1) 4096).toNat = Z; omega
        exact ⟨b, _, rfl, ⟨bb, bg, wb, wg, cb, fb, _, _, rfl, HOK.out, hO.at hr.obj (off1 n5), hrow, by rw [hfa]; simp [LS.new], hr.back.only hO (off1 n10) (off1 n14), rfl, rfl, e1, hr.words.only hO (off1 n17) (off1 n19), rfl, rfl, e2, hr.nd⟩, hr.ge, hr.bel.trans (hO.below (fun k hk => by simp at hk; rw [hk]; exact hr.ge _ (by simp)) hr.bel.size)⟩
end Go.Proofs.Ytmehfflomgldeab
