/- The walk of FlitWrites. -/
import Derived.Test.YtncdambphaodaabFlitFew
import Derived.Deep.RegionHeld3
import Derived.Deep.RegionWith
namespace Go.Proofs.Ytncdambphaodaab
set_option linter.unusedVariables false
open Go.RowKit BM
set_option maxRecDepth 100000 in
set_option maxHeartbeats 3000000 in
theorem flitWrites_walk (f g : Fl) (w : World) (hf : f.data.size ≤ maxLen) (hg : g.data.size ≤ maxLen) :
    Calls Try.prog 8 #[f.val, g.val] w fun e w' => e = .returned (.bool true) ∧ Below w.heap.size w w' := by
  have HFf := fun w => few_calls f w hf
  have HFg := fun w => few_calls g w hg
  generalize fewF f = ff at *
  generalize fewF g = gg at *
  have HWf0 := fun w => flit_write ff w
  have HWr0 := fun w => rflit_write ff w
  have HRi0 := fun w => fright_calls ff w
  have HRr0 := fun w => rright3_calls ff w
  have HSm0 := fun w => flit_same ff gg w
  generalize writeF ff = wfp at *
  generalize rightF ff = rf at *
  obtain ⟨wv, we⟩ := wfp
  dsimp only at HWf0 HWr0
  have HWf := Lib.hid HWf0
  have HWr := Lib.hid HWr0
  have HRi := Lib.hid HRi0
  have HRr := Lib.hid HRr0
  have HSm := Lib.hid HSm0
  clear HWf0 HWr0 HRi0 HRr0 HSm0
  obtain ⟨k0, k1, k2, k3, k4, k5, k6, k7⟩ := f
  obtain ⟨g0, g1, g2, g3, g4, g5, g6, g7⟩ := g
  have HFf2 := Lib.hid HFf
  have HFg2 := Lib.hid HFg
  clear HFf HFg hf hg
  have hzz0 : w.heap.size + 1 ≠ w.heap.size := by omega
  have hzz1 : w.heap.size ≠ w.heap.size + 1 := by omega
  have HX : Hid (∀ w', Below (w.heap.size + 1 + 1) ((w.alloc (.cells #[.int .i64 k0, .int .i64 k1, .int .i64 k2, .int .i64 k3, .int .i64 k4, .bool k5, .bool k6, .string k7] 44)).alloc (.cells #[.int .i64 g0, .int .i64 g1, .int .i64 g2, .int .i64 g3, .int .i64 g4, .bool g5, .bool g6, .string g7] 44)) w' → w'.heap[w.heap.size]? = some (.cells #[.int .i64 k0, .int .i64 k1, .int .i64 k2, .int .i64 k3, .int .i64 k4, .bool k5, .bool k6, .string k7] 44 (0, 0)) ∧ w'.heap[w.heap.size + 1]? = some (.cells #[.int .i64 g0, .int .i64 g1, .int .i64 g2, .int .i64 g3, .int .i64 g4, .bool g5, .bool g6, .string g7] 44 (0, 0)) ∧ Below w.heap.size w w') := fun w' hb =>
    ⟨Below.at hb (alloc_old (alloc_new _) _) (by omega), Below.at hb (alloc_at _ _ (by simp)) (by omega), Below.trans (((Below.refl _ _).alloc (Nat.le_refl _) _).alloc (by simp) _) (hb.mono (by omega))⟩
  go_enter Try.func8, Try.ntmps8
  go_wp2_with (first
    | (go_at_call 18; ((with_reducible refine (lives03_calls _).mono ?_); rintro e w1 ⟨rfl, hb1⟩)))
  have hb1' : Below (w.heap.size + 1 + 1) ((w.alloc (.cells #[.int .i64 k0, .int .i64 k1, .int .i64 k2, .int .i64 k3, .int .i64 k4, .bool k5, .bool k6, .string k7] 44)).alloc (.cells #[.int .i64 g0, .int .i64 g1, .int .i64 g2, .int .i64 g3, .int .i64 g4, .bool g5, .bool g6, .string g7] 44)) w1 := by simpa using hb1
  obtain ⟨hF1, hG1, _⟩ := HX.out w1 hb1'
  have f0 := cell_at hF1 0; have f1 := cell_at hF1 1; have f2 := cell_at hF1 2; have f3 := cell_at hF1 3; have f4 := cell_at hF1 4; have f5 := cell_at hF1 5; have f6 := cell_at hF1 6; have f7 := cell_at hF1 7
  have q0 := cell_at hG1 0; have q1 := cell_at hG1 1; have q2 := cell_at hG1 2; have q3 := cell_at hG1 3; have q4 := cell_at hG1 4; have q5 := cell_at hG1 5; have q6 := cell_at hG1 6; have q7 := cell_at hG1 7
  have hzz := hb1'.size
  have HB1 := Lib.hid hb1'
  clear hb1 hb1' hF1 hG1
  go_region_with (first
    | (go_at_call 23; first
        | ((with_reducible refine (HFf2.out _).mono ?_); rintro e w2 ⟨rfl, hb2⟩; have hb2' : Below (w.heap.size + 1 + 1) ((w.alloc (.cells #[.int .i64 k0, .int .i64 k1, .int .i64 k2, .int .i64 k3, .int .i64 k4, .bool k5, .bool k6, .string k7] 44)).alloc (.cells #[.int .i64 g0, .int .i64 g1, .int .i64 g2, .int .i64 g3, .int .i64 g4, .bool g5, .bool g6, .string g7] 44)) w2 := (Below.trans (by have := HB1.out; repeat' (first | (with_reducible exact Below.refl _ _) | (with_reducible assumption) | (with_reducible refine below_drewN' ?_ _) | (with_reducible refine Below.drew ?_) | (with_reducible refine Below.alloc ?_ ?_ _) | (with_reducible exact Nat.le_refl _) | omega | (simp; done) | (simp; omega))) (hb2.mono (by have := HB1.out.size; simp at this ⊢; omega))); obtain ⟨hF2, hG2, _⟩ := HX.out w2 hb2'; have a0 := cell_at hF2 0; have a1 := cell_at hF2 1; have a2 := cell_at hF2 2; have a3 := cell_at hF2 3; have a4 := cell_at hF2 4; have a5 := cell_at hF2 5; have a6 := cell_at hF2 6; have a7 := cell_at hF2 7; have b0 := cell_at hG2 0; have b1 := cell_at hG2 1; have b2 := cell_at hG2 2; have b3 := cell_at hG2 3; have b4 := cell_at hG2 4; have b5 := cell_at hG2 5; have b6 := cell_at hG2 6; have b7 := cell_at hG2 7; have HB2 := Lib.hid hb2'; clear hb2 hb2' hF2 hG2)
        | ((with_reducible refine (HFg2.out _).mono ?_); rintro e w3 ⟨rfl, hb3⟩; have hb3' : Below (w.heap.size + 1 + 1) ((w.alloc (.cells #[.int .i64 k0, .int .i64 k1, .int .i64 k2, .int .i64 k3, .int .i64 k4, .bool k5, .bool k6, .string k7] 44)).alloc (.cells #[.int .i64 g0, .int .i64 g1, .int .i64 g2, .int .i64 g3, .int .i64 g4, .bool g5, .bool g6, .string g7] 44)) w3 := (Below.trans HB2.out (hb3.mono (by have := HB2.out.size; simp at this ⊢; omega))); obtain ⟨hF3, hG3, _⟩ := HX.out w3 hb3'; have c0 := cell_at hF3 0; have c1 := cell_at hF3 1; have c2 := cell_at hF3 2; have c3 := cell_at hF3 3; have c4 := cell_at hF3 4; have c5 := cell_at hF3 5; have c6 := cell_at hF3 6; have c7 := cell_at hF3 7; have d0 := cell_at hG3 0; have d1 := cell_at hG3 1; have d2 := cell_at hG3 2; have d3 := cell_at hG3 3; have d4 := cell_at hG3 4; have d5 := cell_at hG3 5; have d6 := cell_at hG3 6; have d7 := cell_at hG3 7; have x0 := frozen_at hF3 0; have x1 := frozen_at hF3 1; have x2 := frozen_at hF3 2; have x3 := frozen_at hF3 3; have x4 := frozen_at hF3 4; have x5 := frozen_at hF3 5; have x6 := frozen_at hF3 6; have x7 := frozen_at hF3 7; have y0 := frozen_at hG3 0; have y1 := frozen_at hG3 1; have y2 := frozen_at hG3 2; have y3 := frozen_at hG3 3; have y4 := frozen_at hG3 4; have y5 := frozen_at hG3 5; have y6 := frozen_at hG3 6; have y7 := frozen_at hG3 7; have HB3 := Lib.hid hb3'; have HF3 := Lib.hid hF3; have HG3 := Lib.hid hG3; clear hb3 hb3' hF3 hG3)))
  all_goals
    have hFF : ((((((((((((((((w3.setCell ⟨w.heap.size, 0, none⟩ (.int .i64 ff.kind)).setCell ⟨w.heap.size, 1, none⟩ (.int .i64 ff.src)).setCell ⟨w.heap.size, 2, none⟩ (.int .i64 ff.dst)).setCell ⟨w.heap.size, 3, none⟩ (.int .i64 ff.seq)).setCell ⟨w.heap.size, 4, none⟩ (.int .i64 ff.len)).setCell ⟨w.heap.size, 5, none⟩ (.bool ff.more)).setCell ⟨w.heap.size, 6, none⟩ (.bool ff.cast)).setCell ⟨w.heap.size, 7, none⟩ (.string ff.data)).setCell ⟨w.heap.size + 1, 0, none⟩ (.int .i64 gg.kind)).setCell ⟨w.heap.size + 1, 1, none⟩ (.int .i64 gg.src)).setCell ⟨w.heap.size + 1, 2, none⟩ (.int .i64 gg.dst)).setCell ⟨w.heap.size + 1, 3, none⟩ (.int .i64 gg.seq)).setCell ⟨w.heap.size + 1, 4, none⟩ (.int .i64 gg.len)).setCell ⟨w.heap.size + 1, 5, none⟩ (.bool gg.more)).setCell ⟨w.heap.size + 1, 6, none⟩ (.bool gg.cast)).setCell ⟨w.heap.size + 1, 7, none⟩ (.string gg.data)).heap[w.heap.size]? = some (.cells #[.int .i64 ff.kind, .int .i64 ff.src, .int .i64 ff.dst, .int .i64 ff.seq, .int .i64 ff.len, .bool ff.more, .bool ff.cast, .string ff.data] 44 (0, 0)) := other8 (stored8 HF3.out) hzz1
    have hGG : ((((((((((((((((w3.setCell ⟨w.heap.size, 0, none⟩ (.int .i64 ff.kind)).setCell ⟨w.heap.size, 1, none⟩ (.int .i64 ff.src)).setCell ⟨w.heap.size, 2, none⟩ (.int .i64 ff.dst)).setCell ⟨w.heap.size, 3, none⟩ (.int .i64 ff.seq)).setCell ⟨w.heap.size, 4, none⟩ (.int .i64 ff.len)).setCell ⟨w.heap.size, 5, none⟩ (.bool ff.more)).setCell ⟨w.heap.size, 6, none⟩ (.bool ff.cast)).setCell ⟨w.heap.size, 7, none⟩ (.string ff.data)).setCell ⟨w.heap.size + 1, 0, none⟩ (.int .i64 gg.kind)).setCell ⟨w.heap.size + 1, 1, none⟩ (.int .i64 gg.src)).setCell ⟨w.heap.size + 1, 2, none⟩ (.int .i64 gg.dst)).setCell ⟨w.heap.size + 1, 3, none⟩ (.int .i64 gg.seq)).setCell ⟨w.heap.size + 1, 4, none⟩ (.int .i64 gg.len)).setCell ⟨w.heap.size + 1, 5, none⟩ (.bool gg.more)).setCell ⟨w.heap.size + 1, 6, none⟩ (.bool gg.cast)).setCell ⟨w.heap.size + 1, 7, none⟩ (.string gg.data)).heap[w.heap.size + 1]? = some (.cells #[.int .i64 gg.kind, .int .i64 gg.src, .int .i64 gg.dst, .int .i64 gg.seq, .int .i64 gg.len, .bool gg.more, .bool gg.cast, .string gg.data] 44 (0, 0)) := stored8 (other8 HG3.out hzz0)
    have hBB : Below w.heap.size w ((((((((((((((((w3.setCell ⟨w.heap.size, 0, none⟩ (.int .i64 ff.kind)).setCell ⟨w.heap.size, 1, none⟩ (.int .i64 ff.src)).setCell ⟨w.heap.size, 2, none⟩ (.int .i64 ff.dst)).setCell ⟨w.heap.size, 3, none⟩ (.int .i64 ff.seq)).setCell ⟨w.heap.size, 4, none⟩ (.int .i64 ff.len)).setCell ⟨w.heap.size, 5, none⟩ (.bool ff.more)).setCell ⟨w.heap.size, 6, none⟩ (.bool ff.cast)).setCell ⟨w.heap.size, 7, none⟩ (.string ff.data)).setCell ⟨w.heap.size + 1, 0, none⟩ (.int .i64 gg.kind)).setCell ⟨w.heap.size + 1, 1, none⟩ (.int .i64 gg.src)).setCell ⟨w.heap.size + 1, 2, none⟩ (.int .i64 gg.dst)).setCell ⟨w.heap.size + 1, 3, none⟩ (.int .i64 gg.seq)).setCell ⟨w.heap.size + 1, 4, none⟩ (.int .i64 gg.len)).setCell ⟨w.heap.size + 1, 5, none⟩ (.bool gg.more)).setCell ⟨w.heap.size + 1, 6, none⟩ (.bool gg.cast)).setCell ⟨w.heap.size + 1, 7, none⟩ (.string gg.data)) := by
      have h3 := (HX.out _ HB3.out).2.2
      clear HB1 HB2 HB3 HF3 HG3
      clear f0 f1 f2 f3 f4 f5 f6 f7 q0 q1 q2 q3 q4 q5 q6 q7 a0 a1 a2 a3 a4 a5 a6 a7 b0 b1 b2 b3 b4 b5 b6 b7 c0 c1 c2 c3 c4 c5 c6 c7 d0 d1 d2 d3 d4 d5 d6 d7 x0 x1 x2 x3 x4 x5 x6 x7 y0 y1 y2 y3 y4 y5 y6 y7
      repeat' (first | (with_reducible assumption) | (with_reducible refine Below.setCell ?_ ?_ _) | (with_reducible refine below_drewN' ?_ _) | (with_reducible refine Below.drew ?_) | (with_reducible refine Below.alloc ?_ ?_ _) | (with_reducible exact Below.refl _ _) | (with_reducible exact Nat.le_refl _) | omega | (simp; done) | (simp; omega))
    clear f0 f1 f2 f3 f4 f5 f6 f7 q0 q1 q2 q3 q4 q5 q6 q7 a0 a1 a2 a3 a4 a5 a6 a7 b0 b1 b2 b3 b4 b5 b6 b7 c0 c1 c2 c3 c4 c5 c6 c7 d0 d1 d2 d3 d4 d5 d6 d7 x0 x1 x2 x3 x4 x5 x6 x7 y0 y1 y2 y3 y4 y5 y6 y7
    clear HB1 HB2 HB3 HF3 HG3
    generalize ((((((((((((((((w3.setCell ⟨w.heap.size, 0, none⟩ (.int .i64 ff.kind)).setCell ⟨w.heap.size, 1, none⟩ (.int .i64 ff.src)).setCell ⟨w.heap.size, 2, none⟩ (.int .i64 ff.dst)).setCell ⟨w.heap.size, 3, none⟩ (.int .i64 ff.seq)).setCell ⟨w.heap.size, 4, none⟩ (.int .i64 ff.len)).setCell ⟨w.heap.size, 5, none⟩ (.bool ff.more)).setCell ⟨w.heap.size, 6, none⟩ (.bool ff.cast)).setCell ⟨w.heap.size, 7, none⟩ (.string ff.data)).setCell ⟨w.heap.size + 1, 0, none⟩ (.int .i64 gg.kind)).setCell ⟨w.heap.size + 1, 1, none⟩ (.int .i64 gg.src)).setCell ⟨w.heap.size + 1, 2, none⟩ (.int .i64 gg.dst)).setCell ⟨w.heap.size + 1, 3, none⟩ (.int .i64 gg.seq)).setCell ⟨w.heap.size + 1, 4, none⟩ (.int .i64 gg.len)).setCell ⟨w.heap.size + 1, 5, none⟩ (.bool gg.more)).setCell ⟨w.heap.size + 1, 6, none⟩ (.bool gg.cast)).setCell ⟨w.heap.size + 1, 7, none⟩ (.string gg.data)) = w5 at *
    have f0 := cell_at hFF 0; have f1 := cell_at hFF 1; have f2 := cell_at hFF 2; have f3 := cell_at hFF 3; have f4 := cell_at hFF 4; have f5 := cell_at hFF 5; have f6 := cell_at hFF 6; have f7 := cell_at hFF 7
    have q0 := cell_at hGG 0; have q1 := cell_at hGG 1; have q2 := cell_at hGG 2; have q3 := cell_at hGG 3; have q4 := cell_at hGG 4; have q5 := cell_at hGG 5; have q6 := cell_at hGG 6; have q7 := cell_at hGG 7
    have HFF := Lib.hid hFF
    have HGG := Lib.hid hGG
    have HBB := Lib.hid hBB
    clear hFF hGG hBB
    go_wp2_with (first
      | (go_at_call 24; ((with_reducible refine (HWf.out _).mono ?_); rintro e w6 ⟨rfl, hb6⟩; have hF6 := Below.at hb6 HFF.out (block_lt HFF.out); have hG6 := Below.at hb6 HGG.out (block_lt HGG.out); clear f0 f1 f2 f3 f4 f5 f6 f7 q0 q1 q2 q3 q4 q5 q6 q7; have f0 := cell_at hF6 0; have f1 := cell_at hF6 1; have f2 := cell_at hF6 2; have f3 := cell_at hF6 3; have f4 := cell_at hF6 4; have f5 := cell_at hF6 5; have f6 := cell_at hF6 6; have f7 := cell_at hF6 7; have q0 := cell_at hG6 0; have q1 := cell_at hG6 1; have q2 := cell_at hG6 2; have q3 := cell_at hG6 3; have q4 := cell_at hG6 4; have q5 := cell_at hG6 5; have q6 := cell_at hG6 6; have q7 := cell_at hG6 7; have HF6 := Lib.hid hF6; have HG6 := Lib.hid hG6; have HB6 := Lib.hid (HBB.out.trans (hb6.mono HBB.out.size)); clear hF6 hG6 hb6))
      | (go_at_call 26; ((with_reducible refine (HWr.out _).mono ?_); rintro e w7 ⟨rfl, hb7⟩; have hF7 := Below.at hb7 HF6.out (block_lt HF6.out); have hG7 := Below.at hb7 HG6.out (block_lt HG6.out); clear f0 f1 f2 f3 f4 f5 f6 f7 q0 q1 q2 q3 q4 q5 q6 q7; have HF7 := Lib.hid hF7; have HG7 := Lib.hid hG7; have HB7 := Lib.hid (HB6.out.trans (hb7.mono HB6.out.size)); clear hF7 hG7 hb7)))
    have HC : Hid (∀ w', Below w7.heap.size w7 w' → (w'.cell? ⟨w.heap.size, 0, none⟩ = some (.int .i64 ff.kind) ∧ w'.cell? ⟨w.heap.size, 1, none⟩ = some (.int .i64 ff.src) ∧ w'.cell? ⟨w.heap.size, 2, none⟩ = some (.int .i64 ff.dst) ∧ w'.cell? ⟨w.heap.size, 3, none⟩ = some (.int .i64 ff.seq) ∧ w'.cell? ⟨w.heap.size, 4, none⟩ = some (.int .i64 ff.len) ∧ w'.cell? ⟨w.heap.size, 5, none⟩ = some (.bool ff.more) ∧ w'.cell? ⟨w.heap.size, 6, none⟩ = some (.bool ff.cast) ∧ w'.cell? ⟨w.heap.size, 7, none⟩ = some (.string ff.data) ∧ w'.cell? ⟨w.heap.size + 1, 0, none⟩ = some (.int .i64 gg.kind) ∧ w'.cell? ⟨w.heap.size + 1, 1, none⟩ = some (.int .i64 gg.src) ∧ w'.cell? ⟨w.heap.size + 1, 2, none⟩ = some (.int .i64 gg.dst) ∧ w'.cell? ⟨w.heap.size + 1, 3, none⟩ = some (.int .i64 gg.seq) ∧ w'.cell? ⟨w.heap.size + 1, 4, none⟩ = some (.int .i64 gg.len) ∧ w'.cell? ⟨w.heap.size + 1, 5, none⟩ = some (.bool gg.more) ∧ w'.cell? ⟨w.heap.size + 1, 6, none⟩ = some (.bool gg.cast) ∧ w'.cell? ⟨w.heap.size + 1, 7, none⟩ = some (.string gg.data))) := fun w' hb => by
      have h1 := Below.at hb HF7.out (block_lt HF7.out)
      have h2 := Below.at hb HG7.out (block_lt HG7.out)
      exact ⟨cell_at h1 0, cell_at h1 1, cell_at h1 2, cell_at h1 3, cell_at h1 4, cell_at h1 5, cell_at h1 6, cell_at h1 7, cell_at h2 0, cell_at h2 1, cell_at h2 2, cell_at h2 3, cell_at h2 4, cell_at h2 5, cell_at h2 6, cell_at h2 7⟩
    clear HF6 HG6 HB6 HFF HGG HBB HWf HWr HX HFf2 HFg2
    go_region_held3 (fun w' => (w'.cell? ⟨w.heap.size, 0, none⟩ = some (.int .i64 ff.kind) ∧ w'.cell? ⟨w.heap.size, 1, none⟩ = some (.int .i64 ff.src) ∧ w'.cell? ⟨w.heap.size, 2, none⟩ = some (.int .i64 ff.dst) ∧ w'.cell? ⟨w.heap.size, 3, none⟩ = some (.int .i64 ff.seq) ∧ w'.cell? ⟨w.heap.size, 4, none⟩ = some (.int .i64 ff.len) ∧ w'.cell? ⟨w.heap.size, 5, none⟩ = some (.bool ff.more) ∧ w'.cell? ⟨w.heap.size, 6, none⟩ = some (.bool ff.cast) ∧ w'.cell? ⟨w.heap.size, 7, none⟩ = some (.string ff.data) ∧ w'.cell? ⟨w.heap.size + 1, 0, none⟩ = some (.int .i64 gg.kind) ∧ w'.cell? ⟨w.heap.size + 1, 1, none⟩ = some (.int .i64 gg.src) ∧ w'.cell? ⟨w.heap.size + 1, 2, none⟩ = some (.int .i64 gg.dst) ∧ w'.cell? ⟨w.heap.size + 1, 3, none⟩ = some (.int .i64 gg.seq) ∧ w'.cell? ⟨w.heap.size + 1, 4, none⟩ = some (.int .i64 gg.len) ∧ w'.cell? ⟨w.heap.size + 1, 5, none⟩ = some (.bool gg.more) ∧ w'.cell? ⟨w.heap.size + 1, 6, none⟩ = some (.bool gg.cast) ∧ w'.cell? ⟨w.heap.size + 1, 7, none⟩ = some (.string gg.data))) ((refine HC.out _ ?_; (repeat (first | exact hb10' | exact hb9' | exact hb8' | exact Below.refl _ _ | apply below_drewN' | apply Below.drew)))) (first
      | (go_at_call 25; ((with_reducible refine (HRi.out _).mono ?_); rintro e w8 ⟨rfl, hb8⟩; have hb8' : Below w7.heap.size w7 w8 := Below.trans (by (repeat (first | exact hb10' | exact hb9' | exact hb8' | exact Below.refl _ _ | apply below_drewN' | apply Below.drew))) (hb8.mono (Nat.le_refl _))))
      | (go_at_call 27; ((with_reducible refine (HRr.out _).mono ?_); rintro e w9 ⟨rfl, hb9⟩; have hb9' : Below w7.heap.size w7 w9 := Below.trans (by (repeat (first | exact hb10' | exact hb9' | exact hb8' | exact Below.refl _ _ | apply below_drewN' | apply Below.drew))) (hb9.mono hb8'.size)))
      | (go_at_call 28; ((with_reducible refine (HSm.out _).mono ?_); rintro e w10 ⟨rfl, hb10⟩; have hb10' : Below w7.heap.size w7 w10 := Below.trans (by (repeat (first | exact hb10' | exact hb9' | exact hb8' | exact Below.refl _ _ | apply below_drewN' | apply Below.drew))) (hb10.mono hb9'.size))))
    all_goals
      go_wp2
      go_ret
      exact ⟨rfl, by
        have h1 := HB7.out
        have h2 := hb10'
        have h3 := h1.trans (h2.mono h1.size)
        repeat' (first | (with_reducible assumption) | (with_reducible refine Below.setCell ?_ ?_ _) | (with_reducible refine below_drewN' ?_ _) | (with_reducible refine Below.drew ?_) | (with_reducible refine Below.alloc ?_ ?_ _) | (with_reducible exact Below.refl _ _) | (with_reducible exact Nat.le_refl _) | omega | (simp; done) | (simp; omega))⟩
end Go.Proofs.Ytncdambphaodaab
