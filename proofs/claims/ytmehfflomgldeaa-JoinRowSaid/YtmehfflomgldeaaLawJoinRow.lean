/- The walk of JoinRow. -/
import Derived.Test.YtmehfflomgldeaaJoinF
namespace Go.Proofs.Ytmehfflomgldeaa
set_option linter.unusedVariables false
set_option linter.unusedSimpArgs false
open Go.RowKit BM
theorem ParcelsAt.below {w w' : World} {a : Option Addr} {l : List PaM} (h : ParcelsAt w a l) (hb : Below w.heap.size w w') : ParcelsAt w' a l := fun i hi => by
  obtain ⟨blk, off, p, hp, rfl, c0, c1, c2, c3, hH⟩ := h i hi
  have hlt : blk < w.heap.size := World.block_lt_of_cell? w _ c0
  exact ⟨blk, off, p, hp, rfl, (hb.cell (p := ⟨blk, _, none⟩) hlt).trans c0, (hb.cell (p := ⟨blk, _, none⟩) hlt).trans c1, (hb.cell (p := ⟨blk, _, none⟩) hlt).trans c2, (hb.cell (p := ⟨blk, _, none⟩) hlt).trans c3, hH.below hb⟩
set_option maxRecDepth 100000 in
set_option maxHeartbeats 2000000 in
theorem joinRow_walk (l : List PaM) (a : Option Addr) (c : Nat) (w : World) (hl : l.length ≤ maxLen) (h : ParcelsAt w a l) :
    Calls Try.prog 10 #[.slice a l.length c] w fun e w' => e = .returned (.bool true) ∧ Below w.heap.size w w' := by
  have hW := fun w' hb => law11_words l a c w' hl (h.below (w' := w') hb)
  have hwl := wordsL_len ((l.map PaM.pa).take 8)
  have hl8 : ((l.map PaM.pa).take 8).length ≤ 8 := by rw [List.length_take]; omega
  have hA := all_of_run (run_words ((l.map PaM.pa).take 8))
  have hJ := fun w' a c h => join_all (wordsL ((l.map PaM.pa).take 8)) a c w' (by omega) words_ltL h
  rw [hA] at hJ
  dsimp only at hJ
  have hS := fun w' a b c d => same11 (packetsL ((l.map PaM.pa).take 8)) a b c d w' (by omega)
  generalize wordsL ((l.map PaM.pa).take 8) = wl at *
  generalize packetsL ((l.map PaM.pa).take 8) = pl at *
  have HW := Lib.hid hW
  have HJ := Lib.hid hJ
  have HS := Lib.hid hS
  have HL := Lib.hid (fun w => lives11_calls w)
  clear hW hJ hS hA hwl hl8 h
  go_enter Try.func10, Try.ntmps10
  go_wp2_with (first
    | (go_at_call 34; ((with_reducible refine (HL.out _).mono ?_); rintro e w1 ⟨rfl, hb1⟩; have HB1 := Lib.hid hb1; clear hb1))
    | (go_at_call 35; ((with_reducible refine (HW.out _ HB1.out).mono ?_); rintro e w2 ⟨v, u, rfl, hp, hb2⟩; obtain ⟨p1, q1, rfl, -, -, hc1⟩ := CellsOff.own hp.fst [] (by simp); obtain ⟨p2, q2, rfl, -, -, hc2⟩ := CellsOff.own hp.snd [] (by simp); have HC1 := Lib.hid hc1; have HC2 := Lib.hid hc2; have HB2 := Lib.hid hb2; clear hp hc1 hc2 hb2))
    | (go_at_call 36; ((with_reducible refine (HJ.out _ _ _ HC1.out).mono ?_); rintro e w3 ⟨v3, rfl, hown3, hb3⟩; obtain ⟨p3, q3, rfl, -, -, hc3⟩ := CellsOff.own hown3 [] (by simp); have HC3 := Lib.hid hc3; have HC23 := Lib.hid (HC2.out.below hb3); have HB3 := Lib.hid hb3; clear hown3 hc3 hb3))
    | (go_at_call 37; ((with_reducible refine (HS.out _ _ _ _ _ HC3.out HC23.out).mono ?_); rintro e w4 ⟨rfl, k4, rfl⟩)))
  go_ret
  exact ⟨rfl, below_drewN' ((HB1.out.trans (HB2.out.mono HB1.out.size)).trans (HB3.out.mono (Nat.le_trans HB1.out.size HB2.out.size))) _⟩
end Go.Proofs.Ytmehfflomgldeaa
