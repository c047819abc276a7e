/- law11: same of two rows that are; lives. -/
import Derived.Test.YtmehfflomgldeaaJoinE
namespace Go.Proofs.Ytmehfflomgldeaa
set_option linter.unusedVariables false
set_option linter.unusedSimpArgs false
open Go.RowKit BM
set_option maxRecDepth 100000 in
set_option maxHeartbeats 2000000 in
theorem same11 (l : List Pk) (a b : Option Addr) (c d : Nat) (w : World) (hl : l.length ≤ 1000000) (ha : CellsOff w a (flatP l) []) (hb : CellsOff w b (flatP l) []) :
    Calls Try.prog 37 #[.slice a l.length c, .slice b l.length d] w fun e w' => e = .returned (.bool true) ∧ ∃ k, w' = w.drewN k := by
  have HA := Lib.hid (fun i hi => pk_cell (i := i) ha hi)
  have HB := Lib.hid (fun i hi => pk_cell (i := i) hb hi)
  clear ha hb
  go_enter Try.func37, Try.ntmps37
  go_wp2
  go_loopw [5] (fun i wr => ∃ (m n : Nat), m ≤ l.length ∧ i = .int .i64 (m : Int) ∧ wr = w.drewN n) (fun i _ => l.length - (intOf i).toNat)
  case atStart => exact ⟨0, 0, by omega, rfl, rfl⟩
  case round =>
    obtain ⟨m, n, hm, rfl, rfl⟩ := hrel
    by_cases hml : m < l.length
    · obtain ⟨blk, off, rfl, -, c0, c1, c2, c3⟩ := HA.out m hml
      obtain ⟨blk2, off2, rfl, -, e0, e1, e2, e3⟩ := HB.out m hml
      generalize l.getD m Pk.zero = t at *
      obtain ⟨x0, x1, x2, x3⟩ := t
      dsimp only at *
      have hmI : (m : Int) < (l.length : Int) := by omega
      go_wp2
      go_quiet (fail)
      go_wp2
      go_roundw
      case rel => exact ⟨m + 1, _, by omega, by go_num, rfl⟩
      case measure => simp [intOf]; omega
    · obtain rfl : m = l.length := by omega
      go_wp2
      go_ret
      exact ⟨rfl, drew_close1⟩
def p0 : Pa := ⟨1, false, [⟨2, 3⟩], ⟨#[97, 98]⟩⟩
theorem p0_right : rightP p0 = true := by decide
theorem p0_len : (wordsP p0).length = 2 := by rw [wordsP_len]; rfl
set_option maxRecDepth 100000 in
set_option maxHeartbeats 2000000 in
theorem lives11_calls (w : World) : Calls Try.prog 34 #[] w fun e w' => e = .returned (.bool true) ∧ Below w.heap.size w w' := by
  have hW : ∀ w' a c, CellsOff w' a (flatT p0.heads) [] → Calls Try.prog 51 #[.agg #[.int .i64 1, .bool false, .slice a 1 c, .string ⟨#[97, 98]⟩]] w' fun e w'' => ∃ v, e = .returned (.tuple #[v, .int .i64 0]) ∧ w''.ownsRow w'.heap.size 73 1 v (wordsP p0).length ((wordsP p0).map UV) ∧ Below w'.heap.size w' w'' := fun w' a c h => rwords10 p0 a c w' h p0_right
  have hA : JS.zero.allFrom (wordsP p0) = (packetsP p0, (wordsP p0).length) := all_of_run (run_one p0_right rfl)
  have hJ := fun w' a c h => join_all (wordsP p0) a c w' (by rw [p0_len]; decide) (words_lt p0) h
  rw [hA, show packetsP p0 = [⟨1, 2, 3, ⟨#[97, 98]⟩⟩] from rfl] at hJ
  dsimp only at hJ
  have hl2 := p0_len
  have hT : flatT p0.heads = [.int .i64 2, .int .i64 3] := rfl
  rw [hT] at hW
  generalize wordsP p0 = wl at *
  have hlb : ((wl.length : Int) == 2) = true := beq_iff_eq.2 (by omega)
  have HW := Lib.hid hW
  have HJ := Lib.hid hJ
  clear hW hJ hA hl2 hT
  go_enter Try.func34, Try.ntmps34
  go_wp2_with (first
    | (go_at_call 51; ((with_reducible refine (HW.out _ _ _ (by obtain ⟨_, _, he, -, -, h⟩ := CellsOff.own (owns_lit (base := w.heap.size) (e := 101) 2 [.int .i64 2, .int .i64 3] (n := 1) (Nat.le_refl _) (alloc_new (w := w) _) rfl (by decide)) [] (by simp); simp only [Value.slice.injEq] at he; obtain ⟨rfl, -, -⟩ := he; exact h)).mono ?_); rintro e w1 ⟨v1, rfl, hown1, hb1⟩; obtain ⟨p1, q1, rfl, -, -, hc1⟩ := CellsOff.own hown1 [] (by simp); have HC1 := Lib.hid hc1; have HB1 := Lib.hid hb1; clear hown1 hb1 hc1))
    | (go_at_call 36; ((with_reducible refine (HJ.out _ _ _ HC1.out).mono ?_); rintro e w2 ⟨v2, rfl, hown2, hb2⟩; obtain ⟨p2, q2, rfl, -, -, hc2⟩ := CellsOff.own hown2 [] (by simp); obtain ⟨blk, off, rfl, -, d0, d1, d2, d3⟩ := pk_cell (i := 0) hc2 (by decide); simp only [List.getD_cons_zero, Nat.zero_mul, Nat.add_zero] at d0 d1 d2 d3; have HB2 := Lib.hid hb2; clear hown2 hb2 hc2)))
  go_ret
  exact ⟨rfl, (((Below.refl _ _).alloc (Nat.le_refl _) _).trans (HB1.out.mono (by simp))).trans (HB2.out.mono (by have := HB1.out.size; simp at this; omega))⟩
end Go.Proofs.Ytmehfflomgldeaa
