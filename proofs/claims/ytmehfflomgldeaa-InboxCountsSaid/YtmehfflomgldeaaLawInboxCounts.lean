/- The walk of InboxCounts. -/
import Derived.Test.YtmehfflomgldeaaScript16
namespace Go.Proofs.Ytmehfflomgldeaa
set_option linter.unusedVariables false
set_option linter.unusedSimpArgs false
open Go.RowKit Go.ChangeMaps Go.WideShapes Go.WideMaps
namespace IS
theorem come_cases (s : IS) (p : Pk) : (∃ s', s.come p = (s', 0) ∧ s'.n = s.n ∧ s'.q = s.q ∧ s'.ws.length = s.ws.length + 1) ∨ ∃ e : Int, s.come p = (s, e) ∧ (e == 0) = false := by
  unfold come
  split
  · exact .inr ⟨13, rfl, rfl⟩
  · split
    · exact .inl ⟨_, rfl, rfl, rfl, by simp⟩
    · exact .inr ⟨1, rfl, rfl⟩
theorem tell_cases {s : IS} (h : s.Ok) : ∃ s' f, s.tell = (s', f) ∧ s'.n = s.n ∧ s'.ws.length + s'.q.length = s.ws.length + s.q.length ∧ f = (s.ready.isSome && decide (0 < (s.n : Int) - (s.q.length : Int))) := by
  have hi := ready_is s
  have hle := h.le
  cases hr : s.ready with
  | none => exact ⟨s, false, tell_none hr, rfl, rfl, rfl⟩
  | some p =>
    rw [hr] at hi
    by_cases hq : s.q.length = s.n
    · refine ⟨s, false, tell_full hr hq, rfl, rfl, ?_⟩
      rw [decide_eq_false (by omega)]; rfl
    · refine ⟨_, true, tell_some hr hq, rfl, ?_, ?_⟩
      · show (s.ws.eraseP (keyEq p)).length + (s.q ++ [p]).length = _
        have hpos : 0 < s.ws.length := List.length_pos_of_mem hi.1
        rw [List.length_eraseP_of_mem hi.1 (keyEq_self p), List.length_append, List.length_singleton]
        omega
      · rw [decide_eq_true (by omega)]; rfl
theorem recv_cases (s : IS) : (∃ s' p, s.recv = (s', p, 0) ∧ s'.n = s.n ∧ s'.ws = s.ws ∧ s.q.length = s'.q.length + 1) ∨ (s.recv = (s, Pk.zero, 8) ∧ s.q = []) := by
  unfold recv
  split
  · rename_i h; exact .inr ⟨rfl, h⟩
  · rename_i p l h; exact .inl ⟨_, p, rfl, rfl, rfl, by rw [h]; rfl⟩
end IS
theorem below_only {w a c : World} {B : List Nat} (h : Below w.heap.size w a) (ho : Only B a c) (hB : ∀ k ∈ B, w.heap.size ≤ k) : Below w.heap.size w c := h.trans (only_below ho hB h.size)
theorem one_mod8 (x : Int) : ∃ L : Nat, 1 + wrap64 ((IntKind.u64.wrap x).tmod 8) = (L : Int) ∧ 1 ≤ L ∧ L ≤ 8 := by
  obtain ⟨M, h1, h2⟩ := mod_nat x 8 (by omega) (by omega)
  exact ⟨M + 1, by rw [h1]; omega, by omega, by omega⟩
theorem new_is' (R : Nat) (h1 : 1 ≤ R) (h2 : R ≤ 64) : IS.new (R : Int) = ⟨R, [], [], []⟩ := by
  unfold IS.new
  congr
  omega
set_option maxRecDepth 100000 in
set_option maxHeartbeats 2000000 in
theorem inboxCounts_walk (room : Int) (a : Option Addr) (c : Nat) (l : List O16) (w : World) (hl : l.length ≤ maxLen) (hc : l.length ≤ c) (hr : Script16 w a l) :
    Calls Try.prog 7 #[.int .i64 room, .slice a l.length c] w fun e w' => e = .returned (.bool true) ∧ Below w.heap.size w w' := by
  obtain ⟨R, hR, hR1, hR8⟩ := one_mod8 room
  have HV := Lib.hid lives16_calls
  have hN := fun w => box_new (R : Int) w
  rw [new_is' R hR1 (by omega)] at hN
  have K0 := Lib.hid hN
  have hE := fun w => early16_calls a l.length c w hl hc
  have hr2 := hr.take 120
  have hlen : (l.take 120).length = min l.length 120 := by rw [List.length_take]; omega
  rw [← hlen] at hE
  have h120 : (l.take 120).length ≤ 120 := by omega
  generalize l.take 120 = L at *
  have HE := Lib.hid hE
  have HS := Lib.hid hr2
  clear hN hE hr hr2 hlen
  go_enter Try.func7, Try.ntmps7
  go_wp2_with (first
    | (go_at_call 15; ((with_reducible refine (HV.out _).mono ?_); rintro e w1 ⟨rfl, hb1⟩)) | (go_at_call 16; ((with_reducible refine (K0.out _).mono ?_); rintro e w2 ⟨b, B, rfl, hB2, hge, hb2⟩)) | (go_at_call 24; ((with_reducible refine (HE.out _).mono ?_); rintro e w' ⟨rfl, k, rfl⟩)))
  have hge2 : ∀ k ∈ B, w.heap.size ≤ k := fun k hk => Nat.le_trans hb1.size (hge k hk)
  have hbw := hb1.trans (hb2.mono hb1.size)
  have HG := Lib.hid hge2
  clear hge hge2 hb1 hb2 HV K0 HE hl hc
  go_loopw [6, 7, 8] (fun cv gv iv wr => ∃ (m C G : Nat) (s : IS), m ≤ L.length ∧ iv = .int .i64 (m : Int) ∧ cv = .int .i64 (C : Int) ∧ gv = .int .i64 (G : Int) ∧ BoxAt wr b B s ∧ Hid (C = s.ws.length + s.q.length + G ∧ C ≤ m ∧ s.n = R ∧ s.q.length ≤ R) ∧ Below w.heap.size w wr) (fun _ _ iv _ => L.length - (intOf iv).toNat)
  case atStart => exact ⟨0, 0, 0, _, by omega, rfl, rfl, rfl, hB2.drewN _, Lib.hid ⟨rfl, by omega, rfl, by simp⟩, below_drewN' hbw _⟩
  case round =>
    clear hB2 hbw
    obtain ⟨m, C, G, s, hm, rfl, rfl, rfl, hB, hI, hbw⟩ := hrel
    have HB := Lib.hid hB
    have HWW := Lib.hid hbw
    by_cases hlm : m < L.length
    · obtain ⟨blk, off, o, ho, rfl, hwf, c0, c1, c2, c3, c4⟩ := HS.out m hlm
      have hlt : blk < w.heap.size := World.block_lt_of_cell? w _ c0
      have hlt2 : blk < wr.heap.size := Nat.lt_of_lt_of_le hlt hbw.size
      have d0 := (hbw.cell (p := ⟨blk, _, none⟩) hlt).trans c0
      have d1 := (hbw.cell (p := ⟨blk, _, none⟩) hlt).trans c1
      have d2 := (hbw.cell (p := ⟨blk, _, none⟩) hlt).trans c2
      have d3 := (hbw.cell (p := ⟨blk, _, none⟩) hlt).trans c3
      have d4 := (hbw.cell (p := ⟨blk, _, none⟩) hlt).trans c4
      obtain ⟨o0, p0, p1, p2, p3⟩ := o
      dsimp only at d0 d1 d2 d3 d4 hwf
      obtain ⟨k, hk, hk4⟩ := mod_nat o0 4 (by omega) (by omega)
      have hK := fun w => kind16_calls o0 p0 p1 p2 p3 w
      rw [hk] at hK
      have HWF := Lib.hid hwf
      have hmI : (m : Int) < (L.length : Int) := by omega
      clear c0 c1 c2 c3 c4 hlt hwf ho hB hbw hk
      have hkk : k = 0 ∨ k = 1 ∨ k = 2 ∨ k = 3 := by omega
      have HK := Lib.hid hK
      clear hK
      go_upto_region 12 with (first | (go_at_call 25; ((with_reducible refine (HK.out _).mono ?_); rintro e w3 ⟨rfl, hb3⟩)))
      have hp3 : w3.heap[wr.heap.size]? = some (.cells #[.int .i64 p0, .int .i64 p1, .int .i64 p2, .string p3] 29 (0, 0)) := Below.at hb3 (alloc_new _) (by simp)
      have hW3 : Below w.heap.size w w3 := (HWW.out.alloc HWW.out.size _).trans (hb3.mono (by have := HWW.out.size; simp; omega))
      have hB3 := (HB.out.alloc (.cells #[.int .i64 p0, .int .i64 p1, .int .i64 p2, .string p3] 29 (0, 0))).below hb3
      have fp := fun j => cell_at hp3 j
      clear d0 d1 d2 d3 d4 hp3 hb3 HB HWW
      have HB := Lib.hid hB3
      have HWW := Lib.hid hW3
      clear hB3 hW3
      obtain ⟨hi1, hi2, hi3, hi4⟩ := hI.out
      rcases hkk with rfl | rfl | rfl | rfl
      · skip
        have F1 := fun w h => box_come ⟨p0, p1, p2, p3⟩ w b B s HWF.out.1 HWF.out.2.2 h
        rcases IS.come_cases s ⟨p0, p1, p2, p3⟩ with ⟨s', e1, hn', hqq, hs'⟩ | ⟨er, e1, hne⟩
        · rw [e1] at F1
          dsimp only [Pk.val] at F1
          have K1 := Lib.hid F1
          clear F1 e1
          rw [← hqq] at hi1 hi4
          obtain ⟨x, hx⟩ : ∃ x : Int, x = ((s').ws.length : Int) := ⟨_, rfl⟩
          obtain ⟨y, hy⟩ : ∃ y : Int, y = ((s').q.length : Int) := ⟨_, rfl⟩
          have hq : (((C : Int) + 1) != x + y + (G : Int)) = false := by rw [bne_eq_false_iff_eq, hx, hy]; omega
          have hb : 0 ≤ x ∧ x ≤ 121 ∧ 0 ≤ y ∧ y ≤ 8 := by rw [hx, hy]; omega
          obtain ⟨hb1, hb2, hb5, hb4⟩ := hb
          have F4 := fun w h => box_waits w b B (s') h
          have F5 := fun w h => box_len w b B (s') h
          have F6 := fun w h => box_room w b B (s') h
          rw [← hx] at F4
          rw [← hy] at F5
          rw [← hy, show ((s').n : Int) = (R : Int) from by omega] at F6
          have K4 := Lib.hid F4
          have K5 := Lib.hid F5
          have K6 := Lib.hid F6
          have GF : Hid ((C + 1) = (s').ws.length + (s').q.length + G ∧ (C + 1) ≤ m + 1 ∧ (s').n = R ∧ (s').q.length ≤ R) := Lib.hid ⟨by omega, by omega, by omega, by omega⟩
          have hC : C ≤ 120 := by omega
          have hG : G ≤ 120 := by omega
          clear F4 F5 F6 hx hy hi1 hi2 hi3 hi4 hI hn' hs' hqq
          go_wp2_with (first | (go_at_call 17; ((with_reducible refine (K1.out _ (by first | exact HB.out | exact HB.out.alloc _ | exact HB.out.drewN _ | exact (HB.out.alloc _).drewN _ | exact (HB.out.drewN _).alloc _)).mono ?_); rintro e w4 ⟨rfl, hBn, hOn⟩; have hw9 := below_only (by first | exact HWW.out | exact HWW.out.alloc HWW.out.size _ | exact below_drewN' HWW.out _ | exact below_drewN' (HWW.out.alloc HWW.out.size _) _) hOn HG.out; have HB := Lib.hid hBn; have HWW := Lib.hid hw9; clear hBn hOn hw9)) | (go_at_call 21; ((with_reducible refine (K4.out _ (by first | exact HB.out | exact HB.out.alloc _ | exact HB.out.drewN _ | exact (HB.out.alloc _).drewN _ | exact (HB.out.drewN _).alloc _)).mono ?_); rintro e w' ⟨rfl, k, rfl⟩)) | (go_at_call 22; ((with_reducible refine (K5.out _ (by first | exact HB.out | exact HB.out.alloc _ | exact HB.out.drewN _ | exact (HB.out.alloc _).drewN _ | exact (HB.out.drewN _).alloc _)).mono ?_); rintro e w' ⟨rfl, k, rfl⟩)) | (go_at_call 26; ((with_reducible refine (K6.out _ (by first | exact HB.out | exact HB.out.alloc _ | exact HB.out.drewN _ | exact (HB.out.alloc _).drewN _ | exact (HB.out.drewN _).alloc _)).mono ?_); rintro e w' ⟨rfl, k, rfl⟩)))
          go_roundw
          case measure => simp [intOf] <;> omega
          case rel => exact ⟨m + 1, C + 1, G, s', by omega, by go_num, by go_num, rfl, (by first | exact HB.out | exact HB.out.alloc _ | exact HB.out.drewN _ | exact (HB.out.alloc _).drewN _ | exact (HB.out.drewN _).alloc _), GF, (by first | exact HWW.out | exact HWW.out.alloc HWW.out.size _ | exact below_drewN' HWW.out _ | exact below_drewN' (HWW.out.alloc HWW.out.size _) _)⟩
        · rw [e1] at F1
          dsimp only [Pk.val] at F1
          have K1 := Lib.hid F1
          clear F1 e1
          obtain ⟨x, hx⟩ : ∃ x : Int, x = ((s).ws.length : Int) := ⟨_, rfl⟩
          obtain ⟨y, hy⟩ : ∃ y : Int, y = ((s).q.length : Int) := ⟨_, rfl⟩
          have hq : ((C : Int) != x + y + (G : Int)) = false := by rw [bne_eq_false_iff_eq, hx, hy]; omega
          have hb : 0 ≤ x ∧ x ≤ 121 ∧ 0 ≤ y ∧ y ≤ 8 := by rw [hx, hy]; omega
          obtain ⟨hb1, hb2, hb5, hb4⟩ := hb
          have F4 := fun w h => box_waits w b B (s) h
          have F5 := fun w h => box_len w b B (s) h
          have F6 := fun w h => box_room w b B (s) h
          rw [← hx] at F4
          rw [← hy] at F5
          rw [← hy, show ((s).n : Int) = (R : Int) from by omega] at F6
          have K4 := Lib.hid F4
          have K5 := Lib.hid F5
          have K6 := Lib.hid F6
          have GF : Hid (C = (s).ws.length + (s).q.length + G ∧ C ≤ m + 1 ∧ (s).n = R ∧ (s).q.length ≤ R) := Lib.hid ⟨by omega, by omega, by omega, by omega⟩
          have hC : C ≤ 120 := by omega
          have hG : G ≤ 120 := by omega
          clear F4 F5 F6 hx hy hi1 hi2 hi3 hi4 hI 
          go_wp2_with (first | (go_at_call 17; ((with_reducible refine (K1.out _ (by first | exact HB.out | exact HB.out.alloc _ | exact HB.out.drewN _ | exact (HB.out.alloc _).drewN _ | exact (HB.out.drewN _).alloc _)).mono ?_); rintro e w4 ⟨rfl, hBn, hOn⟩; have hw9 := below_only (by first | exact HWW.out | exact HWW.out.alloc HWW.out.size _ | exact below_drewN' HWW.out _ | exact below_drewN' (HWW.out.alloc HWW.out.size _) _) hOn HG.out; have HB := Lib.hid hBn; have HWW := Lib.hid hw9; clear hBn hOn hw9)) | (go_at_call 21; ((with_reducible refine (K4.out _ (by first | exact HB.out | exact HB.out.alloc _ | exact HB.out.drewN _ | exact (HB.out.alloc _).drewN _ | exact (HB.out.drewN _).alloc _)).mono ?_); rintro e w' ⟨rfl, k, rfl⟩)) | (go_at_call 22; ((with_reducible refine (K5.out _ (by first | exact HB.out | exact HB.out.alloc _ | exact HB.out.drewN _ | exact (HB.out.alloc _).drewN _ | exact (HB.out.drewN _).alloc _)).mono ?_); rintro e w' ⟨rfl, k, rfl⟩)) | (go_at_call 26; ((with_reducible refine (K6.out _ (by first | exact HB.out | exact HB.out.alloc _ | exact HB.out.drewN _ | exact (HB.out.alloc _).drewN _ | exact (HB.out.drewN _).alloc _)).mono ?_); rintro e w' ⟨rfl, k, rfl⟩)))
          go_roundw
          case measure => simp [intOf] <;> omega
          case rel => exact ⟨m + 1, C, G, s, by omega, by go_num, rfl, rfl, (by first | exact HB.out | exact HB.out.alloc _ | exact HB.out.drewN _ | exact (HB.out.alloc _).drewN _ | exact (HB.out.drewN _).alloc _), GF, (by first | exact HWW.out | exact HWW.out.alloc HWW.out.size _ | exact below_drewN' HWW.out _ | exact below_drewN' (HWW.out.alloc HWW.out.size _) _)⟩
      · obtain ⟨s', f, e1, hn', hs', hf⟩ := IS.tell_cases HB.out.ok
        have F1 := fun w h => box_tell w b B s h
        rw [e1] at F1
        have F2 := fun w h => box_isready w b B s h
        generalize s.ready.isSome = rd at *
        have F3 := fun w h => box_room w b B s h
        obtain ⟨z, hz⟩ : ∃ z : Int, z = (s.n : Int) - (s.q.length : Int) := ⟨_, rfl⟩
        rw [← hz] at F3 hf
        subst hf
        have K1 := Lib.hid F1
        have K2 := Lib.hid F2
        have K3 := Lib.hid F3
        have hok' := (HB.out.ok.tell).le
        rw [e1] at hok'
        dsimp only at hok'
        clear F1 F2 F3 e1 hz
        cases rd with
        | false =>
          simp only [Bool.false_and] at K1
          obtain ⟨x, hx⟩ : ∃ x : Int, x = ((s').ws.length : Int) := ⟨_, rfl⟩
          obtain ⟨y, hy⟩ : ∃ y : Int, y = ((s').q.length : Int) := ⟨_, rfl⟩
          have hq : ((C : Int) != x + y + (G : Int)) = false := by rw [bne_eq_false_iff_eq, hx, hy]; omega
          have hb : 0 ≤ x ∧ x ≤ 121 ∧ 0 ≤ y ∧ y ≤ 8 := by rw [hx, hy]; omega
          obtain ⟨hb1, hb2, hb5, hb4⟩ := hb
          have F4 := fun w h => box_waits w b B (s') h
          have F5 := fun w h => box_len w b B (s') h
          have F6 := fun w h => box_room w b B (s') h
          rw [← hx] at F4
          rw [← hy] at F5
          rw [← hy, show ((s').n : Int) = (R : Int) from by omega] at F6
          have K4 := Lib.hid F4
          have K5 := Lib.hid F5
          have K6 := Lib.hid F6
          have GF : Hid (C = (s').ws.length + (s').q.length + G ∧ C ≤ m + 1 ∧ (s').n = R ∧ (s').q.length ≤ R) := Lib.hid ⟨by omega, by omega, by omega, by omega⟩
          have hC : C ≤ 120 := by omega
          have hG : G ≤ 120 := by omega
          clear F4 F5 F6 hx hy hi1 hi2 hi3 hi4 hI hn' hs' hok'
          go_wp2_with (first | (go_at_call 18; ((with_reducible refine (K1.out _ (by first | exact HB.out | exact HB.out.alloc _ | exact HB.out.drewN _ | exact (HB.out.alloc _).drewN _ | exact (HB.out.drewN _).alloc _)).mono ?_); rintro e w4 ⟨rfl, hBn, hOn⟩; have hw9 := below_only (by first | exact HWW.out | exact HWW.out.alloc HWW.out.size _ | exact below_drewN' HWW.out _ | exact below_drewN' (HWW.out.alloc HWW.out.size _) _) hOn HG.out; have HB := Lib.hid hBn; have HWW := Lib.hid hw9; clear hBn hOn hw9)) | (go_at_call 23; ((with_reducible refine (K2.out _ (by first | exact HB.out | exact HB.out.alloc _ | exact HB.out.drewN _ | exact (HB.out.alloc _).drewN _ | exact (HB.out.drewN _).alloc _)).mono ?_); rintro e w4 ⟨rfl, hb4⟩; have HB := Lib.hid (HB.out.below hb4); have HWW := Lib.hid (HWW.out.trans (hb4.mono HWW.out.size)))) | (go_at_call 26; ((with_reducible refine (K3.out _ (by first | exact HB.out | exact HB.out.alloc _ | exact HB.out.drewN _ | exact (HB.out.alloc _).drewN _ | exact (HB.out.drewN _).alloc _)).mono ?_); rintro e w' ⟨rfl, k, rfl⟩)) | (go_at_call 21; ((with_reducible refine (K4.out _ (by first | exact HB.out | exact HB.out.alloc _ | exact HB.out.drewN _ | exact (HB.out.alloc _).drewN _ | exact (HB.out.drewN _).alloc _)).mono ?_); rintro e w' ⟨rfl, k, rfl⟩)) | (go_at_call 22; ((with_reducible refine (K5.out _ (by first | exact HB.out | exact HB.out.alloc _ | exact HB.out.drewN _ | exact (HB.out.alloc _).drewN _ | exact (HB.out.drewN _).alloc _)).mono ?_); rintro e w' ⟨rfl, k, rfl⟩)) | (go_at_call 26; ((with_reducible refine (K6.out _ (by first | exact HB.out | exact HB.out.alloc _ | exact HB.out.drewN _ | exact (HB.out.alloc _).drewN _ | exact (HB.out.drewN _).alloc _)).mono ?_); rintro e w' ⟨rfl, k, rfl⟩)))
          go_roundw
          case measure => simp [intOf] <;> omega
          case rel => exact ⟨m + 1, C, G, s', by omega, by go_num, rfl, rfl, (by first | exact HB.out | exact HB.out.alloc _ | exact HB.out.drewN _ | exact (HB.out.alloc _).drewN _ | exact (HB.out.drewN _).alloc _), GF, (by first | exact HWW.out | exact HWW.out.alloc HWW.out.size _ | exact below_drewN' HWW.out _ | exact below_drewN' (HWW.out.alloc HWW.out.size _) _)⟩
        | true =>
          simp only [Bool.true_and] at K1
          obtain ⟨x, hx⟩ : ∃ x : Int, x = ((s').ws.length : Int) := ⟨_, rfl⟩
          obtain ⟨y, hy⟩ : ∃ y : Int, y = ((s').q.length : Int) := ⟨_, rfl⟩
          have hq : ((C : Int) != x + y + (G : Int)) = false := by rw [bne_eq_false_iff_eq, hx, hy]; omega
          have hb : 0 ≤ x ∧ x ≤ 121 ∧ 0 ≤ y ∧ y ≤ 8 := by rw [hx, hy]; omega
          obtain ⟨hb1, hb2, hb5, hb4⟩ := hb
          have F4 := fun w h => box_waits w b B (s') h
          have F5 := fun w h => box_len w b B (s') h
          have F6 := fun w h => box_room w b B (s') h
          rw [← hx] at F4
          rw [← hy] at F5
          rw [← hy, show ((s').n : Int) = (R : Int) from by omega] at F6
          have K4 := Lib.hid F4
          have K5 := Lib.hid F5
          have K6 := Lib.hid F6
          have GF : Hid (C = (s').ws.length + (s').q.length + G ∧ C ≤ m + 1 ∧ (s').n = R ∧ (s').q.length ≤ R) := Lib.hid ⟨by omega, by omega, by omega, by omega⟩
          have hC : C ≤ 120 := by omega
          have hG : G ≤ 120 := by omega
          clear F4 F5 F6 hx hy hi1 hi2 hi3 hi4 hI hn' hs' hok'
          go_wp2_with (first | (go_at_call 18; ((with_reducible refine (K1.out _ (by first | exact HB.out | exact HB.out.alloc _ | exact HB.out.drewN _ | exact (HB.out.alloc _).drewN _ | exact (HB.out.drewN _).alloc _)).mono ?_); rintro e w4 ⟨rfl, hBn, hOn⟩; have hw9 := below_only (by first | exact HWW.out | exact HWW.out.alloc HWW.out.size _ | exact below_drewN' HWW.out _ | exact below_drewN' (HWW.out.alloc HWW.out.size _) _) hOn HG.out; have HB := Lib.hid hBn; have HWW := Lib.hid hw9; clear hBn hOn hw9)) | (go_at_call 23; ((with_reducible refine (K2.out _ (by first | exact HB.out | exact HB.out.alloc _ | exact HB.out.drewN _ | exact (HB.out.alloc _).drewN _ | exact (HB.out.drewN _).alloc _)).mono ?_); rintro e w4 ⟨rfl, hb4⟩; have HB := Lib.hid (HB.out.below hb4); have HWW := Lib.hid (HWW.out.trans (hb4.mono HWW.out.size)))) | (go_at_call 26; ((with_reducible refine (K3.out _ (by first | exact HB.out | exact HB.out.alloc _ | exact HB.out.drewN _ | exact (HB.out.alloc _).drewN _ | exact (HB.out.drewN _).alloc _)).mono ?_); rintro e w' ⟨rfl, k, rfl⟩)) | (go_at_call 21; ((with_reducible refine (K4.out _ (by first | exact HB.out | exact HB.out.alloc _ | exact HB.out.drewN _ | exact (HB.out.alloc _).drewN _ | exact (HB.out.drewN _).alloc _)).mono ?_); rintro e w' ⟨rfl, k, rfl⟩)) | (go_at_call 22; ((with_reducible refine (K5.out _ (by first | exact HB.out | exact HB.out.alloc _ | exact HB.out.drewN _ | exact (HB.out.alloc _).drewN _ | exact (HB.out.drewN _).alloc _)).mono ?_); rintro e w' ⟨rfl, k, rfl⟩)) | (go_at_call 26; ((with_reducible refine (K6.out _ (by first | exact HB.out | exact HB.out.alloc _ | exact HB.out.drewN _ | exact (HB.out.alloc _).drewN _ | exact (HB.out.drewN _).alloc _)).mono ?_); rintro e w' ⟨rfl, k, rfl⟩)))
          go_roundw
          case measure => simp [intOf] <;> omega
          case rel => exact ⟨m + 1, C, G, s', by omega, by go_num, rfl, rfl, (by first | exact HB.out | exact HB.out.alloc _ | exact HB.out.drewN _ | exact (HB.out.alloc _).drewN _ | exact (HB.out.drewN _).alloc _), GF, (by first | exact HWW.out | exact HWW.out.alloc HWW.out.size _ | exact below_drewN' HWW.out _ | exact below_drewN' (HWW.out.alloc HWW.out.size _) _)⟩
      · have F1 := fun w h => box_recv w b B s h
        rcases IS.recv_cases s with ⟨s', p, e1, hn', hs', hf⟩ | ⟨e1, hq0⟩
        · rw [e1] at F1
          obtain ⟨z0, z1, z2, z3⟩ := p
          dsimp only [Pk.val] at F1
          have K1 := Lib.hid F1
          clear F1 e1
          rw [← hs'] at hi1
          obtain ⟨x, hx⟩ : ∃ x : Int, x = ((s').ws.length : Int) := ⟨_, rfl⟩
          obtain ⟨y, hy⟩ : ∃ y : Int, y = ((s').q.length : Int) := ⟨_, rfl⟩
          have hq : ((C : Int) != x + y + ((G : Int) + 1)) = false := by rw [bne_eq_false_iff_eq, hx, hy]; omega
          have hb : 0 ≤ x ∧ x ≤ 121 ∧ 0 ≤ y ∧ y ≤ 8 := by rw [hx, hy]; omega
          obtain ⟨hb1, hb2, hb5, hb4⟩ := hb
          have F4 := fun w h => box_waits w b B (s') h
          have F5 := fun w h => box_len w b B (s') h
          have F6 := fun w h => box_room w b B (s') h
          rw [← hx] at F4
          rw [← hy] at F5
          rw [← hy, show ((s').n : Int) = (R : Int) from by omega] at F6
          have K4 := Lib.hid F4
          have K5 := Lib.hid F5
          have K6 := Lib.hid F6
          have GF : Hid (C = (s').ws.length + (s').q.length + (G + 1) ∧ C ≤ m + 1 ∧ (s').n = R ∧ (s').q.length ≤ R) := Lib.hid ⟨by omega, by omega, by omega, by omega⟩
          have hC : C ≤ 120 := by omega
          have hG : G ≤ 120 := by omega
          clear F4 F5 F6 hx hy hi1 hi2 hi3 hi4 hI hn' hs' hf
          go_wp2_with (first | (go_at_call 19; ((with_reducible refine (K1.out _ (by first | exact HB.out | exact HB.out.alloc _ | exact HB.out.drewN _ | exact (HB.out.alloc _).drewN _ | exact (HB.out.drewN _).alloc _)).mono ?_); rintro e w4 ⟨rfl, hBn, hOn⟩; have hw9 := below_only (by first | exact HWW.out | exact HWW.out.alloc HWW.out.size _ | exact below_drewN' HWW.out _ | exact below_drewN' (HWW.out.alloc HWW.out.size _) _) hOn HG.out; have HB := Lib.hid hBn; have HWW := Lib.hid hw9; clear hBn hOn hw9)) | (go_at_call 21; ((with_reducible refine (K4.out _ (by first | exact HB.out | exact HB.out.alloc _ | exact HB.out.drewN _ | exact (HB.out.alloc _).drewN _ | exact (HB.out.drewN _).alloc _)).mono ?_); rintro e w' ⟨rfl, k, rfl⟩)) | (go_at_call 22; ((with_reducible refine (K5.out _ (by first | exact HB.out | exact HB.out.alloc _ | exact HB.out.drewN _ | exact (HB.out.alloc _).drewN _ | exact (HB.out.drewN _).alloc _)).mono ?_); rintro e w' ⟨rfl, k, rfl⟩)) | (go_at_call 26; ((with_reducible refine (K6.out _ (by first | exact HB.out | exact HB.out.alloc _ | exact HB.out.drewN _ | exact (HB.out.alloc _).drewN _ | exact (HB.out.drewN _).alloc _)).mono ?_); rintro e w' ⟨rfl, k, rfl⟩)))
          go_roundw
          case measure => simp [intOf] <;> omega
          case rel => exact ⟨m + 1, C, G + 1, s', by omega, by go_num, rfl, by go_num, (by first | exact HB.out | exact HB.out.alloc _ | exact HB.out.drewN _ | exact (HB.out.alloc _).drewN _ | exact (HB.out.drewN _).alloc _), GF, (by first | exact HWW.out | exact HWW.out.alloc HWW.out.size _ | exact below_drewN' HWW.out _ | exact below_drewN' (HWW.out.alloc HWW.out.size _) _)⟩
        · rw [e1] at F1
          dsimp only [Pk.val, Pk.zero] at F1
          have K1 := Lib.hid F1
          clear F1 e1 hq0
          obtain ⟨x, hx⟩ : ∃ x : Int, x = ((s).ws.length : Int) := ⟨_, rfl⟩
          obtain ⟨y, hy⟩ : ∃ y : Int, y = ((s).q.length : Int) := ⟨_, rfl⟩
          have hq : ((C : Int) != x + y + (G : Int)) = false := by rw [bne_eq_false_iff_eq, hx, hy]; omega
          have hb : 0 ≤ x ∧ x ≤ 121 ∧ 0 ≤ y ∧ y ≤ 8 := by rw [hx, hy]; omega
          obtain ⟨hb1, hb2, hb5, hb4⟩ := hb
          have F4 := fun w h => box_waits w b B (s) h
          have F5 := fun w h => box_len w b B (s) h
          have F6 := fun w h => box_room w b B (s) h
          rw [← hx] at F4
          rw [← hy] at F5
          rw [← hy, show ((s).n : Int) = (R : Int) from by omega] at F6
          have K4 := Lib.hid F4
          have K5 := Lib.hid F5
          have K6 := Lib.hid F6
          have GF : Hid (C = (s).ws.length + (s).q.length + G ∧ C ≤ m + 1 ∧ (s).n = R ∧ (s).q.length ≤ R) := Lib.hid ⟨by omega, by omega, by omega, by omega⟩
          have hC : C ≤ 120 := by omega
          have hG : G ≤ 120 := by omega
          clear F4 F5 F6 hx hy hi1 hi2 hi3 hi4 hI 
          go_wp2_with (first | (go_at_call 19; ((with_reducible refine (K1.out _ (by first | exact HB.out | exact HB.out.alloc _ | exact HB.out.drewN _ | exact (HB.out.alloc _).drewN _ | exact (HB.out.drewN _).alloc _)).mono ?_); rintro e w4 ⟨rfl, hBn, hOn⟩; have hw9 := below_only (by first | exact HWW.out | exact HWW.out.alloc HWW.out.size _ | exact below_drewN' HWW.out _ | exact below_drewN' (HWW.out.alloc HWW.out.size _) _) hOn HG.out; have HB := Lib.hid hBn; have HWW := Lib.hid hw9; clear hBn hOn hw9)) | (go_at_call 21; ((with_reducible refine (K4.out _ (by first | exact HB.out | exact HB.out.alloc _ | exact HB.out.drewN _ | exact (HB.out.alloc _).drewN _ | exact (HB.out.drewN _).alloc _)).mono ?_); rintro e w' ⟨rfl, k, rfl⟩)) | (go_at_call 22; ((with_reducible refine (K5.out _ (by first | exact HB.out | exact HB.out.alloc _ | exact HB.out.drewN _ | exact (HB.out.alloc _).drewN _ | exact (HB.out.drewN _).alloc _)).mono ?_); rintro e w' ⟨rfl, k, rfl⟩)) | (go_at_call 26; ((with_reducible refine (K6.out _ (by first | exact HB.out | exact HB.out.alloc _ | exact HB.out.drewN _ | exact (HB.out.alloc _).drewN _ | exact (HB.out.drewN _).alloc _)).mono ?_); rintro e w' ⟨rfl, k, rfl⟩)))
          go_roundw
          case measure => simp [intOf] <;> omega
          case rel => exact ⟨m + 1, C, G, s, by omega, by go_num, rfl, rfl, (by first | exact HB.out | exact HB.out.alloc _ | exact HB.out.drewN _ | exact (HB.out.alloc _).drewN _ | exact (HB.out.drewN _).alloc _), GF, (by first | exact HWW.out | exact HWW.out.alloc HWW.out.size _ | exact below_drewN' HWW.out _ | exact below_drewN' (HWW.out.alloc HWW.out.size _) _)⟩
      · skip
        have F1 := fun w h => box_come ⟨p0, p1, p2, p3⟩ w b B s HWF.out.1 HWF.out.2.2 h
        rcases IS.come_cases s ⟨p0, p1, p2, p3⟩ with ⟨s', e1, hn', hqq, hs'⟩ | ⟨er, e1, hne⟩
        · rw [e1] at F1
          dsimp only [Pk.val] at F1
          have K1 := Lib.hid F1
          clear F1 e1
          rw [← hqq] at hi1 hi4
          obtain ⟨x, hx⟩ : ∃ x : Int, x = ((s').ws.length : Int) := ⟨_, rfl⟩
          obtain ⟨y, hy⟩ : ∃ y : Int, y = ((s').q.length : Int) := ⟨_, rfl⟩
          have hq : (((C : Int) + 1) != x + y + (G : Int)) = false := by rw [bne_eq_false_iff_eq, hx, hy]; omega
          have hb : 0 ≤ x ∧ x ≤ 121 ∧ 0 ≤ y ∧ y ≤ 8 := by rw [hx, hy]; omega
          obtain ⟨hb1, hb2, hb5, hb4⟩ := hb
          have F4 := fun w h => box_waits w b B (s') h
          have F5 := fun w h => box_len w b B (s') h
          have F6 := fun w h => box_room w b B (s') h
          rw [← hx] at F4
          rw [← hy] at F5
          rw [← hy, show ((s').n : Int) = (R : Int) from by omega] at F6
          have K4 := Lib.hid F4
          have K5 := Lib.hid F5
          have K6 := Lib.hid F6
          have GF : Hid ((C + 1) = (s').ws.length + (s').q.length + G ∧ (C + 1) ≤ m + 1 ∧ (s').n = R ∧ (s').q.length ≤ R) := Lib.hid ⟨by omega, by omega, by omega, by omega⟩
          have hC : C ≤ 120 := by omega
          have hG : G ≤ 120 := by omega
          clear F4 F5 F6 hx hy hi1 hi2 hi3 hi4 hI hn' hs' hqq
          go_wp2_with (first | (go_at_call 17; ((with_reducible refine (K1.out _ (by first | exact HB.out | exact HB.out.alloc _ | exact HB.out.drewN _ | exact (HB.out.alloc _).drewN _ | exact (HB.out.drewN _).alloc _)).mono ?_); rintro e w4 ⟨rfl, hBn, hOn⟩; have hw9 := below_only (by first | exact HWW.out | exact HWW.out.alloc HWW.out.size _ | exact below_drewN' HWW.out _ | exact below_drewN' (HWW.out.alloc HWW.out.size _) _) hOn HG.out; have HB := Lib.hid hBn; have HWW := Lib.hid hw9; clear hBn hOn hw9)) | (go_at_call 21; ((with_reducible refine (K4.out _ (by first | exact HB.out | exact HB.out.alloc _ | exact HB.out.drewN _ | exact (HB.out.alloc _).drewN _ | exact (HB.out.drewN _).alloc _)).mono ?_); rintro e w' ⟨rfl, k, rfl⟩)) | (go_at_call 22; ((with_reducible refine (K5.out _ (by first | exact HB.out | exact HB.out.alloc _ | exact HB.out.drewN _ | exact (HB.out.alloc _).drewN _ | exact (HB.out.drewN _).alloc _)).mono ?_); rintro e w' ⟨rfl, k, rfl⟩)) | (go_at_call 26; ((with_reducible refine (K6.out _ (by first | exact HB.out | exact HB.out.alloc _ | exact HB.out.drewN _ | exact (HB.out.alloc _).drewN _ | exact (HB.out.drewN _).alloc _)).mono ?_); rintro e w' ⟨rfl, k, rfl⟩)))
          go_roundw
          case measure => simp [intOf] <;> omega
          case rel => exact ⟨m + 1, C + 1, G, s', by omega, by go_num, by go_num, rfl, (by first | exact HB.out | exact HB.out.alloc _ | exact HB.out.drewN _ | exact (HB.out.alloc _).drewN _ | exact (HB.out.drewN _).alloc _), GF, (by first | exact HWW.out | exact HWW.out.alloc HWW.out.size _ | exact below_drewN' HWW.out _ | exact below_drewN' (HWW.out.alloc HWW.out.size _) _)⟩
        · rw [e1] at F1
          dsimp only [Pk.val] at F1
          have K1 := Lib.hid F1
          clear F1 e1
          obtain ⟨x, hx⟩ : ∃ x : Int, x = ((s).ws.length : Int) := ⟨_, rfl⟩
          obtain ⟨y, hy⟩ : ∃ y : Int, y = ((s).q.length : Int) := ⟨_, rfl⟩
          have hq : ((C : Int) != x + y + (G : Int)) = false := by rw [bne_eq_false_iff_eq, hx, hy]; omega
          have hb : 0 ≤ x ∧ x ≤ 121 ∧ 0 ≤ y ∧ y ≤ 8 := by rw [hx, hy]; omega
          obtain ⟨hb1, hb2, hb5, hb4⟩ := hb
          have F4 := fun w h => box_waits w b B (s) h
          have F5 := fun w h => box_len w b B (s) h
          have F6 := fun w h => box_room w b B (s) h
          rw [← hx] at F4
          rw [← hy] at F5
          rw [← hy, show ((s).n : Int) = (R : Int) from by omega] at F6
          have K4 := Lib.hid F4
          have K5 := Lib.hid F5
          have K6 := Lib.hid F6
          have GF : Hid (C = (s).ws.length + (s).q.length + G ∧ C ≤ m + 1 ∧ (s).n = R ∧ (s).q.length ≤ R) := Lib.hid ⟨by omega, by omega, by omega, by omega⟩
          have hC : C ≤ 120 := by omega
          have hG : G ≤ 120 := by omega
          clear F4 F5 F6 hx hy hi1 hi2 hi3 hi4 hI 
          go_wp2_with (first | (go_at_call 17; ((with_reducible refine (K1.out _ (by first | exact HB.out | exact HB.out.alloc _ | exact HB.out.drewN _ | exact (HB.out.alloc _).drewN _ | exact (HB.out.drewN _).alloc _)).mono ?_); rintro e w4 ⟨rfl, hBn, hOn⟩; have hw9 := below_only (by first | exact HWW.out | exact HWW.out.alloc HWW.out.size _ | exact below_drewN' HWW.out _ | exact below_drewN' (HWW.out.alloc HWW.out.size _) _) hOn HG.out; have HB := Lib.hid hBn; have HWW := Lib.hid hw9; clear hBn hOn hw9)) | (go_at_call 21; ((with_reducible refine (K4.out _ (by first | exact HB.out | exact HB.out.alloc _ | exact HB.out.drewN _ | exact (HB.out.alloc _).drewN _ | exact (HB.out.drewN _).alloc _)).mono ?_); rintro e w' ⟨rfl, k, rfl⟩)) | (go_at_call 22; ((with_reducible refine (K5.out _ (by first | exact HB.out | exact HB.out.alloc _ | exact HB.out.drewN _ | exact (HB.out.alloc _).drewN _ | exact (HB.out.drewN _).alloc _)).mono ?_); rintro e w' ⟨rfl, k, rfl⟩)) | (go_at_call 26; ((with_reducible refine (K6.out _ (by first | exact HB.out | exact HB.out.alloc _ | exact HB.out.drewN _ | exact (HB.out.alloc _).drewN _ | exact (HB.out.drewN _).alloc _)).mono ?_); rintro e w' ⟨rfl, k, rfl⟩)))
          go_roundw
          case measure => simp [intOf] <;> omega
          case rel => exact ⟨m + 1, C, G, s, by omega, by go_num, rfl, rfl, (by first | exact HB.out | exact HB.out.alloc _ | exact HB.out.drewN _ | exact (HB.out.alloc _).drewN _ | exact (HB.out.drewN _).alloc _), GF, (by first | exact HWW.out | exact HWW.out.alloc HWW.out.size _ | exact below_drewN' HWW.out _ | exact below_drewN' (HWW.out.alloc HWW.out.size _) _)⟩
    · have hmI : ¬ ((m : Int) < (L.length : Int)) := by omega
      clear hB hbw
      go_wp2
      go_ret
      exact ⟨rfl, HWW.out⟩
end Go.Proofs.Ytmehfflomgldeaa
