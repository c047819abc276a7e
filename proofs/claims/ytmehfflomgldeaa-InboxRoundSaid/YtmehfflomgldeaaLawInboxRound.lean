/- The walk of InboxRound. -/
import Derived.Test.YtmehfflomgldeaaInboxI
namespace Go.Proofs.Ytmehfflomgldeaa
set_option linter.unusedVariables false
set_option linter.unusedSimpArgs false
open Go.RowKit Go.ChangeMaps Go.WideShapes Go.WideMaps
set_option maxRecDepth 100000 in
set_option maxHeartbeats 2000000 in
theorem inboxRound_walk (more : Int) (w : World) :
    Calls Try.prog 3 #[.int .i64 more] w fun e w' => e = .returned (.bool true) ∧ Below w.heap.size w w' := by
  obtain ⟨M, hM, hM20⟩ := mod_nat more 20 (by omega) (by omega)
  have HV := Lib.hid lives16_calls
  have K0 := Lib.hid (fun w => box_new 1 w)
  go_enter Try.func3, Try.ntmps3
  go_wp2_with (first
    | (go_at_call 15; ((with_reducible refine (HV.out _).mono ?_); rintro e w1 ⟨rfl, hb1⟩)) | (go_at_call 16; ((with_reducible refine (K0.out _).mono ?_); rintro e w2 ⟨b, B, rfl, hB2, hge, hb2⟩)))
  have hge2 : ∀ k ∈ B, w.heap.size ≤ k := fun k hk => Nat.le_trans hb1.size (hge k hk)
  have hbw := hb1.trans (hb2.mono hb1.size)
  have HG := Lib.hid hge2
  clear hge hge2 hb1 hb2 HV K0
  go_loopw [4] (fun i wr => ∃ (m : Nat) (nx : List (Int × Int)), m ≤ 65536 + M ∧ i = .int .i64 (m : Int) ∧ BoxAt wr b B ⟨1, [], [], nx⟩ ∧ Hid (lookI nx 0 = (m : Int) % 65536) ∧ Below w.heap.size w wr) (fun i _ => 65536 + M - (intOf i).toNat)
  case atStart => exact ⟨0, [], by omega, rfl, hB2, Lib.hid rfl, hbw⟩
  case round =>
    clear hB2 hbw
    obtain ⟨m, nx, hm, rfl, hB, hL, hbw⟩ := hrel
    have HB := Lib.hid hB
    have HWW := Lib.hid hbw
    clear hB hbw
    by_cases hlm : m < 65536 + M
    · have e1 : IS.come ⟨1, [], [], nx⟩ (⟨0, 0, (m : Int) % 65536, ⟨#[]⟩⟩ : Pk) = (⟨1, [], [(⟨0, 0, (m : Int) % 65536, ⟨#[]⟩⟩ : Pk)], nx⟩, 0) := IS.come_new rfl (IS.inR_of (by show (0 : Int) ≤ 0; omega) (by show (0 : Int) < 4096; omega) (by show 0 ≤ (m : Int) % 65536; omega) (by show (m : Int) % 65536 < 65536; omega))
      have e2 : IS.tell ⟨1, [], [(⟨0, 0, (m : Int) % 65536, ⟨#[]⟩⟩ : Pk)], nx⟩ = (⟨1, [(⟨0, 0, (m : Int) % 65536, ⟨#[]⟩⟩ : Pk)], [], putI nx 0 (((m : Int) % 65536 + 1) % 65536)⟩, true) := by
        rw [IS.tell_some (IS.ready_one (p := (⟨0, 0, (m : Int) % 65536, ⟨#[]⟩⟩ : Pk)) (by show (m : Int) % 65536 = lookI nx 0; rw [hL.out])) (by simp)]
        dsimp only
        rw [IS.erase_one]; rfl
      have hw1 : (Lit.int .i64 ((m : Int) % 65536)).wf = true := wf_small (by omega) (by omega)
      have hl2 : lookI (putI nx 0 (((m : Int) % 65536 + 1) % 65536)) 0 = ((m + 1 : Nat) : Int) % 65536 := by rw [lookI_put, if_pos rfl]; omega
      have F1 := fun w h => box_come (⟨0, 0, (m : Int) % 65536, ⟨#[]⟩⟩ : Pk) w b B ⟨1, [], [], nx⟩ rfl hw1 h
      have F2 := fun w h => box_tell w b B ⟨1, [], [(⟨0, 0, (m : Int) % 65536, ⟨#[]⟩⟩ : Pk)], nx⟩ h
      have F3 := fun w h => box_recv w b B ⟨1, [(⟨0, 0, (m : Int) % 65536, ⟨#[]⟩⟩ : Pk)], [], putI nx 0 (((m : Int) % 65536 + 1) % 65536)⟩ h
      rw [e1] at F1
      rw [e2] at F2
      rw [IS.recv_cons] at F3
      dsimp only [Pk.val] at F1 F3
      have K1 := Lib.hid F1
      have K2 := Lib.hid F2
      have K3 := Lib.hid F3
      have HL2 := Lib.hid hl2
      have hmI : (m : Int) < 65536 + (M : Int) := by omega
      clear F1 F2 F3 e1 e2 hw1 hl2
      go_wp2_with (first | (go_at_call 17; (with_reducible refine (K1.out _ HB.out).mono ?_); rintro e w1 ⟨rfl, hBn, hOn⟩; have HB := Lib.hid hBn; have HWW := Lib.hid (Below.trans HWW.out (only_below hOn HG.out HWW.out.size)); clear hBn hOn) | (go_at_call 18; (with_reducible refine (K2.out _ HB.out).mono ?_); rintro e w1 ⟨rfl, hBn, hOn⟩; have HB := Lib.hid hBn; have HWW := Lib.hid (Below.trans HWW.out (only_below hOn HG.out HWW.out.size)); clear hBn hOn) | (go_at_call 19; (with_reducible refine (K3.out _ HB.out).mono ?_); rintro e w1 ⟨rfl, hBn, hOn⟩; have HB := Lib.hid hBn; have HWW := Lib.hid (Below.trans HWW.out (only_below hOn HG.out HWW.out.size)); clear hBn hOn))
      go_roundw
      case rel => exact ⟨m + 1, _, by omega, by go_num, HB.out.alloc _, HL2, HWW.out.alloc HWW.out.size _⟩
      case measure => simp [intOf] <;> omega
    · have F1 := fun w h => box_next w b B ⟨1, [], [], nx⟩ 0 rfl h
      rw [show IS.next ⟨1, [], [], nx⟩ 0 = (M : Int) from by show lookI nx 0 = _; rw [hL.out]; omega] at F1
      have K1 := Lib.hid F1
      have hmI : ¬ ((m : Int) < 65536 + (M : Int)) := by omega
      clear F1
      go_wp2_with (go_at_call 20; ((with_reducible refine (K1.out _ HB.out).mono ?_); rintro e w' ⟨rfl, k, rfl⟩))
      go_ret
      exact ⟨rfl, below_drewN' HWW.out _⟩
end Go.Proofs.Ytmehfflomgldeaa
