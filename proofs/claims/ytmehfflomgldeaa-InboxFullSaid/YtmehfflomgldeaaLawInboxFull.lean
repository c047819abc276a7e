/- The walk of InboxFull. -/
import Derived.Test.YtmehfflomgldeaaInboxI
namespace Go.Proofs.Ytmehfflomgldeaa
set_option linter.unusedVariables false
set_option linter.unusedSimpArgs false
open Go.RowKit Go.ChangeMaps Go.WideShapes Go.WideMaps
def P1 (k : Nat) : Pk := ⟨1, 0, (k : Int), ⟨#[]⟩⟩
def rg (a k : Nat) : List Pk := (List.range' a k).map P1
theorem rg_snoc (a k : Nat) : rg a (k + 1) = rg a k ++ [P1 (a + k)] := by unfold rg; rw [List.range'_1_concat]; simp
theorem rg_cons (a k : Nat) : rg a (k + 1) = P1 a :: rg (a + 1) k := rfl
theorem rg_len (a k : Nat) : (rg a k).length = k := by unfold rg; simp
theorem rg_mem {a k : Nat} {p : Pk} (h : p ∈ rg a k) : ∃ m, a ≤ m ∧ m < a + k ∧ p = P1 m := by
  unfold rg at h
  obtain ⟨m, hm, rfl⟩ := List.mem_map.1 h
  rw [List.mem_range'_1] at hm
  exact ⟨m, hm.1, hm.2, rfl⟩
theorem rg_keys (a k : Nat) : ((rg a k).map (fun p => (p.src, p.seq))).Nodup := by
  unfold rg
  rw [List.map_map]
  refine List.Pairwise.map _ (fun x y (h : x ≠ y) e => h ?_) List.nodup_range'
  simp [P1] at e
  omega
theorem one_mod (x : Int) : ∃ L : Nat, 1 + wrap64 ((IntKind.u64.wrap x).tmod 6) = (L : Int) ∧ 1 ≤ L ∧ L ≤ 6 := by
  obtain ⟨M, h1, h2⟩ := mod_nat x 6 (by omega) (by omega)
  exact ⟨M + 1, by rw [h1]; omega, by omega, by omega⟩
abbrev FS (n r i j : Nat) (nx : List (Int × Int)) : IS := ⟨r, rg i (j - i), rg j (n - j), nx⟩
theorem fs_come {n r i : Nat} (hi : i < 100) : IS.come ⟨r, [], rg 0 i, []⟩ (P1 i) = (⟨r, [], rg 0 (i + 1), []⟩, 0) := by
  rw [IS.come_new, rg_snoc, Nat.zero_add]
  · rw [Bool.eq_false_iff]
    intro h
    obtain ⟨q, hq, h1, h2⟩ := IS.any_key.1 h
    obtain ⟨m, _, hm, rfl⟩ := rg_mem hq
    have : (m : Int) = (i : Int) := h2
    omega
  · exact IS.inR_of (by show (0 : Int) ≤ 1; omega) (by show (1 : Int) < 4096; omega) (by show (0 : Int) ≤ (i : Int); omega) (by show (i : Int) < 65536; omega)
theorem fs_ready {n r i j : Nat} {nx : List (Int × Int)} (hl : lookI nx 1 = (j : Int)) (hj : j < n) : (FS n r i j nx).ready = some (P1 j) := by
  refine IS.ready_unique (rg_keys _ _) ⟨?_, ?_, ?_⟩
  · show P1 j ∈ rg j (n - j)
    rw [show n - j = (n - j - 1) + 1 by omega, rg_cons]
    exact List.mem_cons_self ..
  · exact decide_eq_true (by show (j : Int) = lookI nx 1; rw [hl])
  · intro p hp _
    obtain ⟨m, _, _, rfl⟩ := rg_mem (show p ∈ rg j (n - j) from hp)
    exact Int.le_refl _
theorem fs_none {n r i j : Nat} {nx : List (Int × Int)} (hj : n ≤ j) : (FS n r i j nx).ready = none := by
  refine IS.ready_unique (rg_keys _ _) ?_
  intro p hp
  have hp2 : p ∈ rg j (n - j) := hp
  rw [show n - j = 0 by omega] at hp2
  simp [rg] at hp2
theorem fs_tell {n r i j : Nat} {nx : List (Int × Int)} (hl : lookI nx 1 = (j : Int)) (hj : j < n) (hi : i ≤ j) (hr : j - i ≠ r) (hn : n < 100) :
    ∃ nx', (FS n r i j nx).tell = (FS n r i (j + 1) nx', true) ∧ lookI nx' 1 = ((j + 1 : Nat) : Int) := by
  refine ⟨putI nx 1 (((j : Int) + 1) % 65536), ?_, by rw [lookI_put, if_pos rfl]; omega⟩
  rw [IS.tell_some (fs_ready hl hj) (by show ¬ (rg i (j - i)).length = r; rw [rg_len]; exact hr)]
  show ((⟨r, rg i (j - i) ++ [P1 j], (rg j (n - j)).eraseP (keyEq (P1 j)), putI nx 1 (((j : Int) + 1) % 65536)⟩ : IS), true) = ((⟨r, rg i (j + 1 - i), rg (j + 1) (n - (j + 1)), putI nx 1 (((j : Int) + 1) % 65536)⟩ : IS), true)
  rw [show n - j = (n - (j + 1)) + 1 by omega, rg_cons, List.eraseP_cons_of_pos (IS.keyEq_self _), show j + 1 - i = (j - i) + 1 by omega, rg_snoc, show i + (j - i) = j by omega]
theorem fs_stop {n r i j : Nat} {nx : List (Int × Int)} (hl : lookI nx 1 = (j : Int)) (hj : n ≤ j ∨ j - i = r) : (FS n r i j nx).tell = (FS n r i j nx, false) := by
  by_cases h : j < n
  · exact IS.tell_full (fs_ready hl h) (by show (rg i (j - i)).length = r; rw [rg_len]; omega)
  · exact IS.tell_none (fs_none (by omega))
theorem fs_recv {n r i j : Nat} {nx : List (Int × Int)} (h : i < j) : (FS n r i j nx).recv = (FS n r (i + 1) j nx, P1 i, 0) := by
  unfold FS
  rw [show j - i = (j - (i + 1)) + 1 by omega, rg_cons]; rfl
theorem fs_end {n r i : Nat} {nx : List (Int × Int)} : (FS n r i i nx).recv = (FS n r i i nx, Pk.zero, 8) := by
  unfold FS
  rw [Nat.sub_self]; rfl
theorem new_is (R : Nat) (h1 : 1 ≤ R) (h2 : R ≤ 64) : IS.new (R : Int) = ⟨R, [], [], []⟩ := by
  unfold IS.new
  congr
  omega
set_option maxRecDepth 100000 in
set_option maxHeartbeats 2000000 in
theorem inboxFull_walk (room n0 : Int) (w : World) :
    Calls Try.prog 5 #[.int .i64 room, .int .i64 n0] w fun e w' => e = .returned (.bool true) ∧ Below w.heap.size w w' := by
  obtain ⟨R, hR, hR1, hR6⟩ := one_mod room
  obtain ⟨n, hn, hn20⟩ := mod_nat n0 20 (by omega) (by omega)
  have HV := Lib.hid lives16_calls
  have hN := fun w => box_new (R : Int) w
  rw [new_is R hR1 (by omega)] at hN
  have K0 := Lib.hid hN
  clear hN
  go_enter Try.func5, Try.ntmps5
  go_wp2_with (first
    | (go_at_call 15; ((with_reducible refine (HV.out _).mono ?_); rintro e w1 ⟨rfl, hb1⟩)) | (go_at_call 16; ((with_reducible refine (K0.out _).mono ?_); rintro e w2 ⟨b, B, rfl, hB2, hge, hb2⟩)))
  have hge2 : ∀ k ∈ B, w.heap.size ≤ k := fun k hk => Nat.le_trans hb1.size (hge k hk)
  have hbw := hb1.trans (hb2.mono hb1.size)
  have HG := Lib.hid hge2
  clear hge hge2 hb1 hb2 HV K0
  go_loopw [6] (fun i wr => ∃ m : Nat, m ≤ n ∧ i = .int .i64 (m : Int) ∧ BoxAt wr b B ⟨R, [], rg 0 m, []⟩ ∧ Below w.heap.size w wr) (fun i _ => n - (intOf i).toNat)
  case atStart => exact ⟨0, by omega, rfl, hB2, hbw⟩
  case round =>
    clear hB2 hbw
    obtain ⟨m, hm, rfl, hB, hbw⟩ := hrel
    have HB := Lib.hid hB
    have HWW := Lib.hid hbw
    clear hB hbw
    by_cases hmn : m < n
    · have F1 := fun w h => box_come (P1 m) w b B ⟨R, [], rg 0 m, []⟩ rfl (wf_small (by show (0 : Int) ≤ (m : Int); omega) (by show (m : Int) < 65536; omega)) h
      rw [fs_come (n := n) (by omega)] at F1
      unfold P1 at F1
      dsimp only [Pk.val] at F1
      have K1 := Lib.hid F1
      have hmI : (m : Int) < (n : Int) := by omega
      clear F1
      go_wp2_with (first | (go_at_call 17; (with_reducible refine (K1.out _ HB.out).mono ?_); rintro e w1 ⟨rfl, hBn, hOn⟩; have HB := Lib.hid hBn; have HWW := Lib.hid (Below.trans HWW.out (only_below hOn HG.out HWW.out.size)); clear hBn hOn))
      go_roundw
      case rel => exact ⟨m + 1, by omega, by go_num, HB.out, HWW.out⟩
      case measure => simp [intOf] <;> omega
    · have hmI : ¬ ((m : Int) < (n : Int)) := by omega
      have e : m = n := by omega
      rw [e] at HB
      clear e
      go_wp2
      go_loopw [7] (fun i wr => ∃ (j : Nat) (nx : List (Int × Int)), j ≤ n + 2 ∧ i = .int .i64 (j : Int) ∧ BoxAt wr b B (FS n R 0 (min j (min n R)) nx) ∧ Hid (lookI nx 1 = ((min j (min n R) : Nat) : Int)) ∧ Below w.heap.size w wr) (fun i _ => n + 2 - (intOf i).toNat)
      case atStart =>
        refine ⟨0, [], by omega, rfl, ?_, Lib.hid ?_, HWW.out⟩
        · rw [show min 0 (min n R) = 0 by omega]; exact HB.out
        · rw [show min 0 (min n R) = 0 by omega]; rfl
      case round =>
        clear HB HWW
        obtain ⟨j, nx, hj, rfl, hB, hL, hbw⟩ := hrel
        have HB := Lib.hid hB
        have HWW := Lib.hid hbw
        clear hB hbw
        by_cases h1 : j < min n R
        · rw [show min j (min n R) = j by omega] at HB hL
          obtain ⟨nx', e1, hl'⟩ := fs_tell (r := R) (i := 0) hL.out (show j < n by omega) (by omega) (by omega) (by omega)
          have F2 := fun w h => box_tell w b B (FS n R 0 j nx) h
          rw [e1] at F2
          have K2 := Lib.hid F2
          have HL := Lib.hid hl'
          have hj2 : (j : Int) < (n : Int) + 2 := by omega
          have hd : decide ((j : Int) < min (n : Int) (R : Int)) = true := decide_eq_true (by omega)
          clear F2 e1 hl' hL
          go_wp2_with (first | (go_at_call 18; (with_reducible refine (K2.out _ HB.out).mono ?_); rintro e w1 ⟨rfl, hBn, hOn⟩; have HB := Lib.hid hBn; have HWW := Lib.hid (Below.trans HWW.out (only_below hOn HG.out HWW.out.size)); clear hBn hOn))
          go_roundw
          case rel =>
            refine ⟨j + 1, nx', by omega, by go_num, ?_, Lib.hid ?_, HWW.out⟩
            · rw [show min (j + 1) (min n R) = j + 1 by omega]; exact HB.out
            · rw [show min (j + 1) (min n R) = j + 1 by omega]; exact HL.out
          case measure => simp [intOf] <;> omega
        · by_cases h2 : j < n + 2
          · rw [show min j (min n R) = min n R by omega] at HB hL
            have F2 := fun w h => box_tell w b B (FS n R 0 (min n R) nx) h
            rw [fs_stop hL.out (by omega)] at F2
            have K2 := Lib.hid F2
            have hj2 : (j : Int) < (n : Int) + 2 := by omega
            have hd : decide ((j : Int) < min (n : Int) (R : Int)) = false := decide_eq_false (by omega)
            clear F2
            go_wp2_with (first | (go_at_call 18; (with_reducible refine (K2.out _ HB.out).mono ?_); rintro e w1 ⟨rfl, hBn, hOn⟩; have HB := Lib.hid hBn; have HWW := Lib.hid (Below.trans HWW.out (only_below hOn HG.out HWW.out.size)); clear hBn hOn))
            go_roundw
            case rel =>
              refine ⟨j + 1, nx, by omega, by go_num, ?_, Lib.hid ?_, HWW.out⟩
              · rw [show min (j + 1) (min n R) = min n R by omega]; exact HB.out
              · rw [show min (j + 1) (min n R) = min n R by omega]; exact hL.out
            case measure => simp [intOf] <;> omega
          · rw [show min j (min n R) = min n R by omega] at HB hL
            have hj2 : ¬ ((j : Int) < (n : Int) + 2) := by omega
            clear h1
            go_wp2
            go_loopw [8] (fun k wr => ∃ (i : Nat) (nx : List (Int × Int)), i ≤ n ∧ k = .int .i64 (i : Int) ∧ BoxAt wr b B (FS n R i (min n (R + i)) nx) ∧ Hid (lookI nx 1 = ((min n (R + i) : Nat) : Int)) ∧ Below w.heap.size w wr) (fun k _ => n - (intOf k).toNat)
            case atStart =>
              refine ⟨0, nx, by omega, rfl, ?_, Lib.hid ?_, HWW.out⟩
              · rw [show min n (R + 0) = min n R by omega]; exact HB.out
              · rw [show min n (R + 0) = min n R by omega]; exact hL.out
            case round =>
              clear HB HWW hL nx
              obtain ⟨i, nx, hi, rfl, hB, hL, hbw⟩ := hrel
              have HB := Lib.hid hB
              have HWW := Lib.hid hbw
              clear hB hbw
              by_cases hin : i < n
              · have F3 := fun w h => box_recv w b B (FS n R i (min n (R + i)) nx) h
                rw [fs_recv (by omega)] at F3
                unfold P1 at F3
                dsimp only [Pk.val] at F3
                have K3 := Lib.hid F3
                clear F3
                have hiI : (i : Int) < (n : Int) := by omega
                by_cases hc : R + i < n
                · obtain ⟨nx', e1, hl'⟩ := fs_tell (r := R) (i := i + 1) (j := R + i) (by have := hL.out; rw [show min n (R + i) = R + i by omega] at this; exact this) hc (by omega) (by omega) (by omega)
                  have F2 := fun w h => box_tell w b B (FS n R (i + 1) (R + i) nx) h
                  rw [e1] at F2
                  rw [show min n (R + i) = R + i by omega] at HB K3
                  have HL := Lib.hid hl'
                  clear e1 hl' hL
                  have K2 := Lib.hid F2
                  have hd : decide ((i : Int) + (R : Int) < (n : Int)) = true := by rw [decide_eq_true_eq]; omega
                  have F4 := fun w h => box_len w b B (FS n R (i + 1) (R + i + 1) nx') h
                  have F5 := fun w h => box_waits w b B (FS n R (i + 1) (R + i + 1) nx') h
                  obtain ⟨x, hx⟩ : ∃ x : Int, x = ((FS n R (i + 1) (R + i + 1) nx').q.length : Int) := ⟨_, rfl⟩
                  obtain ⟨y, hy⟩ : ∃ y : Int, y = ((FS n R (i + 1) (R + i + 1) nx').ws.length : Int) := ⟨_, rfl⟩
                  have hb : x + y = (n : Int) - 1 - (i : Int) ∧ 0 ≤ x ∧ 0 ≤ y ∧ x ≤ 100 ∧ y ≤ 100 := by
                    rw [hx, hy]
                    show ((rg _ _).length : Int) + ((rg _ _).length : Int) = _ ∧ 0 ≤ ((rg _ _).length : Int) ∧ 0 ≤ ((rg _ _).length : Int) ∧ ((rg _ _).length : Int) ≤ 100 ∧ ((rg _ _).length : Int) ≤ 100
                    rw [rg_len, rg_len]
                    omega
                  obtain ⟨hs, hb1, hb2, hb3, hb4⟩ := hb
                  have hq : (x + y != (n : Int) - 1 - (i : Int)) = false := by rw [hs]; simp
                  rw [← hx] at F4
                  rw [← hy] at F5
                  have K4 := Lib.hid F4
                  have K5 := Lib.hid F5
                  clear F2 F4 F5 hx hy hs
                  go_wp2_with (first | (go_at_call 19; (with_reducible refine (K3.out _ HB.out).mono ?_); rintro e w1 ⟨rfl, hBn, hOn⟩; have HB := Lib.hid hBn; have HWW := Lib.hid (Below.trans HWW.out (only_below hOn HG.out HWW.out.size)); clear hBn hOn) | (go_at_call 18; (with_reducible refine (K2.out _ (HB.out.alloc _)).mono ?_); rintro e w1 ⟨rfl, hBn, hOn⟩; have hz := hOn.at (alloc_new _) (fun hm => Nat.lt_irrefl _ (HB.out.lt _ hm)); have fz := fun j => cell_at hz j; clear hz; have HB := Lib.hid hBn; have HWW := Lib.hid (Below.trans (HWW.out.alloc HWW.out.size _) (only_below hOn HG.out (HWW.out.alloc HWW.out.size _).size)); clear hBn hOn) | (go_at_call 22; ((with_reducible refine (K4.out _ HB.out).mono ?_); rintro e w' ⟨rfl, k, rfl⟩)) | (go_at_call 21; ((with_reducible refine (K5.out _ (by first | exact HB.out | exact HB.out.drewN _)).mono ?_); rintro e w' ⟨rfl, k, rfl⟩)))
                  go_roundw
                  case measure => simp [intOf] <;> omega
                  case rel =>
                    refine ⟨i + 1, nx', by omega, by go_num, ?_, Lib.hid ?_, below_drewN' HWW.out _⟩
                    · rw [show min n (R + (i + 1)) = R + i + 1 by omega]; exact HB.out.drewN _
                    · rw [show min n (R + (i + 1)) = R + i + 1 by omega]; exact HL.out
                · have F2 := fun w h => box_tell w b B (FS n R (i + 1) (min n (R + i)) nx) h
                  rw [fs_stop hL.out (by omega)] at F2
                  have K2 := Lib.hid F2
                  have hd : decide ((i : Int) + (R : Int) < (n : Int)) = false := by rw [decide_eq_false_iff_not]; omega
                  have F4 := fun w h => box_len w b B (FS n R (i + 1) (min n (R + i)) nx) h
                  have F5 := fun w h => box_waits w b B (FS n R (i + 1) (min n (R + i)) nx) h
                  obtain ⟨x, hx⟩ : ∃ x : Int, x = ((FS n R (i + 1) (min n (R + i)) nx).q.length : Int) := ⟨_, rfl⟩
                  obtain ⟨y, hy⟩ : ∃ y : Int, y = ((FS n R (i + 1) (min n (R + i)) nx).ws.length : Int) := ⟨_, rfl⟩
                  have hb : x + y = (n : Int) - 1 - (i : Int) ∧ 0 ≤ x ∧ 0 ≤ y ∧ x ≤ 100 ∧ y ≤ 100 := by
                    rw [hx, hy]
                    show ((rg _ _).length : Int) + ((rg _ _).length : Int) = _ ∧ 0 ≤ ((rg _ _).length : Int) ∧ 0 ≤ ((rg _ _).length : Int) ∧ ((rg _ _).length : Int) ≤ 100 ∧ ((rg _ _).length : Int) ≤ 100
                    rw [rg_len, rg_len]
                    omega
                  obtain ⟨hs, hb1, hb2, hb3, hb4⟩ := hb
                  have hq : (x + y != (n : Int) - 1 - (i : Int)) = false := by rw [hs]; simp
                  rw [← hx] at F4
                  rw [← hy] at F5
                  have K4 := Lib.hid F4
                  have K5 := Lib.hid F5
                  clear F2 F4 F5 hx hy hs
                  go_wp2_with (first | (go_at_call 19; (with_reducible refine (K3.out _ HB.out).mono ?_); rintro e w1 ⟨rfl, hBn, hOn⟩; have HB := Lib.hid hBn; have HWW := Lib.hid (Below.trans HWW.out (only_below hOn HG.out HWW.out.size)); clear hBn hOn) | (go_at_call 18; (with_reducible refine (K2.out _ (HB.out.alloc _)).mono ?_); rintro e w1 ⟨rfl, hBn, hOn⟩; have hz := hOn.at (alloc_new _) (fun hm => Nat.lt_irrefl _ (HB.out.lt _ hm)); have fz := fun j => cell_at hz j; clear hz; have HB := Lib.hid hBn; have HWW := Lib.hid (Below.trans (HWW.out.alloc HWW.out.size _) (only_below hOn HG.out (HWW.out.alloc HWW.out.size _).size)); clear hBn hOn) | (go_at_call 22; ((with_reducible refine (K4.out _ HB.out).mono ?_); rintro e w' ⟨rfl, k, rfl⟩)) | (go_at_call 21; ((with_reducible refine (K5.out _ (by first | exact HB.out | exact HB.out.drewN _)).mono ?_); rintro e w' ⟨rfl, k, rfl⟩)))
                  go_roundw
                  case measure => simp [intOf] <;> omega
                  case rel =>
                    refine ⟨i + 1, nx, by omega, by go_num, ?_, Lib.hid ?_, below_drewN' HWW.out _⟩
                    · rw [show min n (R + (i + 1)) = min n (R + i) by omega]; exact HB.out.drewN _
                    · rw [show min n (R + (i + 1)) = min n (R + i) by omega]; exact hL.out
              · have e : i = n := by omega
                have hiI : ¬ ((i : Int) < (n : Int)) := by omega
                rw [e, show min n (R + n) = n by omega] at HB
                have F3 := fun w h => box_recv w b B (FS n R n n nx) h
                rw [fs_end] at F3
                dsimp only [Pk.zero, Pk.val] at F3
                have F4 := fun w h => box_isready w b B (FS n R n n nx) h
                rw [fs_none (Nat.le_refl n)] at F4
                dsimp only [Option.isSome_none] at F4
                have K3 := Lib.hid F3
                have K4 := Lib.hid F4
                clear F3 F4 e
                go_wp2_with (first | (go_at_call 19; (with_reducible refine (K3.out _ HB.out).mono ?_); rintro e w1 ⟨rfl, hBn, hOn⟩; have HB := Lib.hid hBn; have HWW := Lib.hid (Below.trans HWW.out (only_below hOn HG.out HWW.out.size)); clear hBn hOn) | (go_at_call 23; (with_reducible refine (K4.out _ (HB.out.alloc _)).mono ?_); rintro e w9 ⟨rfl, hb9⟩))
                go_ret
                exact ⟨rfl, Below.trans (HWW.out.alloc HWW.out.size _) (hb9.mono (HWW.out.alloc HWW.out.size _).size)⟩
end Go.Proofs.Ytmehfflomgldeaa
