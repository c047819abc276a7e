/- The reference's Good: a parcel that may be, made of any. -/
import Derived.Test.YtpklblaenfhncaaRefPaC
import Derived.Test.YtpklblaenfhncaaRes
namespace Go.Proofs.Ytpklblaenfhncaa
set_option linter.unusedVariables false
set_option linter.unusedSimpArgs false
open Go.RowKit
theorem infoT2 : (Try.prog.info? 51).map (fun i => (i.zero, i.size, i.bytes)) = some (some (.agg #[.int .i64 0, .int .i64 0]), 2, 16) := by kernel_rfl
theorem mod_4096 (x : Int) : IntKind.i64.wrap ((IntKind.u64.wrap x).tmod 4096) = x % 4096 := by
  have h : IntKind.u64.wrap x = x % 18446744073709551616 := by simp [IntKind.wrap, IntKind.bits, IntKind.signed]
  rw [h, Int.tmod_eq_emod_of_nonneg (by omega), IntWalk.i64_in _ (by omega)]; omega
theorem mod_65536 (x : Int) : IntKind.i64.wrap ((IntKind.u64.wrap x).tmod 65536) = x % 65536 := by
  have h : IntKind.u64.wrap x = x % 18446744073709551616 := by simp [IntKind.wrap, IntKind.bits, IntKind.signed]
  rw [h, Int.tmod_eq_emod_of_nonneg (by omega), IntWalk.i64_in _ (by omega)]; omega
theorem goodH_len {p : Pa} {L : Nat} (h : L = min p.heads.length (if p.cast = true then 6 else 1)) : (goodH p).length = L := by unfold goodH; rw [List.length_map, List.length_take]; omega
theorem goodH_take {p : Pa} {L : Nat} (h : L = min p.heads.length (if p.cast = true then 6 else 1)) : (p.heads.take L).map goodT = goodH p := by
  unfold goodH; congr 1
  rw [h]
  by_cases h2 : p.heads.length ≤ (if p.cast = true then 6 else 1)
  · rw [Nat.min_eq_left h2, List.take_of_length_le h2, List.take_of_length_le (Nat.le_refl _)]
  · rw [Nat.min_eq_right (by omega)]
theorem goodP_none {p : Pa} (h : (goodH p).length = 0) : (goodP p).heads = [⟨1, 0⟩] := if_pos h
theorem goodP_some {p : Pa} (h : ¬ (goodH p).length = 0) : (goodP p).heads = goodH p := if_neg h
set_option maxRecDepth 100000 in
set_option maxHeartbeats 4000000 in
theorem rgood10_true (src : Int) (heads : List T2) (data : ByteArray) (a : Option Addr) (c : Nat) (w : World) (h : CellsOff w a (flatT heads) []) (hn : heads.length ≤ maxLen) (hd : data.size ≤ maxLen) :
    Calls Try.prog 21 #[.agg #[.int .i64 src, .bool true, .slice a heads.length c, .string data]] w fun e w' => ∃ v, e = .returned ((goodP ⟨src, true, heads, data⟩).val v) ∧ w'.ownsRow w.heap.size 51 2 v (goodP ⟨src, true, heads, data⟩).heads.length (flatT (goodP ⟨src, true, heads, data⟩).heads) ∧ Below w.heap.size w w' := by
  unfold maxLen at hn hd
  have HC := Lib.hid (fun i hi => head_cell (i := i) h hi)
  clear h
  obtain ⟨L, hL⟩ : ∃ L, L = min heads.length 6 := ⟨_, rfl⟩
  have HGL := Lib.hid (goodH_len (p := ⟨src, true, heads, data⟩) (L := L) (by simpa using hL))
  have HGT := Lib.hid (goodH_take (p := ⟨src, true, heads, data⟩) (L := L) (by simpa using hL))
  have hL1 : L ≤ heads.length := by omega
  have hL2 : L ≤ 6 := by omega
  have hL3 : L = heads.length ∨ (L < heads.length ∧ L = 6) := by omega
  have HL3 := Lib.hid hL3
  clear hL hL3
  have hm1 := mod_4096 src
  have hmn : min (data.size : Int) 64 = ((min data.size 64 : Nat) : Int) := by omega
  have hmx : (min data.size 64 : Nat) ≤ data.size := by omega
  have hmxI : ((min data.size 64 : Nat) : Int) ≤ (data.size : Int) := by omega
  go_enter Try.func21, Try.ntmps21
  go_upto_region 1 with (fail)
  have hA := alloc_new (w := w) (.cells #[.int .i64 src, .bool true, .slice a heads.length c, .string data] 43)
  have hA := alloc_old hA (.cells #[.int .i64 0, .bool false, .slice none 0 0, .string ⟨#[]⟩] 43)
  have hZ := alloc_at (w := w.alloc (.cells #[.int .i64 src, .bool true, .slice a heads.length c, .string data] 43)) (.cells #[.int .i64 0, .bool false, .slice none 0 0, .string ⟨#[]⟩] 43) (w.heap.size + 1) (by simp)
  have hB : Below w.heap.size w ((w.alloc (.cells #[.int .i64 src, .bool true, .slice a heads.length c, .string data] 43)).alloc (.cells #[.int .i64 0, .bool false, .slice none 0 0, .string ⟨#[]⟩] 43)) := by repeat' (first | (with_reducible assumption) | (with_reducible refine below_setRowN ?_ ?_ _) | (with_reducible refine Below.setCell ?_ ?_ _) | (with_reducible refine below_drewN' ?_ _) | (with_reducible refine Below.drew ?_) | (with_reducible refine Below.alloc ?_ ?_ _) | (with_reducible exact Below.refl _ _) | (with_reducible exact Nat.le_refl _) | (simp; done) | omega | (simp; omega))
  have hz2 : ((w.alloc (.cells #[.int .i64 src, .bool true, .slice a heads.length c, .string data] 43)).alloc (.cells #[.int .i64 0, .bool false, .slice none 0 0, .string ⟨#[]⟩] 43)).heap.size = w.heap.size + 2 := by simp
  generalize (w.alloc (.cells #[.int .i64 src, .bool true, .slice a heads.length c, .string data] 43)).alloc (.cells #[.int .i64 0, .bool false, .slice none 0 0, .string ⟨#[]⟩] 43) = w2 at *
  have fA := fun j => cell_at hA j
  have HX : Hid (∀ w', Below w2.heap.size w2 w' → ((∀ j, w'.cell? ⟨w.heap.size, j, none⟩ = (#[.int .i64 src, .bool true, .slice a heads.length c, .string data] : Array Value)[j]?))) := fun w' hb j => cell_at (Below.at hb hA (block_lt hA)) j
  have HA := Lib.hid hA
  have HZ := Lib.hid hZ
  have HB := Lib.hid hB
  have HZ2 := Lib.hid hz2
  clear hA hZ hB hz2
  have hk2s : w2.heap.size = w.heap.size + 2 := HZ2.out
  obtain ⟨k2, hk2⟩ : ∃ k2, k2 = w2.heap.size := ⟨_, rfl⟩
  have hk3 : w.heap.size + 1 < k2 := by omega
  have HK2 := Lib.hid hk2
  clear hk2s hk2
  go_cut [3] (fun v3 wx => v3 = .pointer (some ⟨k2, 0, none⟩) ∧ wx.heap[k2]? = some (.cells #[.int .i64 (src % 4096), .bool true, .slice none 0 0, .string (data.extract 0 (min data.size 64))] 43 (0, 0)) ∧ wx.heap[w.heap.size]? = some (.cells #[.int .i64 src, .bool true, .slice a heads.length c, .string data] 43 (0, 0)) ∧ wx.heap[w.heap.size + 1]? = some (.cells #[.int .i64 0, .bool false, .slice none 0 0, .string ⟨#[]⟩] 43 (0, 0)) ∧ Below w.heap.size w wx)
  case first =>
    refine wp_region_held_drew (S := (fun w' => ((∀ j, w'.cell? ⟨w.heap.size, j, none⟩ = (#[.int .i64 src, .bool true, .slice a heads.length c, .string data] : Array Value)[j]?)))) (by kernel_rfl) ?_ (fun hHeld0 => ?_)
    · (try dsimp only); exact HX.out _ (by repeat' (first | (with_reducible assumption) | (with_reducible refine below_setRowN ?_ ?_ _) | (with_reducible refine Below.setCell ?_ ?_ _) | (with_reducible refine below_drewN' ?_ _) | (with_reducible refine Below.drew ?_) | (with_reducible refine Below.alloc ?_ ?_ _) | (with_reducible exact Below.refl _ _) | (with_reducible exact Nat.le_refl _) | (simp; done) | omega | (simp; omega)))
    refine wpAnyH_take (i := 0) (v := ?_) rfl (by kernel_rfl) (by kernel_rfl) (by kernel_rfl) (fun _ _ _ h => h) (Or.inl ⟨by rfl, ?_⟩) (by assumption) ?_
    rotate_left
    · (intro w hSw; (try dsimp only at hSw); go_simp; try with_reducible rfl)
    (try simp only [Act.put, List.setIfInBounds_toArray, List.set_cons_zero, List.set_cons_succ, List.getElem_toArray, List.getElem_cons_zero, List.getElem_cons_succ])
    refine wpAnyH_take (i := 1) (v := ?_) rfl (by kernel_rfl) (by kernel_rfl) (by kernel_rfl) (fun _ _ _ h => h) (Or.inl ⟨by rfl, ?_⟩) (by assumption) ?_
    rotate_left
    · (intro w hSw; (try dsimp only at hSw); go_simp; try with_reducible rfl)
    (try simp only [Act.put, List.setIfInBounds_toArray, List.set_cons_zero, List.set_cons_succ, List.getElem_toArray, List.getElem_cons_zero, List.getElem_cons_succ])
    refine wpAnyH_take (i := 2) (v := ?_) rfl (by kernel_rfl) (by kernel_rfl) (by kernel_rfl) (fun _ _ _ h => h) (Or.inl ⟨by rfl, ?_⟩) (by assumption) ?_
    rotate_left
    · (intro w hSw; (try dsimp only at hSw); go_simp; try with_reducible rfl)
    (try simp only [Act.put, List.setIfInBounds_toArray, List.set_cons_zero, List.set_cons_succ, List.getElem_toArray, List.getElem_cons_zero, List.getElem_cons_succ])
    refine wpAnyH_take (i := 3) (v := ?_) rfl (by kernel_rfl) (by kernel_rfl) (by kernel_rfl) (fun _ _ _ h => h) (Or.inl ⟨by rfl, ?_⟩) (by assumption) ?_
    rotate_left
    · (intro w hSw; (try dsimp only at hSw); go_simp; try with_reducible rfl)
    (try simp only [Act.put, List.setIfInBounds_toArray, List.set_cons_zero, List.set_cons_succ, List.getElem_toArray, List.getElem_cons_zero, List.getElem_cons_succ])
    refine wpAnyH_take (i := 4) (v := ?_) rfl (by kernel_rfl) (by kernel_rfl) (by kernel_rfl) (fun _ _ _ h => h) (Or.inl ⟨by rfl, ?_⟩) (by assumption) ?_
    rotate_left
    · (intro w hSw; (try dsimp only at hSw); go_simp; try with_reducible rfl)
    (try simp only [Act.put, List.setIfInBounds_toArray, List.set_cons_zero, List.set_cons_succ, List.getElem_toArray, List.getElem_cons_zero, List.getElem_cons_succ])
    refine wpAnyH_take (i := 5) (v := ?_) rfl (by kernel_rfl) (by kernel_rfl) (by kernel_rfl) (fun _ _ _ h => h) (Or.inl ⟨by rfl, ?_⟩) (by assumption) ?_
    rotate_left
    · (intro w hSw; (try dsimp only at hSw); go_simp; try with_reducible rfl)
    (try simp only [Act.put, List.setIfInBounds_toArray, List.set_cons_zero, List.set_cons_succ, List.getElem_toArray, List.getElem_cons_zero, List.getElem_cons_succ])
    refine wpAnyH_take (i := 6) (v := ?_) rfl (by kernel_rfl) (by kernel_rfl) (by kernel_rfl) (fun _ _ _ h => h) (Or.inl ⟨by rfl, ?_⟩) (by assumption) ?_
    rotate_left
    · (intro w hSw; (try dsimp only at hSw); go_simp; try with_reducible rfl)
    (try simp only [Act.put, List.setIfInBounds_toArray, List.set_cons_zero, List.set_cons_succ, List.getElem_toArray, List.getElem_cons_zero, List.getElem_cons_succ])
    refine wpAnyH_take (i := 7) (v := ?_) rfl (by kernel_rfl) (by kernel_rfl) (by kernel_rfl) (fun _ _ _ h => h) (Or.inl ⟨by rfl, ?_⟩) (by assumption) ?_
    rotate_left
    · (intro w hSw; (try dsimp only at hSw); go_simp; try with_reducible rfl)
    (try simp only [Act.put, List.setIfInBounds_toArray, List.set_cons_zero, List.set_cons_succ, List.getElem_toArray, List.getElem_cons_zero, List.getElem_cons_succ])
    refine wpAnyH_take (i := 8) (v := ?_) rfl (by kernel_rfl) (by kernel_rfl) (by kernel_rfl) (fun _ _ _ h => h) (Or.inl ⟨by rfl, ?_⟩) (by assumption) ?_
    rotate_left
    · (intro w hSw; (try dsimp only at hSw); go_simp; try with_reducible rfl)
    (try simp only [Act.put, List.setIfInBounds_toArray, List.set_cons_zero, List.set_cons_succ, List.getElem_toArray, List.getElem_cons_zero, List.getElem_cons_succ])
    refine wpAnyH_take (i := 9) (v := ?_) rfl (by kernel_rfl) (by kernel_rfl) (by kernel_rfl) (fun _ _ _ h => h) (Or.inl ⟨by rfl, ?_⟩) (by assumption) ?_
    rotate_left
    · (intro w hSw; (try dsimp only at hSw); go_simp; try with_reducible rfl)
    (try simp only [Act.put, List.setIfInBounds_toArray, List.set_cons_zero, List.set_cons_succ, List.getElem_toArray, List.getElem_cons_zero, List.getElem_cons_succ])
    refine wpAnyH_take (i := 10) (v := ?_) rfl (by kernel_rfl) (by kernel_rfl) (by kernel_rfl) (fun _ _ _ h => h) (Or.inl ⟨by rfl, ?_⟩) (by assumption) ?_
    rotate_left
    · (intro w hSw; (try dsimp only at hSw); go_simp; try with_reducible rfl)
    (try simp only [Act.put, List.setIfInBounds_toArray, List.set_cons_zero, List.set_cons_succ, List.getElem_toArray, List.getElem_cons_zero, List.getElem_cons_succ])
    refine wpAnyH_take (i := 11) (v := ?_) rfl (by kernel_rfl) (by kernel_rfl) (by kernel_rfl) (fun _ _ _ h => h) (Or.inl ⟨by rfl, ?_⟩) (by assumption) ?_
    rotate_left
    · (intro w hSw; (try dsimp only at hSw); go_simp; try with_reducible rfl)
    (try simp only [Act.put, List.setIfInBounds_toArray, List.set_cons_zero, List.set_cons_succ, List.getElem_toArray, List.getElem_cons_zero, List.getElem_cons_succ])
    refine wpAnyH_take (i := 12) (v := ?_) rfl (by kernel_rfl) (by kernel_rfl) (by kernel_rfl) (fun _ _ _ h => h) (Or.inl ⟨by rfl, ?_⟩) (by assumption) ?_
    rotate_left
    · (intro w hSw; (try dsimp only at hSw); go_simp; try with_reducible rfl)
    (try simp only [Act.put, List.setIfInBounds_toArray, List.set_cons_zero, List.set_cons_succ, List.getElem_toArray, List.getElem_cons_zero, List.getElem_cons_succ])
    refine wpAnyH_take (i := 13) (v := ?_) rfl (by kernel_rfl) (by kernel_rfl) (by kernel_rfl) (fun _ _ _ h => h) (Or.inl ⟨by rfl, ?_⟩) (by assumption) ?_
    rotate_left
    · (intro w hSw; (try dsimp only at hSw); go_simp; try with_reducible rfl)
    (try simp only [Act.put, List.setIfInBounds_toArray, List.set_cons_zero, List.set_cons_succ, List.getElem_toArray, List.getElem_cons_zero, List.getElem_cons_succ])
    refine wpAnyH_take (i := 14) (v := ?_) rfl (by kernel_rfl) (by kernel_rfl) (by kernel_rfl) (fun _ _ _ h => h) (Or.inl ⟨by rfl, ?_⟩) (by assumption) ?_
    rotate_left
    · (intro w hSw; (try dsimp only at hSw); go_simp; try with_reducible rfl)
    (try simp only [Act.put, List.setIfInBounds_toArray, List.set_cons_zero, List.set_cons_succ, List.getElem_toArray, List.getElem_cons_zero, List.getElem_cons_succ])
    refine wpAnyH_ready (rs := [15]) (by kernel_rfl) (by simp) ?_
    refine AllReadyH.cons rfl (fun K hK => ?_) ?_
    · go_simp
      refine hK.out _ _ ?_ (fun hHeld1 => ?_)
      · (try dsimp only); exact HX.out _ (by repeat' (first | (with_reducible assumption) | (with_reducible refine below_setRowN ?_ ?_ _) | (with_reducible refine Below.setCell ?_ ?_ _) | (with_reducible refine below_drewN' ?_ _) | (with_reducible refine Below.drew ?_) | (with_reducible refine Below.alloc ?_ ?_ _) | (with_reducible exact Below.refl _ _) | (with_reducible exact Nat.le_refl _) | (simp; done) | omega | (simp; omega)))
      clear hK K hHeld0
      (try simp only [Act.put, List.setIfInBounds_toArray, List.set_cons_zero, List.set_cons_succ, List.getElem_toArray, List.getElem_cons_zero, List.getElem_cons_succ])
      refine wpAnyH_ready (rs := [16]) (by kernel_rfl) (by simp) ?_
      refine AllReadyH.cons rfl (fun K hK => ?_) ?_
      · go_simp
        refine hK.out _ _ ?_ (fun hHeld2 => ?_)
        · (try dsimp only); exact HX.out _ (by repeat' (first | (with_reducible assumption) | (with_reducible refine below_setRowN ?_ ?_ _) | (with_reducible refine Below.setCell ?_ ?_ _) | (with_reducible refine below_drewN' ?_ _) | (with_reducible refine Below.drew ?_) | (with_reducible refine Below.alloc ?_ ?_ _) | (with_reducible exact Below.refl _ _) | (with_reducible exact Nat.le_refl _) | (simp; done) | omega | (simp; omega)))
        clear hK K hHeld1
        (try simp only [Act.put, List.setIfInBounds_toArray, List.set_cons_zero, List.set_cons_succ, List.getElem_toArray, List.getElem_cons_zero, List.getElem_cons_succ])
        refine wpAnyH_done (by kernel_rfl) ?_ _
        go_wp2
        go_meet
        rw [HK2.out]
        exact ⟨rfl, alloc_new _, alloc_old HA.out _, alloc_old HZ.out _, Below.drew (HB.out.alloc HB.out.size _)⟩
      exact AllReadyH.nil
    exact AllReadyH.nil
  case rest =>
  obtain ⟨rfl, hO, hA3, hZ3, hB3⟩ := hcut
  have HO := Lib.hid hO
  have HA3 := Lib.hid hA3
  have HZ3 := Lib.hid hZ3
  have HB3 := Lib.hid hB3
  clear hO hA3 hZ3 hB3 HA HZ HB HX fA hmn hmxI hm1 HK2 HZ2
  go_wp2
  go_loopw [4] (fun i wr => ∃ (m : Nat) (v : Value), m ≤ L ∧ i = .int .i64 (m : Int) ∧ wr.heap[k2]? = some (.cells #[.int .i64 (src % 4096), .bool true, v, .string (data.extract 0 (min data.size 64))] 43 (0, 0)) ∧ wr.ownsRow (k2 + 1) 51 2 v m (flatT ((heads.take m).map goodT)) ∧ wr.heap[w.heap.size]? = some (.cells #[.int .i64 src, .bool true, .slice a heads.length c, .string data] 43 (0, 0)) ∧ wr.heap[w.heap.size + 1]? = some (.cells #[.int .i64 0, .bool false, .slice none 0 0, .string ⟨#[]⟩] 43 (0, 0)) ∧ Below w.heap.size w wr) (fun i _ => L - (intOf i).toNat)
  case atStart => exact ⟨0, .slice none 0 0, by omega, rfl, HO.out, World.ownsRow_nil _ _ _ _, HA3.out, HZ3.out, HB3.out⟩
  case round =>
    clear HO HA3 HZ3 HB3
    obtain ⟨m, v, hm, rfl, hO, hown, hA, hZ, hb⟩ := hrel
    obtain ⟨wo, rfl⟩ : ∃ x : World, x = wr := ⟨_, rfl⟩
    have hlo := block_lt hO
    have f0 := fun j => cell_at hA j
    have f1 := fun j => cell_at hO j
    have u1 := fun j => frozen_at hO j
    by_cases hml : m < L
    · obtain ⟨blk, off, rfl, hlt, c0, c1⟩ := HC.out m (by omega)
      have HS : Hid (flatT ((heads.take (m + 1)).map goodT) = flatT ((heads.take m).map goodT) ++ (goodT (heads.getD m T2.zero)).cells) := (by rw [take_snocD (by omega) T2.zero, List.map_append]; exact flat_snoc _ _ _)
      generalize heads.getD m T2.zero = t at *
      obtain ⟨x, y⟩ := t
      dsimp only at c0 c1
      have HY : Hid (∀ w', Below k2 wo w' → ((∀ j, w'.cell? ⟨w.heap.size, j, none⟩ = (#[.int .i64 src, .bool true, .slice (some ⟨blk, off, none⟩) heads.length c, .string data] : Array Value)[j]?) ∧ w'.cell? ⟨blk, off + m * 2, none⟩ = some (.int .i64 x) ∧ w'.cell? ⟨blk, off + m * 2 + 1, none⟩ = some (.int .i64 y))) := fun w' hb' => by
        have h2 : Below w.heap.size w w' := hb.trans (hb'.mono (by omega))
        exact ⟨fun j => cell_at (Below.at hb' hA (by omega)) j, (h2.cell (p := ⟨blk, _, none⟩) hlt).trans c0, (h2.cell (p := ⟨blk, _, none⟩) hlt).trans c1⟩
      have hmI : (m : Int) < (heads.length : Int) := by omega
      have hm6 : (m : Int) < 6 := by omega
      skip
      have HO := Lib.hid hO
      have HW := Lib.hid hown
      have HB := Lib.hid hb
      have HA := Lib.hid hA
      have HZ := Lib.hid hZ
      clear c0 c1 hown hb hO hA hZ
      have e1 := mod_4096 x
      have e2 := mod_65536 y
      have hz1 : k2 + 1 ≤ wo.heap.size := by omega
      have hL6 : L ≤ 6 := by omega
      go_upto_region 5 with (fail)
      refine wp_region_held_drew (S := (fun w' => ((∀ j, w'.cell? ⟨w.heap.size, j, none⟩ = (#[.int .i64 src, .bool true, .slice (some ⟨blk, off, none⟩) heads.length c, .string data] : Array Value)[j]?) ∧ w'.cell? ⟨blk, off + m * 2, none⟩ = some (.int .i64 x) ∧ w'.cell? ⟨blk, off + m * 2 + 1, none⟩ = some (.int .i64 y)))) (by kernel_rfl) ?_ (fun hHeld0 => ?_)
      · (try dsimp only); exact HY.out _ (by repeat' (first | (with_reducible assumption) | (with_reducible refine below_setRowN ?_ ?_ _) | (with_reducible refine Below.setCell ?_ ?_ _) | (with_reducible refine below_drewN' ?_ _) | (with_reducible refine Below.drew ?_) | (with_reducible refine Below.alloc ?_ ?_ _) | (with_reducible exact Below.refl _ _) | (with_reducible exact Nat.le_refl _) | (simp; done) | omega | (simp; omega)))
      refine wpAnyH_take (i := 0) (v := ?_) rfl (by kernel_rfl) (by kernel_rfl) (by kernel_rfl) (fun _ _ _ h => h) (Or.inl ⟨by rfl, ?_⟩) (by assumption) ?_
      rotate_left
      · (intro w hSw; (try dsimp only at hSw); go_simp; try with_reducible rfl)
      (try simp only [Act.put, List.setIfInBounds_toArray, List.set_cons_zero, List.set_cons_succ, List.getElem_toArray, List.getElem_cons_zero, List.getElem_cons_succ])
      refine wpAnyH_take (i := 2) (v := ?_) rfl (by kernel_rfl) (by kernel_rfl) (by kernel_rfl) (fun _ _ _ h => h) (Or.inl ⟨by rfl, ?_⟩) (by assumption) ?_
      rotate_left
      · (intro w hSw; (try dsimp only at hSw); go_simp; try with_reducible rfl)
      (try simp only [Act.put, List.setIfInBounds_toArray, List.set_cons_zero, List.set_cons_succ, List.getElem_toArray, List.getElem_cons_zero, List.getElem_cons_succ])
      refine wpAnyH_take (i := 3) (v := ?_) rfl (by kernel_rfl) (by kernel_rfl) (by kernel_rfl) (fun _ _ _ h => h) (Or.inl ⟨by rfl, ?_⟩) (by assumption) ?_
      rotate_left
      · (intro w hSw; (try dsimp only at hSw); go_simp; try with_reducible rfl)
      (try simp only [Act.put, List.setIfInBounds_toArray, List.set_cons_zero, List.set_cons_succ, List.getElem_toArray, List.getElem_cons_zero, List.getElem_cons_succ])
      refine wpAnyH_take (i := 4) (v := ?_) rfl (by kernel_rfl) (by kernel_rfl) (by kernel_rfl) (fun _ _ _ h => h) (Or.inl ⟨by rfl, ?_⟩) (by assumption) ?_
      rotate_left
      · (intro w hSw; (try dsimp only at hSw); go_simp; try with_reducible rfl)
      (try simp only [Act.put, List.setIfInBounds_toArray, List.set_cons_zero, List.set_cons_succ, List.getElem_toArray, List.getElem_cons_zero, List.getElem_cons_succ])
      refine wpAnyH_take (i := 5) (v := ?_) rfl (by kernel_rfl) (by kernel_rfl) (by kernel_rfl) (fun _ _ _ h => h) (Or.inl ⟨by rfl, ?_⟩) (by assumption) ?_
      rotate_left
      · (intro w hSw; (try dsimp only at hSw); go_simp; try with_reducible rfl)
      (try simp only [Act.put, List.setIfInBounds_toArray, List.set_cons_zero, List.set_cons_succ, List.getElem_toArray, List.getElem_cons_zero, List.getElem_cons_succ])
      refine wpAnyH_take (i := 6) (v := ?_) rfl (by kernel_rfl) (by kernel_rfl) (by kernel_rfl) (fun _ _ _ h => h) (Or.inl ⟨by rfl, ?_⟩) (by assumption) ?_
      rotate_left
      · (intro w hSw; (try dsimp only at hSw); go_simp; try with_reducible rfl)
      (try simp only [Act.put, List.setIfInBounds_toArray, List.set_cons_zero, List.set_cons_succ, List.getElem_toArray, List.getElem_cons_zero, List.getElem_cons_succ])
      refine wpAnyH_take (i := 7) (v := ?_) rfl (by kernel_rfl) (by kernel_rfl) (by kernel_rfl) (fun _ _ _ h => h) (Or.inl ⟨by rfl, ?_⟩) (by assumption) ?_
      rotate_left
      · (intro w hSw; (try dsimp only at hSw); go_simp; try with_reducible rfl)
      (try simp only [Act.put, List.setIfInBounds_toArray, List.set_cons_zero, List.set_cons_succ, List.getElem_toArray, List.getElem_cons_zero, List.getElem_cons_succ])
      refine wpAnyH_take (i := 8) (v := ?_) rfl (by kernel_rfl) (by kernel_rfl) (by kernel_rfl) (fun _ _ _ h => h) (Or.inl ⟨by rfl, ?_⟩) (by assumption) ?_
      rotate_left
      · (intro w hSw; (try dsimp only at hSw); go_simp; try with_reducible rfl)
      (try simp only [Act.put, List.setIfInBounds_toArray, List.set_cons_zero, List.set_cons_succ, List.getElem_toArray, List.getElem_cons_zero, List.getElem_cons_succ])
      refine wpAnyH_take (i := 9) (v := ?_) rfl (by kernel_rfl) (by kernel_rfl) (by kernel_rfl) (fun _ _ _ h => h) (Or.inl ⟨by rfl, ?_⟩) (by assumption) ?_
      rotate_left
      · (intro w hSw; (try dsimp only at hSw); go_simp; try with_reducible rfl)
      (try simp only [Act.put, List.setIfInBounds_toArray, List.set_cons_zero, List.set_cons_succ, List.getElem_toArray, List.getElem_cons_zero, List.getElem_cons_succ])
      refine wpAnyH_take (i := 10) (v := ?_) rfl (by kernel_rfl) (by kernel_rfl) (by kernel_rfl) (fun _ _ _ h => h) (Or.inl ⟨by rfl, ?_⟩) (by assumption) ?_
      rotate_left
      · (intro w hSw; (try dsimp only at hSw); go_simp; try with_reducible rfl)
      (try simp only [Act.put, List.setIfInBounds_toArray, List.set_cons_zero, List.set_cons_succ, List.getElem_toArray, List.getElem_cons_zero, List.getElem_cons_succ])
      refine wpAnyH_take (i := 11) (v := ?_) rfl (by kernel_rfl) (by kernel_rfl) (by kernel_rfl) (fun _ _ _ h => h) (Or.inl ⟨by rfl, ?_⟩) (by assumption) ?_
      rotate_left
      · (intro w hSw; (try dsimp only at hSw); go_simp; try with_reducible rfl)
      (try simp only [Act.put, List.setIfInBounds_toArray, List.set_cons_zero, List.set_cons_succ, List.getElem_toArray, List.getElem_cons_zero, List.getElem_cons_succ])
      refine wpAnyH_take (i := 12) (v := ?_) rfl (by kernel_rfl) (by kernel_rfl) (by kernel_rfl) (fun _ _ _ h => h) (Or.inl ⟨by rfl, ?_⟩) (by assumption) ?_
      rotate_left
      · (intro w hSw; (try dsimp only at hSw); go_simp; try with_reducible rfl)
      (try simp only [Act.put, List.setIfInBounds_toArray, List.set_cons_zero, List.set_cons_succ, List.getElem_toArray, List.getElem_cons_zero, List.getElem_cons_succ])
      refine wpAnyH_take (i := 13) (v := ?_) rfl (by kernel_rfl) (by kernel_rfl) (by kernel_rfl) (fun _ _ _ h => h) (Or.inl ⟨by rfl, ?_⟩) (by assumption) ?_
      rotate_left
      · (intro w hSw; (try dsimp only at hSw); go_simp; try with_reducible rfl)
      (try simp only [Act.put, List.setIfInBounds_toArray, List.set_cons_zero, List.set_cons_succ, List.getElem_toArray, List.getElem_cons_zero, List.getElem_cons_succ])
      refine wpAnyH_take (i := 14) (v := ?_) rfl (by kernel_rfl) (by kernel_rfl) (by kernel_rfl) (fun _ _ _ h => h) (Or.inl ⟨by rfl, ?_⟩) (by assumption) ?_
      rotate_left
      · (intro w hSw; (try dsimp only at hSw); go_simp; try with_reducible rfl)
      (try simp only [Act.put, List.setIfInBounds_toArray, List.set_cons_zero, List.set_cons_succ, List.getElem_toArray, List.getElem_cons_zero, List.getElem_cons_succ])
      refine wpAnyH_take (i := 15) (v := ?_) rfl (by kernel_rfl) (by kernel_rfl) (by kernel_rfl) (fun _ _ _ h => h) (Or.inl ⟨by rfl, ?_⟩) (by assumption) ?_
      rotate_left
      · (intro w hSw; (try dsimp only at hSw); go_simp; try with_reducible rfl)
      (try simp only [Act.put, List.setIfInBounds_toArray, List.set_cons_zero, List.set_cons_succ, List.getElem_toArray, List.getElem_cons_zero, List.getElem_cons_succ])
      refine wpAnyH_take (i := 16) (v := ?_) rfl (by kernel_rfl) (by kernel_rfl) (by kernel_rfl) (fun _ _ _ h => h) (Or.inl ⟨by rfl, ?_⟩) (by assumption) ?_
      rotate_left
      · (intro w hSw; (try dsimp only at hSw); go_simp; try with_reducible rfl)
      (try simp only [Act.put, List.setIfInBounds_toArray, List.set_cons_zero, List.set_cons_succ, List.getElem_toArray, List.getElem_cons_zero, List.getElem_cons_succ])
      refine wpAnyH_take (i := 17) (v := ?_) rfl (by kernel_rfl) (by kernel_rfl) (by kernel_rfl) (fun _ _ _ h => h) (Or.inl ⟨by rfl, ?_⟩) (by assumption) ?_
      rotate_left
      · (intro w hSw; (try dsimp only at hSw); go_simp; try with_reducible rfl)
      (try simp only [Act.put, List.setIfInBounds_toArray, List.set_cons_zero, List.set_cons_succ, List.getElem_toArray, List.getElem_cons_zero, List.getElem_cons_succ])
      refine wpAnyH_take (i := 18) (v := ?_) rfl (by kernel_rfl) (by kernel_rfl) (by kernel_rfl) (fun _ _ _ h => h) (Or.inl ⟨by rfl, ?_⟩) (by assumption) ?_
      rotate_left
      · (intro w hSw; (try dsimp only at hSw); go_simp; try with_reducible rfl)
      (try simp only [Act.put, List.setIfInBounds_toArray, List.set_cons_zero, List.set_cons_succ, List.getElem_toArray, List.getElem_cons_zero, List.getElem_cons_succ])
      refine wpAnyH_take (i := 19) (v := ?_) rfl (by kernel_rfl) (by kernel_rfl) (by kernel_rfl) (fun _ _ _ h => h) (Or.inl ⟨by rfl, ?_⟩) (by assumption) ?_
      rotate_left
      · (intro w hSw; (try dsimp only at hSw); go_simp; try with_reducible rfl)
      (try simp only [Act.put, List.setIfInBounds_toArray, List.set_cons_zero, List.set_cons_succ, List.getElem_toArray, List.getElem_cons_zero, List.getElem_cons_succ])
      refine wpAnyH_take (i := 20) (v := ?_) rfl (by kernel_rfl) (by kernel_rfl) (by kernel_rfl) (fun _ _ _ h => h) (Or.inl ⟨by rfl, ?_⟩) (by assumption) ?_
      rotate_left
      · (intro w hSw; (try dsimp only at hSw); go_simp; try with_reducible rfl)
      (try simp only [Act.put, List.setIfInBounds_toArray, List.set_cons_zero, List.set_cons_succ, List.getElem_toArray, List.getElem_cons_zero, List.getElem_cons_succ])
      refine wpAnyH_ready (rs := [1, 21]) (by kernel_rfl) (by simp) ?_
      refine AllReadyH.cons rfl (fun K hK => ?_) ?_
      · go_simp
        refine hK.out _ _ ?_ (fun hHeld1 => ?_)
        · (try dsimp only); exact HY.out _ (by repeat' (first | (with_reducible assumption) | (with_reducible refine below_setRowN ?_ ?_ _) | (with_reducible refine Below.setCell ?_ ?_ _) | (with_reducible refine below_drewN' ?_ _) | (with_reducible refine Below.drew ?_) | (with_reducible refine Below.alloc ?_ ?_ _) | (with_reducible exact Below.refl _ _) | (with_reducible exact Nat.le_refl _) | (simp; done) | omega | (simp; omega)))
        clear hK K hHeld0
        (try simp only [Act.put, List.setIfInBounds_toArray, List.set_cons_zero, List.set_cons_succ, List.getElem_toArray, List.getElem_cons_zero, List.getElem_cons_succ])
        refine wpAnyH_ready (rs := [21]) (by kernel_rfl) (by simp) ?_
        refine AllReadyH.cons rfl (fun K hK => ?_) ?_
        · go_simp
          refine hK.out _ _ ?_ (fun hHeld2 => ?_)
          · (try dsimp only); exact HY.out _ (by repeat' (first | (with_reducible assumption) | (with_reducible refine below_setRowN ?_ ?_ _) | (with_reducible refine Below.setCell ?_ ?_ _) | (with_reducible refine below_drewN' ?_ _) | (with_reducible refine Below.drew ?_) | (with_reducible refine Below.alloc ?_ ?_ _) | (with_reducible exact Below.refl _ _) | (with_reducible exact Nat.le_refl _) | (simp; done) | omega | (simp; omega)))
          clear hK K hHeld1
          (try simp only [Act.put, List.setIfInBounds_toArray, List.set_cons_zero, List.set_cons_succ, List.getElem_toArray, List.getElem_cons_zero, List.getElem_cons_succ])
          refine wpAnyH_ready (rs := [22]) (by kernel_rfl) (by simp) ?_
          refine AllReadyH.cons rfl (fun K hK => ?_) ?_
          · (refine append_step (W0 := wo) [.int .i64 (x % 4096), .int .i64 (y % 65536)] (k2 + 1) _ _ _ 2 16 infoT2 Try.underlying41 rfl (by decide) _ _ _ HW.out.drew ((Below.refl _ _).drew) hz1 rfl (by simp [Value.oneCell']) (by omega) (by decide) rfl _ _ rfl rfl rfl ?_; intro v1 w4 hown4 hb4 hg4 hor4; obtain ⟨p1, q1, rfl, -, -, -⟩ := CellsOff.own hown4 [] (by simp); have HO4 := Lib.hid hown4; have HB4 := Lib.hid hb4; have hb4' := hb4.mono (Nat.le_succ k2); have hO4 := Below.at hb4 HO.out (Nat.lt_succ_self _); have f4 := fun j => cell_at hO4 j; have u4 := fun j => frozen_at hO4 j; have HO4b := Lib.hid hO4; clear hown4 hb4 hg4 hor4 hO4)
            refine hK.out _ _ ?_ (fun hHeld3 => ?_)
            · (try dsimp only); exact HY.out _ (by repeat' (first | (with_reducible assumption) | (with_reducible refine below_setRowN ?_ ?_ _) | (with_reducible refine Below.setCell ?_ ?_ _) | (with_reducible refine below_drewN' ?_ _) | (with_reducible refine Below.drew ?_) | (with_reducible refine Below.alloc ?_ ?_ _) | (with_reducible exact Below.refl _ _) | (with_reducible exact Nat.le_refl _) | (simp; done) | omega | (simp; omega)))
            clear hK K hHeld2
            (try simp only [Act.put, List.setIfInBounds_toArray, List.set_cons_zero, List.set_cons_succ, List.getElem_toArray, List.getElem_cons_zero, List.getElem_cons_succ])
            refine wpAnyH_take (i := 23) (v := ?_) rfl (by kernel_rfl) (by kernel_rfl) (by kernel_rfl) (fun _ _ _ h => h) (Or.inl ⟨by rfl, ?_⟩) (by assumption) ?_
            rotate_left
            · (intro w hSw; (try dsimp only at hSw); go_simp; try with_reducible rfl)
            (try simp only [Act.put, List.setIfInBounds_toArray, List.set_cons_zero, List.set_cons_succ, List.getElem_toArray, List.getElem_cons_zero, List.getElem_cons_succ])
            refine wpAnyH_ready (rs := [24]) (by kernel_rfl) (by simp) ?_
            refine AllReadyH.cons rfl (fun K hK => ?_) ?_
            · go_simp
              refine hK.out _ _ ?_ (fun hHeld4 => ?_)
              · (try dsimp only); exact HY.out _ (by repeat' (first | (with_reducible assumption) | (with_reducible refine below_setRowN ?_ ?_ _) | (with_reducible refine Below.setCell ?_ ?_ _) | (with_reducible refine below_drewN' ?_ _) | (with_reducible refine Below.drew ?_) | (with_reducible refine Below.alloc ?_ ?_ _) | (with_reducible exact Below.refl _ _) | (with_reducible exact Nat.le_refl _) | (simp; done) | omega | (simp; omega)))
              clear hK K hHeld3
              (try simp only [Act.put, List.setIfInBounds_toArray, List.set_cons_zero, List.set_cons_succ, List.getElem_toArray, List.getElem_cons_zero, List.getElem_cons_succ])
              refine wpAnyH_done (by kernel_rfl) ?_ _
              go_wp2
              go_roundw
              case rel => exact ⟨m + 1, .slice p1 (m + 1) q1, by omega, by go_num, set_at HO4b.out 2 _, by rw [HS.out]; exact ownsRow_only (S := [k2]) HO4.out ((Only.refl _ _).setCell (by simp) _) (by simp), set_other (Below.at HB4.out HA.out (by omega)) (by omega) _ _, set_other (Below.at HB4.out HZ.out (by omega)) (by omega) _ _, (HB.out.trans (HB4.out.mono (by omega))).setCell (by simp; omega) _⟩
              case measure => simp [intOf]; omega
            exact AllReadyH.nil
          exact AllReadyH.nil
        exact AllReadyH.nil
      refine AllReadyH.cons rfl (fun K hK => ?_) ?_
      · go_simp
        refine hK.out _ _ ?_ (fun hHeld1 => ?_)
        · (try dsimp only); exact HY.out _ (by repeat' (first | (with_reducible assumption) | (with_reducible refine below_setRowN ?_ ?_ _) | (with_reducible refine Below.setCell ?_ ?_ _) | (with_reducible refine below_drewN' ?_ _) | (with_reducible refine Below.drew ?_) | (with_reducible refine Below.alloc ?_ ?_ _) | (with_reducible exact Below.refl _ _) | (with_reducible exact Nat.le_refl _) | (simp; done) | omega | (simp; omega)))
        clear hK K hHeld0
        (try simp only [Act.put, List.setIfInBounds_toArray, List.set_cons_zero, List.set_cons_succ, List.getElem_toArray, List.getElem_cons_zero, List.getElem_cons_succ])
        refine wpAnyH_ready (rs := [1]) (by kernel_rfl) (by simp) ?_
        refine AllReadyH.cons rfl (fun K hK => ?_) ?_
        · go_simp
          refine hK.out _ _ ?_ (fun hHeld2 => ?_)
          · (try dsimp only); exact HY.out _ (by repeat' (first | (with_reducible assumption) | (with_reducible refine below_setRowN ?_ ?_ _) | (with_reducible refine Below.setCell ?_ ?_ _) | (with_reducible refine below_drewN' ?_ _) | (with_reducible refine Below.drew ?_) | (with_reducible refine Below.alloc ?_ ?_ _) | (with_reducible exact Below.refl _ _) | (with_reducible exact Nat.le_refl _) | (simp; done) | omega | (simp; omega)))
          clear hK K hHeld1
          (try simp only [Act.put, List.setIfInBounds_toArray, List.set_cons_zero, List.set_cons_succ, List.getElem_toArray, List.getElem_cons_zero, List.getElem_cons_succ])
          refine wpAnyH_ready (rs := [22]) (by kernel_rfl) (by simp) ?_
          refine AllReadyH.cons rfl (fun K hK => ?_) ?_
          · (refine append_step (W0 := wo) [.int .i64 (x % 4096), .int .i64 (y % 65536)] (k2 + 1) _ _ _ 2 16 infoT2 Try.underlying41 rfl (by decide) _ _ _ HW.out.drew ((Below.refl _ _).drew) hz1 rfl (by simp [Value.oneCell']) (by omega) (by decide) rfl _ _ rfl rfl rfl ?_; intro v1 w4 hown4 hb4 hg4 hor4; obtain ⟨p1, q1, rfl, -, -, -⟩ := CellsOff.own hown4 [] (by simp); have HO4 := Lib.hid hown4; have HB4 := Lib.hid hb4; have hb4' := hb4.mono (Nat.le_succ k2); have hO4 := Below.at hb4 HO.out (Nat.lt_succ_self _); have f4 := fun j => cell_at hO4 j; have u4 := fun j => frozen_at hO4 j; have HO4b := Lib.hid hO4; clear hown4 hb4 hg4 hor4 hO4)
            refine hK.out _ _ ?_ (fun hHeld3 => ?_)
            · (try dsimp only); exact HY.out _ (by repeat' (first | (with_reducible assumption) | (with_reducible refine below_setRowN ?_ ?_ _) | (with_reducible refine Below.setCell ?_ ?_ _) | (with_reducible refine below_drewN' ?_ _) | (with_reducible refine Below.drew ?_) | (with_reducible refine Below.alloc ?_ ?_ _) | (with_reducible exact Below.refl _ _) | (with_reducible exact Nat.le_refl _) | (simp; done) | omega | (simp; omega)))
            clear hK K hHeld2
            (try simp only [Act.put, List.setIfInBounds_toArray, List.set_cons_zero, List.set_cons_succ, List.getElem_toArray, List.getElem_cons_zero, List.getElem_cons_succ])
            refine wpAnyH_take (i := 23) (v := ?_) rfl (by kernel_rfl) (by kernel_rfl) (by kernel_rfl) (fun _ _ _ h => h) (Or.inl ⟨by rfl, ?_⟩) (by assumption) ?_
            rotate_left
            · (intro w hSw; (try dsimp only at hSw); go_simp; try with_reducible rfl)
            (try simp only [Act.put, List.setIfInBounds_toArray, List.set_cons_zero, List.set_cons_succ, List.getElem_toArray, List.getElem_cons_zero, List.getElem_cons_succ])
            refine wpAnyH_ready (rs := [24]) (by kernel_rfl) (by simp) ?_
            refine AllReadyH.cons rfl (fun K hK => ?_) ?_
            · go_simp
              refine hK.out _ _ ?_ (fun hHeld4 => ?_)
              · (try dsimp only); exact HY.out _ (by repeat' (first | (with_reducible assumption) | (with_reducible refine below_setRowN ?_ ?_ _) | (with_reducible refine Below.setCell ?_ ?_ _) | (with_reducible refine below_drewN' ?_ _) | (with_reducible refine Below.drew ?_) | (with_reducible refine Below.alloc ?_ ?_ _) | (with_reducible exact Below.refl _ _) | (with_reducible exact Nat.le_refl _) | (simp; done) | omega | (simp; omega)))
              clear hK K hHeld3
              (try simp only [Act.put, List.setIfInBounds_toArray, List.set_cons_zero, List.set_cons_succ, List.getElem_toArray, List.getElem_cons_zero, List.getElem_cons_succ])
              refine wpAnyH_done (by kernel_rfl) ?_ _
              go_wp2
              go_roundw
              case rel => exact ⟨m + 1, .slice p1 (m + 1) q1, by omega, by go_num, set_at HO4b.out 2 _, by rw [HS.out]; exact ownsRow_only (S := [k2]) HO4.out ((Only.refl _ _).setCell (by simp) _) (by simp), set_other (Below.at HB4.out HA.out (by omega)) (by omega) _ _, set_other (Below.at HB4.out HZ.out (by omega)) (by omega) _ _, (HB.out.trans (HB4.out.mono (by omega))).setCell (by simp; omega) _⟩
              case measure => simp [intOf]; omega
            exact AllReadyH.nil
          exact AllReadyH.nil
        exact AllReadyH.nil
      exact AllReadyH.nil
    · obtain rfl : m = L := by omega
      obtain ⟨p1, q1, rfl, -, -, -⟩ := CellsOff.own hown [] (by simp)
      have HO := Lib.hid hO
      have HW := Lib.hid hown
      have HB := Lib.hid hb
      have HA := Lib.hid hA
      have HZ := Lib.hid hZ
      have fz := fun j => cell_at hZ j
      have uz := fun j => frozen_at hZ j
      have hne : w.heap.size + 1 ≠ k2 := by omega
      clear hown hb hO hA hZ
      by_cases hL0 : m = 0
      · have HG := Lib.hid (goodP_none (by rw [HGL.out]; exact hL0))
        have hmI : ¬ ((m : Int) < (heads.length : Int)) := by rcases HL3.out with hx | ⟨hx1, hx2⟩ <;> omega
        have hL0I : ((m : Int) == 0) = true := beq_iff_eq.2 (by omega)
        have hws : w.heap.size + 1 < wo.heap.size := by omega
        clear hL0
        · go_wp2
          refine bodyPost_ret (results_cell_row rfl _ _ (w.heap.size + 1) 43 _ (0, 0) _ rfl (alloc_old (stored4 (set_other HZ.out hne _ _)) _) Try.underlying43 rfl (by kernel_rfl)) rfl ⟨.slice (some ⟨wo.heap.size, 0, none⟩) 1 1, rfl, ?_, ?_⟩
          · rw [HG.out]
            exact owns_lit 2 [.int .i64 1, .int .i64 0] (by omega) (alloc_at _ _ (by simp)) rfl (by decide)
          · have hB := HB.out
            repeat' (first | (with_reducible assumption) | (with_reducible refine below_setRowN ?_ ?_ _) | (with_reducible refine Below.setCell ?_ ?_ _) | (with_reducible refine below_drewN' ?_ _) | (with_reducible refine Below.drew ?_) | (with_reducible refine Below.alloc ?_ ?_ _) | (with_reducible exact Below.refl _ _) | (with_reducible exact Nat.le_refl _) | (simp; done) | omega | (simp; omega))
      · have HG := Lib.hid (goodP_some (by rw [HGL.out]; exact hL0))
        have hL0I : ((m : Int) == 0) = false := beq_eq_false_iff_ne.2 (by omega)
        have hmx : ¬ ((m : Int) < (heads.length : Int)) ∨ ((m : Int) < (heads.length : Int) ∧ (m : Int) = 6) := by rcases HL3.out with hx | ⟨hx1, hx2⟩ <;> omega
        have hL6 : (m : Int) ≤ 6 := by omega
        rcases hmx with hmI | ⟨hmI, hm6e⟩
        rotate_left
        · have hm6 : ¬ ((m : Int) < 6) := by omega
          skip
          clear hm6e
          go_wp2
          refine bodyPost_ret (results_cell_row rfl _ _ (w.heap.size + 1) 43 _ (0, 0) _ rfl (stored4 HZ.out) Try.underlying43 rfl (by kernel_rfl)) rfl ⟨.slice p1 m q1, rfl, ?_, ?_⟩
          · rw [HG.out, HGL.out, ← HGT.out]
            exact owns_base (ownsRow_only (S := [w.heap.size + 1]) HW.out (by repeat' (first | (with_reducible assumption) | (with_reducible refine only_setRowN ?_ ?_ _) | (with_reducible exact Only.refl _ _) | (with_reducible refine Only.setCell ?_ ?_ _) | (with_reducible refine Only.drewN ?_ _) | (with_reducible refine Only.drew ?_) | (with_reducible refine Only.alloc ?_ _) | (simp; done) | (simp; omega))) (by simp; omega)) (by omega)
          · have hB := HB.out
            repeat' (first | (with_reducible assumption) | (with_reducible refine below_setRowN ?_ ?_ _) | (with_reducible refine Below.setCell ?_ ?_ _) | (with_reducible refine below_drewN' ?_ _) | (with_reducible refine Below.drew ?_) | (with_reducible refine Below.alloc ?_ ?_ _) | (with_reducible exact Below.refl _ _) | (with_reducible exact Nat.le_refl _) | (simp; done) | omega | (simp; omega))
        · go_wp2
          refine bodyPost_ret (results_cell_row rfl _ _ (w.heap.size + 1) 43 _ (0, 0) _ rfl (stored4 HZ.out) Try.underlying43 rfl (by kernel_rfl)) rfl ⟨.slice p1 m q1, rfl, ?_, ?_⟩
          · rw [HG.out, HGL.out, ← HGT.out]
            exact owns_base (ownsRow_only (S := [w.heap.size + 1]) HW.out (by repeat' (first | (with_reducible assumption) | (with_reducible refine only_setRowN ?_ ?_ _) | (with_reducible exact Only.refl _ _) | (with_reducible refine Only.setCell ?_ ?_ _) | (with_reducible refine Only.drewN ?_ _) | (with_reducible refine Only.drew ?_) | (with_reducible refine Only.alloc ?_ _) | (simp; done) | (simp; omega))) (by simp; omega)) (by omega)
          · have hB := HB.out
            repeat' (first | (with_reducible assumption) | (with_reducible refine below_setRowN ?_ ?_ _) | (with_reducible refine Below.setCell ?_ ?_ _) | (with_reducible refine below_drewN' ?_ _) | (with_reducible refine Below.drew ?_) | (with_reducible refine Below.alloc ?_ ?_ _) | (with_reducible exact Below.refl _ _) | (with_reducible exact Nat.le_refl _) | (simp; done) | omega | (simp; omega))
set_option maxRecDepth 100000 in
set_option maxHeartbeats 4000000 in
theorem rgood10_false (src : Int) (heads : List T2) (data : ByteArray) (a : Option Addr) (c : Nat) (w : World) (h : CellsOff w a (flatT heads) []) (hn : heads.length ≤ maxLen) (hd : data.size ≤ maxLen) :
    Calls Try.prog 21 #[.agg #[.int .i64 src, .bool false, .slice a heads.length c, .string data]] w fun e w' => ∃ v, e = .returned ((goodP ⟨src, false, heads, data⟩).val v) ∧ w'.ownsRow w.heap.size 51 2 v (goodP ⟨src, false, heads, data⟩).heads.length (flatT (goodP ⟨src, false, heads, data⟩).heads) ∧ Below w.heap.size w w' := by
  unfold maxLen at hn hd
  have HC := Lib.hid (fun i hi => head_cell (i := i) h hi)
  clear h
  obtain ⟨L, hL⟩ : ∃ L, L = min heads.length 1 := ⟨_, rfl⟩
  have HGL := Lib.hid (goodH_len (p := ⟨src, false, heads, data⟩) (L := L) (by simpa using hL))
  have HGT := Lib.hid (goodH_take (p := ⟨src, false, heads, data⟩) (L := L) (by simpa using hL))
  have hL1 : L ≤ heads.length := by omega
  have hL2 : L ≤ 1 := by omega
  have hL3 : L = heads.length ∨ (L < heads.length ∧ L = 1) := by omega
  have HL3 := Lib.hid hL3
  clear hL hL3
  have hm1 := mod_4096 src
  have hmn : min (data.size : Int) 64 = ((min data.size 64 : Nat) : Int) := by omega
  have hmx : (min data.size 64 : Nat) ≤ data.size := by omega
  have hmxI : ((min data.size 64 : Nat) : Int) ≤ (data.size : Int) := by omega
  go_enter Try.func21, Try.ntmps21
  go_upto_region 1 with (fail)
  have hA := alloc_new (w := w) (.cells #[.int .i64 src, .bool false, .slice a heads.length c, .string data] 43)
  have hA := alloc_old hA (.cells #[.int .i64 0, .bool false, .slice none 0 0, .string ⟨#[]⟩] 43)
  have hZ := alloc_at (w := w.alloc (.cells #[.int .i64 src, .bool false, .slice a heads.length c, .string data] 43)) (.cells #[.int .i64 0, .bool false, .slice none 0 0, .string ⟨#[]⟩] 43) (w.heap.size + 1) (by simp)
  have hB : Below w.heap.size w ((w.alloc (.cells #[.int .i64 src, .bool false, .slice a heads.length c, .string data] 43)).alloc (.cells #[.int .i64 0, .bool false, .slice none 0 0, .string ⟨#[]⟩] 43)) := by repeat' (first | (with_reducible assumption) | (with_reducible refine below_setRowN ?_ ?_ _) | (with_reducible refine Below.setCell ?_ ?_ _) | (with_reducible refine below_drewN' ?_ _) | (with_reducible refine Below.drew ?_) | (with_reducible refine Below.alloc ?_ ?_ _) | (with_reducible exact Below.refl _ _) | (with_reducible exact Nat.le_refl _) | (simp; done) | omega | (simp; omega))
  have hz2 : ((w.alloc (.cells #[.int .i64 src, .bool false, .slice a heads.length c, .string data] 43)).alloc (.cells #[.int .i64 0, .bool false, .slice none 0 0, .string ⟨#[]⟩] 43)).heap.size = w.heap.size + 2 := by simp
  generalize (w.alloc (.cells #[.int .i64 src, .bool false, .slice a heads.length c, .string data] 43)).alloc (.cells #[.int .i64 0, .bool false, .slice none 0 0, .string ⟨#[]⟩] 43) = w2 at *
  have fA := fun j => cell_at hA j
  have HX : Hid (∀ w', Below w2.heap.size w2 w' → ((∀ j, w'.cell? ⟨w.heap.size, j, none⟩ = (#[.int .i64 src, .bool false, .slice a heads.length c, .string data] : Array Value)[j]?))) := fun w' hb j => cell_at (Below.at hb hA (block_lt hA)) j
  have HA := Lib.hid hA
  have HZ := Lib.hid hZ
  have HB := Lib.hid hB
  have HZ2 := Lib.hid hz2
  clear hA hZ hB hz2
  have hk2s : w2.heap.size = w.heap.size + 2 := HZ2.out
  obtain ⟨k2, hk2⟩ : ∃ k2, k2 = w2.heap.size := ⟨_, rfl⟩
  have hk3 : w.heap.size + 1 < k2 := by omega
  have HK2 := Lib.hid hk2
  clear hk2s hk2
  go_cut [3] (fun v3 wx => v3 = .pointer (some ⟨k2, 0, none⟩) ∧ wx.heap[k2]? = some (.cells #[.int .i64 (src % 4096), .bool false, .slice none 0 0, .string (data.extract 0 (min data.size 64))] 43 (0, 0)) ∧ wx.heap[w.heap.size]? = some (.cells #[.int .i64 src, .bool false, .slice a heads.length c, .string data] 43 (0, 0)) ∧ wx.heap[w.heap.size + 1]? = some (.cells #[.int .i64 0, .bool false, .slice none 0 0, .string ⟨#[]⟩] 43 (0, 0)) ∧ Below w.heap.size w wx)
  case first =>
    refine wp_region_held_drew (S := (fun w' => ((∀ j, w'.cell? ⟨w.heap.size, j, none⟩ = (#[.int .i64 src, .bool false, .slice a heads.length c, .string data] : Array Value)[j]?)))) (by kernel_rfl) ?_ (fun hHeld0 => ?_)
    · (try dsimp only); exact HX.out _ (by repeat' (first | (with_reducible assumption) | (with_reducible refine below_setRowN ?_ ?_ _) | (with_reducible refine Below.setCell ?_ ?_ _) | (with_reducible refine below_drewN' ?_ _) | (with_reducible refine Below.drew ?_) | (with_reducible refine Below.alloc ?_ ?_ _) | (with_reducible exact Below.refl _ _) | (with_reducible exact Nat.le_refl _) | (simp; done) | omega | (simp; omega)))
    refine wpAnyH_take (i := 0) (v := ?_) rfl (by kernel_rfl) (by kernel_rfl) (by kernel_rfl) (fun _ _ _ h => h) (Or.inl ⟨by rfl, ?_⟩) (by assumption) ?_
    rotate_left
    · (intro w hSw; (try dsimp only at hSw); go_simp; try with_reducible rfl)
    (try simp only [Act.put, List.setIfInBounds_toArray, List.set_cons_zero, List.set_cons_succ, List.getElem_toArray, List.getElem_cons_zero, List.getElem_cons_succ])
    refine wpAnyH_take (i := 1) (v := ?_) rfl (by kernel_rfl) (by kernel_rfl) (by kernel_rfl) (fun _ _ _ h => h) (Or.inl ⟨by rfl, ?_⟩) (by assumption) ?_
    rotate_left
    · (intro w hSw; (try dsimp only at hSw); go_simp; try with_reducible rfl)
    (try simp only [Act.put, List.setIfInBounds_toArray, List.set_cons_zero, List.set_cons_succ, List.getElem_toArray, List.getElem_cons_zero, List.getElem_cons_succ])
    refine wpAnyH_take (i := 2) (v := ?_) rfl (by kernel_rfl) (by kernel_rfl) (by kernel_rfl) (fun _ _ _ h => h) (Or.inl ⟨by rfl, ?_⟩) (by assumption) ?_
    rotate_left
    · (intro w hSw; (try dsimp only at hSw); go_simp; try with_reducible rfl)
    (try simp only [Act.put, List.setIfInBounds_toArray, List.set_cons_zero, List.set_cons_succ, List.getElem_toArray, List.getElem_cons_zero, List.getElem_cons_succ])
    refine wpAnyH_take (i := 3) (v := ?_) rfl (by kernel_rfl) (by kernel_rfl) (by kernel_rfl) (fun _ _ _ h => h) (Or.inl ⟨by rfl, ?_⟩) (by assumption) ?_
    rotate_left
    · (intro w hSw; (try dsimp only at hSw); go_simp; try with_reducible rfl)
    (try simp only [Act.put, List.setIfInBounds_toArray, List.set_cons_zero, List.set_cons_succ, List.getElem_toArray, List.getElem_cons_zero, List.getElem_cons_succ])
    refine wpAnyH_take (i := 4) (v := ?_) rfl (by kernel_rfl) (by kernel_rfl) (by kernel_rfl) (fun _ _ _ h => h) (Or.inl ⟨by rfl, ?_⟩) (by assumption) ?_
    rotate_left
    · (intro w hSw; (try dsimp only at hSw); go_simp; try with_reducible rfl)
    (try simp only [Act.put, List.setIfInBounds_toArray, List.set_cons_zero, List.set_cons_succ, List.getElem_toArray, List.getElem_cons_zero, List.getElem_cons_succ])
    refine wpAnyH_take (i := 5) (v := ?_) rfl (by kernel_rfl) (by kernel_rfl) (by kernel_rfl) (fun _ _ _ h => h) (Or.inl ⟨by rfl, ?_⟩) (by assumption) ?_
    rotate_left
    · (intro w hSw; (try dsimp only at hSw); go_simp; try with_reducible rfl)
    (try simp only [Act.put, List.setIfInBounds_toArray, List.set_cons_zero, List.set_cons_succ, List.getElem_toArray, List.getElem_cons_zero, List.getElem_cons_succ])
    refine wpAnyH_take (i := 6) (v := ?_) rfl (by kernel_rfl) (by kernel_rfl) (by kernel_rfl) (fun _ _ _ h => h) (Or.inl ⟨by rfl, ?_⟩) (by assumption) ?_
    rotate_left
    · (intro w hSw; (try dsimp only at hSw); go_simp; try with_reducible rfl)
    (try simp only [Act.put, List.setIfInBounds_toArray, List.set_cons_zero, List.set_cons_succ, List.getElem_toArray, List.getElem_cons_zero, List.getElem_cons_succ])
    refine wpAnyH_take (i := 7) (v := ?_) rfl (by kernel_rfl) (by kernel_rfl) (by kernel_rfl) (fun _ _ _ h => h) (Or.inl ⟨by rfl, ?_⟩) (by assumption) ?_
    rotate_left
    · (intro w hSw; (try dsimp only at hSw); go_simp; try with_reducible rfl)
    (try simp only [Act.put, List.setIfInBounds_toArray, List.set_cons_zero, List.set_cons_succ, List.getElem_toArray, List.getElem_cons_zero, List.getElem_cons_succ])
    refine wpAnyH_take (i := 8) (v := ?_) rfl (by kernel_rfl) (by kernel_rfl) (by kernel_rfl) (fun _ _ _ h => h) (Or.inl ⟨by rfl, ?_⟩) (by assumption) ?_
    rotate_left
    · (intro w hSw; (try dsimp only at hSw); go_simp; try with_reducible rfl)
    (try simp only [Act.put, List.setIfInBounds_toArray, List.set_cons_zero, List.set_cons_succ, List.getElem_toArray, List.getElem_cons_zero, List.getElem_cons_succ])
    refine wpAnyH_take (i := 9) (v := ?_) rfl (by kernel_rfl) (by kernel_rfl) (by kernel_rfl) (fun _ _ _ h => h) (Or.inl ⟨by rfl, ?_⟩) (by assumption) ?_
    rotate_left
    · (intro w hSw; (try dsimp only at hSw); go_simp; try with_reducible rfl)
    (try simp only [Act.put, List.setIfInBounds_toArray, List.set_cons_zero, List.set_cons_succ, List.getElem_toArray, List.getElem_cons_zero, List.getElem_cons_succ])
    refine wpAnyH_take (i := 10) (v := ?_) rfl (by kernel_rfl) (by kernel_rfl) (by kernel_rfl) (fun _ _ _ h => h) (Or.inl ⟨by rfl, ?_⟩) (by assumption) ?_
    rotate_left
    · (intro w hSw; (try dsimp only at hSw); go_simp; try with_reducible rfl)
    (try simp only [Act.put, List.setIfInBounds_toArray, List.set_cons_zero, List.set_cons_succ, List.getElem_toArray, List.getElem_cons_zero, List.getElem_cons_succ])
    refine wpAnyH_take (i := 11) (v := ?_) rfl (by kernel_rfl) (by kernel_rfl) (by kernel_rfl) (fun _ _ _ h => h) (Or.inl ⟨by rfl, ?_⟩) (by assumption) ?_
    rotate_left
    · (intro w hSw; (try dsimp only at hSw); go_simp; try with_reducible rfl)
    (try simp only [Act.put, List.setIfInBounds_toArray, List.set_cons_zero, List.set_cons_succ, List.getElem_toArray, List.getElem_cons_zero, List.getElem_cons_succ])
    refine wpAnyH_take (i := 12) (v := ?_) rfl (by kernel_rfl) (by kernel_rfl) (by kernel_rfl) (fun _ _ _ h => h) (Or.inl ⟨by rfl, ?_⟩) (by assumption) ?_
    rotate_left
    · (intro w hSw; (try dsimp only at hSw); go_simp; try with_reducible rfl)
    (try simp only [Act.put, List.setIfInBounds_toArray, List.set_cons_zero, List.set_cons_succ, List.getElem_toArray, List.getElem_cons_zero, List.getElem_cons_succ])
    refine wpAnyH_take (i := 13) (v := ?_) rfl (by kernel_rfl) (by kernel_rfl) (by kernel_rfl) (fun _ _ _ h => h) (Or.inl ⟨by rfl, ?_⟩) (by assumption) ?_
    rotate_left
    · (intro w hSw; (try dsimp only at hSw); go_simp; try with_reducible rfl)
    (try simp only [Act.put, List.setIfInBounds_toArray, List.set_cons_zero, List.set_cons_succ, List.getElem_toArray, List.getElem_cons_zero, List.getElem_cons_succ])
    refine wpAnyH_take (i := 14) (v := ?_) rfl (by kernel_rfl) (by kernel_rfl) (by kernel_rfl) (fun _ _ _ h => h) (Or.inl ⟨by rfl, ?_⟩) (by assumption) ?_
    rotate_left
    · (intro w hSw; (try dsimp only at hSw); go_simp; try with_reducible rfl)
    (try simp only [Act.put, List.setIfInBounds_toArray, List.set_cons_zero, List.set_cons_succ, List.getElem_toArray, List.getElem_cons_zero, List.getElem_cons_succ])
    refine wpAnyH_ready (rs := [15]) (by kernel_rfl) (by simp) ?_
    refine AllReadyH.cons rfl (fun K hK => ?_) ?_
    · go_simp
      refine hK.out _ _ ?_ (fun hHeld1 => ?_)
      · (try dsimp only); exact HX.out _ (by repeat' (first | (with_reducible assumption) | (with_reducible refine below_setRowN ?_ ?_ _) | (with_reducible refine Below.setCell ?_ ?_ _) | (with_reducible refine below_drewN' ?_ _) | (with_reducible refine Below.drew ?_) | (with_reducible refine Below.alloc ?_ ?_ _) | (with_reducible exact Below.refl _ _) | (with_reducible exact Nat.le_refl _) | (simp; done) | omega | (simp; omega)))
      clear hK K hHeld0
      (try simp only [Act.put, List.setIfInBounds_toArray, List.set_cons_zero, List.set_cons_succ, List.getElem_toArray, List.getElem_cons_zero, List.getElem_cons_succ])
      refine wpAnyH_ready (rs := [16]) (by kernel_rfl) (by simp) ?_
      refine AllReadyH.cons rfl (fun K hK => ?_) ?_
      · go_simp
        refine hK.out _ _ ?_ (fun hHeld2 => ?_)
        · (try dsimp only); exact HX.out _ (by repeat' (first | (with_reducible assumption) | (with_reducible refine below_setRowN ?_ ?_ _) | (with_reducible refine Below.setCell ?_ ?_ _) | (with_reducible refine below_drewN' ?_ _) | (with_reducible refine Below.drew ?_) | (with_reducible refine Below.alloc ?_ ?_ _) | (with_reducible exact Below.refl _ _) | (with_reducible exact Nat.le_refl _) | (simp; done) | omega | (simp; omega)))
        clear hK K hHeld1
        (try simp only [Act.put, List.setIfInBounds_toArray, List.set_cons_zero, List.set_cons_succ, List.getElem_toArray, List.getElem_cons_zero, List.getElem_cons_succ])
        refine wpAnyH_done (by kernel_rfl) ?_ _
        go_wp2
        go_meet
        rw [HK2.out]
        exact ⟨rfl, alloc_new _, alloc_old HA.out _, alloc_old HZ.out _, Below.drew (HB.out.alloc HB.out.size _)⟩
      exact AllReadyH.nil
    exact AllReadyH.nil
  case rest =>
  obtain ⟨rfl, hO, hA3, hZ3, hB3⟩ := hcut
  have HO := Lib.hid hO
  have HA3 := Lib.hid hA3
  have HZ3 := Lib.hid hZ3
  have HB3 := Lib.hid hB3
  clear hO hA3 hZ3 hB3 HA HZ HB HX fA hmn hmxI hm1 HK2 HZ2
  go_wp2
  go_loopw [4] (fun i wr => ∃ (m : Nat) (v : Value), m ≤ L ∧ i = .int .i64 (m : Int) ∧ wr.heap[k2]? = some (.cells #[.int .i64 (src % 4096), .bool false, v, .string (data.extract 0 (min data.size 64))] 43 (0, 0)) ∧ wr.ownsRow (k2 + 1) 51 2 v m (flatT ((heads.take m).map goodT)) ∧ wr.heap[w.heap.size]? = some (.cells #[.int .i64 src, .bool false, .slice a heads.length c, .string data] 43 (0, 0)) ∧ wr.heap[w.heap.size + 1]? = some (.cells #[.int .i64 0, .bool false, .slice none 0 0, .string ⟨#[]⟩] 43 (0, 0)) ∧ Below w.heap.size w wr) (fun i _ => L - (intOf i).toNat)
  case atStart => exact ⟨0, .slice none 0 0, by omega, rfl, HO.out, World.ownsRow_nil _ _ _ _, HA3.out, HZ3.out, HB3.out⟩
  case round =>
    clear HO HA3 HZ3 HB3
    obtain ⟨m, v, hm, rfl, hO, hown, hA, hZ, hb⟩ := hrel
    obtain ⟨wo, rfl⟩ : ∃ x : World, x = wr := ⟨_, rfl⟩
    have hlo := block_lt hO
    have f0 := fun j => cell_at hA j
    have f1 := fun j => cell_at hO j
    have u1 := fun j => frozen_at hO j
    by_cases hml : m < L
    · obtain ⟨blk, off, rfl, hlt, c0, c1⟩ := HC.out m (by omega)
      have HS : Hid (flatT ((heads.take (m + 1)).map goodT) = flatT ((heads.take m).map goodT) ++ (goodT (heads.getD m T2.zero)).cells) := (by rw [take_snocD (by omega) T2.zero, List.map_append]; exact flat_snoc _ _ _)
      generalize heads.getD m T2.zero = t at *
      obtain ⟨x, y⟩ := t
      dsimp only at c0 c1
      have HY : Hid (∀ w', Below k2 wo w' → ((∀ j, w'.cell? ⟨w.heap.size, j, none⟩ = (#[.int .i64 src, .bool false, .slice (some ⟨blk, off, none⟩) heads.length c, .string data] : Array Value)[j]?) ∧ w'.cell? ⟨blk, off + m * 2, none⟩ = some (.int .i64 x) ∧ w'.cell? ⟨blk, off + m * 2 + 1, none⟩ = some (.int .i64 y))) := fun w' hb' => by
        have h2 : Below w.heap.size w w' := hb.trans (hb'.mono (by omega))
        exact ⟨fun j => cell_at (Below.at hb' hA (by omega)) j, (h2.cell (p := ⟨blk, _, none⟩) hlt).trans c0, (h2.cell (p := ⟨blk, _, none⟩) hlt).trans c1⟩
      have hmI : (m : Int) < (heads.length : Int) := by omega
      have hm6 : (m : Int) < 6 := by omega
      have hm1 : (m : Int) < 1 := by omega
      have HO := Lib.hid hO
      have HW := Lib.hid hown
      have HB := Lib.hid hb
      have HA := Lib.hid hA
      have HZ := Lib.hid hZ
      clear c0 c1 hown hb hO hA hZ
      have e1 := mod_4096 x
      have e2 := mod_65536 y
      have hz1 : k2 + 1 ≤ wo.heap.size := by omega
      have hL6 : L ≤ 6 := by omega
      go_upto_region 5 with (fail)
      refine wp_region_held_drew (S := (fun w' => ((∀ j, w'.cell? ⟨w.heap.size, j, none⟩ = (#[.int .i64 src, .bool false, .slice (some ⟨blk, off, none⟩) heads.length c, .string data] : Array Value)[j]?) ∧ w'.cell? ⟨blk, off + m * 2, none⟩ = some (.int .i64 x) ∧ w'.cell? ⟨blk, off + m * 2 + 1, none⟩ = some (.int .i64 y)))) (by kernel_rfl) ?_ (fun hHeld0 => ?_)
      · (try dsimp only); exact HY.out _ (by repeat' (first | (with_reducible assumption) | (with_reducible refine below_setRowN ?_ ?_ _) | (with_reducible refine Below.setCell ?_ ?_ _) | (with_reducible refine below_drewN' ?_ _) | (with_reducible refine Below.drew ?_) | (with_reducible refine Below.alloc ?_ ?_ _) | (with_reducible exact Below.refl _ _) | (with_reducible exact Nat.le_refl _) | (simp; done) | omega | (simp; omega)))
      refine wpAnyH_take (i := 0) (v := ?_) rfl (by kernel_rfl) (by kernel_rfl) (by kernel_rfl) (fun _ _ _ h => h) (Or.inl ⟨by rfl, ?_⟩) (by assumption) ?_
      rotate_left
      · (intro w hSw; (try dsimp only at hSw); go_simp; try with_reducible rfl)
      (try simp only [Act.put, List.setIfInBounds_toArray, List.set_cons_zero, List.set_cons_succ, List.getElem_toArray, List.getElem_cons_zero, List.getElem_cons_succ])
      refine wpAnyH_take (i := 2) (v := ?_) rfl (by kernel_rfl) (by kernel_rfl) (by kernel_rfl) (fun _ _ _ h => h) (Or.inl ⟨by rfl, ?_⟩) (by assumption) ?_
      rotate_left
      · (intro w hSw; (try dsimp only at hSw); go_simp; try with_reducible rfl)
      (try simp only [Act.put, List.setIfInBounds_toArray, List.set_cons_zero, List.set_cons_succ, List.getElem_toArray, List.getElem_cons_zero, List.getElem_cons_succ])
      refine wpAnyH_take (i := 3) (v := ?_) rfl (by kernel_rfl) (by kernel_rfl) (by kernel_rfl) (fun _ _ _ h => h) (Or.inl ⟨by rfl, ?_⟩) (by assumption) ?_
      rotate_left
      · (intro w hSw; (try dsimp only at hSw); go_simp; try with_reducible rfl)
      (try simp only [Act.put, List.setIfInBounds_toArray, List.set_cons_zero, List.set_cons_succ, List.getElem_toArray, List.getElem_cons_zero, List.getElem_cons_succ])
      refine wpAnyH_take (i := 4) (v := ?_) rfl (by kernel_rfl) (by kernel_rfl) (by kernel_rfl) (fun _ _ _ h => h) (Or.inl ⟨by rfl, ?_⟩) (by assumption) ?_
      rotate_left
      · (intro w hSw; (try dsimp only at hSw); go_simp; try with_reducible rfl)
      (try simp only [Act.put, List.setIfInBounds_toArray, List.set_cons_zero, List.set_cons_succ, List.getElem_toArray, List.getElem_cons_zero, List.getElem_cons_succ])
      refine wpAnyH_take (i := 5) (v := ?_) rfl (by kernel_rfl) (by kernel_rfl) (by kernel_rfl) (fun _ _ _ h => h) (Or.inl ⟨by rfl, ?_⟩) (by assumption) ?_
      rotate_left
      · (intro w hSw; (try dsimp only at hSw); go_simp; try with_reducible rfl)
      (try simp only [Act.put, List.setIfInBounds_toArray, List.set_cons_zero, List.set_cons_succ, List.getElem_toArray, List.getElem_cons_zero, List.getElem_cons_succ])
      refine wpAnyH_take (i := 6) (v := ?_) rfl (by kernel_rfl) (by kernel_rfl) (by kernel_rfl) (fun _ _ _ h => h) (Or.inl ⟨by rfl, ?_⟩) (by assumption) ?_
      rotate_left
      · (intro w hSw; (try dsimp only at hSw); go_simp; try with_reducible rfl)
      (try simp only [Act.put, List.setIfInBounds_toArray, List.set_cons_zero, List.set_cons_succ, List.getElem_toArray, List.getElem_cons_zero, List.getElem_cons_succ])
      refine wpAnyH_take (i := 7) (v := ?_) rfl (by kernel_rfl) (by kernel_rfl) (by kernel_rfl) (fun _ _ _ h => h) (Or.inl ⟨by rfl, ?_⟩) (by assumption) ?_
      rotate_left
      · (intro w hSw; (try dsimp only at hSw); go_simp; try with_reducible rfl)
      (try simp only [Act.put, List.setIfInBounds_toArray, List.set_cons_zero, List.set_cons_succ, List.getElem_toArray, List.getElem_cons_zero, List.getElem_cons_succ])
      refine wpAnyH_take (i := 8) (v := ?_) rfl (by kernel_rfl) (by kernel_rfl) (by kernel_rfl) (fun _ _ _ h => h) (Or.inl ⟨by rfl, ?_⟩) (by assumption) ?_
      rotate_left
      · (intro w hSw; (try dsimp only at hSw); go_simp; try with_reducible rfl)
      (try simp only [Act.put, List.setIfInBounds_toArray, List.set_cons_zero, List.set_cons_succ, List.getElem_toArray, List.getElem_cons_zero, List.getElem_cons_succ])
      refine wpAnyH_take (i := 9) (v := ?_) rfl (by kernel_rfl) (by kernel_rfl) (by kernel_rfl) (fun _ _ _ h => h) (Or.inl ⟨by rfl, ?_⟩) (by assumption) ?_
      rotate_left
      · (intro w hSw; (try dsimp only at hSw); go_simp; try with_reducible rfl)
      (try simp only [Act.put, List.setIfInBounds_toArray, List.set_cons_zero, List.set_cons_succ, List.getElem_toArray, List.getElem_cons_zero, List.getElem_cons_succ])
      refine wpAnyH_take (i := 10) (v := ?_) rfl (by kernel_rfl) (by kernel_rfl) (by kernel_rfl) (fun _ _ _ h => h) (Or.inl ⟨by rfl, ?_⟩) (by assumption) ?_
      rotate_left
      · (intro w hSw; (try dsimp only at hSw); go_simp; try with_reducible rfl)
      (try simp only [Act.put, List.setIfInBounds_toArray, List.set_cons_zero, List.set_cons_succ, List.getElem_toArray, List.getElem_cons_zero, List.getElem_cons_succ])
      refine wpAnyH_take (i := 11) (v := ?_) rfl (by kernel_rfl) (by kernel_rfl) (by kernel_rfl) (fun _ _ _ h => h) (Or.inl ⟨by rfl, ?_⟩) (by assumption) ?_
      rotate_left
      · (intro w hSw; (try dsimp only at hSw); go_simp; try with_reducible rfl)
      (try simp only [Act.put, List.setIfInBounds_toArray, List.set_cons_zero, List.set_cons_succ, List.getElem_toArray, List.getElem_cons_zero, List.getElem_cons_succ])
      refine wpAnyH_take (i := 12) (v := ?_) rfl (by kernel_rfl) (by kernel_rfl) (by kernel_rfl) (fun _ _ _ h => h) (Or.inl ⟨by rfl, ?_⟩) (by assumption) ?_
      rotate_left
      · (intro w hSw; (try dsimp only at hSw); go_simp; try with_reducible rfl)
      (try simp only [Act.put, List.setIfInBounds_toArray, List.set_cons_zero, List.set_cons_succ, List.getElem_toArray, List.getElem_cons_zero, List.getElem_cons_succ])
      refine wpAnyH_take (i := 13) (v := ?_) rfl (by kernel_rfl) (by kernel_rfl) (by kernel_rfl) (fun _ _ _ h => h) (Or.inl ⟨by rfl, ?_⟩) (by assumption) ?_
      rotate_left
      · (intro w hSw; (try dsimp only at hSw); go_simp; try with_reducible rfl)
      (try simp only [Act.put, List.setIfInBounds_toArray, List.set_cons_zero, List.set_cons_succ, List.getElem_toArray, List.getElem_cons_zero, List.getElem_cons_succ])
      refine wpAnyH_take (i := 14) (v := ?_) rfl (by kernel_rfl) (by kernel_rfl) (by kernel_rfl) (fun _ _ _ h => h) (Or.inl ⟨by rfl, ?_⟩) (by assumption) ?_
      rotate_left
      · (intro w hSw; (try dsimp only at hSw); go_simp; try with_reducible rfl)
      (try simp only [Act.put, List.setIfInBounds_toArray, List.set_cons_zero, List.set_cons_succ, List.getElem_toArray, List.getElem_cons_zero, List.getElem_cons_succ])
      refine wpAnyH_take (i := 15) (v := ?_) rfl (by kernel_rfl) (by kernel_rfl) (by kernel_rfl) (fun _ _ _ h => h) (Or.inl ⟨by rfl, ?_⟩) (by assumption) ?_
      rotate_left
      · (intro w hSw; (try dsimp only at hSw); go_simp; try with_reducible rfl)
      (try simp only [Act.put, List.setIfInBounds_toArray, List.set_cons_zero, List.set_cons_succ, List.getElem_toArray, List.getElem_cons_zero, List.getElem_cons_succ])
      refine wpAnyH_take (i := 16) (v := ?_) rfl (by kernel_rfl) (by kernel_rfl) (by kernel_rfl) (fun _ _ _ h => h) (Or.inl ⟨by rfl, ?_⟩) (by assumption) ?_
      rotate_left
      · (intro w hSw; (try dsimp only at hSw); go_simp; try with_reducible rfl)
      (try simp only [Act.put, List.setIfInBounds_toArray, List.set_cons_zero, List.set_cons_succ, List.getElem_toArray, List.getElem_cons_zero, List.getElem_cons_succ])
      refine wpAnyH_take (i := 17) (v := ?_) rfl (by kernel_rfl) (by kernel_rfl) (by kernel_rfl) (fun _ _ _ h => h) (Or.inl ⟨by rfl, ?_⟩) (by assumption) ?_
      rotate_left
      · (intro w hSw; (try dsimp only at hSw); go_simp; try with_reducible rfl)
      (try simp only [Act.put, List.setIfInBounds_toArray, List.set_cons_zero, List.set_cons_succ, List.getElem_toArray, List.getElem_cons_zero, List.getElem_cons_succ])
      refine wpAnyH_take (i := 18) (v := ?_) rfl (by kernel_rfl) (by kernel_rfl) (by kernel_rfl) (fun _ _ _ h => h) (Or.inl ⟨by rfl, ?_⟩) (by assumption) ?_
      rotate_left
      · (intro w hSw; (try dsimp only at hSw); go_simp; try with_reducible rfl)
      (try simp only [Act.put, List.setIfInBounds_toArray, List.set_cons_zero, List.set_cons_succ, List.getElem_toArray, List.getElem_cons_zero, List.getElem_cons_succ])
      refine wpAnyH_take (i := 19) (v := ?_) rfl (by kernel_rfl) (by kernel_rfl) (by kernel_rfl) (fun _ _ _ h => h) (Or.inl ⟨by rfl, ?_⟩) (by assumption) ?_
      rotate_left
      · (intro w hSw; (try dsimp only at hSw); go_simp; try with_reducible rfl)
      (try simp only [Act.put, List.setIfInBounds_toArray, List.set_cons_zero, List.set_cons_succ, List.getElem_toArray, List.getElem_cons_zero, List.getElem_cons_succ])
      refine wpAnyH_take (i := 20) (v := ?_) rfl (by kernel_rfl) (by kernel_rfl) (by kernel_rfl) (fun _ _ _ h => h) (Or.inl ⟨by rfl, ?_⟩) (by assumption) ?_
      rotate_left
      · (intro w hSw; (try dsimp only at hSw); go_simp; try with_reducible rfl)
      (try simp only [Act.put, List.setIfInBounds_toArray, List.set_cons_zero, List.set_cons_succ, List.getElem_toArray, List.getElem_cons_zero, List.getElem_cons_succ])
      refine wpAnyH_ready (rs := [1, 21]) (by kernel_rfl) (by simp) ?_
      refine AllReadyH.cons rfl (fun K hK => ?_) ?_
      · go_simp
        refine hK.out _ _ ?_ (fun hHeld1 => ?_)
        · (try dsimp only); exact HY.out _ (by repeat' (first | (with_reducible assumption) | (with_reducible refine below_setRowN ?_ ?_ _) | (with_reducible refine Below.setCell ?_ ?_ _) | (with_reducible refine below_drewN' ?_ _) | (with_reducible refine Below.drew ?_) | (with_reducible refine Below.alloc ?_ ?_ _) | (with_reducible exact Below.refl _ _) | (with_reducible exact Nat.le_refl _) | (simp; done) | omega | (simp; omega)))
        clear hK K hHeld0
        (try simp only [Act.put, List.setIfInBounds_toArray, List.set_cons_zero, List.set_cons_succ, List.getElem_toArray, List.getElem_cons_zero, List.getElem_cons_succ])
        refine wpAnyH_ready (rs := [21]) (by kernel_rfl) (by simp) ?_
        refine AllReadyH.cons rfl (fun K hK => ?_) ?_
        · go_simp
          refine hK.out _ _ ?_ (fun hHeld2 => ?_)
          · (try dsimp only); exact HY.out _ (by repeat' (first | (with_reducible assumption) | (with_reducible refine below_setRowN ?_ ?_ _) | (with_reducible refine Below.setCell ?_ ?_ _) | (with_reducible refine below_drewN' ?_ _) | (with_reducible refine Below.drew ?_) | (with_reducible refine Below.alloc ?_ ?_ _) | (with_reducible exact Below.refl _ _) | (with_reducible exact Nat.le_refl _) | (simp; done) | omega | (simp; omega)))
          clear hK K hHeld1
          (try simp only [Act.put, List.setIfInBounds_toArray, List.set_cons_zero, List.set_cons_succ, List.getElem_toArray, List.getElem_cons_zero, List.getElem_cons_succ])
          refine wpAnyH_ready (rs := [22]) (by kernel_rfl) (by simp) ?_
          refine AllReadyH.cons rfl (fun K hK => ?_) ?_
          · (refine append_step (W0 := wo) [.int .i64 (x % 4096), .int .i64 (y % 65536)] (k2 + 1) _ _ _ 2 16 infoT2 Try.underlying41 rfl (by decide) _ _ _ HW.out.drew ((Below.refl _ _).drew) hz1 rfl (by simp [Value.oneCell']) (by omega) (by decide) rfl _ _ rfl rfl rfl ?_; intro v1 w4 hown4 hb4 hg4 hor4; obtain ⟨p1, q1, rfl, -, -, -⟩ := CellsOff.own hown4 [] (by simp); have HO4 := Lib.hid hown4; have HB4 := Lib.hid hb4; have hb4' := hb4.mono (Nat.le_succ k2); have hO4 := Below.at hb4 HO.out (Nat.lt_succ_self _); have f4 := fun j => cell_at hO4 j; have u4 := fun j => frozen_at hO4 j; have HO4b := Lib.hid hO4; clear hown4 hb4 hg4 hor4 hO4)
            refine hK.out _ _ ?_ (fun hHeld3 => ?_)
            · (try dsimp only); exact HY.out _ (by repeat' (first | (with_reducible assumption) | (with_reducible refine below_setRowN ?_ ?_ _) | (with_reducible refine Below.setCell ?_ ?_ _) | (with_reducible refine below_drewN' ?_ _) | (with_reducible refine Below.drew ?_) | (with_reducible refine Below.alloc ?_ ?_ _) | (with_reducible exact Below.refl _ _) | (with_reducible exact Nat.le_refl _) | (simp; done) | omega | (simp; omega)))
            clear hK K hHeld2
            (try simp only [Act.put, List.setIfInBounds_toArray, List.set_cons_zero, List.set_cons_succ, List.getElem_toArray, List.getElem_cons_zero, List.getElem_cons_succ])
            refine wpAnyH_take (i := 23) (v := ?_) rfl (by kernel_rfl) (by kernel_rfl) (by kernel_rfl) (fun _ _ _ h => h) (Or.inl ⟨by rfl, ?_⟩) (by assumption) ?_
            rotate_left
            · (intro w hSw; (try dsimp only at hSw); go_simp; try with_reducible rfl)
            (try simp only [Act.put, List.setIfInBounds_toArray, List.set_cons_zero, List.set_cons_succ, List.getElem_toArray, List.getElem_cons_zero, List.getElem_cons_succ])
            refine wpAnyH_ready (rs := [24]) (by kernel_rfl) (by simp) ?_
            refine AllReadyH.cons rfl (fun K hK => ?_) ?_
            · go_simp
              refine hK.out _ _ ?_ (fun hHeld4 => ?_)
              · (try dsimp only); exact HY.out _ (by repeat' (first | (with_reducible assumption) | (with_reducible refine below_setRowN ?_ ?_ _) | (with_reducible refine Below.setCell ?_ ?_ _) | (with_reducible refine below_drewN' ?_ _) | (with_reducible refine Below.drew ?_) | (with_reducible refine Below.alloc ?_ ?_ _) | (with_reducible exact Below.refl _ _) | (with_reducible exact Nat.le_refl _) | (simp; done) | omega | (simp; omega)))
              clear hK K hHeld3
              (try simp only [Act.put, List.setIfInBounds_toArray, List.set_cons_zero, List.set_cons_succ, List.getElem_toArray, List.getElem_cons_zero, List.getElem_cons_succ])
              refine wpAnyH_done (by kernel_rfl) ?_ _
              go_wp2
              go_roundw
              case rel => exact ⟨m + 1, .slice p1 (m + 1) q1, by omega, by go_num, set_at HO4b.out 2 _, by rw [HS.out]; exact ownsRow_only (S := [k2]) HO4.out ((Only.refl _ _).setCell (by simp) _) (by simp), set_other (Below.at HB4.out HA.out (by omega)) (by omega) _ _, set_other (Below.at HB4.out HZ.out (by omega)) (by omega) _ _, (HB.out.trans (HB4.out.mono (by omega))).setCell (by simp; omega) _⟩
              case measure => simp [intOf]; omega
            exact AllReadyH.nil
          exact AllReadyH.nil
        exact AllReadyH.nil
      refine AllReadyH.cons rfl (fun K hK => ?_) ?_
      · go_simp
        refine hK.out _ _ ?_ (fun hHeld1 => ?_)
        · (try dsimp only); exact HY.out _ (by repeat' (first | (with_reducible assumption) | (with_reducible refine below_setRowN ?_ ?_ _) | (with_reducible refine Below.setCell ?_ ?_ _) | (with_reducible refine below_drewN' ?_ _) | (with_reducible refine Below.drew ?_) | (with_reducible refine Below.alloc ?_ ?_ _) | (with_reducible exact Below.refl _ _) | (with_reducible exact Nat.le_refl _) | (simp; done) | omega | (simp; omega)))
        clear hK K hHeld0
        (try simp only [Act.put, List.setIfInBounds_toArray, List.set_cons_zero, List.set_cons_succ, List.getElem_toArray, List.getElem_cons_zero, List.getElem_cons_succ])
        refine wpAnyH_ready (rs := [1]) (by kernel_rfl) (by simp) ?_
        refine AllReadyH.cons rfl (fun K hK => ?_) ?_
        · go_simp
          refine hK.out _ _ ?_ (fun hHeld2 => ?_)
          · (try dsimp only); exact HY.out _ (by repeat' (first | (with_reducible assumption) | (with_reducible refine below_setRowN ?_ ?_ _) | (with_reducible refine Below.setCell ?_ ?_ _) | (with_reducible refine below_drewN' ?_ _) | (with_reducible refine Below.drew ?_) | (with_reducible refine Below.alloc ?_ ?_ _) | (with_reducible exact Below.refl _ _) | (with_reducible exact Nat.le_refl _) | (simp; done) | omega | (simp; omega)))
          clear hK K hHeld1
          (try simp only [Act.put, List.setIfInBounds_toArray, List.set_cons_zero, List.set_cons_succ, List.getElem_toArray, List.getElem_cons_zero, List.getElem_cons_succ])
          refine wpAnyH_ready (rs := [22]) (by kernel_rfl) (by simp) ?_
          refine AllReadyH.cons rfl (fun K hK => ?_) ?_
          · (refine append_step (W0 := wo) [.int .i64 (x % 4096), .int .i64 (y % 65536)] (k2 + 1) _ _ _ 2 16 infoT2 Try.underlying41 rfl (by decide) _ _ _ HW.out.drew ((Below.refl _ _).drew) hz1 rfl (by simp [Value.oneCell']) (by omega) (by decide) rfl _ _ rfl rfl rfl ?_; intro v1 w4 hown4 hb4 hg4 hor4; obtain ⟨p1, q1, rfl, -, -, -⟩ := CellsOff.own hown4 [] (by simp); have HO4 := Lib.hid hown4; have HB4 := Lib.hid hb4; have hb4' := hb4.mono (Nat.le_succ k2); have hO4 := Below.at hb4 HO.out (Nat.lt_succ_self _); have f4 := fun j => cell_at hO4 j; have u4 := fun j => frozen_at hO4 j; have HO4b := Lib.hid hO4; clear hown4 hb4 hg4 hor4 hO4)
            refine hK.out _ _ ?_ (fun hHeld3 => ?_)
            · (try dsimp only); exact HY.out _ (by repeat' (first | (with_reducible assumption) | (with_reducible refine below_setRowN ?_ ?_ _) | (with_reducible refine Below.setCell ?_ ?_ _) | (with_reducible refine below_drewN' ?_ _) | (with_reducible refine Below.drew ?_) | (with_reducible refine Below.alloc ?_ ?_ _) | (with_reducible exact Below.refl _ _) | (with_reducible exact Nat.le_refl _) | (simp; done) | omega | (simp; omega)))
            clear hK K hHeld2
            (try simp only [Act.put, List.setIfInBounds_toArray, List.set_cons_zero, List.set_cons_succ, List.getElem_toArray, List.getElem_cons_zero, List.getElem_cons_succ])
            refine wpAnyH_take (i := 23) (v := ?_) rfl (by kernel_rfl) (by kernel_rfl) (by kernel_rfl) (fun _ _ _ h => h) (Or.inl ⟨by rfl, ?_⟩) (by assumption) ?_
            rotate_left
            · (intro w hSw; (try dsimp only at hSw); go_simp; try with_reducible rfl)
            (try simp only [Act.put, List.setIfInBounds_toArray, List.set_cons_zero, List.set_cons_succ, List.getElem_toArray, List.getElem_cons_zero, List.getElem_cons_succ])
            refine wpAnyH_ready (rs := [24]) (by kernel_rfl) (by simp) ?_
            refine AllReadyH.cons rfl (fun K hK => ?_) ?_
            · go_simp
              refine hK.out _ _ ?_ (fun hHeld4 => ?_)
              · (try dsimp only); exact HY.out _ (by repeat' (first | (with_reducible assumption) | (with_reducible refine below_setRowN ?_ ?_ _) | (with_reducible refine Below.setCell ?_ ?_ _) | (with_reducible refine below_drewN' ?_ _) | (with_reducible refine Below.drew ?_) | (with_reducible refine Below.alloc ?_ ?_ _) | (with_reducible exact Below.refl _ _) | (with_reducible exact Nat.le_refl _) | (simp; done) | omega | (simp; omega)))
              clear hK K hHeld3
              (try simp only [Act.put, List.setIfInBounds_toArray, List.set_cons_zero, List.set_cons_succ, List.getElem_toArray, List.getElem_cons_zero, List.getElem_cons_succ])
              refine wpAnyH_done (by kernel_rfl) ?_ _
              go_wp2
              go_roundw
              case rel => exact ⟨m + 1, .slice p1 (m + 1) q1, by omega, by go_num, set_at HO4b.out 2 _, by rw [HS.out]; exact ownsRow_only (S := [k2]) HO4.out ((Only.refl _ _).setCell (by simp) _) (by simp), set_other (Below.at HB4.out HA.out (by omega)) (by omega) _ _, set_other (Below.at HB4.out HZ.out (by omega)) (by omega) _ _, (HB.out.trans (HB4.out.mono (by omega))).setCell (by simp; omega) _⟩
              case measure => simp [intOf]; omega
            exact AllReadyH.nil
          exact AllReadyH.nil
        exact AllReadyH.nil
      exact AllReadyH.nil
    · obtain rfl : m = L := by omega
      obtain ⟨p1, q1, rfl, -, -, -⟩ := CellsOff.own hown [] (by simp)
      have HO := Lib.hid hO
      have HW := Lib.hid hown
      have HB := Lib.hid hb
      have HA := Lib.hid hA
      have HZ := Lib.hid hZ
      have fz := fun j => cell_at hZ j
      have uz := fun j => frozen_at hZ j
      have hne : w.heap.size + 1 ≠ k2 := by omega
      clear hown hb hO hA hZ
      by_cases hL0 : m = 0
      · have HG := Lib.hid (goodP_none (by rw [HGL.out]; exact hL0))
        have hmI : ¬ ((m : Int) < (heads.length : Int)) := by rcases HL3.out with hx | ⟨hx1, hx2⟩ <;> omega
        have hL0I : ((m : Int) == 0) = true := beq_iff_eq.2 (by omega)
        have hws : w.heap.size + 1 < wo.heap.size := by omega
        clear hL0
        · go_wp2
          refine bodyPost_ret (results_cell_row rfl _ _ (w.heap.size + 1) 43 _ (0, 0) _ rfl (alloc_old (stored4 (set_other HZ.out hne _ _)) _) Try.underlying43 rfl (by kernel_rfl)) rfl ⟨.slice (some ⟨wo.heap.size, 0, none⟩) 1 1, rfl, ?_, ?_⟩
          · rw [HG.out]
            exact owns_lit 2 [.int .i64 1, .int .i64 0] (by omega) (alloc_at _ _ (by simp)) rfl (by decide)
          · have hB := HB.out
            repeat' (first | (with_reducible assumption) | (with_reducible refine below_setRowN ?_ ?_ _) | (with_reducible refine Below.setCell ?_ ?_ _) | (with_reducible refine below_drewN' ?_ _) | (with_reducible refine Below.drew ?_) | (with_reducible refine Below.alloc ?_ ?_ _) | (with_reducible exact Below.refl _ _) | (with_reducible exact Nat.le_refl _) | (simp; done) | omega | (simp; omega))
      · have HG := Lib.hid (goodP_some (by rw [HGL.out]; exact hL0))
        have hL0I : ((m : Int) == 0) = false := beq_eq_false_iff_ne.2 (by omega)
        have hmx : ¬ ((m : Int) < (heads.length : Int)) ∨ ((m : Int) < (heads.length : Int) ∧ (m : Int) = 1) := by rcases HL3.out with hx | ⟨hx1, hx2⟩ <;> omega
        have hL6 : (m : Int) ≤ 6 := by omega
        rcases hmx with hmI | ⟨hmI, hm6e⟩
        rotate_left
        · have hm6 : (m : Int) < 6 := by omega
          have hm1 : ¬ ((m : Int) < 1) := by omega
          clear hm6e
          go_wp2
          refine bodyPost_ret (results_cell_row rfl _ _ (w.heap.size + 1) 43 _ (0, 0) _ rfl (stored4 HZ.out) Try.underlying43 rfl (by kernel_rfl)) rfl ⟨.slice p1 m q1, rfl, ?_, ?_⟩
          · rw [HG.out, HGL.out, ← HGT.out]
            exact owns_base (ownsRow_only (S := [w.heap.size + 1]) HW.out (by repeat' (first | (with_reducible assumption) | (with_reducible refine only_setRowN ?_ ?_ _) | (with_reducible exact Only.refl _ _) | (with_reducible refine Only.setCell ?_ ?_ _) | (with_reducible refine Only.drewN ?_ _) | (with_reducible refine Only.drew ?_) | (with_reducible refine Only.alloc ?_ _) | (simp; done) | (simp; omega))) (by simp; omega)) (by omega)
          · have hB := HB.out
            repeat' (first | (with_reducible assumption) | (with_reducible refine below_setRowN ?_ ?_ _) | (with_reducible refine Below.setCell ?_ ?_ _) | (with_reducible refine below_drewN' ?_ _) | (with_reducible refine Below.drew ?_) | (with_reducible refine Below.alloc ?_ ?_ _) | (with_reducible exact Below.refl _ _) | (with_reducible exact Nat.le_refl _) | (simp; done) | omega | (simp; omega))
        · go_wp2
          refine bodyPost_ret (results_cell_row rfl _ _ (w.heap.size + 1) 43 _ (0, 0) _ rfl (stored4 HZ.out) Try.underlying43 rfl (by kernel_rfl)) rfl ⟨.slice p1 m q1, rfl, ?_, ?_⟩
          · rw [HG.out, HGL.out, ← HGT.out]
            exact owns_base (ownsRow_only (S := [w.heap.size + 1]) HW.out (by repeat' (first | (with_reducible assumption) | (with_reducible refine only_setRowN ?_ ?_ _) | (with_reducible exact Only.refl _ _) | (with_reducible refine Only.setCell ?_ ?_ _) | (with_reducible refine Only.drewN ?_ _) | (with_reducible refine Only.drew ?_) | (with_reducible refine Only.alloc ?_ _) | (simp; done) | (simp; omega))) (by simp; omega)) (by omega)
          · have hB := HB.out
            repeat' (first | (with_reducible assumption) | (with_reducible refine below_setRowN ?_ ?_ _) | (with_reducible refine Below.setCell ?_ ?_ _) | (with_reducible refine below_drewN' ?_ _) | (with_reducible refine Below.drew ?_) | (with_reducible refine Below.alloc ?_ ?_ _) | (with_reducible exact Below.refl _ _) | (with_reducible exact Nat.le_refl _) | (simp; done) | omega | (simp; omega))
theorem rgood10 (p : Pa) (a : Option Addr) (c : Nat) (w : World) (h : CellsOff w a (flatT p.heads) []) (hn : p.heads.length ≤ maxLen) (hd : p.data.size ≤ maxLen) :
    Calls Try.prog 21 #[p.val (.slice a p.heads.length c)] w fun e w' => ∃ v, e = .returned ((goodP p).val v) ∧ w'.ownsRow w.heap.size 51 2 v (goodP p).heads.length (flatT (goodP p).heads) ∧ Below w.heap.size w w' := by
  obtain ⟨src, cast, heads, data⟩ := p
  cases cast with
  | true => exact rgood10_true src heads data a c w h hn hd
  | false => exact rgood10_false src heads data a c w h hn hd
end Go.Proofs.Ytpklblaenfhncaa
