/- law10: a parcel as the program has it, and as the document has it. -/
import Derived.Test.YtmehfflomgldeabCutG
namespace Go.Proofs.Ytmehfflomgldeab
set_option linter.unusedVariables false
set_option linter.unusedSimpArgs false
open Go.RowKit BM
/-- The first 12 Heads, 80 bytes. -/
def backP (p : Pa) : Pa := ⟨p.src, p.cast, p.heads.take 12, p.data.extract 0 (min p.data.size 80)⟩
set_option maxRecDepth 100000 in
set_option maxHeartbeats 4000000 in
theorem back10 (p : Pa) (a : Option Addr) (c : Nat) (w : World) (h : CellsOff w a (flatT p.heads) []) (hn : p.heads.length ≤ maxLen) (hd : p.data.size ≤ maxLen) :
    Calls Try.prog 43 #[p.val (.slice a p.heads.length c)] w fun e w' => ∃ v, e = .returned ((backP p).val v) ∧ w'.ownsRow w.heap.size 92 2 v (backP p).heads.length (flatT (backP p).heads) ∧ Below w.heap.size w w' := by
  obtain ⟨src, cast, heads, data⟩ := p
  dsimp only at *
  unfold backP maxLen at *
  dsimp only at *
  obtain ⟨dd, hdd⟩ : ∃ dd, dd = data.extract 0 (min data.size 80) := ⟨_, rfl⟩
  have hmn : min (data.size : Int) 80 = ((min data.size 80 : Nat) : Int) := by omega
  have hmx : (min data.size 80 : Nat) ≤ data.size := by omega
  have hmxI : ((min data.size 80 : Nat) : Int) ≤ (data.size : Int) := by omega
  obtain ⟨L, hL⟩ : ∃ L, L = (heads.take 12).length := ⟨_, rfl⟩
  have hL1 : L ≤ heads.length := by rw [hL, List.length_take]; omega
  have hL2 : L ≤ 12 := by rw [hL, List.length_take]; omega
  have hL3 : L = heads.length ∨ (L < heads.length ∧ L = 12) := by rw [hL, List.length_take]; omega
  have hLt : heads.take 12 = heads.take L := by
    rcases hL3 with h1 | ⟨_, h1⟩
    · rw [h1, List.take_length, List.take_of_length_le (by omega)]
    · rw [h1]
  rw [← hL, hLt, ← hdd]
  have HL3 := Lib.hid hL3
  have HDD := Lib.hid hdd
  clear hL hL3 hLt hdd
  have HC := Lib.hid (fun i hi => head_cell (i := i) h hi)
  clear h
  unfold Pa.val
  go_enter Try.func43, Try.ntmps43
  go_upto_region 1 with (fail)
  have hA := alloc_new (w := w) (.cells #[.int .i64 src, .bool cast, .slice a heads.length c, .string data] 60)
  have hA := alloc_old hA (.cells #[.int .i64 0, .bool false, .slice none 0 0, .string ⟨#[]⟩] 68)
  have hZ := alloc_at (w := w.alloc (.cells #[.int .i64 src, .bool cast, .slice a heads.length c, .string data] 60)) (.cells #[.int .i64 0, .bool false, .slice none 0 0, .string ⟨#[]⟩] 68) (w.heap.size + 1) (by simp)
  have hB : Below w.heap.size w ((w.alloc (.cells #[.int .i64 src, .bool cast, .slice a heads.length c, .string data] 60)).alloc (.cells #[.int .i64 0, .bool false, .slice none 0 0, .string ⟨#[]⟩] 68)) := by repeat' (first | (with_reducible assumption) | (with_reducible refine below_setRowN ?_ ?_ _) | (with_reducible refine Below.setCell ?_ ?_ _) | (with_reducible refine below_drewN' ?_ _) | (with_reducible refine Below.drew ?_) | (with_reducible refine Below.alloc ?_ ?_ _) | (with_reducible exact Below.refl _ _) | (with_reducible exact Nat.le_refl _) | (simp; done) | omega | (simp; omega))
  have hz2 : ((w.alloc (.cells #[.int .i64 src, .bool cast, .slice a heads.length c, .string data] 60)).alloc (.cells #[.int .i64 0, .bool false, .slice none 0 0, .string ⟨#[]⟩] 68)).heap.size = w.heap.size + 2 := by simp
  generalize (w.alloc (.cells #[.int .i64 src, .bool cast, .slice a heads.length c, .string data] 60)).alloc (.cells #[.int .i64 0, .bool false, .slice none 0 0, .string ⟨#[]⟩] 68) = w2 at *
  have fA := fun j => cell_at hA j
  have HX : Hid (∀ w', Below w2.heap.size w2 w' → ((∀ j, w'.cell? ⟨w.heap.size, j, none⟩ = (#[.int .i64 src, .bool cast, .slice a heads.length c, .string data] : Array Value)[j]?))) := fun w' hb j => cell_at (Below.at hb hA (block_lt hA)) j
  have HA := Lib.hid hA
  have HZ := Lib.hid hZ
  have HB := Lib.hid hB
  have HZ2 := Lib.hid hz2
  clear hA hZ hB hz2
  have hk2s : w2.heap.size = w.heap.size + 2 := HZ2.out
  obtain ⟨k2, hk2⟩ : ∃ k2, k2 = w2.heap.size := ⟨_, rfl⟩
  have hk3 : w.heap.size + 1 < k2 := by omega
  have HK2 := Lib.hid hk2
  clear hk2s hk2
  go_cut [3] (fun v3 wx => v3 = .pointer (some ⟨k2, 0, none⟩) ∧ wx.heap[k2]? = some (.cells #[.int .i64 src, .bool cast, .slice none 0 0, .string dd] 68 (0, 0)) ∧ wx.heap[w.heap.size]? = some (.cells #[.int .i64 src, .bool cast, .slice a heads.length c, .string data] 60 (0, 0)) ∧ wx.heap[w.heap.size + 1]? = some (.cells #[.int .i64 0, .bool false, .slice none 0 0, .string ⟨#[]⟩] 68 (0, 0)) ∧ Below w.heap.size w wx)
  case first =>
    refine wp_region_held_drew (S := (fun w' => ((∀ j, w'.cell? ⟨w.heap.size, j, none⟩ = (#[.int .i64 src, .bool cast, .slice a heads.length c, .string data] : Array Value)[j]?)))) (by kernel_rfl) ?_ (fun hHeld0 => ?_)
    · (try dsimp only); exact HX.out _ (by repeat' (first | (with_reducible assumption) | (with_reducible refine below_setRowN ?_ ?_ _) | (with_reducible refine Below.setCell ?_ ?_ _) | (with_reducible refine below_drewN' ?_ _) | (with_reducible refine Below.drew ?_) | (with_reducible refine Below.alloc ?_ ?_ _) | (with_reducible exact Below.refl _ _) | (with_reducible exact Nat.le_refl _) | (simp; done) | omega | (simp; omega)))
    refine wpAnyH_take (i := 0) (v := ?_) rfl (by kernel_rfl) (by kernel_rfl) (by kernel_rfl) (fun _ _ _ h => h) (Or.inl ⟨by rfl, ?_⟩) (by assumption) ?_
    rotate_left
    · (intro w hSw; (try dsimp only at hSw); go_simp; try with_reducible rfl)
    (try simp only [Act.put, List.setIfInBounds_toArray, List.set_cons_zero, List.set_cons_succ, List.getElem_toArray, List.getElem_cons_zero, List.getElem_cons_succ])
    refine wpAnyH_take (i := 1) (v := ?_) rfl (by kernel_rfl) (by kernel_rfl) (by kernel_rfl) (fun _ _ _ h => h) (Or.inl ⟨by rfl, ?_⟩) (by assumption) ?_
    rotate_left
    · (intro w hSw; (try dsimp only at hSw); go_simp; try with_reducible rfl)
    (try simp only [Act.put, List.setIfInBounds_toArray, List.set_cons_zero, List.set_cons_succ, List.getElem_toArray, List.getElem_cons_zero, List.getElem_cons_succ])
    refine wpAnyH_take (i := 2) (v := ?_) rfl (by kernel_rfl) (by kernel_rfl) (by kernel_rfl) (fun _ _ _ h => h) (Or.inl ⟨by rfl, ?_⟩) (by assumption) ?_
    rotate_left
    · (intro w hSw; (try dsimp only at hSw); go_simp; try with_reducible rfl)
    (try simp only [Act.put, List.setIfInBounds_toArray, List.set_cons_zero, List.set_cons_succ, List.getElem_toArray, List.getElem_cons_zero, List.getElem_cons_succ])
    refine wpAnyH_take (i := 3) (v := ?_) rfl (by kernel_rfl) (by kernel_rfl) (by kernel_rfl) (fun _ _ _ h => h) (Or.inl ⟨by rfl, ?_⟩) (by assumption) ?_
    rotate_left
    · (intro w hSw; (try dsimp only at hSw); go_simp; try with_reducible rfl)
    (try simp only [Act.put, List.setIfInBounds_toArray, List.set_cons_zero, List.set_cons_succ, List.getElem_toArray, List.getElem_cons_zero, List.getElem_cons_succ])
    refine wpAnyH_take (i := 4) (v := ?_) rfl (by kernel_rfl) (by kernel_rfl) (by kernel_rfl) (fun _ _ _ h => h) (Or.inl ⟨by rfl, ?_⟩) (by assumption) ?_
    rotate_left
    · (intro w hSw; (try dsimp only at hSw); go_simp; try with_reducible rfl)
    (try simp only [Act.put, List.setIfInBounds_toArray, List.set_cons_zero, List.set_cons_succ, List.getElem_toArray, List.getElem_cons_zero, List.getElem_cons_succ])
    refine wpAnyH_take (i := 5) (v := ?_) rfl (by kernel_rfl) (by kernel_rfl) (by kernel_rfl) (fun _ _ _ h => h) (Or.inl ⟨by rfl, ?_⟩) (by assumption) ?_
    rotate_left
    · (intro w hSw; (try dsimp only at hSw); go_simp; try with_reducible rfl)
    (try simp only [Act.put, List.setIfInBounds_toArray, List.set_cons_zero, List.set_cons_succ, List.getElem_toArray, List.getElem_cons_zero, List.getElem_cons_succ])
    refine wpAnyH_take (i := 6) (v := ?_) rfl (by kernel_rfl) (by kernel_rfl) (by kernel_rfl) (fun _ _ _ h => h) (Or.inl ⟨by rfl, ?_⟩) (by assumption) ?_
    rotate_left
    · (intro w hSw; (try dsimp only at hSw); go_simp; try with_reducible rfl)
    (try simp only [Act.put, List.setIfInBounds_toArray, List.set_cons_zero, List.set_cons_succ, List.getElem_toArray, List.getElem_cons_zero, List.getElem_cons_succ])
    refine wpAnyH_take (i := 7) (v := ?_) rfl (by kernel_rfl) (by kernel_rfl) (by kernel_rfl) (fun _ _ _ h => h) (Or.inl ⟨by rfl, ?_⟩) (by assumption) ?_
    rotate_left
    · (intro w hSw; (try dsimp only at hSw); go_simp; try with_reducible rfl)
    (try simp only [Act.put, List.setIfInBounds_toArray, List.set_cons_zero, List.set_cons_succ, List.getElem_toArray, List.getElem_cons_zero, List.getElem_cons_succ])
    refine wpAnyH_take (i := 8) (v := ?_) rfl (by kernel_rfl) (by kernel_rfl) (by kernel_rfl) (fun _ _ _ h => h) (Or.inl ⟨by rfl, ?_⟩) (by assumption) ?_
    rotate_left
    · (intro w hSw; (try dsimp only at hSw); go_simp; try with_reducible rfl)
    (try simp only [Act.put, List.setIfInBounds_toArray, List.set_cons_zero, List.set_cons_succ, List.getElem_toArray, List.getElem_cons_zero, List.getElem_cons_succ])
    refine wpAnyH_take (i := 9) (v := ?_) rfl (by kernel_rfl) (by kernel_rfl) (by kernel_rfl) (fun _ _ _ h => h) (Or.inl ⟨by rfl, ?_⟩) (by assumption) ?_
    rotate_left
    · (intro w hSw; (try dsimp only at hSw); go_simp; try with_reducible rfl)
    (try simp only [Act.put, List.setIfInBounds_toArray, List.set_cons_zero, List.set_cons_succ, List.getElem_toArray, List.getElem_cons_zero, List.getElem_cons_succ])
    refine wpAnyH_take (i := 10) (v := ?_) rfl (by kernel_rfl) (by kernel_rfl) (by kernel_rfl) (fun _ _ _ h => h) (Or.inl ⟨by rfl, ?_⟩) (by assumption) ?_
    rotate_left
    · (intro w hSw; (try dsimp only at hSw); go_simp; try with_reducible rfl)
    (try simp only [Act.put, List.setIfInBounds_toArray, List.set_cons_zero, List.set_cons_succ, List.getElem_toArray, List.getElem_cons_zero, List.getElem_cons_succ])
    refine wpAnyH_take (i := 11) (v := ?_) rfl (by kernel_rfl) (by kernel_rfl) (by kernel_rfl) (fun _ _ _ h => h) (Or.inl ⟨by rfl, ?_⟩) (by assumption) ?_
    rotate_left
    · (intro w hSw; (try dsimp only at hSw); go_simp; try with_reducible rfl)
    (try simp only [Act.put, List.setIfInBounds_toArray, List.set_cons_zero, List.set_cons_succ, List.getElem_toArray, List.getElem_cons_zero, List.getElem_cons_succ])
    refine wpAnyH_ready (rs := [12]) (by kernel_rfl) (by simp) ?_
    refine AllReadyH.cons rfl (fun K hK => ?_) ?_
    · go_simp
      refine hK.out _ _ ?_ (fun hHeld1 => ?_)
      · (try dsimp only); exact HX.out _ (by repeat' (first | (with_reducible assumption) | (with_reducible refine below_setRowN ?_ ?_ _) | (with_reducible refine Below.setCell ?_ ?_ _) | (with_reducible refine below_drewN' ?_ _) | (with_reducible refine Below.drew ?_) | (with_reducible refine Below.alloc ?_ ?_ _) | (with_reducible exact Below.refl _ _) | (with_reducible exact Nat.le_refl _) | (simp; done) | omega | (simp; omega)))
      clear hK K hHeld0
      (try simp only [Act.put, List.setIfInBounds_toArray, List.set_cons_zero, List.set_cons_succ, List.getElem_toArray, List.getElem_cons_zero, List.getElem_cons_succ])
      refine wpAnyH_ready (rs := [13]) (by kernel_rfl) (by simp) ?_
      refine AllReadyH.cons rfl (fun K hK => ?_) ?_
      · go_simp
        refine hK.out _ _ ?_ (fun hHeld2 => ?_)
        · (try dsimp only); exact HX.out _ (by repeat' (first | (with_reducible assumption) | (with_reducible refine below_setRowN ?_ ?_ _) | (with_reducible refine Below.setCell ?_ ?_ _) | (with_reducible refine below_drewN' ?_ _) | (with_reducible refine Below.drew ?_) | (with_reducible refine Below.alloc ?_ ?_ _) | (with_reducible exact Below.refl _ _) | (with_reducible exact Nat.le_refl _) | (simp; done) | omega | (simp; omega)))
        clear hK K hHeld1
        (try simp only [Act.put, List.setIfInBounds_toArray, List.set_cons_zero, List.set_cons_succ, List.getElem_toArray, List.getElem_cons_zero, List.getElem_cons_succ])
        refine wpAnyH_done (by kernel_rfl) ?_ _
        go_wp2
        go_meet
        rw [HK2.out, HDD.out]
        exact ⟨rfl, alloc_new _, alloc_old HA.out _, alloc_old HZ.out _, Below.drew (HB.out.alloc HB.out.size _)⟩
      exact AllReadyH.nil
    exact AllReadyH.nil
  case rest =>
  obtain ⟨rfl, hO, hA3, hZ3, hB3⟩ := hcut
  have HO := Lib.hid hO
  have HA3 := Lib.hid hA3
  have HZ3 := Lib.hid hZ3
  have HB3 := Lib.hid hB3
  clear hO hA3 hZ3 hB3 HA HZ HB HX fA HK2 HZ2 HDD hmn hmxI
  go_wp2
  go_loopw [4] (fun i wr => ∃ (m : Nat) (v : Value), m ≤ L ∧ i = .int .i64 (m : Int) ∧ wr.heap[k2]? = some (.cells #[.int .i64 src, .bool cast, v, .string dd] 68 (0, 0)) ∧ wr.ownsRow (k2 + 1) 92 2 v m (flatT (heads.take m)) ∧ wr.heap[w.heap.size]? = some (.cells #[.int .i64 src, .bool cast, .slice a heads.length c, .string data] 60 (0, 0)) ∧ wr.heap[w.heap.size + 1]? = some (.cells #[.int .i64 0, .bool false, .slice none 0 0, .string ⟨#[]⟩] 68 (0, 0)) ∧ Below w.heap.size w wr) (fun i _ => L - (intOf i).toNat)
  case atStart => exact ⟨0, .slice none 0 0, by omega, rfl, HO.out, World.ownsRow_nil _ _ _ _, HA3.out, HZ3.out, HB3.out⟩
  case round =>
    clear HO HA3 HZ3 HB3
    obtain ⟨m, v, hm, rfl, hO, hown, hA, hZ, hb⟩ := hrel
    obtain ⟨wo, rfl⟩ : ∃ x : World, x = wr := ⟨_, rfl⟩
    have hlo := block_lt hO
    have f0 := fun j => cell_at hA j
    have f1 := fun j => cell_at hO j
    have u1 := fun j => frozen_at hO j
    by_cases hml : m < L
    · obtain ⟨blk, off, rfl, hlt, c0, c1⟩ := HC.out m (by omega)
      have HS : Hid (flatT (heads.take (m + 1)) = flatT (heads.take m) ++ (heads.getD m T2.zero).cells) := (by rw [take_snocD (by omega) T2.zero]; exact flat_snoc _ _ _)
      generalize heads.getD m T2.zero = t at *
      obtain ⟨x, y⟩ := t
      dsimp only at c0 c1
      have HY : Hid (∀ w', Below k2 wo w' → ((∀ j, w'.cell? ⟨w.heap.size, j, none⟩ = (#[.int .i64 src, .bool cast, .slice (some ⟨blk, off, none⟩) heads.length c, .string data] : Array Value)[j]?) ∧ w'.cell? ⟨blk, off + m * 2, none⟩ = some (.int .i64 x) ∧ w'.cell? ⟨blk, off + m * 2 + 1, none⟩ = some (.int .i64 y))) := fun w' hb' => by
        have h2 : Below w.heap.size w w' := hb.trans (hb'.mono (by omega))
        exact ⟨fun j => cell_at (Below.at hb' hA (by omega)) j, (h2.cell (p := ⟨blk, _, none⟩) hlt).trans c0, (h2.cell (p := ⟨blk, _, none⟩) hlt).trans c1⟩
      have hmI : (m : Int) < (heads.length : Int) := by omega
      have hm6 : (m : Int) < 12 := by omega
      have HO := Lib.hid hO
      have HW := Lib.hid hown
      have HB := Lib.hid hb
      have HA := Lib.hid hA
      have HZ := Lib.hid hZ
      clear c0 c1 hown hb hO hA hZ
      have hz1 : k2 + 1 ≤ wo.heap.size := by omega
      go_upto_region 5 with (fail)
      refine wp_region_held_drew (S := (fun w' => ((∀ j, w'.cell? ⟨w.heap.size, j, none⟩ = (#[.int .i64 src, .bool cast, .slice (some ⟨blk, off, none⟩) heads.length c, .string data] : Array Value)[j]?) ∧ w'.cell? ⟨blk, off + m * 2, none⟩ = some (.int .i64 x) ∧ w'.cell? ⟨blk, off + m * 2 + 1, none⟩ = some (.int .i64 y)))) (by kernel_rfl) ?_ (fun hHeld0 => ?_)
      · (try dsimp only); exact HY.out _ (by repeat' (first | (with_reducible assumption) | (with_reducible refine below_setRowN ?_ ?_ _) | (with_reducible refine Below.setCell ?_ ?_ _) | (with_reducible refine below_drewN' ?_ _) | (with_reducible refine Below.drew ?_) | (with_reducible refine Below.alloc ?_ ?_ _) | (with_reducible exact Below.refl _ _) | (with_reducible exact Nat.le_refl _) | (simp; done) | omega | (simp; omega)))
      refine wpAnyH_take (i := 0) (v := ?_) rfl (by kernel_rfl) (by kernel_rfl) (by kernel_rfl) (fun _ _ _ h => h) (Or.inl ⟨by rfl, ?_⟩) (by assumption) ?_
      rotate_left
      · (intro w hSw; (try dsimp only at hSw); go_simp; try with_reducible rfl)
      (try simp only [Act.put, List.setIfInBounds_toArray, List.set_cons_zero, List.set_cons_succ, List.getElem_toArray, List.getElem_cons_zero, List.getElem_cons_succ])
      refine wpAnyH_take (i := 2) (v := ?_) rfl (by kernel_rfl) (by kernel_rfl) (by kernel_rfl) (fun _ _ _ h => h) (Or.inl ⟨by rfl, ?_⟩) (by assumption) ?_
      rotate_left
      · (intro w hSw; (try dsimp only at hSw); go_simp; try with_reducible rfl)
      (try simp only [Act.put, List.setIfInBounds_toArray, List.set_cons_zero, List.set_cons_succ, List.getElem_toArray, List.getElem_cons_zero, List.getElem_cons_succ])
      refine wpAnyH_take (i := 3) (v := ?_) rfl (by kernel_rfl) (by kernel_rfl) (by kernel_rfl) (fun _ _ _ h => h) (Or.inl ⟨by rfl, ?_⟩) (by assumption) ?_
      rotate_left
      · (intro w hSw; (try dsimp only at hSw); go_simp; try with_reducible rfl)
      (try simp only [Act.put, List.setIfInBounds_toArray, List.set_cons_zero, List.set_cons_succ, List.getElem_toArray, List.getElem_cons_zero, List.getElem_cons_succ])
      refine wpAnyH_take (i := 4) (v := ?_) rfl (by kernel_rfl) (by kernel_rfl) (by kernel_rfl) (fun _ _ _ h => h) (Or.inl ⟨by rfl, ?_⟩) (by assumption) ?_
      rotate_left
      · (intro w hSw; (try dsimp only at hSw); go_simp; try with_reducible rfl)
      (try simp only [Act.put, List.setIfInBounds_toArray, List.set_cons_zero, List.set_cons_succ, List.getElem_toArray, List.getElem_cons_zero, List.getElem_cons_succ])
      refine wpAnyH_take (i := 5) (v := ?_) rfl (by kernel_rfl) (by kernel_rfl) (by kernel_rfl) (fun _ _ _ h => h) (Or.inl ⟨by rfl, ?_⟩) (by assumption) ?_
      rotate_left
      · (intro w hSw; (try dsimp only at hSw); go_simp; try with_reducible rfl)
      (try simp only [Act.put, List.setIfInBounds_toArray, List.set_cons_zero, List.set_cons_succ, List.getElem_toArray, List.getElem_cons_zero, List.getElem_cons_succ])
      refine wpAnyH_take (i := 6) (v := ?_) rfl (by kernel_rfl) (by kernel_rfl) (by kernel_rfl) (fun _ _ _ h => h) (Or.inl ⟨by rfl, ?_⟩) (by assumption) ?_
      rotate_left
      · (intro w hSw; (try dsimp only at hSw); go_simp; try with_reducible rfl)
      (try simp only [Act.put, List.setIfInBounds_toArray, List.set_cons_zero, List.set_cons_succ, List.getElem_toArray, List.getElem_cons_zero, List.getElem_cons_succ])
      refine wpAnyH_take (i := 7) (v := ?_) rfl (by kernel_rfl) (by kernel_rfl) (by kernel_rfl) (fun _ _ _ h => h) (Or.inl ⟨by rfl, ?_⟩) (by assumption) ?_
      rotate_left
      · (intro w hSw; (try dsimp only at hSw); go_simp; try with_reducible rfl)
      (try simp only [Act.put, List.setIfInBounds_toArray, List.set_cons_zero, List.set_cons_succ, List.getElem_toArray, List.getElem_cons_zero, List.getElem_cons_succ])
      refine wpAnyH_take (i := 8) (v := ?_) rfl (by kernel_rfl) (by kernel_rfl) (by kernel_rfl) (fun _ _ _ h => h) (Or.inl ⟨by rfl, ?_⟩) (by assumption) ?_
      rotate_left
      · (intro w hSw; (try dsimp only at hSw); go_simp; try with_reducible rfl)
      (try simp only [Act.put, List.setIfInBounds_toArray, List.set_cons_zero, List.set_cons_succ, List.getElem_toArray, List.getElem_cons_zero, List.getElem_cons_succ])
      refine wpAnyH_take (i := 9) (v := ?_) rfl (by kernel_rfl) (by kernel_rfl) (by kernel_rfl) (fun _ _ _ h => h) (Or.inl ⟨by rfl, ?_⟩) (by assumption) ?_
      rotate_left
      · (intro w hSw; (try dsimp only at hSw); go_simp; try with_reducible rfl)
      (try simp only [Act.put, List.setIfInBounds_toArray, List.set_cons_zero, List.set_cons_succ, List.getElem_toArray, List.getElem_cons_zero, List.getElem_cons_succ])
      refine wpAnyH_take (i := 10) (v := ?_) rfl (by kernel_rfl) (by kernel_rfl) (by kernel_rfl) (fun _ _ _ h => h) (Or.inl ⟨by rfl, ?_⟩) (by assumption) ?_
      rotate_left
      · (intro w hSw; (try dsimp only at hSw); go_simp; try with_reducible rfl)
      (try simp only [Act.put, List.setIfInBounds_toArray, List.set_cons_zero, List.set_cons_succ, List.getElem_toArray, List.getElem_cons_zero, List.getElem_cons_succ])
      refine wpAnyH_take (i := 11) (v := ?_) rfl (by kernel_rfl) (by kernel_rfl) (by kernel_rfl) (fun _ _ _ h => h) (Or.inl ⟨by rfl, ?_⟩) (by assumption) ?_
      rotate_left
      · (intro w hSw; (try dsimp only at hSw); go_simp; try with_reducible rfl)
      (try simp only [Act.put, List.setIfInBounds_toArray, List.set_cons_zero, List.set_cons_succ, List.getElem_toArray, List.getElem_cons_zero, List.getElem_cons_succ])
      refine wpAnyH_take (i := 12) (v := ?_) rfl (by kernel_rfl) (by kernel_rfl) (by kernel_rfl) (fun _ _ _ h => h) (Or.inl ⟨by rfl, ?_⟩) (by assumption) ?_
      rotate_left
      · (intro w hSw; (try dsimp only at hSw); go_simp; try with_reducible rfl)
      (try simp only [Act.put, List.setIfInBounds_toArray, List.set_cons_zero, List.set_cons_succ, List.getElem_toArray, List.getElem_cons_zero, List.getElem_cons_succ])
      refine wpAnyH_take (i := 13) (v := ?_) rfl (by kernel_rfl) (by kernel_rfl) (by kernel_rfl) (fun _ _ _ h => h) (Or.inl ⟨by rfl, ?_⟩) (by assumption) ?_
      rotate_left
      · (intro w hSw; (try dsimp only at hSw); go_simp; try with_reducible rfl)
      (try simp only [Act.put, List.setIfInBounds_toArray, List.set_cons_zero, List.set_cons_succ, List.getElem_toArray, List.getElem_cons_zero, List.getElem_cons_succ])
      refine wpAnyH_take (i := 14) (v := ?_) rfl (by kernel_rfl) (by kernel_rfl) (by kernel_rfl) (fun _ _ _ h => h) (Or.inl ⟨by rfl, ?_⟩) (by assumption) ?_
      rotate_left
      · (intro w hSw; (try dsimp only at hSw); go_simp; try with_reducible rfl)
      (try simp only [Act.put, List.setIfInBounds_toArray, List.set_cons_zero, List.set_cons_succ, List.getElem_toArray, List.getElem_cons_zero, List.getElem_cons_succ])
      refine wpAnyH_ready (rs := [1, 15]) (by kernel_rfl) (by simp) ?_
      refine AllReadyH.cons rfl (fun K hK => ?_) ?_
      · go_simp
        refine hK.out _ _ ?_ (fun hHeld1 => ?_)
        · (try dsimp only); exact HY.out _ (by repeat' (first | (with_reducible assumption) | (with_reducible refine below_setRowN ?_ ?_ _) | (with_reducible refine Below.setCell ?_ ?_ _) | (with_reducible refine below_drewN' ?_ _) | (with_reducible refine Below.drew ?_) | (with_reducible refine Below.alloc ?_ ?_ _) | (with_reducible exact Below.refl _ _) | (with_reducible exact Nat.le_refl _) | (simp; done) | omega | (simp; omega)))
        clear hK K hHeld0
        (try simp only [Act.put, List.setIfInBounds_toArray, List.set_cons_zero, List.set_cons_succ, List.getElem_toArray, List.getElem_cons_zero, List.getElem_cons_succ])
        refine wpAnyH_ready (rs := [15]) (by kernel_rfl) (by simp) ?_
        refine AllReadyH.cons rfl (fun K hK => ?_) ?_
        · go_simp
          refine hK.out _ _ ?_ (fun hHeld2 => ?_)
          · (try dsimp only); exact HY.out _ (by repeat' (first | (with_reducible assumption) | (with_reducible refine below_setRowN ?_ ?_ _) | (with_reducible refine Below.setCell ?_ ?_ _) | (with_reducible refine below_drewN' ?_ _) | (with_reducible refine Below.drew ?_) | (with_reducible refine Below.alloc ?_ ?_ _) | (with_reducible exact Below.refl _ _) | (with_reducible exact Nat.le_refl _) | (simp; done) | omega | (simp; omega)))
          clear hK K hHeld1
          (try simp only [Act.put, List.setIfInBounds_toArray, List.set_cons_zero, List.set_cons_succ, List.getElem_toArray, List.getElem_cons_zero, List.getElem_cons_succ])
          refine wpAnyH_ready (rs := [16]) (by kernel_rfl) (by simp) ?_
          refine AllReadyH.cons rfl (fun K hK => ?_) ?_
          · (refine append_step (W0 := wo) [.int .i64 x, .int .i64 y] (k2 + 1) _ _ _ 2 16 infoCT Try.underlying66 rfl (by decide) _ _ _ HW.out.drew ((Below.refl _ _).drew) hz1 rfl (by simp [Value.oneCell']) (by omega) (by decide) rfl _ _ rfl rfl rfl ?_; intro v1 w4 hown4 hb4 hg4 hor4; obtain ⟨p1, q1, rfl, -, -, -⟩ := CellsOff.own hown4 [] (by simp); have HO4 := Lib.hid hown4; have HB4 := Lib.hid hb4; have hb4' := hb4.mono (Nat.le_succ k2); have hO4 := Below.at hb4 HO.out (Nat.lt_succ_self _); have f4 := fun j => cell_at hO4 j; have u4 := fun j => frozen_at hO4 j; have HO4b := Lib.hid hO4; clear hown4 hb4 hg4 hor4 hO4)
            refine hK.out _ _ ?_ (fun hHeld3 => ?_)
            · (try dsimp only); exact HY.out _ (by repeat' (first | (with_reducible assumption) | (with_reducible refine below_setRowN ?_ ?_ _) | (with_reducible refine Below.setCell ?_ ?_ _) | (with_reducible refine below_drewN' ?_ _) | (with_reducible refine Below.drew ?_) | (with_reducible refine Below.alloc ?_ ?_ _) | (with_reducible exact Below.refl _ _) | (with_reducible exact Nat.le_refl _) | (simp; done) | omega | (simp; omega)))
            clear hK K hHeld2
            (try simp only [Act.put, List.setIfInBounds_toArray, List.set_cons_zero, List.set_cons_succ, List.getElem_toArray, List.getElem_cons_zero, List.getElem_cons_succ])
            refine wpAnyH_take (i := 17) (v := ?_) rfl (by kernel_rfl) (by kernel_rfl) (by kernel_rfl) (fun _ _ _ h => h) (Or.inl ⟨by rfl, ?_⟩) (by assumption) ?_
            rotate_left
            · (intro w hSw; (try dsimp only at hSw); go_simp; try with_reducible rfl)
            (try simp only [Act.put, List.setIfInBounds_toArray, List.set_cons_zero, List.set_cons_succ, List.getElem_toArray, List.getElem_cons_zero, List.getElem_cons_succ])
            refine wpAnyH_ready (rs := [18]) (by kernel_rfl) (by simp) ?_
            refine AllReadyH.cons rfl (fun K hK => ?_) ?_
            · go_simp
              refine hK.out _ _ ?_ (fun hHeld4 => ?_)
              · (try dsimp only); exact HY.out _ (by repeat' (first | (with_reducible assumption) | (with_reducible refine below_setRowN ?_ ?_ _) | (with_reducible refine Below.setCell ?_ ?_ _) | (with_reducible refine below_drewN' ?_ _) | (with_reducible refine Below.drew ?_) | (with_reducible refine Below.alloc ?_ ?_ _) | (with_reducible exact Below.refl _ _) | (with_reducible exact Nat.le_refl _) | (simp; done) | omega | (simp; omega)))
              clear hK K hHeld3
              (try simp only [Act.put, List.setIfInBounds_toArray, List.set_cons_zero, List.set_cons_succ, List.getElem_toArray, List.getElem_cons_zero, List.getElem_cons_succ])
              refine wpAnyH_done (by kernel_rfl) ?_ _
              go_wp2
              go_roundw
              case rel => exact ⟨m + 1, .slice p1 (m + 1) q1, by omega, by go_num, set_at HO4b.out 2 _, by rw [HS.out]; exact ownsRow_only (S := [k2]) HO4.out ((Only.refl _ _).setCell (by simp) _) (by simp), set_other (Below.at HB4.out HA.out (by omega)) (by omega) _ _, set_other (Below.at HB4.out HZ.out (by omega)) (by omega) _ _, (HB.out.trans (HB4.out.mono (by omega))).setCell (by simp; omega) _⟩
              case measure => simp [intOf]; omega
            exact AllReadyH.nil
          exact AllReadyH.nil
        exact AllReadyH.nil
      refine AllReadyH.cons rfl (fun K hK => ?_) ?_
      · go_simp
        refine hK.out _ _ ?_ (fun hHeld1 => ?_)
        · (try dsimp only); exact HY.out _ (by repeat' (first | (with_reducible assumption) | (with_reducible refine below_setRowN ?_ ?_ _) | (with_reducible refine Below.setCell ?_ ?_ _) | (with_reducible refine below_drewN' ?_ _) | (with_reducible refine Below.drew ?_) | (with_reducible refine Below.alloc ?_ ?_ _) | (with_reducible exact Below.refl _ _) | (with_reducible exact Nat.le_refl _) | (simp; done) | omega | (simp; omega)))
        clear hK K hHeld0
        (try simp only [Act.put, List.setIfInBounds_toArray, List.set_cons_zero, List.set_cons_succ, List.getElem_toArray, List.getElem_cons_zero, List.getElem_cons_succ])
        refine wpAnyH_ready (rs := [1]) (by kernel_rfl) (by simp) ?_
        refine AllReadyH.cons rfl (fun K hK => ?_) ?_
        · go_simp
          refine hK.out _ _ ?_ (fun hHeld2 => ?_)
          · (try dsimp only); exact HY.out _ (by repeat' (first | (with_reducible assumption) | (with_reducible refine below_setRowN ?_ ?_ _) | (with_reducible refine Below.setCell ?_ ?_ _) | (with_reducible refine below_drewN' ?_ _) | (with_reducible refine Below.drew ?_) | (with_reducible refine Below.alloc ?_ ?_ _) | (with_reducible exact Below.refl _ _) | (with_reducible exact Nat.le_refl _) | (simp; done) | omega | (simp; omega)))
          clear hK K hHeld1
          (try simp only [Act.put, List.setIfInBounds_toArray, List.set_cons_zero, List.set_cons_succ, List.getElem_toArray, List.getElem_cons_zero, List.getElem_cons_succ])
          refine wpAnyH_ready (rs := [16]) (by kernel_rfl) (by simp) ?_
          refine AllReadyH.cons rfl (fun K hK => ?_) ?_
          · (refine append_step (W0 := wo) [.int .i64 x, .int .i64 y] (k2 + 1) _ _ _ 2 16 infoCT Try.underlying66 rfl (by decide) _ _ _ HW.out.drew ((Below.refl _ _).drew) hz1 rfl (by simp [Value.oneCell']) (by omega) (by decide) rfl _ _ rfl rfl rfl ?_; intro v1 w4 hown4 hb4 hg4 hor4; obtain ⟨p1, q1, rfl, -, -, -⟩ := CellsOff.own hown4 [] (by simp); have HO4 := Lib.hid hown4; have HB4 := Lib.hid hb4; have hb4' := hb4.mono (Nat.le_succ k2); have hO4 := Below.at hb4 HO.out (Nat.lt_succ_self _); have f4 := fun j => cell_at hO4 j; have u4 := fun j => frozen_at hO4 j; have HO4b := Lib.hid hO4; clear hown4 hb4 hg4 hor4 hO4)
            refine hK.out _ _ ?_ (fun hHeld3 => ?_)
            · (try dsimp only); exact HY.out _ (by repeat' (first | (with_reducible assumption) | (with_reducible refine below_setRowN ?_ ?_ _) | (with_reducible refine Below.setCell ?_ ?_ _) | (with_reducible refine below_drewN' ?_ _) | (with_reducible refine Below.drew ?_) | (with_reducible refine Below.alloc ?_ ?_ _) | (with_reducible exact Below.refl _ _) | (with_reducible exact Nat.le_refl _) | (simp; done) | omega | (simp; omega)))
            clear hK K hHeld2
            (try simp only [Act.put, List.setIfInBounds_toArray, List.set_cons_zero, List.set_cons_succ, List.getElem_toArray, List.getElem_cons_zero, List.getElem_cons_succ])
            refine wpAnyH_take (i := 17) (v := ?_) rfl (by kernel_rfl) (by kernel_rfl) (by kernel_rfl) (fun _ _ _ h => h) (Or.inl ⟨by rfl, ?_⟩) (by assumption) ?_
            rotate_left
            · (intro w hSw; (try dsimp only at hSw); go_simp; try with_reducible rfl)
            (try simp only [Act.put, List.setIfInBounds_toArray, List.set_cons_zero, List.set_cons_succ, List.getElem_toArray, List.getElem_cons_zero, List.getElem_cons_succ])
            refine wpAnyH_ready (rs := [18]) (by kernel_rfl) (by simp) ?_
            refine AllReadyH.cons rfl (fun K hK => ?_) ?_
            · go_simp
              refine hK.out _ _ ?_ (fun hHeld4 => ?_)
              · (try dsimp only); exact HY.out _ (by repeat' (first | (with_reducible assumption) | (with_reducible refine below_setRowN ?_ ?_ _) | (with_reducible refine Below.setCell ?_ ?_ _) | (with_reducible refine below_drewN' ?_ _) | (with_reducible refine Below.drew ?_) | (with_reducible refine Below.alloc ?_ ?_ _) | (with_reducible exact Below.refl _ _) | (with_reducible exact Nat.le_refl _) | (simp; done) | omega | (simp; omega)))
              clear hK K hHeld3
              (try simp only [Act.put, List.setIfInBounds_toArray, List.set_cons_zero, List.set_cons_succ, List.getElem_toArray, List.getElem_cons_zero, List.getElem_cons_succ])
              refine wpAnyH_done (by kernel_rfl) ?_ _
              go_wp2
              go_roundw
              case rel => exact ⟨m + 1, .slice p1 (m + 1) q1, by omega, by go_num, set_at HO4b.out 2 _, by rw [HS.out]; exact ownsRow_only (S := [k2]) HO4.out ((Only.refl _ _).setCell (by simp) _) (by simp), set_other (Below.at HB4.out HA.out (by omega)) (by omega) _ _, set_other (Below.at HB4.out HZ.out (by omega)) (by omega) _ _, (HB.out.trans (HB4.out.mono (by omega))).setCell (by simp; omega) _⟩
              case measure => simp [intOf]; omega
            exact AllReadyH.nil
          exact AllReadyH.nil
        exact AllReadyH.nil
      exact AllReadyH.nil
    · obtain rfl : m = L := by omega
      obtain ⟨p1, q1, rfl, -, -, -⟩ := CellsOff.own hown [] (by simp)
      have HO := Lib.hid hO
      have HW := Lib.hid hown
      have HB := Lib.hid hb
      have HA := Lib.hid hA
      have HZ := Lib.hid hZ
      have fz := fun j => cell_at hZ j
      have uz := fun j => frozen_at hZ j
      have hne : w.heap.size + 1 ≠ k2 := by omega
      clear hown hb hO hA hZ
      have hmx : ¬ ((m : Int) < (heads.length : Int)) ∨ ((m : Int) < (heads.length : Int) ∧ (m : Int) = 12) := by rcases HL3.out with hx | ⟨hx1, hx2⟩ <;> omega
      rcases hmx with hmI | ⟨hmI, hm6e⟩
      rotate_left
      · have hm6 : ¬ ((m : Int) < 12) := by omega
        clear hm6e
        go_wp2
        refine bodyPost_ret (results_cell_row rfl _ _ (w.heap.size + 1) 68 _ (0, 0) _ rfl (stored4 HZ.out) Try.underlying68 rfl (by kernel_rfl)) rfl ⟨.slice p1 m q1, rfl, ?_, ?_⟩
        · exact owns_base (ownsRow_only (S := [w.heap.size + 1]) HW.out (by repeat' (first | (with_reducible assumption) | (with_reducible refine only_setRowN ?_ ?_ _) | (with_reducible exact Only.refl _ _) | (with_reducible refine Only.setCell ?_ ?_ _) | (with_reducible refine Only.drewN ?_ _) | (with_reducible refine Only.drew ?_) | (with_reducible refine Only.alloc ?_ _) | (simp; done) | (simp; omega))) (by simp; omega)) (by omega)
        · have hB := HB.out
          repeat' (first | (with_reducible assumption) | (with_reducible refine below_setRowN ?_ ?_ _) | (with_reducible refine Below.setCell ?_ ?_ _) | (with_reducible refine below_drewN' ?_ _) | (with_reducible refine Below.drew ?_) | (with_reducible refine Below.alloc ?_ ?_ _) | (with_reducible exact Below.refl _ _) | (with_reducible exact Nat.le_refl _) | (simp; done) | omega | (simp; omega))
      · go_wp2
        refine bodyPost_ret (results_cell_row rfl _ _ (w.heap.size + 1) 68 _ (0, 0) _ rfl (stored4 HZ.out) Try.underlying68 rfl (by kernel_rfl)) rfl ⟨.slice p1 m q1, rfl, ?_, ?_⟩
        · exact owns_base (ownsRow_only (S := [w.heap.size + 1]) HW.out (by repeat' (first | (with_reducible assumption) | (with_reducible refine only_setRowN ?_ ?_ _) | (with_reducible exact Only.refl _ _) | (with_reducible refine Only.setCell ?_ ?_ _) | (with_reducible refine Only.drewN ?_ _) | (with_reducible refine Only.drew ?_) | (with_reducible refine Only.alloc ?_ _) | (simp; done) | (simp; omega))) (by simp; omega)) (by omega)
        · have hB := HB.out
          repeat' (first | (with_reducible assumption) | (with_reducible refine below_setRowN ?_ ?_ _) | (with_reducible refine Below.setCell ?_ ?_ _) | (with_reducible refine below_drewN' ?_ _) | (with_reducible refine Below.drew ?_) | (with_reducible refine Below.alloc ?_ ?_ _) | (with_reducible exact Below.refl _ _) | (with_reducible exact Nat.le_refl _) | (simp; done) | omega | (simp; omega))
set_option maxRecDepth 100000 in
set_option maxHeartbeats 4000000 in
theorem as10 (p : Pa) (a : Option Addr) (c : Nat) (w : World) (h : CellsOff w a (flatT p.heads) []) (hn : p.heads.length ≤ 1000000) :
    Calls Try.prog 42 #[p.val (.slice a p.heads.length c)] w fun e w' => ∃ v, e = .returned ((p).val v) ∧ w'.ownsRow w.heap.size 115 2 v (p).heads.length (flatT (p).heads) ∧ Below w.heap.size w w' := by
  obtain ⟨src, cast, heads, data⟩ := p
  dsimp only at *
  have HC := Lib.hid (fun i hi => head_cell (i := i) h hi)
  clear h
  unfold Pa.val
  go_enter Try.func42, Try.ntmps42
  go_upto_region 1 with (fail)
  have hA := alloc_new (w := w) (.cells #[.int .i64 src, .bool cast, .slice a heads.length c, .string data] 68)
  have hA := alloc_old hA (.cells #[.int .i64 0, .bool false, .slice none 0 0, .string ⟨#[]⟩] 60)
  have hZ := alloc_at (w := w.alloc (.cells #[.int .i64 src, .bool cast, .slice a heads.length c, .string data] 68)) (.cells #[.int .i64 0, .bool false, .slice none 0 0, .string ⟨#[]⟩] 60) (w.heap.size + 1) (by simp)
  have hB : Below w.heap.size w ((w.alloc (.cells #[.int .i64 src, .bool cast, .slice a heads.length c, .string data] 68)).alloc (.cells #[.int .i64 0, .bool false, .slice none 0 0, .string ⟨#[]⟩] 60)) := by repeat' (first | (with_reducible assumption) | (with_reducible refine below_setRowN ?_ ?_ _) | (with_reducible refine Below.setCell ?_ ?_ _) | (with_reducible refine below_drewN' ?_ _) | (with_reducible refine Below.drew ?_) | (with_reducible refine Below.alloc ?_ ?_ _) | (with_reducible exact Below.refl _ _) | (with_reducible exact Nat.le_refl _) | (simp; done) | omega | (simp; omega))
  have hz2 : ((w.alloc (.cells #[.int .i64 src, .bool cast, .slice a heads.length c, .string data] 68)).alloc (.cells #[.int .i64 0, .bool false, .slice none 0 0, .string ⟨#[]⟩] 60)).heap.size = w.heap.size + 2 := by simp
  generalize (w.alloc (.cells #[.int .i64 src, .bool cast, .slice a heads.length c, .string data] 68)).alloc (.cells #[.int .i64 0, .bool false, .slice none 0 0, .string ⟨#[]⟩] 60) = w2 at *
  have fA := fun j => cell_at hA j
  have HX : Hid (∀ w', Below w2.heap.size w2 w' → ((∀ j, w'.cell? ⟨w.heap.size, j, none⟩ = (#[.int .i64 src, .bool cast, .slice a heads.length c, .string data] : Array Value)[j]?))) := fun w' hb j => cell_at (Below.at hb hA (block_lt hA)) j
  have HA := Lib.hid hA
  have HZ := Lib.hid hZ
  have HB := Lib.hid hB
  have HZ2 := Lib.hid hz2
  clear hA hZ hB hz2
  have hk2s : w2.heap.size = w.heap.size + 2 := HZ2.out
  obtain ⟨k2, hk2⟩ : ∃ k2, k2 = w2.heap.size := ⟨_, rfl⟩
  have hk3 : w.heap.size + 1 < k2 := by omega
  have HK2 := Lib.hid hk2
  clear hk2s hk2
  go_cut [3] (fun v3 wx => v3 = .pointer (some ⟨k2, 0, none⟩) ∧ wx.heap[k2]? = some (.cells #[.int .i64 src, .bool cast, .slice none 0 0, .string data] 60 (0, 0)) ∧ wx.heap[w.heap.size]? = some (.cells #[.int .i64 src, .bool cast, .slice a heads.length c, .string data] 68 (0, 0)) ∧ wx.heap[w.heap.size + 1]? = some (.cells #[.int .i64 0, .bool false, .slice none 0 0, .string ⟨#[]⟩] 60 (0, 0)) ∧ Below w.heap.size w wx)
  case first =>
    go_wp2
    go_meet
    rw [HK2.out]
    exact ⟨rfl, alloc_new _, alloc_old HA.out _, alloc_old HZ.out _, HB.out.alloc HB.out.size _⟩
  case rest =>
  obtain ⟨rfl, hO, hA3, hZ3, hB3⟩ := hcut
  have HO := Lib.hid hO
  have HA3 := Lib.hid hA3
  have HZ3 := Lib.hid hZ3
  have HB3 := Lib.hid hB3
  clear hO hA3 hZ3 hB3 HA HZ HB HX fA HK2 HZ2
  go_wp2
  go_loopw [4] (fun i wr => ∃ (m : Nat) (v : Value), m ≤ heads.length ∧ i = .int .i64 (m : Int) ∧ wr.heap[k2]? = some (.cells #[.int .i64 src, .bool cast, v, .string data] 60 (0, 0)) ∧ wr.ownsRow (k2 + 1) 115 2 v m (flatT (heads.take m)) ∧ wr.heap[w.heap.size]? = some (.cells #[.int .i64 src, .bool cast, .slice a heads.length c, .string data] 68 (0, 0)) ∧ wr.heap[w.heap.size + 1]? = some (.cells #[.int .i64 0, .bool false, .slice none 0 0, .string ⟨#[]⟩] 60 (0, 0)) ∧ Below w.heap.size w wr) (fun i _ => heads.length - (intOf i).toNat)
  case atStart => exact ⟨0, .slice none 0 0, by omega, rfl, HO.out, World.ownsRow_nil _ _ _ _, HA3.out, HZ3.out, HB3.out⟩
  case round =>
    clear HO HA3 HZ3 HB3
    obtain ⟨m, v, hm, rfl, hO, hown, hA, hZ, hb⟩ := hrel
    obtain ⟨wo, rfl⟩ : ∃ x : World, x = wr := ⟨_, rfl⟩
    have hlo := block_lt hO
    have f0 := fun j => cell_at hA j
    have f1 := fun j => cell_at hO j
    have u1 := fun j => frozen_at hO j
    by_cases hml : m < heads.length
    · obtain ⟨blk, off, rfl, hlt, c0, c1⟩ := HC.out m (by omega)
      have HS : Hid (flatT (heads.take (m + 1)) = flatT (heads.take m) ++ (heads.getD m T2.zero).cells) := (by rw [take_snocD (by omega) T2.zero]; exact flat_snoc _ _ _)
      generalize heads.getD m T2.zero = t at *
      obtain ⟨x, y⟩ := t
      dsimp only at c0 c1
      have HY : Hid (∀ w', Below k2 wo w' → ((∀ j, w'.cell? ⟨w.heap.size, j, none⟩ = (#[.int .i64 src, .bool cast, .slice (some ⟨blk, off, none⟩) heads.length c, .string data] : Array Value)[j]?) ∧ w'.cell? ⟨blk, off + m * 2, none⟩ = some (.int .i64 x) ∧ w'.cell? ⟨blk, off + m * 2 + 1, none⟩ = some (.int .i64 y))) := fun w' hb' => by
        have h2 : Below w.heap.size w w' := hb.trans (hb'.mono (by omega))
        exact ⟨fun j => cell_at (Below.at hb' hA (by omega)) j, (h2.cell (p := ⟨blk, _, none⟩) hlt).trans c0, (h2.cell (p := ⟨blk, _, none⟩) hlt).trans c1⟩
      have hmI : (m : Int) < (heads.length : Int) := by omega
      have HO := Lib.hid hO
      have HW := Lib.hid hown
      have HB := Lib.hid hb
      have HA := Lib.hid hA
      have HZ := Lib.hid hZ
      clear c0 c1 hown hb hO hA hZ
      have hz1 : k2 + 1 ≤ wo.heap.size := by omega
      go_upto_region 5 with (fail)
      refine wp_region_held_drew (S := (fun w' => ((∀ j, w'.cell? ⟨w.heap.size, j, none⟩ = (#[.int .i64 src, .bool cast, .slice (some ⟨blk, off, none⟩) heads.length c, .string data] : Array Value)[j]?) ∧ w'.cell? ⟨blk, off + m * 2, none⟩ = some (.int .i64 x) ∧ w'.cell? ⟨blk, off + m * 2 + 1, none⟩ = some (.int .i64 y)))) (by kernel_rfl) ?_ (fun hHeld0 => ?_)
      · (try dsimp only); exact HY.out _ (by repeat' (first | (with_reducible assumption) | (with_reducible refine below_setRowN ?_ ?_ _) | (with_reducible refine Below.setCell ?_ ?_ _) | (with_reducible refine below_drewN' ?_ _) | (with_reducible refine Below.drew ?_) | (with_reducible refine Below.alloc ?_ ?_ _) | (with_reducible exact Below.refl _ _) | (with_reducible exact Nat.le_refl _) | (simp; done) | omega | (simp; omega)))
      refine wpAnyH_take (i := 0) (v := ?_) rfl (by kernel_rfl) (by kernel_rfl) (by kernel_rfl) (fun _ _ _ h => h) (Or.inl ⟨by rfl, ?_⟩) (by assumption) ?_
      rotate_left
      · (intro w hSw; (try dsimp only at hSw); go_simp; try with_reducible rfl)
      (try simp only [Act.put, List.setIfInBounds_toArray, List.set_cons_zero, List.set_cons_succ, List.getElem_toArray, List.getElem_cons_zero, List.getElem_cons_succ])
      refine wpAnyH_take (i := 2) (v := ?_) rfl (by kernel_rfl) (by kernel_rfl) (by kernel_rfl) (fun _ _ _ h => h) (Or.inl ⟨by rfl, ?_⟩) (by assumption) ?_
      rotate_left
      · (intro w hSw; (try dsimp only at hSw); go_simp; try with_reducible rfl)
      (try simp only [Act.put, List.setIfInBounds_toArray, List.set_cons_zero, List.set_cons_succ, List.getElem_toArray, List.getElem_cons_zero, List.getElem_cons_succ])
      refine wpAnyH_take (i := 3) (v := ?_) rfl (by kernel_rfl) (by kernel_rfl) (by kernel_rfl) (fun _ _ _ h => h) (Or.inl ⟨by rfl, ?_⟩) (by assumption) ?_
      rotate_left
      · (intro w hSw; (try dsimp only at hSw); go_simp; try with_reducible rfl)
      (try simp only [Act.put, List.setIfInBounds_toArray, List.set_cons_zero, List.set_cons_succ, List.getElem_toArray, List.getElem_cons_zero, List.getElem_cons_succ])
      refine wpAnyH_take (i := 4) (v := ?_) rfl (by kernel_rfl) (by kernel_rfl) (by kernel_rfl) (fun _ _ _ h => h) (Or.inl ⟨by rfl, ?_⟩) (by assumption) ?_
      rotate_left
      · (intro w hSw; (try dsimp only at hSw); go_simp; try with_reducible rfl)
      (try simp only [Act.put, List.setIfInBounds_toArray, List.set_cons_zero, List.set_cons_succ, List.getElem_toArray, List.getElem_cons_zero, List.getElem_cons_succ])
      refine wpAnyH_take (i := 5) (v := ?_) rfl (by kernel_rfl) (by kernel_rfl) (by kernel_rfl) (fun _ _ _ h => h) (Or.inl ⟨by rfl, ?_⟩) (by assumption) ?_
      rotate_left
      · (intro w hSw; (try dsimp only at hSw); go_simp; try with_reducible rfl)
      (try simp only [Act.put, List.setIfInBounds_toArray, List.set_cons_zero, List.set_cons_succ, List.getElem_toArray, List.getElem_cons_zero, List.getElem_cons_succ])
      refine wpAnyH_take (i := 6) (v := ?_) rfl (by kernel_rfl) (by kernel_rfl) (by kernel_rfl) (fun _ _ _ h => h) (Or.inl ⟨by rfl, ?_⟩) (by assumption) ?_
      rotate_left
      · (intro w hSw; (try dsimp only at hSw); go_simp; try with_reducible rfl)
      (try simp only [Act.put, List.setIfInBounds_toArray, List.set_cons_zero, List.set_cons_succ, List.getElem_toArray, List.getElem_cons_zero, List.getElem_cons_succ])
      refine wpAnyH_take (i := 7) (v := ?_) rfl (by kernel_rfl) (by kernel_rfl) (by kernel_rfl) (fun _ _ _ h => h) (Or.inl ⟨by rfl, ?_⟩) (by assumption) ?_
      rotate_left
      · (intro w hSw; (try dsimp only at hSw); go_simp; try with_reducible rfl)
      (try simp only [Act.put, List.setIfInBounds_toArray, List.set_cons_zero, List.set_cons_succ, List.getElem_toArray, List.getElem_cons_zero, List.getElem_cons_succ])
      refine wpAnyH_take (i := 8) (v := ?_) rfl (by kernel_rfl) (by kernel_rfl) (by kernel_rfl) (fun _ _ _ h => h) (Or.inl ⟨by rfl, ?_⟩) (by assumption) ?_
      rotate_left
      · (intro w hSw; (try dsimp only at hSw); go_simp; try with_reducible rfl)
      (try simp only [Act.put, List.setIfInBounds_toArray, List.set_cons_zero, List.set_cons_succ, List.getElem_toArray, List.getElem_cons_zero, List.getElem_cons_succ])
      refine wpAnyH_take (i := 9) (v := ?_) rfl (by kernel_rfl) (by kernel_rfl) (by kernel_rfl) (fun _ _ _ h => h) (Or.inl ⟨by rfl, ?_⟩) (by assumption) ?_
      rotate_left
      · (intro w hSw; (try dsimp only at hSw); go_simp; try with_reducible rfl)
      (try simp only [Act.put, List.setIfInBounds_toArray, List.set_cons_zero, List.set_cons_succ, List.getElem_toArray, List.getElem_cons_zero, List.getElem_cons_succ])
      refine wpAnyH_take (i := 10) (v := ?_) rfl (by kernel_rfl) (by kernel_rfl) (by kernel_rfl) (fun _ _ _ h => h) (Or.inl ⟨by rfl, ?_⟩) (by assumption) ?_
      rotate_left
      · (intro w hSw; (try dsimp only at hSw); go_simp; try with_reducible rfl)
      (try simp only [Act.put, List.setIfInBounds_toArray, List.set_cons_zero, List.set_cons_succ, List.getElem_toArray, List.getElem_cons_zero, List.getElem_cons_succ])
      refine wpAnyH_take (i := 11) (v := ?_) rfl (by kernel_rfl) (by kernel_rfl) (by kernel_rfl) (fun _ _ _ h => h) (Or.inl ⟨by rfl, ?_⟩) (by assumption) ?_
      rotate_left
      · (intro w hSw; (try dsimp only at hSw); go_simp; try with_reducible rfl)
      (try simp only [Act.put, List.setIfInBounds_toArray, List.set_cons_zero, List.set_cons_succ, List.getElem_toArray, List.getElem_cons_zero, List.getElem_cons_succ])
      refine wpAnyH_take (i := 12) (v := ?_) rfl (by kernel_rfl) (by kernel_rfl) (by kernel_rfl) (fun _ _ _ h => h) (Or.inl ⟨by rfl, ?_⟩) (by assumption) ?_
      rotate_left
      · (intro w hSw; (try dsimp only at hSw); go_simp; try with_reducible rfl)
      (try simp only [Act.put, List.setIfInBounds_toArray, List.set_cons_zero, List.set_cons_succ, List.getElem_toArray, List.getElem_cons_zero, List.getElem_cons_succ])
      refine wpAnyH_take (i := 13) (v := ?_) rfl (by kernel_rfl) (by kernel_rfl) (by kernel_rfl) (fun _ _ _ h => h) (Or.inl ⟨by rfl, ?_⟩) (by assumption) ?_
      rotate_left
      · (intro w hSw; (try dsimp only at hSw); go_simp; try with_reducible rfl)
      (try simp only [Act.put, List.setIfInBounds_toArray, List.set_cons_zero, List.set_cons_succ, List.getElem_toArray, List.getElem_cons_zero, List.getElem_cons_succ])
      refine wpAnyH_take (i := 14) (v := ?_) rfl (by kernel_rfl) (by kernel_rfl) (by kernel_rfl) (fun _ _ _ h => h) (Or.inl ⟨by rfl, ?_⟩) (by assumption) ?_
      rotate_left
      · (intro w hSw; (try dsimp only at hSw); go_simp; try with_reducible rfl)
      (try simp only [Act.put, List.setIfInBounds_toArray, List.set_cons_zero, List.set_cons_succ, List.getElem_toArray, List.getElem_cons_zero, List.getElem_cons_succ])
      refine wpAnyH_ready (rs := [1, 15]) (by kernel_rfl) (by simp) ?_
      refine AllReadyH.cons rfl (fun K hK => ?_) ?_
      · go_simp
        refine hK.out _ _ ?_ (fun hHeld1 => ?_)
        · (try dsimp only); exact HY.out _ (by repeat' (first | (with_reducible assumption) | (with_reducible refine below_setRowN ?_ ?_ _) | (with_reducible refine Below.setCell ?_ ?_ _) | (with_reducible refine below_drewN' ?_ _) | (with_reducible refine Below.drew ?_) | (with_reducible refine Below.alloc ?_ ?_ _) | (with_reducible exact Below.refl _ _) | (with_reducible exact Nat.le_refl _) | (simp; done) | omega | (simp; omega)))
        clear hK K hHeld0
        (try simp only [Act.put, List.setIfInBounds_toArray, List.set_cons_zero, List.set_cons_succ, List.getElem_toArray, List.getElem_cons_zero, List.getElem_cons_succ])
        refine wpAnyH_ready (rs := [15]) (by kernel_rfl) (by simp) ?_
        refine AllReadyH.cons rfl (fun K hK => ?_) ?_
        · go_simp
          refine hK.out _ _ ?_ (fun hHeld2 => ?_)
          · (try dsimp only); exact HY.out _ (by repeat' (first | (with_reducible assumption) | (with_reducible refine below_setRowN ?_ ?_ _) | (with_reducible refine Below.setCell ?_ ?_ _) | (with_reducible refine below_drewN' ?_ _) | (with_reducible refine Below.drew ?_) | (with_reducible refine Below.alloc ?_ ?_ _) | (with_reducible exact Below.refl _ _) | (with_reducible exact Nat.le_refl _) | (simp; done) | omega | (simp; omega)))
          clear hK K hHeld1
          (try simp only [Act.put, List.setIfInBounds_toArray, List.set_cons_zero, List.set_cons_succ, List.getElem_toArray, List.getElem_cons_zero, List.getElem_cons_succ])
          refine wpAnyH_ready (rs := [16]) (by kernel_rfl) (by simp) ?_
          refine AllReadyH.cons rfl (fun K hK => ?_) ?_
          · (refine append_step (W0 := wo) [.int .i64 x, .int .i64 y] (k2 + 1) _ _ _ 2 16 infoT2 Try.underlying58 rfl (by decide) _ _ _ HW.out.drew ((Below.refl _ _).drew) hz1 rfl (by simp [Value.oneCell']) (by omega) (by decide) rfl _ _ rfl rfl rfl ?_; intro v1 w4 hown4 hb4 hg4 hor4; obtain ⟨p1, q1, rfl, -, -, -⟩ := CellsOff.own hown4 [] (by simp); have HO4 := Lib.hid hown4; have HB4 := Lib.hid hb4; have hb4' := hb4.mono (Nat.le_succ k2); have hO4 := Below.at hb4 HO.out (Nat.lt_succ_self _); have f4 := fun j => cell_at hO4 j; have u4 := fun j => frozen_at hO4 j; have HO4b := Lib.hid hO4; clear hown4 hb4 hg4 hor4 hO4)
            refine hK.out _ _ ?_ (fun hHeld3 => ?_)
            · (try dsimp only); exact HY.out _ (by repeat' (first | (with_reducible assumption) | (with_reducible refine below_setRowN ?_ ?_ _) | (with_reducible refine Below.setCell ?_ ?_ _) | (with_reducible refine below_drewN' ?_ _) | (with_reducible refine Below.drew ?_) | (with_reducible refine Below.alloc ?_ ?_ _) | (with_reducible exact Below.refl _ _) | (with_reducible exact Nat.le_refl _) | (simp; done) | omega | (simp; omega)))
            clear hK K hHeld2
            (try simp only [Act.put, List.setIfInBounds_toArray, List.set_cons_zero, List.set_cons_succ, List.getElem_toArray, List.getElem_cons_zero, List.getElem_cons_succ])
            refine wpAnyH_take (i := 17) (v := ?_) rfl (by kernel_rfl) (by kernel_rfl) (by kernel_rfl) (fun _ _ _ h => h) (Or.inl ⟨by rfl, ?_⟩) (by assumption) ?_
            rotate_left
            · (intro w hSw; (try dsimp only at hSw); go_simp; try with_reducible rfl)
            (try simp only [Act.put, List.setIfInBounds_toArray, List.set_cons_zero, List.set_cons_succ, List.getElem_toArray, List.getElem_cons_zero, List.getElem_cons_succ])
            refine wpAnyH_ready (rs := [18]) (by kernel_rfl) (by simp) ?_
            refine AllReadyH.cons rfl (fun K hK => ?_) ?_
            · go_simp
              refine hK.out _ _ ?_ (fun hHeld4 => ?_)
              · (try dsimp only); exact HY.out _ (by repeat' (first | (with_reducible assumption) | (with_reducible refine below_setRowN ?_ ?_ _) | (with_reducible refine Below.setCell ?_ ?_ _) | (with_reducible refine below_drewN' ?_ _) | (with_reducible refine Below.drew ?_) | (with_reducible refine Below.alloc ?_ ?_ _) | (with_reducible exact Below.refl _ _) | (with_reducible exact Nat.le_refl _) | (simp; done) | omega | (simp; omega)))
              clear hK K hHeld3
              (try simp only [Act.put, List.setIfInBounds_toArray, List.set_cons_zero, List.set_cons_succ, List.getElem_toArray, List.getElem_cons_zero, List.getElem_cons_succ])
              refine wpAnyH_done (by kernel_rfl) ?_ _
              go_wp2
              go_roundw
              case rel => exact ⟨m + 1, .slice p1 (m + 1) q1, by omega, by go_num, set_at HO4b.out 2 _, by rw [HS.out]; exact ownsRow_only (S := [k2]) HO4.out ((Only.refl _ _).setCell (by simp) _) (by simp), set_other (Below.at HB4.out HA.out (by omega)) (by omega) _ _, set_other (Below.at HB4.out HZ.out (by omega)) (by omega) _ _, (HB.out.trans (HB4.out.mono (by omega))).setCell (by simp; omega) _⟩
              case measure => simp [intOf]; omega
            exact AllReadyH.nil
          exact AllReadyH.nil
        exact AllReadyH.nil
      refine AllReadyH.cons rfl (fun K hK => ?_) ?_
      · go_simp
        refine hK.out _ _ ?_ (fun hHeld1 => ?_)
        · (try dsimp only); exact HY.out _ (by repeat' (first | (with_reducible assumption) | (with_reducible refine below_setRowN ?_ ?_ _) | (with_reducible refine Below.setCell ?_ ?_ _) | (with_reducible refine below_drewN' ?_ _) | (with_reducible refine Below.drew ?_) | (with_reducible refine Below.alloc ?_ ?_ _) | (with_reducible exact Below.refl _ _) | (with_reducible exact Nat.le_refl _) | (simp; done) | omega | (simp; omega)))
        clear hK K hHeld0
        (try simp only [Act.put, List.setIfInBounds_toArray, List.set_cons_zero, List.set_cons_succ, List.getElem_toArray, List.getElem_cons_zero, List.getElem_cons_succ])
        refine wpAnyH_ready (rs := [1]) (by kernel_rfl) (by simp) ?_
        refine AllReadyH.cons rfl (fun K hK => ?_) ?_
        · go_simp
          refine hK.out _ _ ?_ (fun hHeld2 => ?_)
          · (try dsimp only); exact HY.out _ (by repeat' (first | (with_reducible assumption) | (with_reducible refine below_setRowN ?_ ?_ _) | (with_reducible refine Below.setCell ?_ ?_ _) | (with_reducible refine below_drewN' ?_ _) | (with_reducible refine Below.drew ?_) | (with_reducible refine Below.alloc ?_ ?_ _) | (with_reducible exact Below.refl _ _) | (with_reducible exact Nat.le_refl _) | (simp; done) | omega | (simp; omega)))
          clear hK K hHeld1
          (try simp only [Act.put, List.setIfInBounds_toArray, List.set_cons_zero, List.set_cons_succ, List.getElem_toArray, List.getElem_cons_zero, List.getElem_cons_succ])
          refine wpAnyH_ready (rs := [16]) (by kernel_rfl) (by simp) ?_
          refine AllReadyH.cons rfl (fun K hK => ?_) ?_
          · (refine append_step (W0 := wo) [.int .i64 x, .int .i64 y] (k2 + 1) _ _ _ 2 16 infoT2 Try.underlying58 rfl (by decide) _ _ _ HW.out.drew ((Below.refl _ _).drew) hz1 rfl (by simp [Value.oneCell']) (by omega) (by decide) rfl _ _ rfl rfl rfl ?_; intro v1 w4 hown4 hb4 hg4 hor4; obtain ⟨p1, q1, rfl, -, -, -⟩ := CellsOff.own hown4 [] (by simp); have HO4 := Lib.hid hown4; have HB4 := Lib.hid hb4; have hb4' := hb4.mono (Nat.le_succ k2); have hO4 := Below.at hb4 HO.out (Nat.lt_succ_self _); have f4 := fun j => cell_at hO4 j; have u4 := fun j => frozen_at hO4 j; have HO4b := Lib.hid hO4; clear hown4 hb4 hg4 hor4 hO4)
            refine hK.out _ _ ?_ (fun hHeld3 => ?_)
            · (try dsimp only); exact HY.out _ (by repeat' (first | (with_reducible assumption) | (with_reducible refine below_setRowN ?_ ?_ _) | (with_reducible refine Below.setCell ?_ ?_ _) | (with_reducible refine below_drewN' ?_ _) | (with_reducible refine Below.drew ?_) | (with_reducible refine Below.alloc ?_ ?_ _) | (with_reducible exact Below.refl _ _) | (with_reducible exact Nat.le_refl _) | (simp; done) | omega | (simp; omega)))
            clear hK K hHeld2
            (try simp only [Act.put, List.setIfInBounds_toArray, List.set_cons_zero, List.set_cons_succ, List.getElem_toArray, List.getElem_cons_zero, List.getElem_cons_succ])
            refine wpAnyH_take (i := 17) (v := ?_) rfl (by kernel_rfl) (by kernel_rfl) (by kernel_rfl) (fun _ _ _ h => h) (Or.inl ⟨by rfl, ?_⟩) (by assumption) ?_
            rotate_left
            · (intro w hSw; (try dsimp only at hSw); go_simp; try with_reducible rfl)
            (try simp only [Act.put, List.setIfInBounds_toArray, List.set_cons_zero, List.set_cons_succ, List.getElem_toArray, List.getElem_cons_zero, List.getElem_cons_succ])
            refine wpAnyH_ready (rs := [18]) (by kernel_rfl) (by simp) ?_
            refine AllReadyH.cons rfl (fun K hK => ?_) ?_
            · go_simp
              refine hK.out _ _ ?_ (fun hHeld4 => ?_)
              · (try dsimp only); exact HY.out _ (by repeat' (first | (with_reducible assumption) | (with_reducible refine below_setRowN ?_ ?_ _) | (with_reducible refine Below.setCell ?_ ?_ _) | (with_reducible refine below_drewN' ?_ _) | (with_reducible refine Below.drew ?_) | (with_reducible refine Below.alloc ?_ ?_ _) | (with_reducible exact Below.refl _ _) | (with_reducible exact Nat.le_refl _) | (simp; done) | omega | (simp; omega)))
              clear hK K hHeld3
              (try simp only [Act.put, List.setIfInBounds_toArray, List.set_cons_zero, List.set_cons_succ, List.getElem_toArray, List.getElem_cons_zero, List.getElem_cons_succ])
              refine wpAnyH_done (by kernel_rfl) ?_ _
              go_wp2
              go_roundw
              case rel => exact ⟨m + 1, .slice p1 (m + 1) q1, by omega, by go_num, set_at HO4b.out 2 _, by rw [HS.out]; exact ownsRow_only (S := [k2]) HO4.out ((Only.refl _ _).setCell (by simp) _) (by simp), set_other (Below.at HB4.out HA.out (by omega)) (by omega) _ _, set_other (Below.at HB4.out HZ.out (by omega)) (by omega) _ _, (HB.out.trans (HB4.out.mono (by omega))).setCell (by simp; omega) _⟩
              case measure => simp [intOf]; omega
            exact AllReadyH.nil
          exact AllReadyH.nil
        exact AllReadyH.nil
      exact AllReadyH.nil
    · obtain rfl : m = heads.length := by omega
      obtain ⟨p1, q1, rfl, -, -, -⟩ := CellsOff.own hown [] (by simp)
      have HO := Lib.hid hO
      have HW := Lib.hid hown
      have HB := Lib.hid hb
      have HA := Lib.hid hA
      have HZ := Lib.hid hZ
      have fz := fun j => cell_at hZ j
      have uz := fun j => frozen_at hZ j
      have hne : w.heap.size + 1 ≠ k2 := by omega
      clear hown hb hO hA hZ
      have hmI : ¬ ((heads.length : Int) < (heads.length : Int)) := by omega
      go_wp2
      refine bodyPost_ret (results_cell_row rfl _ _ (w.heap.size + 1) 60 _ (0, 0) _ rfl (stored4 HZ.out) Try.underlying60 rfl (by kernel_rfl)) rfl ⟨.slice p1 heads.length q1, rfl, ?_, ?_⟩
      · exact owns_base (ownsRow_only (S := [w.heap.size + 1]) (by have := HW.out; rwa [List.take_length] at this) (by repeat' (first | (with_reducible assumption) | (with_reducible refine only_setRowN ?_ ?_ _) | (with_reducible exact Only.refl _ _) | (with_reducible refine Only.setCell ?_ ?_ _) | (with_reducible refine Only.drewN ?_ _) | (with_reducible refine Only.drew ?_) | (with_reducible refine Only.alloc ?_ _) | (simp; done) | (simp; omega))) (by simp; omega)) (by omega)
      · have hB := HB.out
        repeat' (first | (with_reducible assumption) | (with_reducible refine below_setRowN ?_ ?_ _) | (with_reducible refine Below.setCell ?_ ?_ _) | (with_reducible refine below_drewN' ?_ _) | (with_reducible refine Below.drew ?_) | (with_reducible refine Below.alloc ?_ ?_ _) | (with_reducible exact Below.refl _ _) | (with_reducible exact Nat.le_refl _) | (simp; done) | omega | (simp; omega))
end Go.Proofs.Ytmehfflomgldeab
