/- The reference's Write of a flit that is no Head. -/
import Derived.Test.YtpklblaenfhncaaRefFlitB
namespace Go.Proofs.Ytpklblaenfhncaa
set_option linter.unusedVariables false
open Go.RowKit BM
set_option maxHeartbeats 1000000 in
theorem rwrite_data (kind : Int) (data : ByteArray) (w : World) (h : rightF ⟨kind, 0, 0, 0, 0, false, false, data⟩ = true) (hk1 : ¬ kind = 1) :
    Calls Try.prog 48 #[Fl.val ⟨kind, 0, 0, 0, 0, false, false, data⟩] w fun e w' => e = .returned (.tuple #[.int .u64 (wordF ⟨kind, 0, 0, 0, 0, false, false, data⟩ : Nat), .int .i64 0]) ∧ Below w.heap.size w w' := by
  have HR := Lib.hid h
  obtain ⟨p1, p2, p3⟩ := pack_zero h
  have e1 : sizesF ⟨kind, 0, 0, 0, 0, false, false, data⟩ = 2 :: 3 :: List.replicate data.size 8 := by unfold sizesF; rw [if_neg hk1]
  have e2 : valsF ⟨kind, 0, 0, 0, 0, false, false, data⟩ = kind :: (data.size : Int) :: dataInts data := by unfold valsF; rw [if_neg hk1]
  have HW : Hid (wordF ⟨kind, 0, 0, 0, 0, false, false, data⟩ = sealN (packR (2 :: 3 :: List.replicate data.size 8) (kind :: (data.size : Int) :: dataInts data)).1.toNat) := by unfold Hid wordF; rw [e1, e2]
  rw [e1, e2] at p1 p2 p3
  have hh := h
  unfold rightF at hh
  rw [if_neg hk1, Bool.and_eq_true] at hh
  have hs := hh.2
  simp only [sizeOk, decide_eq_true_eq] at hs
  have hn : data.size ≤ 6 := by omega
  have hk2 : 2 ≤ kind := by omega
  have hk3 : kind ≤ 3 := by omega
  have hne : (kind != 1) = true := by rw [bne_iff_ne]; exact hk1
  have v1 : IntKind.u32.wrap kind = kind := wrap_u32_in (by omega) (by omega)
  have v2 : IntKind.u32.wrap (data.size : Int) = (data.size : Int) := wrap_u32_in (by omega) (by omega)
  have HV : Hid (∀ v ∈ kind :: (data.size : Int) :: dataInts data, 0 ≤ v ∧ v < 4294967296) := by
    intro v hv
    rcases List.mem_cons.1 hv with rfl | hv
    · omega
    rcases List.mem_cons.1 hv with rfl | hv
    · omega
    obtain ⟨c, _, rfl⟩ := List.mem_map.1 hv
    have := c.toNat_lt
    omega
  have HP : Hid (∀ (a : Option Addr) (c : Nat) (a2 : Option Addr) (c2 : Nat) (w : World), IntsAt .i64 w a (2 :: 3 :: List.replicate data.size 8) → IntsAt .u32 w a2 (kind :: (data.size : Int) :: dataInts data) → Calls Try.prog 82 #[.slice a (2 + data.size) c, .slice a2 (2 + data.size) c2] w fun e w' => e = .returned (.tuple #[.int .u64 (packR (2 :: 3 :: List.replicate data.size 8) (kind :: (data.size : Int) :: dataInts data)).1, .int .i64 (packR (2 :: 3 :: List.replicate data.size 8) (kind :: (data.size : Int) :: dataInts data)).2]) ∧ ∃ k, w' = w.drewN k) := fun a c a2 c2 w hr hr2 => by
    have e3 : (2 :: 3 :: List.replicate data.size (8 : Int)).length = 2 + data.size := by simp; omega
    have e4 : (kind :: (data.size : Int) :: dataInts data).length = 2 + data.size := by simp [dataInts_len]; omega
    have := rpack_calls a c (2 :: 3 :: List.replicate data.size 8) a2 c2 (kind :: (data.size : Int) :: dataInts data) w (by rw [e3]; unfold maxLen; omega) hr (by rw [e4]; unfold maxLen; omega) hr2 HV.out
    rwa [e3, e4] at this
  generalize packR (2 :: 3 :: List.replicate data.size 8) (kind :: (data.size : Int) :: dataInts data) = pr at *
  obtain ⟨pw, pe⟩ := pr
  dsimp only at p1 p2 p3 HP HW
  subst p1
  have HS := Lib.hid (fun w => rseal_calls pw w p2 p3)
  clear h hh hs hk1 e1 e2 HV
  unfold Fl.val
  go_enter Try.func48, Try.ntmps48
  go_wp2_with (first
    | (go_at_call 80; ((with_reducible refine (rright3_calls ⟨kind, 0, 0, 0, 0, false, false, data⟩ _).mono ?_); rintro e w1 ⟨rfl, hB1⟩; rw [HR.out])))
  have hBB : Below (w.heap.size + 1) (w.alloc (.cells #[.int .i64 kind, .int .i64 0, .int .i64 0, .int .i64 0, .int .i64 0, .bool false, .bool false, .string data] 32)) w1 := by simpa using hB1
  have hsz : w.heap.size < w1.heap.size := by have := hBB.size; simp at this; omega
  have hsa : w.heap.size ≤ w1.heap.size := by omega
  have hsb : w.heap.size < w1.heap.size + 1 := by omega
  have hsc : w.heap.size < w1.heap.size + 1 + 1 := by omega
  have hsd : w.heap.size < w1.heap.size + 1 + 1 + 1 := by omega
  have HC : Hid (∀ w', Below (w.heap.size + 1) (w.alloc (.cells #[.int .i64 kind, .int .i64 0, .int .i64 0, .int .i64 0, .int .i64 0, .bool false, .bool false, .string data] 32)) w' → (w'.cell? ⟨w.heap.size, 0, none⟩ = some (.int .i64 kind) ∧ w'.cell? ⟨w.heap.size, 1, none⟩ = some (.int .i64 0) ∧ w'.cell? ⟨w.heap.size, 2, none⟩ = some (.int .i64 0) ∧ w'.cell? ⟨w.heap.size, 3, none⟩ = some (.int .i64 0) ∧ w'.cell? ⟨w.heap.size, 4, none⟩ = some (.int .i64 0) ∧ w'.cell? ⟨w.heap.size, 5, none⟩ = some (.bool false) ∧ w'.cell? ⟨w.heap.size, 6, none⟩ = some (.bool false) ∧ w'.cell? ⟨w.heap.size, 7, none⟩ = some (.string data))) := fun w' hb => ⟨laid_cell hb (by omega) 0, laid_cell hb (by omega) 1, laid_cell hb (by omega) 2, laid_cell hb (by omega) 3, laid_cell hb (by omega) 4, laid_cell hb (by omega) 5, laid_cell hb (by omega) 6, laid_cell hb (by omega) 7⟩
  obtain ⟨c0, c1, c2, c3, c4, c5, c6, c7⟩ := HC.out w1 hBB
  have HBB := Lib.hid hBB
  clear hB1 HR hBB
  go_region_held3 (fun w' => (w'.cell? ⟨w.heap.size, 0, none⟩ = some (.int .i64 kind) ∧ w'.cell? ⟨w.heap.size, 1, none⟩ = some (.int .i64 0) ∧ w'.cell? ⟨w.heap.size, 2, none⟩ = some (.int .i64 0) ∧ w'.cell? ⟨w.heap.size, 3, none⟩ = some (.int .i64 0) ∧ w'.cell? ⟨w.heap.size, 4, none⟩ = some (.int .i64 0) ∧ w'.cell? ⟨w.heap.size, 5, none⟩ = some (.bool false) ∧ w'.cell? ⟨w.heap.size, 6, none⟩ = some (.bool false) ∧ w'.cell? ⟨w.heap.size, 7, none⟩ = some (.string data))) ((refine HC.out _ ?_; have := HBB.out; repeat' (first | (with_reducible exact Below.refl _ _) | (with_reducible assumption) | (with_reducible refine below_drewN' ?_ _) | (with_reducible refine Below.drew ?_) | (with_reducible refine Below.alloc ?_ ?_ _) | (with_reducible exact Nat.le_refl _) | omega | (simp; done) | (simp; omega)))) (first
    | (go_at_call 81; ((with_reducible refine (rone_calls _ _).mono ?_); rintro e w' ⟨rfl, k, rfl⟩)))
  go_wp2
  clear v1 v2
  have HB4 : Hid (∀ w', Below (w.heap.size + 1) (w.alloc (.cells #[.int .i64 kind, .int .i64 0, .int .i64 0, .int .i64 0, .int .i64 0, .bool false, .bool false, .string data] 32)) w' → Below w.heap.size w w') := fun w' hb => Below.trans ((Below.refl _ _).alloc (Nat.le_refl _) _) (hb.mono (by omega))
  go_loopw [4, 5, 6] (fun v u i wr => ∃ m : Nat, m ≤ data.size ∧ i = .int .i64 (m : Int) ∧ Two w.heap.size 3 82 wr v u (2 + m) (2 + m) ((2 :: 3 :: List.replicate m 8).map (Value.int .i64)) ((kind :: (data.size : Int) :: (dataInts data).take m).map (Value.int .u32)) w.heap.size ∧ wr.cell? ⟨w.heap.size, 7, none⟩ = some (.string data) ∧ Below w.heap.size w wr) (fun _ _ i _ => data.size - (intOf i).toNat)
  case atStart =>
    exact ⟨0, by omega, rfl, ⟨ownsRow_lit _ (by omega) (alloc_old (alloc_at _ _ (by simp)) _) rfl (by decide), ownsRow_lit _ (by omega) (alloc_at _ _ (by simp)) rfl (by decide), fun k hk => by simp [Value.ownBlock] at hk ⊢; omega, fun k hk => by simp [Value.ownBlock] at hk; omega, fun k hk => by simp [Value.ownBlock] at hk; omega, by simp; omega⟩, (HC.out _ (by have := HBB.out; repeat' (first | (with_reducible exact Below.refl _ _) | (with_reducible assumption) | (with_reducible refine below_drewN' ?_ _) | (with_reducible refine Below.drew ?_) | (with_reducible refine Below.alloc ?_ ?_ _) | (with_reducible exact Nat.le_refl _) | omega | (simp; done) | (simp; omega)))).2.2.2.2.2.2.2, HB4.out _ (by have := HBB.out; repeat' (first | (with_reducible exact Below.refl _ _) | (with_reducible assumption) | (with_reducible refine below_drewN' ?_ _) | (with_reducible refine Below.drew ?_) | (with_reducible refine Below.alloc ?_ ?_ _) | (with_reducible exact Nat.le_refl _) | omega | (simp; done) | (simp; omega)))⟩
  case round =>
    clear hsa hsb hsc hsd HBB c0 c1 c2 c3 c4 c5 c6 c7 hne
    obtain ⟨m, hm, rfl, hT, hby, hB⟩ := hrel
    by_cases hlm : m < data.size
    · have HQ : Hid ((dataInts data).take (m + 1) = (dataInts data).take m ++ [(data.data[m].toNat : Int)]) := by
        rw [← dataInts_getD data m hlm]; exact take_snoc' (by rw [dataInts_len]; exact hlm)
      have hy1 := data.data[m].toNat_lt
      have hix : data[m] = data.data[m] := rfl
      go_wp2_with (first
        | (at_builtin; refine append_own (W0 := w) [.int .i64 8] w.heap.size _ _ _ 1 8 infoIntF Try.underlying93 rfl (by decide) _ _ _ hT.fst hB hB.size rfl (by simp [Value.oneCell']) (by omega) (by decide) rfl _ _ rfl rfl rfl ?_; intro v1 w6 hown1 hb1 hg1 hor1; have hT1 := hT.first hg1 hor1 hown1; have hby1 := (World.cell?_of_block (a := ⟨w.heap.size, 7, none⟩) (hg1.block _ hT.lt (fun e => hT.nv _ e.symm rfl))).trans hby; clear hT hby hg1 hor1 hown1)
        | (at_builtin; refine append_own (W0 := w) [.int .u32 (data.data[m].toNat : Int)] w.heap.size _ _ _ 1 4 infoU32 Try.underlying90 rfl (by decide) _ _ _ hT1.snd hb1 hb1.size rfl (by simp [Value.oneCell']) (by omega) (by decide) rfl _ _ rfl rfl rfl ?_; intro v2 w7 hown2 hb2 hg2 hor2; have hT2 := hT1.second hg2 hor2 hown2; have hby2 := (World.cell?_of_block (a := ⟨w.heap.size, 7, none⟩) (hg2.block _ hT1.lt (fun e => hT1.nu _ e.symm rfl))).trans hby1; clear hT1 hby1 hg2 hor2 hown2))
      go_roundw
      case rel => ((repeat apply Exists.intro); exact ⟨⟨m + 1, by omega, by go_num, by rw [HQ.out, List.replicate_succ']; simpa [Nat.add_assoc] using hT2, hby2, hb2⟩, rfl⟩)
      case measure => simp [intOf] <;> omega
    · obtain rfl : m = data.size := by omega
      obtain ⟨a3, c3, rfl, hr3⟩ := IntsAt.ofOwn hT.fst
      have hts : (dataInts data).take data.size = dataInts data := List.take_of_length_le (by rw [dataInts_len]; exact Nat.le_refl _)
      have hsnd := hT.snd
      rw [hts] at hsnd
      obtain ⟨a4, c4, rfl, hr4⟩ := IntsAt.ofOwn hsnd
      clear hT hsnd hts
      go_wp2_with (first
        | (go_at_call 82; ((with_reducible refine (HP.out _ _ _ _ _ ?_ ?_).mono ?_); exact hr3; exact hr4; rintro e w' ⟨rfl, k, rfl⟩))
        | (go_at_call 77; ((with_reducible refine (HS.out _).mono ?_); rintro e w' ⟨rfl, k, rfl⟩)))
      go_ret2
      exact ⟨by rw [HW.out]; rfl, by (repeat (first | exact hB | apply below_drewN'))⟩
end Go.Proofs.Ytpklblaenfhncaa
