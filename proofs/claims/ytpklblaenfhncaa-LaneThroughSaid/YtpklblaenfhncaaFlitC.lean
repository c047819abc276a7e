/- flit.Write of a flit that is no Head. -/
import Derived.Test.YtpklblaenfhncaaFlitB
import Derived.Test.YtpklblaenfhncaaStr
import Derived.Test.YtpklblaenfhncaaTwo
namespace Go.Proofs.Ytpklblaenfhncaa
set_option linter.unusedVariables false
open Go.RowKit BM
theorem dataInts_range (s : ByteArray) (i : Nat) (hi : i < s.size) : 0 ≤ (dataInts s).getD i 0 ∧ (dataInts s).getD i 0 < 256 := by
  rw [dataInts_getD s i hi]; have := s.data[i].toNat_lt; omega
theorem IntsAt.getAt {k : IntKind} {w : World} {b : Nat} {l : List Int} (h : IntsAt k w (some ⟨b, 0, none⟩) l) {i : Nat} (hi : i < l.length) : w.cell? ⟨b, i, none⟩ = some (.int k (l.getD i 0)) := by
  obtain ⟨b', off', e, hc⟩ := h i hi
  simp only [Option.some.injEq, Addr.mk.injEq, and_true] at e
  obtain ⟨rfl, rfl⟩ := e
  rwa [Nat.zero_add] at hc
theorem take_snoc' {l : List Int} {m : Nat} (h : m < l.length) : l.take (m + 1) = l.take m ++ [l.getD m 0] := by
  rw [List.take_succ_eq_append_getElem h, List.getD_eq_getElem?_getD, List.getElem?_eq_getElem h]; rfl
theorem infoIntF : (Try.prog.info? 3).map (fun i => (i.zero, i.size, i.bytes)) = some (some (.int .i64 0), 1, 8) := by kernel_rfl
theorem wrap_u8 (c : UInt8) : IntKind.u32.wrap (c.toNat : Int) = (c.toNat : Int) := wrap_u32_in (by omega) (by have := c.toNat_lt; omega)
set_option maxHeartbeats 1000000 in
theorem write_data (kind : Int) (data : ByteArray) (w : World) (h : rightF ⟨kind, 0, 0, 0, 0, false, false, data⟩ = true) (hk1 : ¬ kind = 1) :
    Calls Try.prog 74 #[Fl.val ⟨kind, 0, 0, 0, 0, false, false, data⟩] w fun e w' => e = .returned (.tuple #[.int .u64 (wordF ⟨kind, 0, 0, 0, 0, false, false, data⟩ : Nat), .int .i64 0]) ∧ Below w.heap.size w w' := by
  have HR := Lib.hid h
  obtain ⟨p1, p2, p3⟩ := pack_zero h
  have e1 : sizesF ⟨kind, 0, 0, 0, 0, false, false, data⟩ = 2 :: 3 :: List.replicate data.size 8 := by unfold sizesF; rw [if_neg hk1]
  have e2 : valsF ⟨kind, 0, 0, 0, 0, false, false, data⟩ = kind :: (data.size : Int) :: dataInts data := by unfold valsF; rw [if_neg hk1]
  have HW : Hid (wordF ⟨kind, 0, 0, 0, 0, false, false, data⟩ = sealN (packR (2 :: 3 :: List.replicate data.size 8) (kind :: (data.size : Int) :: dataInts data)).1.toNat) := by unfold Hid wordF; rw [e1, e2]
  rw [e1, e2] at p1 p2 p3
  have hh := h
  unfold rightF at hh
  rw [if_neg hk1, Bool.and_eq_true] at hh
  have hs := hh.2
  simp only [sizeOk, decide_eq_true_eq] at hs
  have hn : data.size ≤ 6 := by omega
  have hk2 : 2 ≤ kind := by omega
  have hk3 : kind ≤ 3 := by omega
  have hne : (kind != 1) = true := by rw [bne_iff_ne]; exact hk1
  have v1 : IntKind.u32.wrap kind = kind := wrap_u32_in (by omega) (by omega)
  have v2 : IntKind.u32.wrap (data.size : Int) = (data.size : Int) := wrap_u32_in (by omega) (by omega)
  have HV : Hid (∀ v ∈ kind :: (data.size : Int) :: dataInts data, 0 ≤ v ∧ v < 4294967296) := by
    intro v hv
    rcases List.mem_cons.1 hv with rfl | hv
    · omega
    rcases List.mem_cons.1 hv with rfl | hv
    · omega
    obtain ⟨c, _, rfl⟩ := List.mem_map.1 hv
    have := c.toNat_lt
    omega
  have HP : Hid (∀ (a : Option Addr) (c : Nat) (a2 : Option Addr) (c2 : Nat) (w : World), IntsAt .i64 w a (2 :: 3 :: List.replicate data.size 8) → IntsAt .u32 w a2 (kind :: (data.size : Int) :: dataInts data) → Calls Try.prog 97 #[.slice a (2 + data.size) c, .slice a2 (2 + data.size) c2] w fun e w' => e = .returned (.tuple #[.int .u64 (packR (2 :: 3 :: List.replicate data.size 8) (kind :: (data.size : Int) :: dataInts data)).1, .int .i64 (packR (2 :: 3 :: List.replicate data.size 8) (kind :: (data.size : Int) :: dataInts data)).2]) ∧ ∃ k, w' = w.drewN k) := fun a c a2 c2 w hr hr2 => by
    have e3 : (2 :: 3 :: List.replicate data.size (8 : Int)).length = 2 + data.size := by simp; omega
    have e4 : (kind :: (data.size : Int) :: dataInts data).length = 2 + data.size := by simp [dataInts_len]; omega
    have := pack_calls a c (2 :: 3 :: List.replicate data.size 8) a2 c2 (kind :: (data.size : Int) :: dataInts data) w (by rw [e3]; unfold maxLen; omega) hr (by rw [e4]; unfold maxLen; omega) hr2 HV.out
    rwa [e3, e4] at this
  generalize packR (2 :: 3 :: List.replicate data.size 8) (kind :: (data.size : Int) :: dataInts data) = pr at *
  obtain ⟨pw, pe⟩ := pr
  dsimp only at p1 p2 p3 HP HW
  subst p1
  have HS := Lib.hid (fun w => seal_calls pw w p2 p3)
  clear h hh hs hk1 e1 e2 HV
  unfold Fl.val
  go_enter Try.func74, Try.ntmps74
  go_wp2_with (first
    | (go_at_call 95; ((with_reducible refine (fright_calls ⟨kind, 0, 0, 0, 0, false, false, data⟩ _).mono ?_); rintro e w1 ⟨rfl, hB1⟩; rw [HR.out]))
    | (go_at_call 73; ((with_reducible refine (head_calls _).mono ?_); rintro e w2 ⟨a2, rfl, hi2, hB2⟩))
    )
  have hBB : Below (w.heap.size + 1) (w.alloc (.cells #[.int .i64 kind, .int .i64 0, .int .i64 0, .int .i64 0, .int .i64 0, .bool false, .bool false, .string data] 32)) w2 := by
    have h1 : Below (w.heap.size + 1) (w.alloc (.cells #[.int .i64 kind, .int .i64 0, .int .i64 0, .int .i64 0, .int .i64 0, .bool false, .bool false, .string data] 32)) w1 := by simpa using hB1
    exact h1.trans (hB2.mono (by have := h1.size; simpa using this))
  have hsz : w.heap.size < w2.heap.size := by have := hBB.size; simp at this; omega
  have HC : Hid (∀ w', Below (w.heap.size + 1) (w.alloc (.cells #[.int .i64 kind, .int .i64 0, .int .i64 0, .int .i64 0, .int .i64 0, .bool false, .bool false, .string data] 32)) w' → (w'.cell? ⟨w.heap.size, 0, none⟩ = some (.int .i64 kind) ∧ w'.cell? ⟨w.heap.size, 1, none⟩ = some (.int .i64 0) ∧ w'.cell? ⟨w.heap.size, 2, none⟩ = some (.int .i64 0) ∧ w'.cell? ⟨w.heap.size, 3, none⟩ = some (.int .i64 0) ∧ w'.cell? ⟨w.heap.size, 4, none⟩ = some (.int .i64 0) ∧ w'.cell? ⟨w.heap.size, 5, none⟩ = some (.bool false) ∧ w'.cell? ⟨w.heap.size, 6, none⟩ = some (.bool false) ∧ w'.cell? ⟨w.heap.size, 7, none⟩ = some (.string data))) := fun w' hb => ⟨laid_cell hb (by omega) 0, laid_cell hb (by omega) 1, laid_cell hb (by omega) 2, laid_cell hb (by omega) 3, laid_cell hb (by omega) 4, laid_cell hb (by omega) 5, laid_cell hb (by omega) 6, laid_cell hb (by omega) 7⟩
  obtain ⟨c0, c1, c2, c3, c4, c5, c6, c7⟩ := HC.out w2 hBB
  have HBB := Lib.hid hBB
  clear hB1 hB2 hi2 HR hBB
  go_region_held3 (fun w' => (w'.cell? ⟨w.heap.size, 0, none⟩ = some (.int .i64 kind) ∧ w'.cell? ⟨w.heap.size, 1, none⟩ = some (.int .i64 0) ∧ w'.cell? ⟨w.heap.size, 2, none⟩ = some (.int .i64 0) ∧ w'.cell? ⟨w.heap.size, 3, none⟩ = some (.int .i64 0) ∧ w'.cell? ⟨w.heap.size, 4, none⟩ = some (.int .i64 0) ∧ w'.cell? ⟨w.heap.size, 5, none⟩ = some (.bool false) ∧ w'.cell? ⟨w.heap.size, 6, none⟩ = some (.bool false) ∧ w'.cell? ⟨w.heap.size, 7, none⟩ = some (.string data))) ((refine HC.out _ ?_; have := HBB.out; repeat' (first | (with_reducible exact Below.refl _ _) | (with_reducible assumption) | (with_reducible refine below_drewN' ?_ _) | (with_reducible refine Below.drew ?_) | (with_reducible refine Below.alloc ?_ ?_ _) | (with_reducible exact Nat.le_refl _) | omega | (simp; done) | (simp; omega)))) (first
    | (go_at_call 96; ((with_reducible refine (truth_calls _ _).mono ?_); rintro e w' ⟨rfl, k, rfl⟩)))
  go_wp2
  go_region_held3 (fun w' => (w'.cell? ⟨w.heap.size, 0, none⟩ = some (.int .i64 kind) ∧ w'.cell? ⟨w.heap.size, 1, none⟩ = some (.int .i64 0) ∧ w'.cell? ⟨w.heap.size, 2, none⟩ = some (.int .i64 0) ∧ w'.cell? ⟨w.heap.size, 3, none⟩ = some (.int .i64 0) ∧ w'.cell? ⟨w.heap.size, 4, none⟩ = some (.int .i64 0) ∧ w'.cell? ⟨w.heap.size, 5, none⟩ = some (.bool false) ∧ w'.cell? ⟨w.heap.size, 6, none⟩ = some (.bool false) ∧ w'.cell? ⟨w.heap.size, 7, none⟩ = some (.string data))) ((refine HC.out _ ?_; have := HBB.out; repeat' (first | (with_reducible exact Below.refl _ _) | (with_reducible assumption) | (with_reducible refine below_drewN' ?_ _) | (with_reducible refine Below.drew ?_) | (with_reducible refine Below.alloc ?_ ?_ _) | (with_reducible exact Nat.le_refl _) | omega | (simp; done) | (simp; omega)))) (fail)
  clear v1 v2
  all_goals
    have HVW := Lib.hid wrap_u8
    go_wp2_with (first
      | ((with_reducible refine (show wpList _ _ _ (_ :: _) _ _ from ?_)); (refine conv_bytes 9 96 5 data _ rfl rfl rfl Try.underlying9 Try.underlying96 Try.underlying5 ?_); intro cap w5 hi5 hb5 hz5))
    have hB4 : Below w.heap.size w w5 := by
      have h1 := HBB.out
      have h2 : Below w.heap.size w w2 := Below.trans ((Below.refl _ _).alloc (Nat.le_refl _) _) (h1.mono (by omega))
      have := h2.size
      refine Below.trans ?_ (hb5.mono (by simp; omega))
      repeat' (first | (with_reducible exact Below.refl _ _) | (with_reducible assumption) | (with_reducible refine below_drewN' ?_ _) | (with_reducible refine Below.drew ?_) | (with_reducible refine Below.alloc ?_ ?_ _) | (with_reducible exact Nat.le_refl _) | omega | (simp; done) | (simp; omega))
    have g1 := Below.at hb5 (b := w2.heap.size + 1) (alloc_old (alloc_at _ _ (by simp)) _) (by simp)
    have g2 := Below.at hb5 (b := w2.heap.size + 1 + 1) (alloc_at _ _ (by simp)) (by simp)
    have hz6 : w2.heap.size + 1 + 1 + 1 < w5.heap.size := by simpa using hz5
    have hbase : w.heap.size ≤ w2.heap.size := by omega
    have hby : IntsAt .u8 w5 (some ⟨w2.heap.size + 1 + 1 + 1, 0, none⟩) (dataInts data) := by simpa using hi5.at
    first
      | have hT : Two w.heap.size 3 82 w5 (.slice (some ⟨w2.heap.size + 1, 0, none⟩) 2 2) (.slice (some ⟨w2.heap.size + 1 + 1, 0, none⟩) 2 2) 2 2 [.int .i64 2, .int .i64 3] [.int .u32 kind, .int .u32 (data.size : Int)] (w2.heap.size + 1 + 1 + 1) :=
          ⟨ownsRow_lit _ (by omega) g1 rfl (by decide), ownsRow_lit _ (by omega) g2 rfl (by decide), fun k hk => by simp [Value.ownBlock] at hk ⊢; omega, fun k hk => by simp [Value.ownBlock] at hk; omega, fun k hk => by simp [Value.ownBlock] at hk; omega, hz6⟩
      | have hT : Two w.heap.size 3 82 w5 (.slice (some ⟨w2.heap.size + 1 + 1, 0, none⟩) 2 2) (.slice (some ⟨w2.heap.size + 1, 0, none⟩) 2 2) 2 2 [.int .i64 2, .int .i64 3] [.int .u32 kind, .int .u32 (data.size : Int)] (w2.heap.size + 1 + 1 + 1) :=
          ⟨ownsRow_lit _ (by omega) g2 rfl (by decide), ownsRow_lit _ (by omega) g1 rfl (by decide), fun k hk => by simp [Value.ownBlock] at hk ⊢; omega, fun k hk => by simp [Value.ownBlock] at hk; omega, fun k hk => by simp [Value.ownBlock] at hk; omega, hz6⟩
    have HT := Lib.hid hT
    have HBY := Lib.hid hby
    have HB4 := Lib.hid hB4
    clear hT hby hB4 g1 g2 hz6 hb5 hz5 hi5 c0 c1 c2 c3 c4 c5 c6 c7 hne
    try clear hHeld
    generalize w2.heap.size + 1 + 1 + 1 = B at *
    go_loopw [4, 5, 52] (fun v u i wr => ∃ m : Nat, m ≤ data.size ∧ i = .int .i64 (m : Int) ∧ Two w.heap.size 3 82 wr v u (2 + m) (2 + m) ((2 :: 3 :: List.replicate m 8).map (Value.int .i64)) ((kind :: (data.size : Int) :: (dataInts data).take m).map (Value.int .u32)) B ∧ IntsAt .u8 wr (some ⟨B, 0, none⟩) (dataInts data) ∧ Below w.heap.size w wr) (fun _ _ i _ => data.size - (intOf i).toNat)
    case atStart => exact ⟨0, by omega, rfl, HT.out, HBY.out, HB4.out⟩
    case round =>
      clear HT HBY HB4
      obtain ⟨m, hm, rfl, hT, hby, hB⟩ := hrel
      by_cases hlm : m < data.size
      · have hc := IntsAt.getAt hby (i := m) (by rw [dataInts_len]; exact hlm)
        have HQ : Hid ((dataInts data).take (m + 1) = (dataInts data).take m ++ [(dataInts data).getD m 0]) := take_snoc' (by rw [dataInts_len]; exact hlm)
        have hy := dataInts_range data m hlm
        generalize (dataInts data).getD m 0 = y at hc HQ hy
        obtain ⟨hy0, hy1⟩ := hy
        go_wp2_with (first
          | (at_builtin; refine append_own (W0 := w) [.int .i64 8] w.heap.size _ _ _ 1 8 infoIntF Try.underlying93 rfl (by decide) _ _ _ hT.fst hB hB.size rfl (by simp [Value.oneCell']) (by omega) (by decide) rfl _ _ rfl rfl rfl ?_; intro v1 w6 hown1 hb1 hg1 hor1; have hT1 := hT.first hg1 hor1 hown1; have hby1 := hby.kept hg1 (fun j hj => hT.nv j hj); clear hT hby hg1 hor1 hown1)
          | (at_builtin; refine append_own (W0 := w) [.int .u32 y] w.heap.size _ _ _ 1 4 infoU32 Try.underlying90 rfl (by decide) _ _ _ hT1.snd hb1 hb1.size rfl (by simp [Value.oneCell']) (by omega) (by decide) rfl _ _ rfl rfl rfl ?_; intro v2 w7 hown2 hb2 hg2 hor2; have hT2 := hT1.second hg2 hor2 hown2; have hby2 := hby1.kept hg2 (fun j hj => hT1.nu j hj); clear hT1 hby1 hg2 hor2 hown2))
        go_roundw
        case rel => exact ⟨m + 1, by omega, by go_num, by rw [HQ.out, List.replicate_succ']; simpa [Nat.add_assoc] using hT2, hby2, hb2⟩
        case measure => simp [intOf] <;> omega
      · obtain rfl : m = data.size := by omega
        have HP2 := HP.out
        obtain ⟨a3, c3, rfl, hr3⟩ := IntsAt.ofOwn hT.fst
        have hts : (dataInts data).take data.size = dataInts data := List.take_of_length_le (by rw [dataInts_len]; exact Nat.le_refl _)
        have hsnd := hT.snd
        rw [hts] at hsnd
        obtain ⟨a4, c4, rfl, hr4⟩ := IntsAt.ofOwn hsnd
        clear hT hsnd hby hts HP2
        go_wp2_with (first
          | (go_at_call 97; ((with_reducible refine (HP.out _ _ _ _ _ ?_ ?_).mono ?_); exact hr3; exact hr4; rintro e w' ⟨rfl, k, rfl⟩))
          | (go_at_call 98; ((with_reducible refine (HS.out _).mono ?_); rintro e w' ⟨rfl, k, rfl⟩)))
        go_ret2
        exact ⟨by rw [HW.out]; rfl, by (repeat (first | exact hB | apply below_drewN'))⟩
end Go.Proofs.Ytpklblaenfhncaa
