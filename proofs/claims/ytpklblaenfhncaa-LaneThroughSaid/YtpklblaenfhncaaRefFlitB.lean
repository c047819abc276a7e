/- The reference's Write of a Head. -/
import Derived.Test.YtpklblaenfhncaaRefFlitA
import Derived.Test.YtpklblaenfhncaaFlitD
namespace Go.Proofs.Ytpklblaenfhncaa
set_option linter.unusedVariables false
open Go.RowKit BM
set_option maxHeartbeats 1000000 in
theorem rwrite_head (src dst seq len : Int) (more cast : Bool) (data : ByteArray) (w : World) (h : rightF ⟨1, src, dst, seq, len, more, cast, data⟩ = true) :
    Calls Try.prog 48 #[Fl.val ⟨1, src, dst, seq, len, more, cast, data⟩] w fun e w' => e = .returned (.tuple #[.int .u64 (wordF ⟨1, src, dst, seq, len, more, cast, data⟩ : Nat), .int .i64 0]) ∧ Below w.heap.size w w' := by
  have HR := Lib.hid h
  obtain ⟨p1, p2, p3⟩ := pack_zero h
  have HW : Hid (wordF ⟨1, src, dst, seq, len, more, cast, data⟩ = sealN (packR headSizes [1, src, dst, seq, len, b2n more, b2n cast]).1.toNat) := rfl
  have hh := h
  simp only [rightF, headOk, if_true, decide_eq_true_eq] at hh
  obtain ⟨h1, h2, h3, h4, h5, h6, h7, h8, h9⟩ := hh
  have hb1 := b2n_range more
  have hb2 := b2n_range cast
  have HV : Hid (∀ v ∈ [(1 : Int), src, dst, seq, len, b2n more, b2n cast], 0 ≤ v ∧ v < 4294967296) := by
    unfold Hid
    simp only [List.mem_cons, List.not_mem_nil, or_false, forall_eq_or_imp, forall_eq]
    refine ⟨by omega, by omega, by omega, by omega, by omega, hb1, hb2⟩
  have HP : Hid (∀ (a a2 : Option Addr) (w : World), IntsAt .i64 w a headSizes → IntsAt .u32 w a2 [1, src, dst, seq, len, b2n more, b2n cast] → Calls Try.prog 82 #[.slice a 7 7, .slice a2 7 7] w fun e w' => e = .returned (.tuple #[.int .u64 (packR headSizes [1, src, dst, seq, len, b2n more, b2n cast]).1, .int .i64 (packR headSizes [1, src, dst, seq, len, b2n more, b2n cast]).2]) ∧ ∃ k, w' = w.drewN k) :=
    fun a a2 w hr hr2 => rpack_calls a 7 headSizes a2 7 [1, src, dst, seq, len, b2n more, b2n cast] w (by decide) hr (by simp; decide) hr2 HV.out
  have e1 : sizesF ⟨1, src, dst, seq, len, more, cast, data⟩ = headSizes := rfl
  have e2 : valsF ⟨1, src, dst, seq, len, more, cast, data⟩ = [1, src, dst, seq, len, b2n more, b2n cast] := rfl
  rw [e1, e2] at p1 p2 p3
  have P1 := Lib.hid p1
  generalize packR headSizes [1, src, dst, seq, len, b2n more, b2n cast] = pr at *
  obtain ⟨pw, pe⟩ := pr
  dsimp only at p1 p2 p3 HP HW
  subst p1
  have HS := Lib.hid (fun w => rseal_calls pw w p2 p3)
  clear h h1 e1 e2 P1
  unfold Fl.val
  go_enter Try.func48, Try.ntmps48
  go_wp2_with (first
    | (go_at_call 80; ((with_reducible refine (rright3_calls ⟨1, src, dst, seq, len, more, cast, data⟩ _).mono ?_); rintro e w1 ⟨rfl, hB1⟩; rw [HR.out])))
  have hBB : Below (w.heap.size + 1) (w.alloc (.cells #[.int .i64 1, .int .i64 src, .int .i64 dst, .int .i64 seq, .int .i64 len, .bool more, .bool cast, .string data] 32)) w1 := by
    have h1 : Below (w.heap.size + 1) (w.alloc (.cells #[.int .i64 1, .int .i64 src, .int .i64 dst, .int .i64 seq, .int .i64 len, .bool more, .bool cast, .string data] 32)) w1 := by simpa using hB1
    exact h1
  have hsz : w.heap.size < w1.heap.size := by have := hBB.size; simp at this; omega
  have HC : Hid (∀ w', Below (w.heap.size + 1) (w.alloc (.cells #[.int .i64 1, .int .i64 src, .int .i64 dst, .int .i64 seq, .int .i64 len, .bool more, .bool cast, .string data] 32)) w' → w'.cell? ⟨w.heap.size, 0, none⟩ = some (.int .i64 1) ∧ w'.cell? ⟨w.heap.size, 1, none⟩ = some (.int .i64 src) ∧ w'.cell? ⟨w.heap.size, 2, none⟩ = some (.int .i64 dst) ∧ w'.cell? ⟨w.heap.size, 3, none⟩ = some (.int .i64 seq) ∧ w'.cell? ⟨w.heap.size, 4, none⟩ = some (.int .i64 len) ∧ w'.cell? ⟨w.heap.size, 5, none⟩ = some (.bool more) ∧ w'.cell? ⟨w.heap.size, 6, none⟩ = some (.bool cast)) := fun w' hb => ⟨laid_cell hb (by omega) 0, laid_cell hb (by omega) 1, laid_cell hb (by omega) 2, laid_cell hb (by omega) 3, laid_cell hb (by omega) 4, laid_cell hb (by omega) 5, laid_cell hb (by omega) 6⟩
  have HQ : Hid (∀ w', Below (w1.heap.size + 1) (w1.alloc (.cells #[.int .i64 2, .int .i64 12, .int .i64 12, .int .i64 16, .int .i64 7, .int .i64 1, .int .i64 1] 3)) w' → IntsAt .i64 w' (some ⟨w1.heap.size, 0, none⟩) headSizes) := fun w' hb => (IntsAt.lit (e := 3) w1 headSizes).below (by rw [World.size_alloc]; exact hb)
  have HBB := Lib.hid hBB
  obtain ⟨c0, c1, c2, c3, c4, c5, c6⟩ := HC.out w1 hBB
  have v0 : IntKind.u32.wrap 1 = 1 := wrap_u32_in (by omega) (by omega)
  have v1 : IntKind.u32.wrap src = src := wrap_u32_in (by omega) (by omega)
  have v2 : IntKind.u32.wrap dst = dst := wrap_u32_in (by omega) (by omega)
  have v3 : IntKind.u32.wrap seq = seq := wrap_u32_in (by omega) (by omega)
  have v4 : IntKind.u32.wrap len = len := wrap_u32_in (by omega) (by omega)
  clear hB1 HR hBB
  go_region_held3 (fun w' => w'.cell? ⟨w.heap.size, 0, none⟩ = some (.int .i64 1) ∧ w'.cell? ⟨w.heap.size, 1, none⟩ = some (.int .i64 src) ∧ w'.cell? ⟨w.heap.size, 2, none⟩ = some (.int .i64 dst) ∧ w'.cell? ⟨w.heap.size, 3, none⟩ = some (.int .i64 seq) ∧ w'.cell? ⟨w.heap.size, 4, none⟩ = some (.int .i64 len) ∧ w'.cell? ⟨w.heap.size, 5, none⟩ = some (.bool more) ∧ w'.cell? ⟨w.heap.size, 6, none⟩ = some (.bool cast)) ((refine HC.out _ ?_; have := HBB.out; repeat' (first | (with_reducible exact Below.refl _ _) | (with_reducible assumption) | (with_reducible refine below_drewN' ?_ _) | (with_reducible refine Below.drew ?_) | (with_reducible refine Below.alloc ?_ ?_ _) | (with_reducible exact Nat.le_refl _) | omega | (simp; done) | (simp; omega)))) (first
    | (go_at_call 81; ((with_reducible refine (rone_calls _ _).mono ?_); rintro e w' ⟨rfl, k, rfl⟩)))
  clear v0 v1 v2 v3 v4
  go_wp2_with (first
    | (go_at_call 82; ((with_reducible refine (HP.out _ _ _ ?_ ?_).mono ?_); (refine HQ.out _ ?_; repeat' (first | (with_reducible exact Below.refl _ _) | (with_reducible assumption) | (with_reducible refine below_drewN' ?_ _) | (with_reducible refine Below.drew ?_) | (with_reducible refine Below.alloc ?_ ?_ _) | (with_reducible exact Nat.le_refl _) | omega | (simp; done) | (simp; omega))); exact (IntsAt.lit' (k := .u32) _ [1, src, dst, seq, len, b2n more, b2n cast] (by simp)); rintro e w' ⟨rfl, k, rfl⟩))
    | (go_at_call 77; ((with_reducible refine (HS.out _).mono ?_); rintro e w' ⟨rfl, k, rfl⟩)))
  go_ret2
  refine ⟨by rw [HW.out]; rfl, ?_⟩
  have h1 := HBB.out
  have h2 : Below w.heap.size w w1 := Below.trans ((Below.refl _ _).alloc (Nat.le_refl _) _) (h1.mono (by omega))
  have := h2.size
  repeat' (first | (with_reducible exact Below.refl _ _) | (with_reducible assumption) | (with_reducible refine below_drewN' ?_ _) | (with_reducible refine Below.drew ?_) | (with_reducible refine Below.alloc ?_ ?_ _) | (with_reducible exact Nat.le_refl _) | omega | (simp; done) | (simp; omega))
end Go.Proofs.Ytpklblaenfhncaa
