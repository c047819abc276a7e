/- flit.Write: a flit's word. -/
import Derived.Test.YtpklblaenfhncaaFlitA
import Derived.Test.YtpklblaenfhncaaRdr
namespace Go.Proofs.Ytpklblaenfhncaa
set_option linter.unusedVariables false
open Go.RowKit BM
theorem truth_calls (b : Bool) (w : World) : Calls Try.prog 96 #[.bool b] w fun e w' => e = .returned (.int .u32 (b2n b)) ∧ ∃ k, w' = w.drewN k := by
  cases b
  all_goals
    go_enter Try.func96, Try.ntmps96
    go_wp2
    go_ret
    exact ⟨rfl, by first | exact ⟨0, rfl⟩ | exact drew_close1⟩
theorem head_calls (w : World) : Calls Try.prog 73 #[] w fun e w' => ∃ a, e = .returned (.slice a 7 7) ∧ IntsNew w.heap.size .i64 w' a headSizes ∧ Below w.heap.size w w' := by
  go_enter Try.func73, Try.ntmps73
  go_wp2
  go_ret
  refine ⟨some ⟨w.heap.size, 0, none⟩, rfl, ?_, by (repeat (first | exact ((Below.refl _ _).alloc (Nat.le_refl _) _) | apply below_drewN'))⟩
  obtain h := (IntsAt.lit (k := .i64) (e := 3) w headSizes)
  intro i hi
  obtain ⟨b, off, e, hc⟩ := h i hi
  simp only [Option.some.injEq, Addr.mk.injEq, and_true] at e
  obtain ⟨rfl, rfl⟩ := e
  exact ⟨_, rfl, Nat.le_refl _, by rw [Nat.zero_add] at hc; exact hc⟩
theorem wrap_u32_in {n : Int} (h0 : 0 ≤ n) (h1 : n < 4294967296) : IntKind.u32.wrap n = n := by
  have : IntKind.u32.wrap n = n % 4294967296 := by simp [IntKind.wrap, IntKind.bits, IntKind.signed]
  rw [this]; omega
theorem b2n_range (b : Bool) : 0 ≤ b2n b ∧ b2n b < 4294967296 := by unfold b2n; split <;> decide
set_option maxHeartbeats 1000000 in
theorem write_head (src dst seq len : Int) (more cast : Bool) (data : ByteArray) (w : World) (h : rightF ⟨1, src, dst, seq, len, more, cast, data⟩ = true) :
    Calls Try.prog 74 #[Fl.val ⟨1, src, dst, seq, len, more, cast, data⟩] w fun e w' => e = .returned (.tuple #[.int .u64 (wordF ⟨1, src, dst, seq, len, more, cast, data⟩ : Nat), .int .i64 0]) ∧ Below w.heap.size w w' := by
  have HR := Lib.hid h
  obtain ⟨p1, p2, p3⟩ := pack_zero h
  have HW : Hid (wordF ⟨1, src, dst, seq, len, more, cast, data⟩ = sealN (packR headSizes [1, src, dst, seq, len, b2n more, b2n cast]).1.toNat) := rfl
  have hh := h
  simp only [rightF, headOk, if_true, decide_eq_true_eq] at hh
  obtain ⟨h1, h2, h3, h4, h5, h6, h7, h8, h9⟩ := hh
  have hb1 := b2n_range more
  have hb2 := b2n_range cast
  have HV : Hid (∀ v ∈ [(1 : Int), src, dst, seq, len, b2n more, b2n cast], 0 ≤ v ∧ v < 4294967296) := by
    unfold Hid
    simp only [List.mem_cons, List.not_mem_nil, or_false, forall_eq_or_imp, forall_eq]
    refine ⟨by omega, by omega, by omega, by omega, by omega, hb1, hb2⟩
  have HP : Hid (∀ (a a2 : Option Addr) (w : World), IntsAt .i64 w a headSizes → IntsAt .u32 w a2 [1, src, dst, seq, len, b2n more, b2n cast] → Calls Try.prog 97 #[.slice a 7 7, .slice a2 7 7] w fun e w' => e = .returned (.tuple #[.int .u64 (packR headSizes [1, src, dst, seq, len, b2n more, b2n cast]).1, .int .i64 (packR headSizes [1, src, dst, seq, len, b2n more, b2n cast]).2]) ∧ ∃ k, w' = w.drewN k) :=
    fun a a2 w hr hr2 => pack_calls a 7 headSizes a2 7 [1, src, dst, seq, len, b2n more, b2n cast] w (by decide) hr (by simp; decide) hr2 HV.out
  have e1 : sizesF ⟨1, src, dst, seq, len, more, cast, data⟩ = headSizes := rfl
  have e2 : valsF ⟨1, src, dst, seq, len, more, cast, data⟩ = [1, src, dst, seq, len, b2n more, b2n cast] := rfl
  rw [e1, e2] at p1 p2 p3
  have P1 := Lib.hid p1
  generalize packR headSizes [1, src, dst, seq, len, b2n more, b2n cast] = pr at *
  obtain ⟨pw, pe⟩ := pr
  dsimp only at p1 p2 p3 HP HW
  subst p1
  have HS := Lib.hid (fun w => seal_calls pw w p2 p3)
  clear h h1 e1 e2 P1
  unfold Fl.val
  go_enter Try.func74, Try.ntmps74
  go_wp2_with (first
    | (go_at_call 95; ((with_reducible refine (fright_calls ⟨1, src, dst, seq, len, more, cast, data⟩ _).mono ?_); rintro e w1 ⟨rfl, hB1⟩; rw [HR.out]))
    | (go_at_call 73; ((with_reducible refine (head_calls _).mono ?_); rintro e w2 ⟨a2, rfl, hi2, hB2⟩)))
  have hBB : Below (w.heap.size + 1) (w.alloc (.cells #[.int .i64 1, .int .i64 src, .int .i64 dst, .int .i64 seq, .int .i64 len, .bool more, .bool cast, .string data] 32)) w2 := by
    have h1 : Below (w.heap.size + 1) (w.alloc (.cells #[.int .i64 1, .int .i64 src, .int .i64 dst, .int .i64 seq, .int .i64 len, .bool more, .bool cast, .string data] 32)) w1 := by simpa using hB1
    exact h1.trans (hB2.mono (by have := h1.size; simpa using this))
  have hsz : w.heap.size < w2.heap.size := by have := hBB.size; simp at this; omega
  have HC : Hid (∀ w', Below (w.heap.size + 1) (w.alloc (.cells #[.int .i64 1, .int .i64 src, .int .i64 dst, .int .i64 seq, .int .i64 len, .bool more, .bool cast, .string data] 32)) w' → w'.cell? ⟨w.heap.size, 0, none⟩ = some (.int .i64 1) ∧ w'.cell? ⟨w.heap.size, 1, none⟩ = some (.int .i64 src) ∧ w'.cell? ⟨w.heap.size, 2, none⟩ = some (.int .i64 dst) ∧ w'.cell? ⟨w.heap.size, 3, none⟩ = some (.int .i64 seq) ∧ w'.cell? ⟨w.heap.size, 4, none⟩ = some (.int .i64 len) ∧ w'.cell? ⟨w.heap.size, 5, none⟩ = some (.bool more) ∧ w'.cell? ⟨w.heap.size, 6, none⟩ = some (.bool cast)) := fun w' hb => ⟨laid_cell hb (by omega) 0, laid_cell hb (by omega) 1, laid_cell hb (by omega) 2, laid_cell hb (by omega) 3, laid_cell hb (by omega) 4, laid_cell hb (by omega) 5, laid_cell hb (by omega) 6⟩
  have HQ := Lib.hid (fun w' (hb : Below w2.heap.size w2 w') => hi2.at.below hb)
  have HBB := Lib.hid hBB
  obtain ⟨c0, c1, c2, c3, c4, c5, c6⟩ := HC.out w2 hBB
  have v0 : IntKind.u32.wrap 1 = 1 := wrap_u32_in (by omega) (by omega)
  have v1 : IntKind.u32.wrap src = src := wrap_u32_in (by omega) (by omega)
  have v2 : IntKind.u32.wrap dst = dst := wrap_u32_in (by omega) (by omega)
  have v3 : IntKind.u32.wrap seq = seq := wrap_u32_in (by omega) (by omega)
  have v4 : IntKind.u32.wrap len = len := wrap_u32_in (by omega) (by omega)
  clear hB1 hB2 hi2 HR hBB
  go_region_held3 (fun w' => w'.cell? ⟨w.heap.size, 0, none⟩ = some (.int .i64 1) ∧ w'.cell? ⟨w.heap.size, 1, none⟩ = some (.int .i64 src) ∧ w'.cell? ⟨w.heap.size, 2, none⟩ = some (.int .i64 dst) ∧ w'.cell? ⟨w.heap.size, 3, none⟩ = some (.int .i64 seq) ∧ w'.cell? ⟨w.heap.size, 4, none⟩ = some (.int .i64 len) ∧ w'.cell? ⟨w.heap.size, 5, none⟩ = some (.bool more) ∧ w'.cell? ⟨w.heap.size, 6, none⟩ = some (.bool cast)) ((refine HC.out _ ?_; have := HBB.out; repeat' (first | (with_reducible exact Below.refl _ _) | (with_reducible assumption) | (with_reducible refine below_drewN' ?_ _) | (with_reducible refine Below.drew ?_) | (with_reducible refine Below.alloc ?_ ?_ _) | (with_reducible exact Nat.le_refl _) | omega | (simp; done) | (simp; omega)))) (first
    | (go_at_call 96; ((with_reducible refine (truth_calls _ _).mono ?_); rintro e w' ⟨rfl, k, rfl⟩)))
  clear v0 v1 v2 v3 v4
  go_wp2_with (first
    | (go_at_call 97; ((with_reducible refine (HP.out _ _ _ ?_ ?_).mono ?_); (refine HQ.out _ ?_; repeat' (first | (with_reducible exact Below.refl _ _) | (with_reducible assumption) | (with_reducible refine below_drewN' ?_ _) | (with_reducible refine Below.drew ?_) | (with_reducible refine Below.alloc ?_ ?_ _) | (with_reducible exact Nat.le_refl _) | omega | (simp; done) | (simp; omega))); exact (IntsAt.lit' (k := .u32) _ [1, src, dst, seq, len, b2n more, b2n cast] rfl); rintro e w' ⟨rfl, k, rfl⟩))
    | (go_at_call 98; ((with_reducible refine (HS.out _).mono ?_); rintro e w' ⟨rfl, k, rfl⟩)))
  go_ret2
  refine ⟨by rw [HW.out]; rfl, ?_⟩
  have h1 := HBB.out
  have h2 : Below w.heap.size w w2 := Below.trans ((Below.refl _ _).alloc (Nat.le_refl _) _) (h1.mono (by omega))
  have := h2.size
  repeat' (first | (with_reducible exact Below.refl _ _) | (with_reducible assumption) | (with_reducible refine below_drewN' ?_ _) | (with_reducible refine Below.drew ?_) | (with_reducible refine Below.alloc ?_ ?_ _) | (with_reducible exact Nat.le_refl _) | omega | (simp; done) | (simp; omega))
end Go.Proofs.Ytpklblaenfhncaa
