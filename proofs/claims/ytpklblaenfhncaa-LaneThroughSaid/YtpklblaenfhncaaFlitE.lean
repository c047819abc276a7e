/- flit.data: a word that is no Head's as a flit. -/
import Derived.Test.YtpklblaenfhncaaFlitD
import Derived.Lib.BufferRead
namespace Go.Proofs.Ytpklblaenfhncaa
set_option linter.unusedVariables false
open Go.RowKit BM
/-- 'string(b)', b a row of the call's own. -/
theorem conv_str {P : Program} {w : World} {ops : Array Oper} {rest : List Oper} {o : Oper} {a : Act} {Q : Exit → Act → World → Prop} (src dst e : TypeId) (base : Nat) (v : Value) (l : List Nat) (x : Operand)
    (ho : o.op = .convert src dst x) (hgd : o.guard = none) (hx : a.eval x = v) (hl : ∀ y ∈ l, y < 256)
    (hs : P.underlying src = some (.slice e)) (he : P.underlying e = some (.int .u8)) (hd : P.underlying dst = some .string)
    (hown : w.ownsRow base e 1 v l.length (l.map (fun y : Nat => Value.int .u8 (y : Int)))) (h : wpList P ops Q rest (a.put o.dst (.string (bytesOf l))) w) : wpList P ops Q (o :: rest) a w := by
  refine wpList_plain hgd fun K hK => ?_
  have hr : (convert src dst v).run P w = .ok (.string (bytesOf l)) w := by
    have h' := hown
    rcases hown.2 with ⟨rfl, h0⟩ | ⟨g, cap, cur, rfl, _, _, _, _, _, _⟩
    · have : l = [] := List.eq_nil_of_length_eq_zero h0
      subst this
      exact Go.Lib.run_convert_nil_bytes w src dst e 0 hs he hd
    · have hlen : (l.map UInt8.ofNat).length = l.length := List.length_map ..
      have := run_convert_bytes_back (P := P) w src dst e ⟨g, 0, none⟩ cap (l.map UInt8.ofNat) hs he hd (fun j hj => by
        rw [hlen] at hj
        have hc := h'.cells rfl j (.int .u8 ((l[j] : Nat) : Int)) (by rw [List.getElem?_map, List.getElem?_eq_getElem hj]; rfl)
        rw [hc]
        have : ((l.map UInt8.ofNat)[j]'(by rw [hlen]; exact hj)).toNat = l[j] := by
          rw [List.getElem_map, UInt8.toNat_ofNat']
          exact Nat.mod_eq_of_lt (hl _ (List.getElem_mem hj))
        rw [this])
      rw [hlen] at this
      exact this
  unfold Oper.wp
  simp [execOp, ho, hx, hr, Result.andThen]
  exact hK _ _ h
theorem infoU8 : (Try.prog.info? 5).map (fun i => (i.zero, i.size, i.bytes)) = some (some (.int .u8 0), 1, 1) := by kernel_rfl
theorem unp2_calls (x : Nat) (hx : x < 2 ^ 64) (a : Option Addr) (w : World) (hr : IntsAt .i64 w a [2, 3]) :
    Calls Try.prog 72 #[.int .u64 (x : Int), .slice a 2 2] w fun e w' => ∃ g c, e = .returned (.tuple #[.slice (some ⟨g, 0, none⟩) 2 c, .int .i64 0]) ∧ w'.cell? ⟨g, 0, none⟩ = some (.int .u32 (getN x 0 2 : Nat)) ∧ w'.cell? ⟨g, 1, none⟩ = some (.int .u32 (getN x 2 3 : Nat)) ∧ w.heap.size ≤ g ∧ g < w'.heap.size ∧ 2 ≤ c ∧ Below w.heap.size w w' := by
  refine (unpack_calls (x : Int) a 2 [2, 3] w (by omega) (by omega) (by decide) hr).mono ?_
  rintro e w' ⟨v, rfl, hown, hb⟩
  rw [Int.toNat_natCast] at hown ⊢
  have e1 : unpackR x [2, 3] = ([((getN x 0 2 : Nat) : Int), ((getN x 2 3 : Nat) : Int)], 0) := by
    unfold unpackR; rw [if_pos (by decide)]; rfl
  rw [e1] at hown ⊢
  have h' := hown
  rcases hown.2 with ⟨rfl, h0⟩ | ⟨g, cap, cur, rfl, hbg, hg, hnc, _, _, _⟩
  · simp at h0
  · refine ⟨g, cap, rfl, ?_, ?_, hbg, block_lt hg, hnc, hb⟩
    · have := h'.cells rfl 0 _ rfl; rwa [addP] at this
    · have := h'.cells rfl 1 _ rfl; rwa [addP] at this
theorem stored8 {w : World} {b : Nat} {T : TypeId} {c0 c1 c2 c3 c4 c5 c6 c7 u0 u1 u2 u3 u4 u5 u6 u7 : Value} (h : w.heap[b]? = some (.cells #[c0, c1, c2, c3, c4, c5, c6, c7] T (0, 0))) :
    ((((((((w.setCell ⟨b, 0, none⟩ u0).setCell ⟨b, 1, none⟩ u1).setCell ⟨b, 2, none⟩ u2).setCell ⟨b, 3, none⟩ u3).setCell ⟨b, 4, none⟩ u4).setCell ⟨b, 5, none⟩ u5).setCell ⟨b, 6, none⟩ u6).setCell ⟨b, 7, none⟩ u7).heap[b]? = some (.cells #[u0, u1, u2, u3, u4, u5, u6, u7] T (0, 0)) := by
  rw [set_at (set_at (set_at (set_at (set_at (set_at (set_at (set_at h _ _) _ _) _ _) _ _) _ _) _ _) _ _) _ _]
  simp only [List.setIfInBounds_toArray, List.set_cons_zero, List.set_cons_succ]
set_option maxHeartbeats 1000000 in
theorem data_calls (x : Nat) (hx : x < 2 ^ 64) (w : World) :
    Calls Try.prog 71 #[.int .u64 (x : Int)] w fun e w' => e = .returned (dataF x).val ∧ Below w.heap.size w w' := by
  have HU := Lib.hid (fun a w hr => unp2_calls x hx a w hr)
  have hk := getN_lt x 0 2
  have hn := getN_lt x 2 3
  generalize hK : getN x 0 2 = kd at *
  generalize hN : getN x 2 3 = nn at *
  have HK := Lib.hid (And.intro hK hN)
  clear hK hN
  obtain ⟨M, hM⟩ : ∃ M, M = min nn 6 := ⟨_, rfl⟩
  have m1 : min (nn : Int) 6 = (M : Int) := by omega
  have hM6 : M ≤ 6 := by omega
  have HM := Lib.hid hM
  clear hM
  go_enter Try.func71, Try.ntmps71
  go_wp2_with (first
    | (go_at_call 72; ((with_reducible refine (HU.out _ _ ?_).mono ?_); (exact (IntsAt.lit' (k := .i64) _ [2, 3] (by simp))); rintro e w2 ⟨g, c, rfl, hc0, hc1, hg0, hg1, hc2, hB2⟩)))
  have hgw : w.heap.size + 1 ≤ w2.heap.size := by have := hB2.size; simp at this; omega
  have HB2 : Hid (Below (w.heap.size + 1) (w.alloc (.cells #[.int .i64 0, .int .i64 0, .int .i64 0, .int .i64 0, .int .i64 0, .bool false, .bool false, .string ByteArray.empty] 32)) w2) := by
    refine Below.trans (Below.alloc (Below.refl _ _) (by simp) _) (hB2.mono (by simp))
  clear hB2 hc0 hc1
  go_loopw [6, 26] (fun v i wr => ∃ m : Nat, m ≤ M ∧ i = .int .i64 (m : Int) ∧ wr.ownsRow (w2.heap.size + 1) 5 1 v m (((List.range m).map (fun i => getN x (5 + 8 * i) 8)).map (fun y : Nat => Value.int .u8 (y : Int))) ∧ Below (w2.heap.size + 1) (w2.alloc (.cells #[.int .i64 (kd : Int), .int .i64 0, .int .i64 0, .int .i64 0, .int .i64 0, .bool false, .bool false, .string ByteArray.empty] 32)) wr) (fun _ i _ => M - (intOf i).toNat)
  case atStart => exact ⟨0, by omega, rfl, World.ownsRow_nil _ _ _ _, Below.refl _ _⟩
  case round =>
    obtain ⟨m, hm, rfl, hown, hb⟩ := hrel
    by_cases hlm : m < M
    · have HG := fun w => get_calls (x : Int) (5 + 8 * (m : Int)) 8 w (by omega) (by omega)
      have e1 : getR ((x : Int)).toNat (5 + 8 * (m : Int)) 8 = (((getN x (5 + 8 * m) 8 : Nat) : Int), 0) := by
        rw [getR_in (a := 5 + 8 * (m : Int)) (n := 8) (by simp only [fieldI, decide_eq_true_eq]; omega), Int.toNat_natCast, show (5 + 8 * (m : Int)).toNat = 5 + 8 * m from by omega]
        rfl
      rw [e1] at HG
      have hy := getN_lt x (5 + 8 * m) 8
      have HR : Hid ((List.range (m + 1)).map (fun i => getN x (5 + 8 * i) 8) = (List.range m).map (fun i => getN x (5 + 8 * i) 8) ++ [getN x (5 + 8 * m) 8]) := by unfold Hid; rw [List.range_succ, List.map_append]; rfl
      generalize getN x (5 + 8 * m) 8 = y at *
      have hy1 : (y : Int) < 256 := by omega
      have HG2 := Lib.hid HG
      clear HG e1 hy
      go_wp2_with (first
        | (go_at_call 92; ((with_reducible refine (HG2.out _).mono ?_); rintro e w' ⟨rfl, k, rfl⟩))
        | (at_builtin; refine append_own (W0 := (w2.alloc (.cells #[.int .i64 (kd : Int), .int .i64 0, .int .i64 0, .int .i64 0, .int .i64 0, .bool false, .bool false, .string ByteArray.empty] 32))) [.int .u8 (y : Int)] (w2.heap.size + 1) _ _ _ 1 1 infoU8 Try.underlying96 rfl (by decide) _ _ _ (ownsRow_drewN hown _) (below_drewN' hb _) (by have := hb.size; simpa using this) rfl (by simp [Value.oneCell']) (by omega) (by decide) rfl _ _ rfl rfl rfl ?_; intro v1 w6 hown1 hb1 hg1 hor1; clear hg1 hor1 hown))
      go_roundw
      case rel => exact ⟨m + 1, by omega, by go_num, by rw [HR.out, List.map_append]; exact hown1, hb1⟩
      case measure => simp [intOf] <;> omega
    · obtain rfl : m = M := by omega
      have HD : Hid (dataF x = ⟨(kd : Int), 0, 0, 0, 0, false, false, bytesOf ((List.range m).map (fun i => getN x (5 + 8 * i) 8))⟩) := by
        unfold Hid dataF manyN
        rw [HK.out.1, HK.out.2, HM.out]
      have hl : ((List.range m).map (fun i => getN x (5 + 8 * i) 8)).length = m := by simp
      have hby : ∀ y ∈ (List.range m).map (fun i => getN x (5 + 8 * i) 8), y < 256 := fun y hy => by
        obtain ⟨i, _, rfl⟩ := List.mem_map.1 hy
        exact getN_lt x (5 + 8 * i) 8
      generalize (List.range m).map (fun i => getN x (5 + 8 * i) 8) = L at *
      have HBY := Lib.hid hby
      have hF := Below.at hb (alloc_new _) (by omega)
      have hR := Below.at hb (alloc_old (Below.at HB2.out (alloc_new _) (by omega)) _) (by omega)
      have hown' := hown
      rw [← hl] at hown'
      have HO := Lib.hid hown'
      have hne : w.heap.size ≠ w2.heap.size := by omega
      have hne2 : w2.heap.size ≠ w.heap.size := by omega
      have f0 := cell_at hF 0; have f1 := cell_at hF 1; have f2 := cell_at hF 2; have f3 := cell_at hF 3; have f4 := cell_at hF 4; have f5 := cell_at hF 5; have f6 := cell_at hF 6; have f7 := cell_at hF 7
      have r0 := cell_at hR 0; have r1 := cell_at hR 1; have r2 := cell_at hR 2; have r3 := cell_at hR 3; have r4 := cell_at hR 4; have r5 := cell_at hR 5; have r6 := cell_at hR 6; have r7 := cell_at hR 7
      have q7 := frozen_at hF 7
      have z0 := frozen_at hR 0; have z1 := frozen_at hR 1; have z2 := frozen_at hR 2; have z3 := frozen_at hR 3; have z4 := frozen_at hR 4; have z5 := frozen_at hR 5; have z6 := frozen_at hR 6; have z7 := frozen_at hR 7
      have HBB := Lib.hid hb
      have HW := Lib.hid hgw
      have HRR := Lib.hid hR
      clear hown hown' hby hl hF hR hb HU
      go_wp2_with (first
        | ((with_reducible refine (show wpList _ _ _ (_ :: _) _ _ from ?_)); (refine conv_str 96 9 5 (w2.heap.size + 1) _ L _ rfl rfl rfl HBY.out Try.underlying96 Try.underlying5 Try.underlying9 HO.out ?_)))
      have hfin := fun u => stored8 (u0 := .int .i64 (kd : Int)) (u1 := .int .i64 0) (u2 := .int .i64 0) (u3 := .int .i64 0) (u4 := .int .i64 0) (u5 := .bool false) (u6 := .bool false) (u7 := u) (set_other HRR.out hne 7 (.string (bytesOf L)))
      refine bodyPost_ret (results_cell_row rfl _ _ w.heap.size 32 _ (0, 0) _ rfl (hfin _) Try.underlying32 rfl (by kernel_rfl)) rfl ⟨by rw [HD.out], ?_⟩
      have h1 := HBB.out
      have h2 := HW.out
      have h3 : Below w.heap.size w w2 := Below.trans ((Below.refl _ _).alloc (Nat.le_refl _) _) (HB2.out.mono (by omega))
      have h4 : Below w.heap.size w wr := (h3.alloc (by omega) _).trans (h1.mono (by omega))
      repeat' (first | (with_reducible exact h4) | (with_reducible refine Below.setCell ?_ ?_ _) | (with_reducible exact Nat.le_refl _) | omega | (simp; done) | (simp; omega))
end Go.Proofs.Ytpklblaenfhncaa
