/- The reference's Words of a parcel that may be. -/
import Derived.Test.YtpklblaenfhncaaRefPaA
import Derived.Deep.DeepCutAuto
namespace Go.Proofs.Ytpklblaenfhncaa
set_option linter.unusedVariables false
open Go.RowKit
theorem infoU64p : (Try.prog.info? 22).map (fun i => (i.zero, i.size, i.bytes)) = some (some (.int .u64 0), 1, 8) := by kernel_rfl
def strLen : Value → Nat
  | .string s => s.size
  | _ => 0
def headVs (p : Pa) (m : Nat) : List Value := (List.range m).map (fun i => UV (wordF (headFl p i)))
def bodyVs (d : ByteArray) (k : Nat) : List Value := (List.range k).map (fun i => UV (wordF (bodyFl d i)))
theorem headVs_succ (p : Pa) (m : Nat) : headVs p (m + 1) = headVs p m ++ [UV (wordF (headFl p m))] := by unfold headVs; rw [List.range_succ, List.map_append]; rfl
theorem bodyVs_succ (d : ByteArray) (k : Nat) : bodyVs d (k + 1) = bodyVs d k ++ [UV (wordF (bodyFl d k))] := by unfold bodyVs; rw [List.range_succ, List.map_append]; rfl
theorem wordsP_vs (p : Pa) : (wordsP p).map UV = headVs p p.heads.length ++ bodyVs p.data (nBody p.data) ++ [UV (wordF (tailFl p.data))] := by
  unfold wordsP headWs restWs bodyWs headVs bodyVs
  rw [List.map_append, List.map_append, List.map_map, List.map_map, List.append_assoc]; rfl
theorem rest_start (d : ByteArray) : d = d.extract (6 * 0) d.size := by rw [Nat.mul_zero, ByteArray.extract_zero_size]
theorem rest_body {d r : ByteArray} {k : Nat} (hr : r = d.extract (6 * k) d.size) (hs : r.size + 6 * k = d.size) (h : 6 < r.size) :
    r.extract 0 6 = d.extract (6 * k) (6 * k + 6) ∧ r.extract 6 r.size = d.extract (6 * (k + 1)) d.size ∧ k < nBody d ∧ (r.extract 6 r.size).size + 6 * (k + 1) = d.size ∧ (r.extract 6 r.size).size < r.size := by
  refine ⟨?_, ?_, ?_, ?_, ?_⟩
  · rw [hr, ByteArray.extract_extract]; congr 1; omega
  · rw [hr, ByteArray.extract_extract, ← hr]
    have e1 : 6 * k + 6 = 6 * (k + 1) := by omega
    have e2 : min (6 * k + r.size) d.size = d.size := by omega
    rw [e1, e2]
  · unfold nBody; omega
  · rw [ByteArray.size_extract]; omega
  · rw [ByteArray.size_extract]; omega
theorem rest_tail {d r : ByteArray} {k : Nat} (hs : r.size + 6 * k = d.size) (hk : k ≤ nBody d) (h : ¬ 6 < r.size) : k = nBody d := by unfold nBody at *; omega
set_option maxRecDepth 100000 in
set_option maxHeartbeats 2000000 in
theorem rwords10 (p : Pa) (a : Option Addr) (c : Nat) (w : World) (h : CellsOff w a (flatT p.heads) []) (hR : rightP p = true) :
    Calls Try.prog 31 #[p.val (.slice a p.heads.length c)] w fun e w' => ∃ v, e = .returned (.tuple #[v, .int .i64 0]) ∧ w'.ownsRow w.heap.size 22 1 v (wordsP p).length ((wordsP p).map UV) ∧ Below w.heap.size w w' := by
  obtain ⟨-, -, -, -, hn, -, hd⟩ := right_parts hR
  have hWh : ∀ i, i < p.heads.length → ∀ w, Calls Try.prog 48 #[.agg #[.int .i64 1, .int .i64 p.src, .int .i64 (p.heads.getD i T2.zero).node, .int .i64 (p.heads.getD i T2.zero).seq, .int .i64 (p.data.size : Int), .bool (decide ((i : Int) + 1 < (p.heads.length : Int))), .bool p.cast, .string ⟨#[]⟩]] w fun e w' => e = .returned (.tuple #[.int .u64 (wordF (headFl p i) : Nat), .int .i64 0]) ∧ Below w.heap.size w w' := fun i hi w => by
    have := rflit_write (headFl p i) w
    rw [writeF_right (head_right hR hi)] at this
    rw [show decide ((i : Int) + 1 < (p.heads.length : Int)) = decide (i + 1 < p.heads.length) from decide_eq_decide.2 (by omega)]
    exact this
  have hWb : ∀ k, k < nBody p.data → ∀ w, Calls Try.prog 48 #[.agg #[.int .i64 2, .int .i64 0, .int .i64 0, .int .i64 0, .int .i64 0, .bool false, .bool false, .string (p.data.extract (6 * k) (6 * k + 6))]] w fun e w' => e = .returned (.tuple #[.int .u64 (wordF (bodyFl p.data k) : Nat), .int .i64 0]) ∧ Below w.heap.size w w' := fun i hi w => by
    have := rflit_write (bodyFl p.data i) w
    rw [writeF_right (body_right hi)] at this
    exact this
  have hWt : ∀ w, Calls Try.prog 48 #[.agg #[.int .i64 3, .int .i64 0, .int .i64 0, .int .i64 0, .int .i64 0, .bool false, .bool false, .string (p.data.extract (6 * nBody p.data) p.data.size)]] w fun e w' => e = .returned (.tuple #[.int .u64 (wordF (tailFl p.data) : Nat), .int .i64 0]) ∧ Below w.heap.size w w' := fun w => by
    have := rflit_write (tailFl p.data) w
    rw [writeF_right (tail_right _)] at this
    exact this
  have hRt : ∀ w', Below w.heap.size w w' → Calls Try.prog 58 #[p.val (.slice a p.heads.length c)] w' fun e w'' => e = .returned (.bool true) ∧ Below w'.heap.size w' w'' := fun w' hb => by
    have := rright10 p a c w' (by unfold maxLen; omega) (h.below hb)
    rwa [hR] at this
  rw [wordsP_vs, wordsP_len]
  obtain ⟨src, cast, heads, data⟩ := p
  dsimp only at *
  have HC := Lib.hid (fun i hi => head_cell (i := i) h hi)
  have HWh := Lib.hid hWh
  have HWb := Lib.hid hWb
  have HWt := Lib.hid hWt
  have HRt := Lib.hid hRt
  clear h hR hWh hWb hWt hRt
  have hdI : (data.size : Int) ≤ 64 := by omega
  have hnI : (heads.length : Int) ≤ 4096 := by omega
  unfold Pa.val
  go_enter Try.func31, Try.ntmps31
  go_wp2_with (first
    | (go_at_call 58; ((with_reducible refine (HRt.out _ (by repeat' (first | (with_reducible assumption) | (with_reducible refine below_setRowN ?_ ?_ _) | (with_reducible refine Below.setCell ?_ ?_ _) | (with_reducible refine below_drewN' ?_ _) | (with_reducible refine Below.drew ?_) | (with_reducible refine Below.alloc ?_ ?_ _) | (with_reducible exact Below.refl _ _) | (with_reducible exact Nat.le_refl _) | (simp; done) | omega | (simp; omega)))).mono ?_); rintro e w1 ⟨rfl, hb1⟩)))
  have hF1 := Below.at hb1 (alloc_new _) (by simp)
  have hB1 : Below w.heap.size w w1 := Below.trans ((Below.refl _ _).alloc (Nat.le_refl _) _) (hb1.mono (by simp))
  have hs1 := block_lt hF1
  have HF1 := Lib.hid hF1
  have HB1 := Lib.hid hB1
  clear hF1 hB1 hb1 HRt

  go_loopw [4, 5] (fun v i wr => ∃ m : Nat, m ≤ heads.length ∧ i = .int .i64 (m : Int) ∧ wr.ownsRow w1.heap.size 22 1 v m (headVs ⟨src, cast, heads, data⟩ m) ∧ Below w1.heap.size w1 wr) (fun _ i _ => heads.length - (intOf i).toNat)
  case atStart => exact ⟨0, by omega, rfl, World.ownsRow_nil _ _ _ _, Below.refl _ _⟩
  case round =>
    obtain ⟨m, hm, rfl, hown, hb⟩ := hrel
    obtain ⟨wo, rfl⟩ : ∃ x : World, x = wr := ⟨_, rfl⟩
    have hbw : Below w.heap.size w wo := HB1.out.trans (hb.mono HB1.out.size)
    have hso := hb.size
    have fB := aft_cells (Below.at hb HF1.out hs1)
    have f0 := fun j => cell_at (Below.at hb HF1.out hs1) j
    by_cases hml : m < heads.length
    · obtain ⟨blk, off, rfl, hlt, c0, c1⟩ := HC.out m hml
      have d0 : ∀ q : In (Aft wo), q.w.cell? ⟨blk, off + m * 2, none⟩ = some (.int .i64 (heads.getD m T2.zero).node) := fun q => ((hbw.trans (q.h.mono hbw.size)).cell (p := ⟨blk, _, none⟩) hlt).trans c0
      have d1 : ∀ q : In (Aft wo), q.w.cell? ⟨blk, off + m * 2 + 1, none⟩ = some (.int .i64 (heads.getD m T2.zero).seq) := fun q => ((hbw.trans (q.h.mono hbw.size)).cell (p := ⟨blk, _, none⟩) hlt).trans c1
      have hmI : (m : Int) < (heads.length : Int) := by omega
      have HW := Lib.hid (HWh.out m hml)
      have HS := Lib.hid (headVs_succ ⟨src, cast, heads, data⟩ m)
      have HO := Lib.hid hown
      have HB := Lib.hid hb
      clear c0 c1 hown hb hbw
      generalize heads.getD m T2.zero = t at *
      generalize wordF (headFl ⟨src, cast, heads, data⟩ m) = x at *
      go_upto_region 9 with (fail)
      refine wp_region_in (Aft wo) (by kernel_rfl) (by kernel_rfl) (Below.drew (Below.refl _ _)) ?_
      repeat (go_big_quiet_step (first
        | (go_at_call 48; with_reducible exact aft_calls (HW.out _))))
      refine wpQuiet_nil ?_
      intro _ hw'
      obtain ⟨q1, rfl⟩ := hw'
      have hown1 := owns_aft HO.out q1.h
      have hs1q : w1.heap.size ≤ q1.w.heap.size := Nat.le_trans hso q1.h.size
      go_wp2_with (first
        | (at_builtin; refine append_own (W0 := q1.w) [.int .u64 (x : Int)] w1.heap.size _ _ _ 1 8 infoU64p Try.underlying44 rfl (by decide) _ _ _ hown1 (Below.refl _ _) hs1q rfl (by simp [Value.oneCell']) (by omega) (by decide) rfl _ _ rfl rfl rfl ?_; intro v1 w4 hown4 hb4 hg4 hor4; have HO4 := Lib.hid hown4; have HB4 := Lib.hid hb4; clear hown4 hb4 hg4 hor4))
      go_roundw
      case rel => exact ⟨m + 1, by omega, by go_num, by rw [HS.out]; exact HO4.out, (HB.out.trans (q1.h.mono hso)).trans HB4.out⟩
      case measure => simp [intOf]; omega
    · obtain rfl : m = heads.length := by omega
      have HO := Lib.hid hown
      have HB := Lib.hid hb
      clear hown hb hbw fB HWh
      go_wp2
      go_loopw [4, 8] (fun v r wr => ∃ (k : Nat) (rs : ByteArray), k ≤ nBody data ∧ r = .string rs ∧ Hid (rs = data.extract (6 * k) data.size) ∧ rs.size + 6 * k = data.size ∧ wr.ownsRow w1.heap.size 22 1 v (heads.length + k) (headVs ⟨src, cast, heads, data⟩ heads.length ++ bodyVs data k) ∧ Below w1.heap.size w1 wr) (fun _ r _ => strLen r)
      case atStart => exact ⟨0, data, by omega, rfl, rest_start data, by omega, by have := HO.out; simpa [bodyVs] using this, HB.out⟩
      case round =>
        clear HO HB
        obtain ⟨k, rs, hk, rfl, hE, hsz, hown, hb⟩ := hrel
        obtain ⟨wl, rfl⟩ : ∃ x : World, x = wr := ⟨_, rfl⟩
        have hsl := hb.size
        have HO := Lib.hid hown
        have HB := Lib.hid hb
        clear hown hb
        by_cases hlt6 : 6 < rs.size
        · obtain ⟨e1, e2, hkn, e3, e4⟩ := rest_body hE.out hsz hlt6
          have HW := HWb.out k hkn
          rw [← e1] at HW
          have HS := Lib.hid (bodyVs_succ data k)
          have HW := Lib.hid HW
          have E2 := Lib.hid e2
          have E3 := Lib.hid e3
          have hlI : (6 : Int) < (rs.size : Int) := by omega
          have hsI : (rs.size : Int) ≤ 64 := by omega
          have hbn : (heads.length + k + 1) * 8 ≤ 140737488355328 := by omega
          generalize wordF (bodyFl data k) = x at *
          clear e1 e2 e3
          go_wp2_with (first
            | (go_at_call 48; ((with_reducible refine (HW.out _).mono ?_); rintro e w3 ⟨rfl, hb3⟩; have hown3 := owns_aft HO.out hb3; have hs3 := hb3.size; have hs3q : w1.heap.size ≤ w3.heap.size := (by omega); have HB3 := Lib.hid hb3; clear hb3))
            | (at_builtin; refine append_own (W0 := w3) [.int .u64 (x : Int)] w1.heap.size _ _ _ 1 8 infoU64p Try.underlying44 rfl (by decide) _ _ _ hown3 (Below.refl _ _) hs3q rfl (by simp [Value.oneCell']) hbn (by decide) rfl _ _ rfl rfl rfl ?_; intro v1 w4 hown4 hb4 hg4 hor4; have HO4 := Lib.hid hown4; have HB4 := Lib.hid hb4; clear hown4 hb4 hg4 hor4))
          go_roundw
          case rel => exact ⟨k + 1, _, by omega, rfl, E2.out, E3.out, by rw [HS.out, ← List.append_assoc]; exact HO4.out, (HB.out.trans (HB3.out.mono hsl)).trans HB4.out⟩
          case measure => exact e4
        · obtain rfl := rest_tail hsz hk hlt6
          have HW := HWt.out
          rw [← hE.out] at HW
          obtain ⟨x, hx⟩ : ∃ x, x = wordF (tailFl data) := ⟨_, rfl⟩
          rw [← hx] at HW
          have HW := Lib.hid HW
          have HX := Lib.hid hx
          clear hx
          have hlI : ¬ ((6 : Int) < (rs.size : Int)) := by omega
          have hbn : (heads.length + nBody data + 1) * 8 ≤ 140737488355328 := by omega
          go_wp2_with (first
            | (go_at_call 48; ((with_reducible refine (HW.out _).mono ?_); rintro e w3 ⟨rfl, hb3⟩; have hown3 := owns_aft HO.out hb3; have hs3 := hb3.size; have hs3q : w1.heap.size ≤ w3.heap.size := (by omega); have HB3 := Lib.hid hb3; clear hb3))
            | (at_builtin; refine append_own (W0 := w3) [.int .u64 (x : Int)] w1.heap.size _ _ _ 1 8 infoU64p Try.underlying44 rfl (by decide) _ _ _ hown3 (Below.refl _ _) hs3q rfl (by simp [Value.oneCell']) hbn (by decide) rfl _ _ rfl rfl rfl ?_; intro v1 w4 hown4 hb4 hg4 hor4; have HO4 := Lib.hid hown4; have HB4 := Lib.hid hb4; clear hown4 hb4 hg4 hor4))
          go_ret2
          have hsw := HB1.out.size
          have ho := HO4.out
          rw [HX.out] at ho
          exact ⟨v1, rfl, owns_base ho (by omega), HB1.out.trans (((HB.out.trans (HB3.out.mono hsl)).trans HB4.out).mono hsw)⟩
end Go.Proofs.Ytpklblaenfhncaa
