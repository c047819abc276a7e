/- join.Take. -/
import Derived.Test.YtmehfflomgldeaaJoinMath
import Derived.Test.YtmehfflomgldeaaRefPaD
import Derived.BigQuiet
namespace Go.Proofs.Ytmehfflomgldeaa
set_option linter.unusedVariables false
set_option linter.unusedSimpArgs false
open Go.RowKit BM
theorem res_row_tmp2 {fn : Func} {P : Program} {p u v : Tmp} {ty : TypeId} (h : fn.results = #[.cell p ty, .tmp u, .tmp v]) (tmps : Array Value) (w : World) (g : Nat) (t : TypeId) (cs : Array Value) (fr : Nat × Nat) (d : TypeDesc)
    (hp : tmps.getD p undef = .pointer (some ⟨g, 0, none⟩)) (hg : w.heap[g]? = some (.cells cs t fr))
    (hu : P.underlying ty = some d) (hd : (match d with | .struct _ | .array _ _ => true | _ => false) = true) (hi : (P.info? ty).map (·.size) = some cs.size) :
    (results fn tmps).run P w = .ok (.tuple #[.agg cs, tmps.getD u undef, tmps.getD v undef]) w := by
  have hp' : tmps[p]?.getD undef = .pointer (some ⟨g, 0, none⟩) := by rw [← Array.getD_eq_getD_getElem?]; exact hp
  simp [results, h, hp', asAddr, run_loadVar_row w g t ty cs fr d hg hu hd hi, Result.andThen]
theorem stored6 {w : World} {b : Nat} {T : TypeId} {c0 c1 c2 c3 c4 c5 u0 u1 u2 u3 u4 u5 : Value} (h : w.heap[b]? = some (.cells #[c0, c1, c2, c3, c4, c5] T (0, 0))) :
    ((((((w.setCell ⟨b, 0, none⟩ u0).setCell ⟨b, 1, none⟩ u1).setCell ⟨b, 2, none⟩ u2).setCell ⟨b, 3, none⟩ u3).setCell ⟨b, 4, none⟩ u4).setCell ⟨b, 5, none⟩ u5).heap[b]? = some (.cells #[u0, u1, u2, u3, u4, u5] T (0, 0)) := by
  rw [set_at (set_at (set_at (set_at (set_at (set_at h _ _) _ _) _ _) _ _) _ _) _ _]; rfl
theorem storedMid {w : World} {b : Nat} {T : TypeId} {c0 c1 c2 c3 c4 c5 u1 u2 u3 u4 : Value} (h : w.heap[b]? = some (.cells #[c0, c1, c2, c3, c4, c5] T (0, 0))) :
    ((((w.setCell ⟨b, 1, none⟩ u1).setCell ⟨b, 2, none⟩ u2).setCell ⟨b, 3, none⟩ u3).setCell ⟨b, 4, none⟩ u4).heap[b]? = some (.cells #[c0, u1, u2, u3, u4, c5] T (0, 0)) := by
  rw [set_at (set_at (set_at (set_at h _ _) _ _) _ _) _ _]; rfl
theorem only_cellX {S : List Nat} {a w : World} (h : Only S a w) {p : Addr} (hp : p.block ∈ S ∨ a.heap.size ≤ p.block) (u : Value) : Only S a (w.setCell p u) := by
  rcases hp with hp | hp
  · exact h.setCell hp u
  · exact h.setCell' hp u
def JoinAt (w : World) (b : Nat) (j : JS) : Prop := w.heap[b]? = some (.cells #[.bool j.is, .int .i64 j.pk.src, .int .i64 j.pk.dst, .int .i64 j.pk.seq, .string j.pk.data, .int .i64 j.len] 108 (0, 0))
set_option maxRecDepth 100000 in
set_option maxHeartbeats 2000000 in
theorem join_take (x : Nat) (hx : x < 2 ^ 64) (w : World) (b : Nat) (j : JS) (h : JoinAt w b j) (hd : j.pk.data.size ≤ 4294967296) :
    Calls Try.prog 39 #[.pointer (some ⟨b, 0, none⟩), .int .u64 (x : Int)] w fun e w' => e = .returned (.tuple #[(j.take x).2.1.val, .bool (j.take x).2.2.1, .int .i64 (j.take x).2.2.2]) ∧ JoinAt w' b (j.take x).1 ∧ Only [b] w w' := by
  have hR := fun w => flit_read x hx w
  have hfd := (read_len (x := x) (f := (readF x).1) (e := (readF x).2) rfl).2
  unfold JS.take
  generalize readF x = r at *
  obtain ⟨f, e⟩ := r
  dsimp only at *
  have hbw := block_lt h
  unfold JoinAt at h
  have HX : Hid (∀ w1, Below (w.heap.size + 2) ((w.alloc (.cells #[.int .i64 0, .int .i64 0, .int .i64 0, .string ⟨#[]⟩] 29)).alloc (.cells #[.int .i64 0, .int .i64 0, .int .i64 0, .string ⟨#[]⟩] 29)) w1 → w1.heap[w.heap.size]? = some (.cells #[.int .i64 0, .int .i64 0, .int .i64 0, .string ⟨#[]⟩] 29 (0, 0)) ∧ w1.heap[w.heap.size + 1]? = some (.cells #[.int .i64 0, .int .i64 0, .int .i64 0, .string ⟨#[]⟩] 29 (0, 0)) ∧ w1.heap[b]? = some (.cells #[.bool j.is, .int .i64 j.pk.src, .int .i64 j.pk.dst, .int .i64 j.pk.seq, .string j.pk.data, .int .i64 j.len] 108 (0, 0)) ∧ Below w.heap.size w w1) := fun w1 hb =>
    ⟨Below.at hb (alloc_old (alloc_new _) _) (by omega), Below.at hb (alloc_at _ _ (by simp)) (by omega), Below.at hb (alloc_old (alloc_old h _) _) (by omega), Below.trans (by repeat' (first | (with_reducible assumption) | (with_reducible refine below_setRowN ?_ ?_ _) | (with_reducible refine Below.setCell ?_ ?_ _) | (with_reducible refine below_drewN' ?_ _) | (with_reducible refine Below.drew ?_) | (with_reducible refine Below.alloc ?_ ?_ _) | (with_reducible exact Below.refl _ _) | (with_reducible exact Nat.le_refl _) | (simp; done) | omega | (simp; omega))) (hb.mono (by omega))⟩
  have HR := Lib.hid hR
  have hbn : b ≠ w.heap.size := by omega
  have hbn2 : w.heap.size ≠ b := by omega
  clear hR h
  obtain ⟨is, ⟨psrc, pdst, pseq, pdata⟩, plen⟩ := j
  obtain ⟨kind, src, dst, seq, len, more, cast, data⟩ := f
  dsimp only at *
  by_cases he : e ≠ 0
  · rw [show JS.takeF ⟨is, ⟨psrc, pdst, pseq, pdata⟩, plen⟩ ⟨kind, src, dst, seq, len, more, cast, data⟩ e = (⟨is, ⟨psrc, pdst, pseq, pdata⟩, plen⟩, Pk.zero, false, e) from if_pos he]
    have heb : (e != 0) = true := bne_iff_ne.2 he
    clear he
    go_enter Try.func39, Try.ntmps39
    go_wp2_with ((first | (go_at_call 54; ((with_reducible refine (HR.out _).mono ?_); rintro e w1 ⟨rfl, hb1⟩; have hb1' : Below (w.heap.size + 2) ((w.alloc (.cells #[.int .i64 0, .int .i64 0, .int .i64 0, .string ⟨#[]⟩] 29)).alloc (.cells #[.int .i64 0, .int .i64 0, .int .i64 0, .string ⟨#[]⟩] 29)) w1 := (by simpa using hb1); obtain ⟨hZ, hY, hJ, hbw⟩ := HX.out _ hb1'; have hlw := block_lt hZ; have hly := block_lt hY; have hlj := block_lt hJ; have fZ := fun j => cell_at hZ j; have uZ := fun j => frozen_at hZ j; have fY := fun j => cell_at hY j; have fJ := fun j => cell_at hJ j; have uJ := fun j => frozen_at hJ j; have HZ := Lib.hid hZ; have HY := Lib.hid hY; have HJ := Lib.hid hJ; have HBW := Lib.hid hbw; clear hZ hY hJ hbw hb1 hb1'))))
    refine bodyPost_ret (res_row_tmp2 rfl _ _ w.heap.size 29 #[.int .i64 0, .int .i64 0, .int .i64 0, .string ⟨#[]⟩] (0, 0) _ rfl (by repeat' (first | (with_reducible exact HZ.out) | (with_reducible exact HJ.out) | (with_reducible apply stored6) | (with_reducible apply storedMid) | (with_reducible apply stored4) | (with_reducible refine set_other ?_ ?_ _ _) | (with_reducible refine drewN_at ?_ _) | (with_reducible refine alloc_old ?_ _) | (simp; done) | omega)) Try.underlying29 rfl (by kernel_rfl)) rfl ⟨rfl, by unfold JoinAt; (try dsimp only [JS.zero, Pk.zero]); repeat' (first | (with_reducible exact HZ.out) | (with_reducible exact HJ.out) | (with_reducible apply stored6) | (with_reducible apply storedMid) | (with_reducible apply stored4) | (with_reducible refine set_other ?_ ?_ _ _) | (with_reducible refine drewN_at ?_ _) | (with_reducible refine alloc_old ?_ _) | (simp; done) | omega), by repeat' (first | (with_reducible exact Only.ofBelow HBW.out _) | (with_reducible refine only_cellX ?_ ?_ _) | (with_reducible refine Only.drewN ?_ _) | (with_reducible refine Only.alloc ?_ _) | (simp; done) | (simp; omega) | omega)⟩
  have he0 : e = 0 := by omega
  subst he0
  clear he
  cases is with
  | true =>
    by_cases hk : kind = 1
    · subst hk
      rw [show JS.takeF ⟨true, ⟨psrc, pdst, pseq, pdata⟩, plen⟩ ⟨1, src, dst, seq, len, more, cast, data⟩ 0 = (⟨true, ⟨psrc, pdst, pseq, pdata⟩, plen⟩, Pk.zero, false, 13) from rfl]
      go_enter Try.func39, Try.ntmps39
      go_wp2_with ((first | (go_at_call 54; ((with_reducible refine (HR.out _).mono ?_); rintro e w1 ⟨rfl, hb1⟩; have hb1' : Below (w.heap.size + 2) ((w.alloc (.cells #[.int .i64 0, .int .i64 0, .int .i64 0, .string ⟨#[]⟩] 29)).alloc (.cells #[.int .i64 0, .int .i64 0, .int .i64 0, .string ⟨#[]⟩] 29)) w1 := (by simpa using hb1); obtain ⟨hZ, hY, hJ, hbw⟩ := HX.out _ hb1'; have hlw := block_lt hZ; have hly := block_lt hY; have hlj := block_lt hJ; have fZ := fun j => cell_at hZ j; have uZ := fun j => frozen_at hZ j; have fY := fun j => cell_at hY j; have fJ := fun j => cell_at hJ j; have uJ := fun j => frozen_at hJ j; have HZ := Lib.hid hZ; have HY := Lib.hid hY; have HJ := Lib.hid hJ; have HBW := Lib.hid hbw; clear hZ hY hJ hbw hb1 hb1'))))
      go_quiet (fail)
      go_wp2
      refine bodyPost_ret (res_row_tmp2 rfl _ _ w.heap.size 29 #[.int .i64 0, .int .i64 0, .int .i64 0, .string ⟨#[]⟩] (0, 0) _ rfl (by repeat' (first | (with_reducible exact HZ.out) | (with_reducible exact HJ.out) | (with_reducible apply stored6) | (with_reducible apply storedMid) | (with_reducible apply stored4) | (with_reducible refine set_other ?_ ?_ _ _) | (with_reducible refine drewN_at ?_ _) | (with_reducible refine alloc_old ?_ _) | (simp; done) | omega)) Try.underlying29 rfl (by kernel_rfl)) rfl ⟨rfl, by unfold JoinAt; (try dsimp only [JS.zero, Pk.zero]); repeat' (first | (with_reducible exact HZ.out) | (with_reducible exact HJ.out) | (with_reducible apply stored6) | (with_reducible apply storedMid) | (with_reducible apply stored4) | (with_reducible refine set_other ?_ ?_ _ _) | (with_reducible refine drewN_at ?_ _) | (with_reducible refine alloc_old ?_ _) | (simp; done) | omega), by repeat' (first | (with_reducible exact Only.ofBelow HBW.out _) | (with_reducible refine only_cellX ?_ ?_ _) | (with_reducible refine Only.drewN ?_ _) | (with_reducible refine Only.alloc ?_ _) | (simp; done) | (simp; omega) | omega)⟩
    have hkb : (kind == 1) = false := beq_eq_false_iff_ne.2 hk
    have hcat : ((pdata ++ data).size : Int) = (pdata.size : Int) + (data.size : Int) := by rw [ByteArray.size_append]; simp
    by_cases hk3 : kind = 3
    · subst hk3
      by_cases hs : ((pdata ++ data).size : Int) = plen
      · rw [show JS.takeF ⟨true, ⟨psrc, pdst, pseq, pdata⟩, plen⟩ ⟨3, src, dst, seq, len, more, cast, data⟩ 0 = (JS.zero, ⟨psrc, pdst, pseq, pdata ++ data⟩, true, 0) from if_pos hs]
        have hs1 : ((pdata.size : Int) + (data.size : Int) == plen) = true := beq_iff_eq.2 (by omega)
        have hs2 : (((pdata ++ data).size : Int) == plen) = true := beq_iff_eq.2 hs
        clear hs hcat
        go_enter Try.func39, Try.ntmps39
        go_wp2_with ((first | (go_at_call 54; ((with_reducible refine (HR.out _).mono ?_); rintro e w1 ⟨rfl, hb1⟩; have hb1' : Below (w.heap.size + 2) ((w.alloc (.cells #[.int .i64 0, .int .i64 0, .int .i64 0, .string ⟨#[]⟩] 29)).alloc (.cells #[.int .i64 0, .int .i64 0, .int .i64 0, .string ⟨#[]⟩] 29)) w1 := (by simpa using hb1); obtain ⟨hZ, hY, hJ, hbw⟩ := HX.out _ hb1'; have hlw := block_lt hZ; have hly := block_lt hY; have hlj := block_lt hJ; have fZ := fun j => cell_at hZ j; have uZ := fun j => frozen_at hZ j; have fY := fun j => cell_at hY j; have fJ := fun j => cell_at hJ j; have uJ := fun j => frozen_at hJ j; have HZ := Lib.hid hZ; have HY := Lib.hid hY; have HJ := Lib.hid hJ; have HBW := Lib.hid hbw; clear hZ hY hJ hbw hb1 hb1'))))
        go_quiet (fail)
        go_wp2
        go_quiet (fail)
        go_wp2
        refine bodyPost_ret (res_row_tmp2 rfl _ _ w.heap.size 29 #[.int .i64 psrc, .int .i64 pdst, .int .i64 pseq, .string (pdata ++ data)] (0, 0) _ rfl (by repeat' (first | (with_reducible exact HZ.out) | (with_reducible exact HJ.out) | (with_reducible apply stored6) | (with_reducible apply storedMid) | (with_reducible apply stored4) | (with_reducible refine set_other ?_ ?_ _ _) | (with_reducible refine drewN_at ?_ _) | (with_reducible refine alloc_old ?_ _) | (simp; done) | omega)) Try.underlying29 rfl (by kernel_rfl)) rfl ⟨rfl, by show _ = some (Obj.cells #[.bool false, .int .i64 0, .int .i64 0, .int .i64 0, .string ⟨#[]⟩, .int .i64 0] 108 (0, 0)); repeat' (first | (with_reducible exact HZ.out) | (with_reducible exact HJ.out) | (with_reducible apply stored6) | (with_reducible apply storedMid) | (with_reducible apply stored4) | (with_reducible refine set_other ?_ ?_ _ _) | (with_reducible refine drewN_at ?_ _) | (with_reducible refine alloc_old ?_ _) | (simp; done) | omega), by repeat' (first | (with_reducible exact Only.ofBelow HBW.out _) | (with_reducible refine only_cellX ?_ ?_ _) | (with_reducible refine Only.drewN ?_ _) | (with_reducible refine Only.alloc ?_ _) | (simp; done) | (simp; omega) | omega)⟩
      · rw [show JS.takeF ⟨true, ⟨psrc, pdst, pseq, pdata⟩, plen⟩ ⟨3, src, dst, seq, len, more, cast, data⟩ 0 = (JS.zero, Pk.zero, false, 4) from if_neg hs]
        have hs1 : ((pdata.size : Int) + (data.size : Int) == plen) = false := beq_eq_false_iff_ne.2 (by omega)
        have hs2 : (((pdata ++ data).size : Int) == plen) = false := beq_eq_false_iff_ne.2 hs
        clear hs hcat
        go_enter Try.func39, Try.ntmps39
        go_wp2_with ((first | (go_at_call 54; ((with_reducible refine (HR.out _).mono ?_); rintro e w1 ⟨rfl, hb1⟩; have hb1' : Below (w.heap.size + 2) ((w.alloc (.cells #[.int .i64 0, .int .i64 0, .int .i64 0, .string ⟨#[]⟩] 29)).alloc (.cells #[.int .i64 0, .int .i64 0, .int .i64 0, .string ⟨#[]⟩] 29)) w1 := (by simpa using hb1); obtain ⟨hZ, hY, hJ, hbw⟩ := HX.out _ hb1'; have hlw := block_lt hZ; have hly := block_lt hY; have hlj := block_lt hJ; have fZ := fun j => cell_at hZ j; have uZ := fun j => frozen_at hZ j; have fY := fun j => cell_at hY j; have fJ := fun j => cell_at hJ j; have uJ := fun j => frozen_at hJ j; have HZ := Lib.hid hZ; have HY := Lib.hid hY; have HJ := Lib.hid hJ; have HBW := Lib.hid hbw; clear hZ hY hJ hbw hb1 hb1'))))
        go_quiet (fail)
        go_wp2
        go_quiet (fail)
        go_wp2
        refine bodyPost_ret (res_row_tmp2 rfl _ _ w.heap.size 29 #[.int .i64 0, .int .i64 0, .int .i64 0, .string ⟨#[]⟩] (0, 0) _ rfl (by repeat' (first | (with_reducible exact HZ.out) | (with_reducible exact HJ.out) | (with_reducible apply stored6) | (with_reducible apply storedMid) | (with_reducible apply stored4) | (with_reducible refine set_other ?_ ?_ _ _) | (with_reducible refine drewN_at ?_ _) | (with_reducible refine alloc_old ?_ _) | (simp; done) | omega)) Try.underlying29 rfl (by kernel_rfl)) rfl ⟨rfl, by show _ = some (Obj.cells #[.bool false, .int .i64 0, .int .i64 0, .int .i64 0, .string ⟨#[]⟩, .int .i64 0] 108 (0, 0)); repeat' (first | (with_reducible exact HZ.out) | (with_reducible exact HJ.out) | (with_reducible apply stored6) | (with_reducible apply storedMid) | (with_reducible apply stored4) | (with_reducible refine set_other ?_ ?_ _ _) | (with_reducible refine drewN_at ?_ _) | (with_reducible refine alloc_old ?_ _) | (simp; done) | omega), by repeat' (first | (with_reducible exact Only.ofBelow HBW.out _) | (with_reducible refine only_cellX ?_ ?_ _) | (with_reducible refine Only.drewN ?_ _) | (with_reducible refine Only.alloc ?_ _) | (simp; done) | (simp; omega) | omega)⟩
    · have hk3b : (kind == 3) = false := beq_eq_false_iff_ne.2 hk3
      by_cases hs : plen < ((pdata ++ data).size : Int)
      · rw [show JS.takeF ⟨true, ⟨psrc, pdst, pseq, pdata⟩, plen⟩ ⟨kind, src, dst, seq, len, more, cast, data⟩ 0 = (⟨true, ⟨psrc, pdst, pseq, pdata⟩, plen⟩, Pk.zero, false, 4) from by unfold JS.takeF; simp [hk, hk3]; omega]
        have hs1 : plen < (pdata.size : Int) + (data.size : Int) := by omega
        clear hcat
        go_enter Try.func39, Try.ntmps39
        go_wp2_with ((first | (go_at_call 54; ((with_reducible refine (HR.out _).mono ?_); rintro e w1 ⟨rfl, hb1⟩; have hb1' : Below (w.heap.size + 2) ((w.alloc (.cells #[.int .i64 0, .int .i64 0, .int .i64 0, .string ⟨#[]⟩] 29)).alloc (.cells #[.int .i64 0, .int .i64 0, .int .i64 0, .string ⟨#[]⟩] 29)) w1 := (by simpa using hb1); obtain ⟨hZ, hY, hJ, hbw⟩ := HX.out _ hb1'; have hlw := block_lt hZ; have hly := block_lt hY; have hlj := block_lt hJ; have fZ := fun j => cell_at hZ j; have uZ := fun j => frozen_at hZ j; have fY := fun j => cell_at hY j; have fJ := fun j => cell_at hJ j; have uJ := fun j => frozen_at hJ j; have HZ := Lib.hid hZ; have HY := Lib.hid hY; have HJ := Lib.hid hJ; have HBW := Lib.hid hbw; clear hZ hY hJ hbw hb1 hb1'))))
        go_quiet (fail)
        go_wp2
        go_quiet (fail)
        go_wp2
        refine bodyPost_ret (res_row_tmp2 rfl _ _ w.heap.size 29 #[.int .i64 0, .int .i64 0, .int .i64 0, .string ⟨#[]⟩] (0, 0) _ rfl (by repeat' (first | (with_reducible exact HZ.out) | (with_reducible exact HJ.out) | (with_reducible apply stored6) | (with_reducible apply storedMid) | (with_reducible apply stored4) | (with_reducible refine set_other ?_ ?_ _ _) | (with_reducible refine drewN_at ?_ _) | (with_reducible refine alloc_old ?_ _) | (simp; done) | omega)) Try.underlying29 rfl (by kernel_rfl)) rfl ⟨rfl, by unfold JoinAt; (try dsimp only [JS.zero, Pk.zero]); repeat' (first | (with_reducible exact HZ.out) | (with_reducible exact HJ.out) | (with_reducible apply stored6) | (with_reducible apply storedMid) | (with_reducible apply stored4) | (with_reducible refine set_other ?_ ?_ _ _) | (with_reducible refine drewN_at ?_ _) | (with_reducible refine alloc_old ?_ _) | (simp; done) | omega), by repeat' (first | (with_reducible exact Only.ofBelow HBW.out _) | (with_reducible refine only_cellX ?_ ?_ _) | (with_reducible refine Only.drewN ?_ _) | (with_reducible refine Only.alloc ?_ _) | (simp; done) | (simp; omega) | omega)⟩
      · rw [show JS.takeF ⟨true, ⟨psrc, pdst, pseq, pdata⟩, plen⟩ ⟨kind, src, dst, seq, len, more, cast, data⟩ 0 = (⟨true, ⟨psrc, pdst, pseq, pdata ++ data⟩, plen⟩, Pk.zero, false, 0) from by unfold JS.takeF; simp [hk, hk3]; omega]
        have hs1 : ¬ (plen < (pdata.size : Int) + (data.size : Int)) := by omega
        clear hcat
        go_enter Try.func39, Try.ntmps39
        go_wp2_with ((first | (go_at_call 54; ((with_reducible refine (HR.out _).mono ?_); rintro e w1 ⟨rfl, hb1⟩; have hb1' : Below (w.heap.size + 2) ((w.alloc (.cells #[.int .i64 0, .int .i64 0, .int .i64 0, .string ⟨#[]⟩] 29)).alloc (.cells #[.int .i64 0, .int .i64 0, .int .i64 0, .string ⟨#[]⟩] 29)) w1 := (by simpa using hb1); obtain ⟨hZ, hY, hJ, hbw⟩ := HX.out _ hb1'; have hlw := block_lt hZ; have hly := block_lt hY; have hlj := block_lt hJ; have fZ := fun j => cell_at hZ j; have uZ := fun j => frozen_at hZ j; have fY := fun j => cell_at hY j; have fJ := fun j => cell_at hJ j; have uJ := fun j => frozen_at hJ j; have HZ := Lib.hid hZ; have HY := Lib.hid hY; have HJ := Lib.hid hJ; have HBW := Lib.hid hbw; clear hZ hY hJ hbw hb1 hb1'))))
        go_quiet (fail)
        go_wp2
        go_quiet (fail)
        go_wp2
        refine bodyPost_ret (res_row_tmp2 rfl _ _ w.heap.size 29 #[.int .i64 0, .int .i64 0, .int .i64 0, .string ⟨#[]⟩] (0, 0) _ rfl (by repeat' (first | (with_reducible exact HZ.out) | (with_reducible exact HJ.out) | (with_reducible apply stored6) | (with_reducible apply storedMid) | (with_reducible apply stored4) | (with_reducible refine set_other ?_ ?_ _ _) | (with_reducible refine drewN_at ?_ _) | (with_reducible refine alloc_old ?_ _) | (simp; done) | omega)) Try.underlying29 rfl (by kernel_rfl)) rfl ⟨rfl, by unfold JoinAt; (try dsimp only [JS.zero, Pk.zero]); repeat' (first | (with_reducible exact HZ.out) | (with_reducible exact HJ.out) | (with_reducible apply stored6) | (with_reducible apply storedMid) | (with_reducible apply stored4) | (with_reducible refine set_other ?_ ?_ _ _) | (with_reducible refine drewN_at ?_ _) | (with_reducible refine alloc_old ?_ _) | (simp; done) | omega), by repeat' (first | (with_reducible exact Only.ofBelow HBW.out _) | (with_reducible refine only_cellX ?_ ?_ _) | (with_reducible refine Only.drewN ?_ _) | (with_reducible refine Only.alloc ?_ _) | (simp; done) | (simp; omega) | omega)⟩
  | false =>
    by_cases hk : kind = 1
    · subst hk
      rw [show JS.takeF ⟨false, ⟨psrc, pdst, pseq, pdata⟩, plen⟩ ⟨1, src, dst, seq, len, more, cast, data⟩ 0 = (⟨true, ⟨src, dst, seq, ByteArray.empty⟩, len⟩, Pk.zero, false, 0) from rfl]
      go_enter Try.func39, Try.ntmps39
      go_wp2_with ((first | (go_at_call 54; ((with_reducible refine (HR.out _).mono ?_); rintro e w1 ⟨rfl, hb1⟩; have hb1' : Below (w.heap.size + 2) ((w.alloc (.cells #[.int .i64 0, .int .i64 0, .int .i64 0, .string ⟨#[]⟩] 29)).alloc (.cells #[.int .i64 0, .int .i64 0, .int .i64 0, .string ⟨#[]⟩] 29)) w1 := (by simpa using hb1); obtain ⟨hZ, hY, hJ, hbw⟩ := HX.out _ hb1'; have hlw := block_lt hZ; have hly := block_lt hY; have hlj := block_lt hJ; have fZ := fun j => cell_at hZ j; have uZ := fun j => frozen_at hZ j; have fY := fun j => cell_at hY j; have fJ := fun j => cell_at hJ j; have uJ := fun j => frozen_at hJ j; have HZ := Lib.hid hZ; have HY := Lib.hid hY; have HJ := Lib.hid hJ; have HBW := Lib.hid hbw; clear hZ hY hJ hbw hb1 hb1'))))
      go_quiet (fail)
      go_wp2
      refine bodyPost_ret (res_row_tmp2 rfl _ _ w.heap.size 29 #[.int .i64 0, .int .i64 0, .int .i64 0, .string ⟨#[]⟩] (0, 0) _ rfl (by repeat' (first | (with_reducible exact HZ.out) | (with_reducible exact HJ.out) | (with_reducible apply stored6) | (with_reducible apply storedMid) | (with_reducible apply stored4) | (with_reducible refine set_other ?_ ?_ _ _) | (with_reducible refine drewN_at ?_ _) | (with_reducible refine alloc_old ?_ _) | (simp; done) | omega)) Try.underlying29 rfl (by kernel_rfl)) rfl ⟨rfl, by show _ = some (Obj.cells #[.bool true, .int .i64 src, .int .i64 dst, .int .i64 seq, .string ⟨#[]⟩, .int .i64 len] 108 (0, 0)); repeat' (first | (with_reducible exact HZ.out) | (with_reducible exact HJ.out) | (with_reducible apply stored6) | (with_reducible apply storedMid) | (with_reducible apply stored4) | (with_reducible refine set_other ?_ ?_ _ _) | (with_reducible refine drewN_at ?_ _) | (with_reducible refine alloc_old ?_ _) | (simp; done) | omega), by repeat' (first | (with_reducible exact Only.ofBelow HBW.out _) | (with_reducible refine only_cellX ?_ ?_ _) | (with_reducible refine Only.drewN ?_ _) | (with_reducible refine Only.alloc ?_ _) | (simp; done) | (simp; omega) | omega)⟩
    · have hkb : (kind == 1) = false := beq_eq_false_iff_ne.2 hk
      rw [show JS.takeF ⟨false, ⟨psrc, pdst, pseq, pdata⟩, plen⟩ ⟨kind, src, dst, seq, len, more, cast, data⟩ 0 = (⟨false, ⟨psrc, pdst, pseq, pdata⟩, plen⟩, Pk.zero, false, 13) from by unfold JS.takeF; simp [hk]]
      go_enter Try.func39, Try.ntmps39
      go_wp2_with ((first | (go_at_call 54; ((with_reducible refine (HR.out _).mono ?_); rintro e w1 ⟨rfl, hb1⟩; have hb1' : Below (w.heap.size + 2) ((w.alloc (.cells #[.int .i64 0, .int .i64 0, .int .i64 0, .string ⟨#[]⟩] 29)).alloc (.cells #[.int .i64 0, .int .i64 0, .int .i64 0, .string ⟨#[]⟩] 29)) w1 := (by simpa using hb1); obtain ⟨hZ, hY, hJ, hbw⟩ := HX.out _ hb1'; have hlw := block_lt hZ; have hly := block_lt hY; have hlj := block_lt hJ; have fZ := fun j => cell_at hZ j; have uZ := fun j => frozen_at hZ j; have fY := fun j => cell_at hY j; have fJ := fun j => cell_at hJ j; have uJ := fun j => frozen_at hJ j; have HZ := Lib.hid hZ; have HY := Lib.hid hY; have HJ := Lib.hid hJ; have HBW := Lib.hid hbw; clear hZ hY hJ hbw hb1 hb1'))))
      go_quiet (fail)
      go_wp2
      refine bodyPost_ret (res_row_tmp2 rfl _ _ w.heap.size 29 #[.int .i64 0, .int .i64 0, .int .i64 0, .string ⟨#[]⟩] (0, 0) _ rfl (by repeat' (first | (with_reducible exact HZ.out) | (with_reducible exact HJ.out) | (with_reducible apply stored6) | (with_reducible apply storedMid) | (with_reducible apply stored4) | (with_reducible refine set_other ?_ ?_ _ _) | (with_reducible refine drewN_at ?_ _) | (with_reducible refine alloc_old ?_ _) | (simp; done) | omega)) Try.underlying29 rfl (by kernel_rfl)) rfl ⟨rfl, by unfold JoinAt; (try dsimp only [JS.zero, Pk.zero]); repeat' (first | (with_reducible exact HZ.out) | (with_reducible exact HJ.out) | (with_reducible apply stored6) | (with_reducible apply storedMid) | (with_reducible apply stored4) | (with_reducible refine set_other ?_ ?_ _ _) | (with_reducible refine drewN_at ?_ _) | (with_reducible refine alloc_old ?_ _) | (simp; done) | omega), by repeat' (first | (with_reducible exact Only.ofBelow HBW.out _) | (with_reducible refine only_cellX ?_ ?_ _) | (with_reducible refine Only.drewN ?_ _) | (with_reducible refine Only.alloc ?_ _) | (simp; done) | (simp; omega) | omega)⟩
end Go.Proofs.Ytmehfflomgldeaa
