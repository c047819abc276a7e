/- The reference's Take. -/
import Derived.Test.YtmehfflomgldeaaJoinB
namespace Go.Proofs.Ytmehfflomgldeaa
set_option linter.unusedVariables false
set_option linter.unusedSimpArgs false
open Go.RowKit BM
theorem res_two_tmp2 {fn : Func} {P : Program} {p q u v : Tmp} {ty ty2 : TypeId} (h : fn.results = #[.cell p ty, .cell q ty2, .tmp u, .tmp v]) (tmps : Array Value) (w : World) (g g2 : Nat) (t t2 : TypeId) (cs cs2 : Array Value) (d d2 : TypeDesc)
    (hp : tmps.getD p undef = .pointer (some ⟨g, 0, none⟩)) (hq : tmps.getD q undef = .pointer (some ⟨g2, 0, none⟩)) (hg : w.heap[g]? = some (.cells cs t (0, 0))) (hg2 : w.heap[g2]? = some (.cells cs2 t2 (0, 0)))
    (hu : P.underlying ty = some d) (hd : (match d with | .struct _ | .array _ _ => true | _ => false) = true) (hi : (P.info? ty).map (·.size) = some cs.size)
    (hu2 : P.underlying ty2 = some d2) (hd2 : (match d2 with | .struct _ | .array _ _ => true | _ => false) = true) (hi2 : (P.info? ty2).map (·.size) = some cs2.size) :
    (results fn tmps).run P w = .ok (.tuple #[.agg cs, .agg cs2, tmps.getD u undef, tmps.getD v undef]) w := by
  have hp' : tmps[p]?.getD undef = .pointer (some ⟨g, 0, none⟩) := by rw [← Array.getD_eq_getD_getElem?]; exact hp
  have hq' : tmps[q]?.getD undef = .pointer (some ⟨g2, 0, none⟩) := by rw [← Array.getD_eq_getD_getElem?]; exact hq
  simp [results, h, hp', hq', asAddr, run_loadVar_row w g t ty cs (0, 0) d hg hu hd hi, run_loadVar_row w g2 t2 ty2 cs2 (0, 0) d2 hg2 hu2 hd2 hi2, Result.andThen]
abbrev JS.val (j : JS) : Value := .agg #[.bool j.is, .int .i64 j.pk.src, .int .i64 j.pk.dst, .int .i64 j.pk.seq, .string j.pk.data, .int .i64 j.len]
set_option maxRecDepth 100000 in
set_option maxHeartbeats 2000000 in
theorem rtake_err (x : Nat) (psrc pdst pseq plen kind src dst seq len e : Int) (pdata data : ByteArray) (is more cast : Bool) (w : World) (hR : ∀ w, Calls Try.prog 43 #[.int .u64 (x : Int)] w fun e' w' => e' = .returned (.tuple #[.agg #[.int .i64 kind, .int .i64 src, .int .i64 dst, .int .i64 seq, .int .i64 len, .bool more, .bool cast, .string data], .int .i64 e]) ∧ Below w.heap.size w w')
    (he : e ≠ 0) :
    Calls Try.prog 41 #[.agg #[.bool is, .int .i64 psrc, .int .i64 pdst, .int .i64 pseq, .string pdata, .int .i64 plen], .int .u64 (x : Int)] w fun e' w' => e' = .returned (.tuple #[.agg #[.bool is, .int .i64 psrc, .int .i64 pdst, .int .i64 pseq, .string pdata, .int .i64 plen], .agg #[.int .i64 0, .int .i64 0, .int .i64 0, .string ⟨#[]⟩], .bool false, .int .i64 e]) ∧ Below w.heap.size w w' := by
  have heb : (e != 0) = true := bne_iff_ne.2 he
  clear he
  have HR := Lib.hid hR
  clear hR
  go_enter Try.func41, Try.ntmps41
  go_upto_region 3 with (first | (go_at_call 43; ((with_reducible refine (HR.out _).mono ?_); rintro e' w1 ⟨rfl, hb1⟩; have hb1' : Below (w.heap.size + 4) ((((w.alloc (.cells #[.bool is, .int .i64 psrc, .int .i64 pdst, .int .i64 pseq, .string pdata, .int .i64 plen] 76)).alloc (.cells #[.bool false, .int .i64 0, .int .i64 0, .int .i64 0, .string ⟨#[]⟩, .int .i64 0] 76)).alloc (.cells #[.int .i64 0, .int .i64 0, .int .i64 0, .string ⟨#[]⟩] 29)).alloc (.cells #[.int .i64 0, .int .i64 0, .int .i64 0, .string ⟨#[]⟩] 29)) w1 := (by simpa using hb1); have HB1 := Lib.hid hb1'; clear hb1 hb1')))
  have hb := HB1.out
  have hs1 := hb.size
  simp at hs1
  have hG1 := Below.at hb (alloc_old (alloc_old (alloc_old (alloc_new _) _) _) _) (by omega)
  have hA1 := Below.at hb (alloc_old (alloc_old (alloc_at _ (w.heap.size + 1) (by simp)) _) _) (by omega)
  have hP1 := Below.at hb (alloc_old (alloc_at _ (w.heap.size + 2) (by simp)) _) (by omega)
  have hZ1 := Below.at hb (alloc_at _ (w.heap.size + 3) (by simp)) (by omega)
  have hF := alloc_new (w := w1) (.cells #[.int .i64 kind, .int .i64 src, .int .i64 dst, .int .i64 seq, .int .i64 len, .bool more, .bool cast, .string data] 81)
  have hG := alloc_old hG1 (.cells #[.int .i64 kind, .int .i64 src, .int .i64 dst, .int .i64 seq, .int .i64 len, .bool more, .bool cast, .string data] 81)
  have hA := alloc_old hA1 (.cells #[.int .i64 kind, .int .i64 src, .int .i64 dst, .int .i64 seq, .int .i64 len, .bool more, .bool cast, .string data] 81)
  have hP := alloc_old hP1 (.cells #[.int .i64 kind, .int .i64 src, .int .i64 dst, .int .i64 seq, .int .i64 len, .bool more, .bool cast, .string data] 81)
  have hZ := alloc_old hZ1 (.cells #[.int .i64 kind, .int .i64 src, .int .i64 dst, .int .i64 seq, .int .i64 len, .bool more, .bool cast, .string data] 81)
  have hB : Below w.heap.size w (w1.alloc (.cells #[.int .i64 kind, .int .i64 src, .int .i64 dst, .int .i64 seq, .int .i64 len, .bool more, .bool cast, .string data] 81)) := Below.trans (show Below w.heap.size w ((((w.alloc (.cells #[.bool is, .int .i64 psrc, .int .i64 pdst, .int .i64 pseq, .string pdata, .int .i64 plen] 76)).alloc (.cells #[.bool false, .int .i64 0, .int .i64 0, .int .i64 0, .string ⟨#[]⟩, .int .i64 0] 76)).alloc (.cells #[.int .i64 0, .int .i64 0, .int .i64 0, .string ⟨#[]⟩] 29)).alloc (.cells #[.int .i64 0, .int .i64 0, .int .i64 0, .string ⟨#[]⟩] 29)) from (by repeat' (first | (with_reducible assumption) | (with_reducible refine below_setRowN ?_ ?_ _) | (with_reducible refine Below.setCell ?_ ?_ _) | (with_reducible refine below_drewN' ?_ _) | (with_reducible refine Below.drew ?_) | (with_reducible refine Below.alloc ?_ ?_ _) | (with_reducible exact Below.refl _ _) | (with_reducible exact Nat.le_refl _) | (simp; done) | omega | (simp; omega)))) ((hb.mono (by omega)).alloc (by omega) _)
  clear hb hG1 hA1 hP1 hZ1 HB1
  generalize w1.alloc (.cells #[.int .i64 kind, .int .i64 src, .int .i64 dst, .int .i64 seq, .int .i64 len, .bool more, .bool cast, .string data] 81) = w2 at *
  have fG := fun j => cell_at hG j
  have fF := fun j => cell_at hF j
  have hlf := block_lt hF
  have hlg := block_lt hG
  go_upto_region 4 with (fail)
  clear fG fF
  have HX : Hid (∀ w', Only [w.heap.size + 1, w.heap.size + 2] w2 w' → ((∀ j, w'.cell? ⟨w.heap.size, j, none⟩ = (#[.bool is, .int .i64 psrc, .int .i64 pdst, .int .i64 pseq, .string pdata, .int .i64 plen] : Array Value)[j]?) ∧ (∀ j, w'.cell? ⟨w.heap.size + 3, j, none⟩ = (#[.int .i64 0, .int .i64 0, .int .i64 0, .string ⟨#[]⟩] : Array Value)[j]?) ∧ (∀ j, w'.cell? ⟨w1.heap.size, j, none⟩ = (#[.int .i64 kind, .int .i64 src, .int .i64 dst, .int .i64 seq, .int .i64 len, .bool more, .bool cast, .string data] : Array Value)[j]?))) := fun w' ho =>
    ⟨fun j => cell_at (ho.at hG (by simp)) j, fun j => cell_at (ho.at hZ (by simp)) j, fun j => cell_at (ho.at hF (by simp; omega)) j⟩
  have hlA := block_lt hA
  have hlP := block_lt hP
  have HA := Lib.hid hA
  have HP := Lib.hid hP
  have HB := Lib.hid hB
  clear hA hP hB hG hZ hF
  refine wp_region_held_drew (S := (fun w' => ((∀ j, w'.cell? ⟨w.heap.size, j, none⟩ = (#[.bool is, .int .i64 psrc, .int .i64 pdst, .int .i64 pseq, .string pdata, .int .i64 plen] : Array Value)[j]?) ∧ (∀ j, w'.cell? ⟨w.heap.size + 3, j, none⟩ = (#[.int .i64 0, .int .i64 0, .int .i64 0, .string ⟨#[]⟩] : Array Value)[j]?) ∧ (∀ j, w'.cell? ⟨w1.heap.size, j, none⟩ = (#[.int .i64 kind, .int .i64 src, .int .i64 dst, .int .i64 seq, .int .i64 len, .bool more, .bool cast, .string data] : Array Value)[j]?)))) (by kernel_rfl) ?_ (fun hHeld0 => ?_)
  · (try dsimp only); exact HX.out _ (by repeat' (first | (with_reducible assumption) | (with_reducible refine only_setRowN ?_ ?_ _) | (with_reducible exact Only.refl _ _) | (with_reducible refine Only.setCell ?_ ?_ _) | (with_reducible refine Only.drewN ?_ _) | (with_reducible refine Only.drew ?_) | (with_reducible refine Only.alloc ?_ _) | (simp; done) | (simp; omega)))
  refine wpAnyH_take (i := 0) (v := ?_) rfl (by kernel_rfl) (by kernel_rfl) (by kernel_rfl) (fun _ _ _ h => h) (Or.inl ⟨by rfl, ?_⟩) (by assumption) ?_
  rotate_left
  · (intro w hSw; (try dsimp only at hSw); go_simp; try with_reducible rfl)
  (try simp only [Act.put, List.setIfInBounds_toArray, List.set_cons_zero, List.set_cons_succ, List.getElem_toArray, List.getElem_cons_zero, List.getElem_cons_succ])
  refine wpAnyH_take (i := 1) (v := ?_) rfl (by kernel_rfl) (by kernel_rfl) (by kernel_rfl) (fun _ _ _ h => h) (Or.inl ⟨by rfl, ?_⟩) (by assumption) ?_
  rotate_left
  · (intro w hSw; (try dsimp only at hSw); go_simp; try with_reducible rfl)
  (try simp only [Act.put, List.setIfInBounds_toArray, List.set_cons_zero, List.set_cons_succ, List.getElem_toArray, List.getElem_cons_zero, List.getElem_cons_succ])
  refine wpAnyH_take (i := 2) (v := ?_) rfl (by kernel_rfl) (by kernel_rfl) (by kernel_rfl) (fun _ _ _ h => h) (Or.inl ⟨by rfl, ?_⟩) (by assumption) ?_
  rotate_left
  · (intro w hSw; (try dsimp only at hSw); go_simp; try with_reducible rfl)
  (try simp only [Act.put, List.setIfInBounds_toArray, List.set_cons_zero, List.set_cons_succ, List.getElem_toArray, List.getElem_cons_zero, List.getElem_cons_succ])
  refine wpAnyH_ready (rs := [3]) (by kernel_rfl) (by simp) ?_
  refine AllReadyH.cons rfl (fun K hK => ?_) ?_
  · (rw [if_pos (by rfl)]; refine wp_store_row 76 _ _ (by rfl) _ _ (by rfl) (by rfl) 76 #[.bool false, .int .i64 0, .int .i64 0, .int .i64 0, .string ⟨#[]⟩, .int .i64 0] (by exact HA.out) (by kernel_rfl) (by rfl) (by first | (simp; done) | simp [Value.oneCell']) ?_)
    refine hK.out _ _ ?_ (fun hHeld1 => ?_)
    · (try dsimp only); exact HX.out _ (by repeat' (first | (with_reducible assumption) | (with_reducible refine only_setRowN ?_ ?_ _) | (with_reducible exact Only.refl _ _) | (with_reducible refine Only.setCell ?_ ?_ _) | (with_reducible refine Only.drewN ?_ _) | (with_reducible refine Only.drew ?_) | (with_reducible refine Only.alloc ?_ _) | (simp; done) | (simp; omega)))
    clear hK K hHeld0
    (try simp only [Act.put, List.setIfInBounds_toArray, List.set_cons_zero, List.set_cons_succ, List.getElem_toArray, List.getElem_cons_zero, List.getElem_cons_succ])
    refine wpAnyH_ready (rs := [4]) (by kernel_rfl) (by simp) ?_
    refine AllReadyH.cons rfl (fun K hK => ?_) ?_
    · (rw [if_pos (by rfl)]; refine wp_store_row 29 _ _ (by rfl) _ _ (by rfl) (by rfl) 29 #[.int .i64 0, .int .i64 0, .int .i64 0, .string ⟨#[]⟩] (by exact setRow_off (w := w2.drew) HP.out (by omega) _) (by kernel_rfl) (by rfl) (by first | (simp; done) | simp [Value.oneCell']) ?_)
      refine hK.out _ _ ?_ (fun hHeld2 => ?_)
      · (try dsimp only); exact HX.out _ (by repeat' (first | (with_reducible assumption) | (with_reducible refine only_setRowN ?_ ?_ _) | (with_reducible exact Only.refl _ _) | (with_reducible refine Only.setCell ?_ ?_ _) | (with_reducible refine Only.drewN ?_ _) | (with_reducible refine Only.drew ?_) | (with_reducible refine Only.alloc ?_ _) | (simp; done) | (simp; omega)))
      clear hK K hHeld1
      (try simp only [Act.put, List.setIfInBounds_toArray, List.set_cons_zero, List.set_cons_succ, List.getElem_toArray, List.getElem_cons_zero, List.getElem_cons_succ])
      refine wpAnyH_take (i := 5) (v := ?_) rfl (by kernel_rfl) (by kernel_rfl) (by kernel_rfl) (fun _ _ _ h => h) (Or.inl ⟨by rfl, ?_⟩) (by assumption) ?_
      rotate_left
      · (intro w hSw; (try dsimp only at hSw); go_simp; try with_reducible rfl)
      (try simp only [Act.put, List.setIfInBounds_toArray, List.set_cons_zero, List.set_cons_succ, List.getElem_toArray, List.getElem_cons_zero, List.getElem_cons_succ])
      refine wpAnyH_take (i := 6) (v := ?_) rfl (by kernel_rfl) (by kernel_rfl) (by kernel_rfl) (fun _ _ _ h => h) (Or.inl ⟨by rfl, ?_⟩) (by assumption) ?_
      rotate_left
      · (intro w hSw; (try dsimp only at hSw); go_simp; try with_reducible rfl)
      (try simp only [Act.put, List.setIfInBounds_toArray, List.set_cons_zero, List.set_cons_succ, List.getElem_toArray, List.getElem_cons_zero, List.getElem_cons_succ])
      refine wpAnyH_done (by kernel_rfl) ?_ _
      go_wp2
      have hB := HB.out
      have hsw := hB.size
      refine bodyPost_ret (res_two_tmp2 rfl _ _ (w.heap.size + 1) (w.heap.size + 2) 76 29 _ _ _ _ rfl rfl (setRow_off (setRow_at (w := w2.drew) HA.out _) (by omega) _) (setRow_at (setRow_off (w := w2.drew) HP.out (by omega) _) _) Try.underlying76 rfl (by kernel_rfl) Try.underlying29 rfl (by kernel_rfl)) rfl ⟨rfl, by repeat' (first | (with_reducible assumption) | (with_reducible refine below_setRowN ?_ ?_ _) | (with_reducible refine Below.setCell ?_ ?_ _) | (with_reducible refine below_drewN' ?_ _) | (with_reducible refine Below.drew ?_) | (with_reducible refine Below.alloc ?_ ?_ _) | (with_reducible exact Below.refl _ _) | (with_reducible exact Nat.le_refl _) | (simp; done) | omega | (simp; omega))⟩
    exact AllReadyH.nil
  exact AllReadyH.nil
set_option maxRecDepth 100000 in
set_option maxHeartbeats 2000000 in
theorem rtake_twice (x : Nat) (psrc pdst pseq plen  src dst seq len  : Int) (pdata data : ByteArray) (more cast : Bool) (w : World) (hR : ∀ w, Calls Try.prog 43 #[.int .u64 (x : Int)] w fun e' w' => e' = .returned (.tuple #[.agg #[.int .i64 1, .int .i64 src, .int .i64 dst, .int .i64 seq, .int .i64 len, .bool more, .bool cast, .string data], .int .i64 0]) ∧ Below w.heap.size w w')
    (h0 : True) :
    Calls Try.prog 41 #[.agg #[.bool true, .int .i64 psrc, .int .i64 pdst, .int .i64 pseq, .string pdata, .int .i64 plen], .int .u64 (x : Int)] w fun e' w' => e' = .returned (.tuple #[.agg #[.bool true, .int .i64 psrc, .int .i64 pdst, .int .i64 pseq, .string pdata, .int .i64 plen], .agg #[.int .i64 0, .int .i64 0, .int .i64 0, .string ⟨#[]⟩], .bool false, .int .i64 13]) ∧ Below w.heap.size w w' := by
  clear h0
  have HR := Lib.hid hR
  clear hR
  go_enter Try.func41, Try.ntmps41
  go_upto_region 3 with (first | (go_at_call 43; ((with_reducible refine (HR.out _).mono ?_); rintro e' w1 ⟨rfl, hb1⟩; have hb1' : Below (w.heap.size + 4) ((((w.alloc (.cells #[.bool true, .int .i64 psrc, .int .i64 pdst, .int .i64 pseq, .string pdata, .int .i64 plen] 76)).alloc (.cells #[.bool false, .int .i64 0, .int .i64 0, .int .i64 0, .string ⟨#[]⟩, .int .i64 0] 76)).alloc (.cells #[.int .i64 0, .int .i64 0, .int .i64 0, .string ⟨#[]⟩] 29)).alloc (.cells #[.int .i64 0, .int .i64 0, .int .i64 0, .string ⟨#[]⟩] 29)) w1 := (by simpa using hb1); have HB1 := Lib.hid hb1'; clear hb1 hb1')))
  have hb := HB1.out
  have hs1 := hb.size
  simp at hs1
  have hG1 := Below.at hb (alloc_old (alloc_old (alloc_old (alloc_new _) _) _) _) (by omega)
  have hA1 := Below.at hb (alloc_old (alloc_old (alloc_at _ (w.heap.size + 1) (by simp)) _) _) (by omega)
  have hP1 := Below.at hb (alloc_old (alloc_at _ (w.heap.size + 2) (by simp)) _) (by omega)
  have hZ1 := Below.at hb (alloc_at _ (w.heap.size + 3) (by simp)) (by omega)
  have hF := alloc_new (w := w1) (.cells #[.int .i64 1, .int .i64 src, .int .i64 dst, .int .i64 seq, .int .i64 len, .bool more, .bool cast, .string data] 81)
  have hG := alloc_old hG1 (.cells #[.int .i64 1, .int .i64 src, .int .i64 dst, .int .i64 seq, .int .i64 len, .bool more, .bool cast, .string data] 81)
  have hA := alloc_old hA1 (.cells #[.int .i64 1, .int .i64 src, .int .i64 dst, .int .i64 seq, .int .i64 len, .bool more, .bool cast, .string data] 81)
  have hP := alloc_old hP1 (.cells #[.int .i64 1, .int .i64 src, .int .i64 dst, .int .i64 seq, .int .i64 len, .bool more, .bool cast, .string data] 81)
  have hZ := alloc_old hZ1 (.cells #[.int .i64 1, .int .i64 src, .int .i64 dst, .int .i64 seq, .int .i64 len, .bool more, .bool cast, .string data] 81)
  have hB : Below w.heap.size w (w1.alloc (.cells #[.int .i64 1, .int .i64 src, .int .i64 dst, .int .i64 seq, .int .i64 len, .bool more, .bool cast, .string data] 81)) := Below.trans (show Below w.heap.size w ((((w.alloc (.cells #[.bool true, .int .i64 psrc, .int .i64 pdst, .int .i64 pseq, .string pdata, .int .i64 plen] 76)).alloc (.cells #[.bool false, .int .i64 0, .int .i64 0, .int .i64 0, .string ⟨#[]⟩, .int .i64 0] 76)).alloc (.cells #[.int .i64 0, .int .i64 0, .int .i64 0, .string ⟨#[]⟩] 29)).alloc (.cells #[.int .i64 0, .int .i64 0, .int .i64 0, .string ⟨#[]⟩] 29)) from (by repeat' (first | (with_reducible assumption) | (with_reducible refine below_setRowN ?_ ?_ _) | (with_reducible refine Below.setCell ?_ ?_ _) | (with_reducible refine below_drewN' ?_ _) | (with_reducible refine Below.drew ?_) | (with_reducible refine Below.alloc ?_ ?_ _) | (with_reducible exact Below.refl _ _) | (with_reducible exact Nat.le_refl _) | (simp; done) | omega | (simp; omega)))) ((hb.mono (by omega)).alloc (by omega) _)
  clear hb hG1 hA1 hP1 hZ1 HB1
  generalize w1.alloc (.cells #[.int .i64 1, .int .i64 src, .int .i64 dst, .int .i64 seq, .int .i64 len, .bool more, .bool cast, .string data] 81) = w2 at *
  have fG := fun j => cell_at hG j
  have fF := fun j => cell_at hF j
  have hlf := block_lt hF
  have hlg := block_lt hG
  go_upto_region 6 with (fail)
  clear fG fF
  have HX : Hid (∀ w', Only [w.heap.size + 1, w.heap.size + 2] w2 w' → ((∀ j, w'.cell? ⟨w.heap.size, j, none⟩ = (#[.bool true, .int .i64 psrc, .int .i64 pdst, .int .i64 pseq, .string pdata, .int .i64 plen] : Array Value)[j]?) ∧ (∀ j, w'.cell? ⟨w.heap.size + 3, j, none⟩ = (#[.int .i64 0, .int .i64 0, .int .i64 0, .string ⟨#[]⟩] : Array Value)[j]?) ∧ (∀ j, w'.cell? ⟨w1.heap.size, j, none⟩ = (#[.int .i64 1, .int .i64 src, .int .i64 dst, .int .i64 seq, .int .i64 len, .bool more, .bool cast, .string data] : Array Value)[j]?))) := fun w' ho =>
    ⟨fun j => cell_at (ho.at hG (by simp)) j, fun j => cell_at (ho.at hZ (by simp)) j, fun j => cell_at (ho.at hF (by simp; omega)) j⟩
  have hlA := block_lt hA
  have hlP := block_lt hP
  have HA := Lib.hid hA
  have HP := Lib.hid hP
  have HB := Lib.hid hB
  clear hA hP hB hG hZ hF
  refine wp_region_held_drew (S := (fun w' => ((∀ j, w'.cell? ⟨w.heap.size, j, none⟩ = (#[.bool true, .int .i64 psrc, .int .i64 pdst, .int .i64 pseq, .string pdata, .int .i64 plen] : Array Value)[j]?) ∧ (∀ j, w'.cell? ⟨w.heap.size + 3, j, none⟩ = (#[.int .i64 0, .int .i64 0, .int .i64 0, .string ⟨#[]⟩] : Array Value)[j]?) ∧ (∀ j, w'.cell? ⟨w1.heap.size, j, none⟩ = (#[.int .i64 1, .int .i64 src, .int .i64 dst, .int .i64 seq, .int .i64 len, .bool more, .bool cast, .string data] : Array Value)[j]?)))) (by kernel_rfl) ?_ (fun hHeld0 => ?_)
  · (try dsimp only); exact HX.out _ (by repeat' (first | (with_reducible assumption) | (with_reducible refine only_setRowN ?_ ?_ _) | (with_reducible exact Only.refl _ _) | (with_reducible refine Only.setCell ?_ ?_ _) | (with_reducible refine Only.drewN ?_ _) | (with_reducible refine Only.drew ?_) | (with_reducible refine Only.alloc ?_ _) | (simp; done) | (simp; omega)))
  refine wpAnyH_take (i := 0) (v := ?_) rfl (by kernel_rfl) (by kernel_rfl) (by kernel_rfl) (fun _ _ _ h => h) (Or.inl ⟨by rfl, ?_⟩) (by assumption) ?_
  rotate_left
  · (intro w hSw; (try dsimp only at hSw); go_simp; try with_reducible rfl)
  (try simp only [Act.put, List.setIfInBounds_toArray, List.set_cons_zero, List.set_cons_succ, List.getElem_toArray, List.getElem_cons_zero, List.getElem_cons_succ])
  refine wpAnyH_take (i := 1) (v := ?_) rfl (by kernel_rfl) (by kernel_rfl) (by kernel_rfl) (fun _ _ _ h => h) (Or.inl ⟨by rfl, ?_⟩) (by assumption) ?_
  rotate_left
  · (intro w hSw; (try dsimp only at hSw); go_simp; try with_reducible rfl)
  (try simp only [Act.put, List.setIfInBounds_toArray, List.set_cons_zero, List.set_cons_succ, List.getElem_toArray, List.getElem_cons_zero, List.getElem_cons_succ])
  refine wpAnyH_ready (rs := [2]) (by kernel_rfl) (by simp) ?_
  refine AllReadyH.cons rfl (fun K hK => ?_) ?_
  · (rw [if_pos (by rfl)]; refine wp_store_row 76 _ _ (by rfl) _ _ (by rfl) (by rfl) 76 #[.bool false, .int .i64 0, .int .i64 0, .int .i64 0, .string ⟨#[]⟩, .int .i64 0] (by exact HA.out) (by kernel_rfl) (by rfl) (by first | (simp; done) | simp [Value.oneCell']) ?_)
    refine hK.out _ _ ?_ (fun hHeld1 => ?_)
    · (try dsimp only); exact HX.out _ (by repeat' (first | (with_reducible assumption) | (with_reducible refine only_setRowN ?_ ?_ _) | (with_reducible exact Only.refl _ _) | (with_reducible refine Only.setCell ?_ ?_ _) | (with_reducible refine Only.drewN ?_ _) | (with_reducible refine Only.drew ?_) | (with_reducible refine Only.alloc ?_ _) | (simp; done) | (simp; omega)))
    clear hK K hHeld0
    (try simp only [Act.put, List.setIfInBounds_toArray, List.set_cons_zero, List.set_cons_succ, List.getElem_toArray, List.getElem_cons_zero, List.getElem_cons_succ])
    refine wpAnyH_ready (rs := [3]) (by kernel_rfl) (by simp) ?_
    refine AllReadyH.cons rfl (fun K hK => ?_) ?_
    · (rw [if_pos (by rfl)]; refine wp_store_row 29 _ _ (by rfl) _ _ (by rfl) (by rfl) 29 #[.int .i64 0, .int .i64 0, .int .i64 0, .string ⟨#[]⟩] (by exact setRow_off (w := w2.drew) HP.out (by omega) _) (by kernel_rfl) (by rfl) (by first | (simp; done) | simp [Value.oneCell']) ?_)
      refine hK.out _ _ ?_ (fun hHeld2 => ?_)
      · (try dsimp only); exact HX.out _ (by repeat' (first | (with_reducible assumption) | (with_reducible refine only_setRowN ?_ ?_ _) | (with_reducible exact Only.refl _ _) | (with_reducible refine Only.setCell ?_ ?_ _) | (with_reducible refine Only.drewN ?_ _) | (with_reducible refine Only.drew ?_) | (with_reducible refine Only.alloc ?_ _) | (simp; done) | (simp; omega)))
      clear hK K hHeld1
      (try simp only [Act.put, List.setIfInBounds_toArray, List.set_cons_zero, List.set_cons_succ, List.getElem_toArray, List.getElem_cons_zero, List.getElem_cons_succ])
      refine wpAnyH_take (i := 4) (v := ?_) rfl (by kernel_rfl) (by kernel_rfl) (by kernel_rfl) (fun _ _ _ h => h) (Or.inl ⟨by rfl, ?_⟩) (by assumption) ?_
      rotate_left
      · (intro w hSw; (try dsimp only at hSw); go_simp; try with_reducible rfl)
      (try simp only [Act.put, List.setIfInBounds_toArray, List.set_cons_zero, List.set_cons_succ, List.getElem_toArray, List.getElem_cons_zero, List.getElem_cons_succ])
      refine wpAnyH_take (i := 5) (v := ?_) rfl (by kernel_rfl) (by kernel_rfl) (by kernel_rfl) (fun _ _ _ h => h) (Or.inl ⟨by rfl, ?_⟩) (by assumption) ?_
      rotate_left
      · (intro w hSw; (try dsimp only at hSw); go_simp; try with_reducible rfl)
      (try simp only [Act.put, List.setIfInBounds_toArray, List.set_cons_zero, List.set_cons_succ, List.getElem_toArray, List.getElem_cons_zero, List.getElem_cons_succ])
      refine wpAnyH_done (by kernel_rfl) ?_ _
      go_wp2
      have hB := HB.out
      have hsw := hB.size
      refine bodyPost_ret (res_two_tmp2 rfl _ _ (w.heap.size + 1) (w.heap.size + 2) 76 29 _ _ _ _ rfl rfl (setRow_off (setRow_at (w := w2.drew) HA.out _) (by omega) _) (setRow_at (setRow_off (w := w2.drew) HP.out (by omega) _) _) Try.underlying76 rfl (by kernel_rfl) Try.underlying29 rfl (by kernel_rfl)) rfl ⟨rfl, by repeat' (first | (with_reducible assumption) | (with_reducible refine below_setRowN ?_ ?_ _) | (with_reducible refine Below.setCell ?_ ?_ _) | (with_reducible refine below_drewN' ?_ _) | (with_reducible refine Below.drew ?_) | (with_reducible refine Below.alloc ?_ ?_ _) | (with_reducible exact Below.refl _ _) | (with_reducible exact Nat.le_refl _) | (simp; done) | omega | (simp; omega))⟩
    exact AllReadyH.nil
  exact AllReadyH.nil
set_option maxRecDepth 100000 in
set_option maxHeartbeats 2000000 in
theorem rtake_none (x : Nat) (psrc pdst pseq plen kind src dst seq len  : Int) (pdata data : ByteArray) (more cast : Bool) (w : World) (hR : ∀ w, Calls Try.prog 43 #[.int .u64 (x : Int)] w fun e' w' => e' = .returned (.tuple #[.agg #[.int .i64 kind, .int .i64 src, .int .i64 dst, .int .i64 seq, .int .i64 len, .bool more, .bool cast, .string data], .int .i64 0]) ∧ Below w.heap.size w w')
    (hk : kind ≠ 1) :
    Calls Try.prog 41 #[.agg #[.bool false, .int .i64 psrc, .int .i64 pdst, .int .i64 pseq, .string pdata, .int .i64 plen], .int .u64 (x : Int)] w fun e' w' => e' = .returned (.tuple #[.agg #[.bool false, .int .i64 psrc, .int .i64 pdst, .int .i64 pseq, .string pdata, .int .i64 plen], .agg #[.int .i64 0, .int .i64 0, .int .i64 0, .string ⟨#[]⟩], .bool false, .int .i64 13]) ∧ Below w.heap.size w w' := by
  have hkb : (kind == 1) = false := beq_eq_false_iff_ne.2 hk
  clear hk
  have HR := Lib.hid hR
  clear hR
  go_enter Try.func41, Try.ntmps41
  go_upto_region 3 with (first | (go_at_call 43; ((with_reducible refine (HR.out _).mono ?_); rintro e' w1 ⟨rfl, hb1⟩; have hb1' : Below (w.heap.size + 4) ((((w.alloc (.cells #[.bool false, .int .i64 psrc, .int .i64 pdst, .int .i64 pseq, .string pdata, .int .i64 plen] 76)).alloc (.cells #[.bool false, .int .i64 0, .int .i64 0, .int .i64 0, .string ⟨#[]⟩, .int .i64 0] 76)).alloc (.cells #[.int .i64 0, .int .i64 0, .int .i64 0, .string ⟨#[]⟩] 29)).alloc (.cells #[.int .i64 0, .int .i64 0, .int .i64 0, .string ⟨#[]⟩] 29)) w1 := (by simpa using hb1); have HB1 := Lib.hid hb1'; clear hb1 hb1')))
  have hb := HB1.out
  have hs1 := hb.size
  simp at hs1
  have hG1 := Below.at hb (alloc_old (alloc_old (alloc_old (alloc_new _) _) _) _) (by omega)
  have hA1 := Below.at hb (alloc_old (alloc_old (alloc_at _ (w.heap.size + 1) (by simp)) _) _) (by omega)
  have hP1 := Below.at hb (alloc_old (alloc_at _ (w.heap.size + 2) (by simp)) _) (by omega)
  have hZ1 := Below.at hb (alloc_at _ (w.heap.size + 3) (by simp)) (by omega)
  have hF := alloc_new (w := w1) (.cells #[.int .i64 kind, .int .i64 src, .int .i64 dst, .int .i64 seq, .int .i64 len, .bool more, .bool cast, .string data] 81)
  have hG := alloc_old hG1 (.cells #[.int .i64 kind, .int .i64 src, .int .i64 dst, .int .i64 seq, .int .i64 len, .bool more, .bool cast, .string data] 81)
  have hA := alloc_old hA1 (.cells #[.int .i64 kind, .int .i64 src, .int .i64 dst, .int .i64 seq, .int .i64 len, .bool more, .bool cast, .string data] 81)
  have hP := alloc_old hP1 (.cells #[.int .i64 kind, .int .i64 src, .int .i64 dst, .int .i64 seq, .int .i64 len, .bool more, .bool cast, .string data] 81)
  have hZ := alloc_old hZ1 (.cells #[.int .i64 kind, .int .i64 src, .int .i64 dst, .int .i64 seq, .int .i64 len, .bool more, .bool cast, .string data] 81)
  have hB : Below w.heap.size w (w1.alloc (.cells #[.int .i64 kind, .int .i64 src, .int .i64 dst, .int .i64 seq, .int .i64 len, .bool more, .bool cast, .string data] 81)) := Below.trans (show Below w.heap.size w ((((w.alloc (.cells #[.bool false, .int .i64 psrc, .int .i64 pdst, .int .i64 pseq, .string pdata, .int .i64 plen] 76)).alloc (.cells #[.bool false, .int .i64 0, .int .i64 0, .int .i64 0, .string ⟨#[]⟩, .int .i64 0] 76)).alloc (.cells #[.int .i64 0, .int .i64 0, .int .i64 0, .string ⟨#[]⟩] 29)).alloc (.cells #[.int .i64 0, .int .i64 0, .int .i64 0, .string ⟨#[]⟩] 29)) from (by repeat' (first | (with_reducible assumption) | (with_reducible refine below_setRowN ?_ ?_ _) | (with_reducible refine Below.setCell ?_ ?_ _) | (with_reducible refine below_drewN' ?_ _) | (with_reducible refine Below.drew ?_) | (with_reducible refine Below.alloc ?_ ?_ _) | (with_reducible exact Below.refl _ _) | (with_reducible exact Nat.le_refl _) | (simp; done) | omega | (simp; omega)))) ((hb.mono (by omega)).alloc (by omega) _)
  clear hb hG1 hA1 hP1 hZ1 HB1
  generalize w1.alloc (.cells #[.int .i64 kind, .int .i64 src, .int .i64 dst, .int .i64 seq, .int .i64 len, .bool more, .bool cast, .string data] 81) = w2 at *
  have fG := fun j => cell_at hG j
  have fF := fun j => cell_at hF j
  have hlf := block_lt hF
  have hlg := block_lt hG
  go_upto_region 6 with (fail)
  clear fG fF
  have HX : Hid (∀ w', Only [w.heap.size + 1, w.heap.size + 2] w2 w' → ((∀ j, w'.cell? ⟨w.heap.size, j, none⟩ = (#[.bool false, .int .i64 psrc, .int .i64 pdst, .int .i64 pseq, .string pdata, .int .i64 plen] : Array Value)[j]?) ∧ (∀ j, w'.cell? ⟨w.heap.size + 3, j, none⟩ = (#[.int .i64 0, .int .i64 0, .int .i64 0, .string ⟨#[]⟩] : Array Value)[j]?) ∧ (∀ j, w'.cell? ⟨w1.heap.size, j, none⟩ = (#[.int .i64 kind, .int .i64 src, .int .i64 dst, .int .i64 seq, .int .i64 len, .bool more, .bool cast, .string data] : Array Value)[j]?))) := fun w' ho =>
    ⟨fun j => cell_at (ho.at hG (by simp)) j, fun j => cell_at (ho.at hZ (by simp)) j, fun j => cell_at (ho.at hF (by simp; omega)) j⟩
  have hlA := block_lt hA
  have hlP := block_lt hP
  have HA := Lib.hid hA
  have HP := Lib.hid hP
  have HB := Lib.hid hB
  clear hA hP hB hG hZ hF
  refine wp_region_held_drew (S := (fun w' => ((∀ j, w'.cell? ⟨w.heap.size, j, none⟩ = (#[.bool false, .int .i64 psrc, .int .i64 pdst, .int .i64 pseq, .string pdata, .int .i64 plen] : Array Value)[j]?) ∧ (∀ j, w'.cell? ⟨w.heap.size + 3, j, none⟩ = (#[.int .i64 0, .int .i64 0, .int .i64 0, .string ⟨#[]⟩] : Array Value)[j]?) ∧ (∀ j, w'.cell? ⟨w1.heap.size, j, none⟩ = (#[.int .i64 kind, .int .i64 src, .int .i64 dst, .int .i64 seq, .int .i64 len, .bool more, .bool cast, .string data] : Array Value)[j]?)))) (by kernel_rfl) ?_ (fun hHeld0 => ?_)
  · (try dsimp only); exact HX.out _ (by repeat' (first | (with_reducible assumption) | (with_reducible refine only_setRowN ?_ ?_ _) | (with_reducible exact Only.refl _ _) | (with_reducible refine Only.setCell ?_ ?_ _) | (with_reducible refine Only.drewN ?_ _) | (with_reducible refine Only.drew ?_) | (with_reducible refine Only.alloc ?_ _) | (simp; done) | (simp; omega)))
  refine wpAnyH_take (i := 0) (v := ?_) rfl (by kernel_rfl) (by kernel_rfl) (by kernel_rfl) (fun _ _ _ h => h) (Or.inl ⟨by rfl, ?_⟩) (by assumption) ?_
  rotate_left
  · (intro w hSw; (try dsimp only at hSw); go_simp; try with_reducible rfl)
  (try simp only [Act.put, List.setIfInBounds_toArray, List.set_cons_zero, List.set_cons_succ, List.getElem_toArray, List.getElem_cons_zero, List.getElem_cons_succ])
  refine wpAnyH_take (i := 1) (v := ?_) rfl (by kernel_rfl) (by kernel_rfl) (by kernel_rfl) (fun _ _ _ h => h) (Or.inl ⟨by rfl, ?_⟩) (by assumption) ?_
  rotate_left
  · (intro w hSw; (try dsimp only at hSw); go_simp; try with_reducible rfl)
  (try simp only [Act.put, List.setIfInBounds_toArray, List.set_cons_zero, List.set_cons_succ, List.getElem_toArray, List.getElem_cons_zero, List.getElem_cons_succ])
  refine wpAnyH_ready (rs := [2]) (by kernel_rfl) (by simp) ?_
  refine AllReadyH.cons rfl (fun K hK => ?_) ?_
  · (rw [if_pos (by rfl)]; refine wp_store_row 76 _ _ (by rfl) _ _ (by rfl) (by rfl) 76 #[.bool false, .int .i64 0, .int .i64 0, .int .i64 0, .string ⟨#[]⟩, .int .i64 0] (by exact HA.out) (by kernel_rfl) (by rfl) (by first | (simp; done) | simp [Value.oneCell']) ?_)
    refine hK.out _ _ ?_ (fun hHeld1 => ?_)
    · (try dsimp only); exact HX.out _ (by repeat' (first | (with_reducible assumption) | (with_reducible refine only_setRowN ?_ ?_ _) | (with_reducible exact Only.refl _ _) | (with_reducible refine Only.setCell ?_ ?_ _) | (with_reducible refine Only.drewN ?_ _) | (with_reducible refine Only.drew ?_) | (with_reducible refine Only.alloc ?_ _) | (simp; done) | (simp; omega)))
    clear hK K hHeld0
    (try simp only [Act.put, List.setIfInBounds_toArray, List.set_cons_zero, List.set_cons_succ, List.getElem_toArray, List.getElem_cons_zero, List.getElem_cons_succ])
    refine wpAnyH_ready (rs := [3]) (by kernel_rfl) (by simp) ?_
    refine AllReadyH.cons rfl (fun K hK => ?_) ?_
    · (rw [if_pos (by rfl)]; refine wp_store_row 29 _ _ (by rfl) _ _ (by rfl) (by rfl) 29 #[.int .i64 0, .int .i64 0, .int .i64 0, .string ⟨#[]⟩] (by exact setRow_off (w := w2.drew) HP.out (by omega) _) (by kernel_rfl) (by rfl) (by first | (simp; done) | simp [Value.oneCell']) ?_)
      refine hK.out _ _ ?_ (fun hHeld2 => ?_)
      · (try dsimp only); exact HX.out _ (by repeat' (first | (with_reducible assumption) | (with_reducible refine only_setRowN ?_ ?_ _) | (with_reducible exact Only.refl _ _) | (with_reducible refine Only.setCell ?_ ?_ _) | (with_reducible refine Only.drewN ?_ _) | (with_reducible refine Only.drew ?_) | (with_reducible refine Only.alloc ?_ _) | (simp; done) | (simp; omega)))
      clear hK K hHeld1
      (try simp only [Act.put, List.setIfInBounds_toArray, List.set_cons_zero, List.set_cons_succ, List.getElem_toArray, List.getElem_cons_zero, List.getElem_cons_succ])
      refine wpAnyH_take (i := 4) (v := ?_) rfl (by kernel_rfl) (by kernel_rfl) (by kernel_rfl) (fun _ _ _ h => h) (Or.inl ⟨by rfl, ?_⟩) (by assumption) ?_
      rotate_left
      · (intro w hSw; (try dsimp only at hSw); go_simp; try with_reducible rfl)
      (try simp only [Act.put, List.setIfInBounds_toArray, List.set_cons_zero, List.set_cons_succ, List.getElem_toArray, List.getElem_cons_zero, List.getElem_cons_succ])
      refine wpAnyH_take (i := 5) (v := ?_) rfl (by kernel_rfl) (by kernel_rfl) (by kernel_rfl) (fun _ _ _ h => h) (Or.inl ⟨by rfl, ?_⟩) (by assumption) ?_
      rotate_left
      · (intro w hSw; (try dsimp only at hSw); go_simp; try with_reducible rfl)
      (try simp only [Act.put, List.setIfInBounds_toArray, List.set_cons_zero, List.set_cons_succ, List.getElem_toArray, List.getElem_cons_zero, List.getElem_cons_succ])
      refine wpAnyH_done (by kernel_rfl) ?_ _
      go_wp2
      have hB := HB.out
      have hsw := hB.size
      refine bodyPost_ret (res_two_tmp2 rfl _ _ (w.heap.size + 1) (w.heap.size + 2) 76 29 _ _ _ _ rfl rfl (setRow_off (setRow_at (w := w2.drew) HA.out _) (by omega) _) (setRow_at (setRow_off (w := w2.drew) HP.out (by omega) _) _) Try.underlying76 rfl (by kernel_rfl) Try.underlying29 rfl (by kernel_rfl)) rfl ⟨rfl, by repeat' (first | (with_reducible assumption) | (with_reducible refine below_setRowN ?_ ?_ _) | (with_reducible refine Below.setCell ?_ ?_ _) | (with_reducible refine below_drewN' ?_ _) | (with_reducible refine Below.drew ?_) | (with_reducible refine Below.alloc ?_ ?_ _) | (with_reducible exact Below.refl _ _) | (with_reducible exact Nat.le_refl _) | (simp; done) | omega | (simp; omega))⟩
    exact AllReadyH.nil
  exact AllReadyH.nil
set_option maxRecDepth 100000 in
set_option maxHeartbeats 2000000 in
theorem rtake_head (x : Nat) (psrc pdst pseq plen  src dst seq len  : Int) (pdata data : ByteArray) (more cast : Bool) (w : World) (hR : ∀ w, Calls Try.prog 43 #[.int .u64 (x : Int)] w fun e' w' => e' = .returned (.tuple #[.agg #[.int .i64 1, .int .i64 src, .int .i64 dst, .int .i64 seq, .int .i64 len, .bool more, .bool cast, .string data], .int .i64 0]) ∧ Below w.heap.size w w')
    (h0 : True) :
    Calls Try.prog 41 #[.agg #[.bool false, .int .i64 psrc, .int .i64 pdst, .int .i64 pseq, .string pdata, .int .i64 plen], .int .u64 (x : Int)] w fun e' w' => e' = .returned (.tuple #[.agg #[.bool true, .int .i64 src, .int .i64 dst, .int .i64 seq, .string ⟨#[]⟩, .int .i64 len], .agg #[.int .i64 0, .int .i64 0, .int .i64 0, .string ⟨#[]⟩], .bool false, .int .i64 0]) ∧ Below w.heap.size w w' := by
  clear h0
  have HR := Lib.hid hR
  clear hR
  go_enter Try.func41, Try.ntmps41
  go_upto_region 3 with (first | (go_at_call 43; ((with_reducible refine (HR.out _).mono ?_); rintro e' w1 ⟨rfl, hb1⟩; have hb1' : Below (w.heap.size + 4) ((((w.alloc (.cells #[.bool false, .int .i64 psrc, .int .i64 pdst, .int .i64 pseq, .string pdata, .int .i64 plen] 76)).alloc (.cells #[.bool false, .int .i64 0, .int .i64 0, .int .i64 0, .string ⟨#[]⟩, .int .i64 0] 76)).alloc (.cells #[.int .i64 0, .int .i64 0, .int .i64 0, .string ⟨#[]⟩] 29)).alloc (.cells #[.int .i64 0, .int .i64 0, .int .i64 0, .string ⟨#[]⟩] 29)) w1 := (by simpa using hb1); have HB1 := Lib.hid hb1'; clear hb1 hb1')))
  have hb := HB1.out
  have hs1 := hb.size
  simp at hs1
  have hG1 := Below.at hb (alloc_old (alloc_old (alloc_old (alloc_new _) _) _) _) (by omega)
  have hA1 := Below.at hb (alloc_old (alloc_old (alloc_at _ (w.heap.size + 1) (by simp)) _) _) (by omega)
  have hP1 := Below.at hb (alloc_old (alloc_at _ (w.heap.size + 2) (by simp)) _) (by omega)
  have hZ1 := Below.at hb (alloc_at _ (w.heap.size + 3) (by simp)) (by omega)
  have hF := alloc_new (w := w1) (.cells #[.int .i64 1, .int .i64 src, .int .i64 dst, .int .i64 seq, .int .i64 len, .bool more, .bool cast, .string data] 81)
  have hG := alloc_old hG1 (.cells #[.int .i64 1, .int .i64 src, .int .i64 dst, .int .i64 seq, .int .i64 len, .bool more, .bool cast, .string data] 81)
  have hA := alloc_old hA1 (.cells #[.int .i64 1, .int .i64 src, .int .i64 dst, .int .i64 seq, .int .i64 len, .bool more, .bool cast, .string data] 81)
  have hP := alloc_old hP1 (.cells #[.int .i64 1, .int .i64 src, .int .i64 dst, .int .i64 seq, .int .i64 len, .bool more, .bool cast, .string data] 81)
  have hZ := alloc_old hZ1 (.cells #[.int .i64 1, .int .i64 src, .int .i64 dst, .int .i64 seq, .int .i64 len, .bool more, .bool cast, .string data] 81)
  have hB : Below w.heap.size w (w1.alloc (.cells #[.int .i64 1, .int .i64 src, .int .i64 dst, .int .i64 seq, .int .i64 len, .bool more, .bool cast, .string data] 81)) := Below.trans (show Below w.heap.size w ((((w.alloc (.cells #[.bool false, .int .i64 psrc, .int .i64 pdst, .int .i64 pseq, .string pdata, .int .i64 plen] 76)).alloc (.cells #[.bool false, .int .i64 0, .int .i64 0, .int .i64 0, .string ⟨#[]⟩, .int .i64 0] 76)).alloc (.cells #[.int .i64 0, .int .i64 0, .int .i64 0, .string ⟨#[]⟩] 29)).alloc (.cells #[.int .i64 0, .int .i64 0, .int .i64 0, .string ⟨#[]⟩] 29)) from (by repeat' (first | (with_reducible assumption) | (with_reducible refine below_setRowN ?_ ?_ _) | (with_reducible refine Below.setCell ?_ ?_ _) | (with_reducible refine below_drewN' ?_ _) | (with_reducible refine Below.drew ?_) | (with_reducible refine Below.alloc ?_ ?_ _) | (with_reducible exact Below.refl _ _) | (with_reducible exact Nat.le_refl _) | (simp; done) | omega | (simp; omega)))) ((hb.mono (by omega)).alloc (by omega) _)
  clear hb hG1 hA1 hP1 hZ1 HB1
  generalize w1.alloc (.cells #[.int .i64 1, .int .i64 src, .int .i64 dst, .int .i64 seq, .int .i64 len, .bool more, .bool cast, .string data] 81) = w2 at *
  have fG := fun j => cell_at hG j
  have fF := fun j => cell_at hF j
  have hlf := block_lt hF
  have hlg := block_lt hG
  go_upto_region 8 with (fail)
  clear fG fF
  have HX : Hid (∀ w', Only [w.heap.size + 1, w.heap.size + 2] w2 w' → ((∀ j, w'.cell? ⟨w.heap.size, j, none⟩ = (#[.bool false, .int .i64 psrc, .int .i64 pdst, .int .i64 pseq, .string pdata, .int .i64 plen] : Array Value)[j]?) ∧ (∀ j, w'.cell? ⟨w.heap.size + 3, j, none⟩ = (#[.int .i64 0, .int .i64 0, .int .i64 0, .string ⟨#[]⟩] : Array Value)[j]?) ∧ (∀ j, w'.cell? ⟨w1.heap.size, j, none⟩ = (#[.int .i64 1, .int .i64 src, .int .i64 dst, .int .i64 seq, .int .i64 len, .bool more, .bool cast, .string data] : Array Value)[j]?))) := fun w' ho =>
    ⟨fun j => cell_at (ho.at hG (by simp)) j, fun j => cell_at (ho.at hZ (by simp)) j, fun j => cell_at (ho.at hF (by simp; omega)) j⟩
  have hlA := block_lt hA
  have hlP := block_lt hP
  have HA := Lib.hid hA
  have HP := Lib.hid hP
  have HB := Lib.hid hB
  clear hA hP hB hG hZ hF
  refine wp_region_held_drew (S := (fun w' => ((∀ j, w'.cell? ⟨w.heap.size, j, none⟩ = (#[.bool false, .int .i64 psrc, .int .i64 pdst, .int .i64 pseq, .string pdata, .int .i64 plen] : Array Value)[j]?) ∧ (∀ j, w'.cell? ⟨w.heap.size + 3, j, none⟩ = (#[.int .i64 0, .int .i64 0, .int .i64 0, .string ⟨#[]⟩] : Array Value)[j]?) ∧ (∀ j, w'.cell? ⟨w1.heap.size, j, none⟩ = (#[.int .i64 1, .int .i64 src, .int .i64 dst, .int .i64 seq, .int .i64 len, .bool more, .bool cast, .string data] : Array Value)[j]?)))) (by kernel_rfl) ?_ (fun hHeld0 => ?_)
  · (try dsimp only); exact HX.out _ (by repeat' (first | (with_reducible assumption) | (with_reducible refine only_setRowN ?_ ?_ _) | (with_reducible exact Only.refl _ _) | (with_reducible refine Only.setCell ?_ ?_ _) | (with_reducible refine Only.drewN ?_ _) | (with_reducible refine Only.drew ?_) | (with_reducible refine Only.alloc ?_ _) | (simp; done) | (simp; omega)))
  refine wpAnyH_take (i := 0) (v := ?_) rfl (by kernel_rfl) (by kernel_rfl) (by kernel_rfl) (fun _ _ _ h => h) (Or.inl ⟨by rfl, ?_⟩) (by assumption) ?_
  rotate_left
  · (intro w hSw; (try dsimp only at hSw); go_simp; try with_reducible rfl)
  (try simp only [Act.put, List.setIfInBounds_toArray, List.set_cons_zero, List.set_cons_succ, List.getElem_toArray, List.getElem_cons_zero, List.getElem_cons_succ])
  refine wpAnyH_take (i := 1) (v := ?_) rfl (by kernel_rfl) (by kernel_rfl) (by kernel_rfl) (fun _ _ _ h => h) (Or.inl ⟨by rfl, ?_⟩) (by assumption) ?_
  rotate_left
  · (intro w hSw; (try dsimp only at hSw); go_simp; try with_reducible rfl)
  (try simp only [Act.put, List.setIfInBounds_toArray, List.set_cons_zero, List.set_cons_succ, List.getElem_toArray, List.getElem_cons_zero, List.getElem_cons_succ])
  refine wpAnyH_take (i := 2) (v := ?_) rfl (by kernel_rfl) (by kernel_rfl) (by kernel_rfl) (fun _ _ _ h => h) (Or.inl ⟨by rfl, ?_⟩) (by assumption) ?_
  rotate_left
  · (intro w hSw; (try dsimp only at hSw); go_simp; try with_reducible rfl)
  (try simp only [Act.put, List.setIfInBounds_toArray, List.set_cons_zero, List.set_cons_succ, List.getElem_toArray, List.getElem_cons_zero, List.getElem_cons_succ])
  refine wpAnyH_take (i := 3) (v := ?_) rfl (by kernel_rfl) (by kernel_rfl) (by kernel_rfl) (fun _ _ _ h => h) (Or.inl ⟨by rfl, ?_⟩) (by assumption) ?_
  rotate_left
  · (intro w hSw; (try dsimp only at hSw); go_simp; try with_reducible rfl)
  (try simp only [Act.put, List.setIfInBounds_toArray, List.set_cons_zero, List.set_cons_succ, List.getElem_toArray, List.getElem_cons_zero, List.getElem_cons_succ])
  refine wpAnyH_take (i := 4) (v := ?_) rfl (by kernel_rfl) (by kernel_rfl) (by kernel_rfl) (fun _ _ _ h => h) (Or.inl ⟨by rfl, ?_⟩) (by assumption) ?_
  rotate_left
  · (intro w hSw; (try dsimp only at hSw); go_simp; try with_reducible rfl)
  (try simp only [Act.put, List.setIfInBounds_toArray, List.set_cons_zero, List.set_cons_succ, List.getElem_toArray, List.getElem_cons_zero, List.getElem_cons_succ])
  refine wpAnyH_take (i := 5) (v := ?_) rfl (by kernel_rfl) (by kernel_rfl) (by kernel_rfl) (fun _ _ _ h => h) (Or.inl ⟨by rfl, ?_⟩) (by assumption) ?_
  rotate_left
  · (intro w hSw; (try dsimp only at hSw); go_simp; try with_reducible rfl)
  (try simp only [Act.put, List.setIfInBounds_toArray, List.set_cons_zero, List.set_cons_succ, List.getElem_toArray, List.getElem_cons_zero, List.getElem_cons_succ])
  refine wpAnyH_take (i := 6) (v := ?_) rfl (by kernel_rfl) (by kernel_rfl) (by kernel_rfl) (fun _ _ _ h => h) (Or.inl ⟨by rfl, ?_⟩) (by assumption) ?_
  rotate_left
  · (intro w hSw; (try dsimp only at hSw); go_simp; try with_reducible rfl)
  (try simp only [Act.put, List.setIfInBounds_toArray, List.set_cons_zero, List.set_cons_succ, List.getElem_toArray, List.getElem_cons_zero, List.getElem_cons_succ])
  refine wpAnyH_take (i := 7) (v := ?_) rfl (by kernel_rfl) (by kernel_rfl) (by kernel_rfl) (fun _ _ _ h => h) (Or.inl ⟨by rfl, ?_⟩) (by assumption) ?_
  rotate_left
  · (intro w hSw; (try dsimp only at hSw); go_simp; try with_reducible rfl)
  (try simp only [Act.put, List.setIfInBounds_toArray, List.set_cons_zero, List.set_cons_succ, List.getElem_toArray, List.getElem_cons_zero, List.getElem_cons_succ])
  refine wpAnyH_take (i := 8) (v := ?_) rfl (by kernel_rfl) (by kernel_rfl) (by kernel_rfl) (fun _ _ _ h => h) (Or.inl ⟨by rfl, ?_⟩) (by assumption) ?_
  rotate_left
  · (intro w hSw; (try dsimp only at hSw); go_simp; try with_reducible rfl)
  (try simp only [Act.put, List.setIfInBounds_toArray, List.set_cons_zero, List.set_cons_succ, List.getElem_toArray, List.getElem_cons_zero, List.getElem_cons_succ])
  refine wpAnyH_take (i := 9) (v := ?_) rfl (by kernel_rfl) (by kernel_rfl) (by kernel_rfl) (fun _ _ _ h => h) (Or.inl ⟨by rfl, ?_⟩) (by assumption) ?_
  rotate_left
  · (intro w hSw; (try dsimp only at hSw); go_simp; try with_reducible rfl)
  (try simp only [Act.put, List.setIfInBounds_toArray, List.set_cons_zero, List.set_cons_succ, List.getElem_toArray, List.getElem_cons_zero, List.getElem_cons_succ])
  refine wpAnyH_take (i := 10) (v := ?_) rfl (by kernel_rfl) (by kernel_rfl) (by kernel_rfl) (fun _ _ _ h => h) (Or.inl ⟨by rfl, ?_⟩) (by assumption) ?_
  rotate_left
  · (intro w hSw; (try dsimp only at hSw); go_simp; try with_reducible rfl)
  (try simp only [Act.put, List.setIfInBounds_toArray, List.set_cons_zero, List.set_cons_succ, List.getElem_toArray, List.getElem_cons_zero, List.getElem_cons_succ])
  refine wpAnyH_ready (rs := [11]) (by kernel_rfl) (by simp) ?_
  refine AllReadyH.cons rfl (fun K hK => ?_) ?_
  · (rw [if_pos (by rfl)]; refine wp_store_row 76 _ _ (by rfl) _ _ (by rfl) (by rfl) 76 #[.bool false, .int .i64 0, .int .i64 0, .int .i64 0, .string ⟨#[]⟩, .int .i64 0] (by exact HA.out) (by kernel_rfl) (by rfl) (by first | (simp; done) | simp [Value.oneCell']) ?_)
    refine hK.out _ _ ?_ (fun hHeld1 => ?_)
    · (try dsimp only); exact HX.out _ (by repeat' (first | (with_reducible assumption) | (with_reducible refine only_setRowN ?_ ?_ _) | (with_reducible exact Only.refl _ _) | (with_reducible refine Only.setCell ?_ ?_ _) | (with_reducible refine Only.drewN ?_ _) | (with_reducible refine Only.drew ?_) | (with_reducible refine Only.alloc ?_ _) | (simp; done) | (simp; omega)))
    clear hK K hHeld0
    (try simp only [Act.put, List.setIfInBounds_toArray, List.set_cons_zero, List.set_cons_succ, List.getElem_toArray, List.getElem_cons_zero, List.getElem_cons_succ])
    refine wpAnyH_ready (rs := [12]) (by kernel_rfl) (by simp) ?_
    refine AllReadyH.cons rfl (fun K hK => ?_) ?_
    · (rw [if_pos (by rfl)]; refine wp_store_row 29 _ _ (by rfl) _ _ (by rfl) (by rfl) 29 #[.int .i64 0, .int .i64 0, .int .i64 0, .string ⟨#[]⟩] (by exact setRow_off (w := w2.drew) HP.out (by omega) _) (by kernel_rfl) (by rfl) (by first | (simp; done) | simp [Value.oneCell']) ?_)
      refine hK.out _ _ ?_ (fun hHeld2 => ?_)
      · (try dsimp only); exact HX.out _ (by repeat' (first | (with_reducible assumption) | (with_reducible refine only_setRowN ?_ ?_ _) | (with_reducible exact Only.refl _ _) | (with_reducible refine Only.setCell ?_ ?_ _) | (with_reducible refine Only.drewN ?_ _) | (with_reducible refine Only.drew ?_) | (with_reducible refine Only.alloc ?_ _) | (simp; done) | (simp; omega)))
      clear hK K hHeld1
      (try simp only [Act.put, List.setIfInBounds_toArray, List.set_cons_zero, List.set_cons_succ, List.getElem_toArray, List.getElem_cons_zero, List.getElem_cons_succ])
      refine wpAnyH_take (i := 13) (v := ?_) rfl (by kernel_rfl) (by kernel_rfl) (by kernel_rfl) (fun _ _ _ h => h) (Or.inl ⟨by rfl, ?_⟩) (by assumption) ?_
      rotate_left
      · (intro w hSw; (try dsimp only at hSw); go_simp; try with_reducible rfl)
      (try simp only [Act.put, List.setIfInBounds_toArray, List.set_cons_zero, List.set_cons_succ, List.getElem_toArray, List.getElem_cons_zero, List.getElem_cons_succ])
      refine wpAnyH_take (i := 14) (v := ?_) rfl (by kernel_rfl) (by kernel_rfl) (by kernel_rfl) (fun _ _ _ h => h) (Or.inl ⟨by rfl, ?_⟩) (by assumption) ?_
      rotate_left
      · (intro w hSw; (try dsimp only at hSw); go_simp; try with_reducible rfl)
      (try simp only [Act.put, List.setIfInBounds_toArray, List.set_cons_zero, List.set_cons_succ, List.getElem_toArray, List.getElem_cons_zero, List.getElem_cons_succ])
      refine wpAnyH_done (by kernel_rfl) ?_ _
      go_wp2
      have hB := HB.out
      have hsw := hB.size
      refine bodyPost_ret (res_two_tmp2 rfl _ _ (w.heap.size + 1) (w.heap.size + 2) 76 29 _ _ _ _ rfl rfl (setRow_off (setRow_at (w := w2.drew) HA.out _) (by omega) _) (setRow_at (setRow_off (w := w2.drew) HP.out (by omega) _) _) Try.underlying76 rfl (by kernel_rfl) Try.underlying29 rfl (by kernel_rfl)) rfl ⟨rfl, by repeat' (first | (with_reducible assumption) | (with_reducible refine below_setRowN ?_ ?_ _) | (with_reducible refine Below.setCell ?_ ?_ _) | (with_reducible refine below_drewN' ?_ _) | (with_reducible refine Below.drew ?_) | (with_reducible refine Below.alloc ?_ ?_ _) | (with_reducible exact Below.refl _ _) | (with_reducible exact Nat.le_refl _) | (simp; done) | omega | (simp; omega))⟩
    exact AllReadyH.nil
  exact AllReadyH.nil
set_option maxRecDepth 100000 in
set_option maxHeartbeats 2000000 in
theorem rtake_tail (x : Nat) (psrc pdst pseq plen  src dst seq len  : Int) (pdata data : ByteArray) (more cast : Bool) (w : World) (hR : ∀ w, Calls Try.prog 43 #[.int .u64 (x : Int)] w fun e' w' => e' = .returned (.tuple #[.agg #[.int .i64 3, .int .i64 src, .int .i64 dst, .int .i64 seq, .int .i64 len, .bool more, .bool cast, .string data], .int .i64 0]) ∧ Below w.heap.size w w')
    (hs : ((pdata ++ data).size : Int) = plen) (hd : pdata.size ≤ 4294967296) (hfd : data.size ≤ 6) :
    Calls Try.prog 41 #[.agg #[.bool true, .int .i64 psrc, .int .i64 pdst, .int .i64 pseq, .string pdata, .int .i64 plen], .int .u64 (x : Int)] w fun e' w' => e' = .returned (.tuple #[.agg #[.bool false, .int .i64 0, .int .i64 0, .int .i64 0, .string ⟨#[]⟩, .int .i64 0], .agg #[.int .i64 psrc, .int .i64 pdst, .int .i64 pseq, .string (pdata ++ data)], .bool true, .int .i64 0]) ∧ Below w.heap.size w w' := by
  have hcat : ((pdata ++ data).size : Int) = (pdata.size : Int) + (data.size : Int) := by rw [ByteArray.size_append]; simp
  have hs1 : ((pdata.size : Int) + (data.size : Int) != plen) = false := bne_eq_false_iff_eq.2 (by omega)
  have hs2 : (((pdata ++ data).size : Int) != plen) = false := bne_eq_false_iff_eq.2 hs
  clear hs hcat
  have HR := Lib.hid hR
  clear hR
  go_enter Try.func41, Try.ntmps41
  go_upto_region 3 with (first | (go_at_call 43; ((with_reducible refine (HR.out _).mono ?_); rintro e' w1 ⟨rfl, hb1⟩; have hb1' : Below (w.heap.size + 4) ((((w.alloc (.cells #[.bool true, .int .i64 psrc, .int .i64 pdst, .int .i64 pseq, .string pdata, .int .i64 plen] 76)).alloc (.cells #[.bool false, .int .i64 0, .int .i64 0, .int .i64 0, .string ⟨#[]⟩, .int .i64 0] 76)).alloc (.cells #[.int .i64 0, .int .i64 0, .int .i64 0, .string ⟨#[]⟩] 29)).alloc (.cells #[.int .i64 0, .int .i64 0, .int .i64 0, .string ⟨#[]⟩] 29)) w1 := (by simpa using hb1); have HB1 := Lib.hid hb1'; clear hb1 hb1')))
  have hb := HB1.out
  have hs1 := hb.size
  simp at hs1
  have hG1 := Below.at hb (alloc_old (alloc_old (alloc_old (alloc_new _) _) _) _) (by omega)
  have hA1 := Below.at hb (alloc_old (alloc_old (alloc_at _ (w.heap.size + 1) (by simp)) _) _) (by omega)
  have hP1 := Below.at hb (alloc_old (alloc_at _ (w.heap.size + 2) (by simp)) _) (by omega)
  have hZ1 := Below.at hb (alloc_at _ (w.heap.size + 3) (by simp)) (by omega)
  have hF := alloc_new (w := w1) (.cells #[.int .i64 3, .int .i64 src, .int .i64 dst, .int .i64 seq, .int .i64 len, .bool more, .bool cast, .string data] 81)
  have hG := alloc_old hG1 (.cells #[.int .i64 3, .int .i64 src, .int .i64 dst, .int .i64 seq, .int .i64 len, .bool more, .bool cast, .string data] 81)
  have hA := alloc_old hA1 (.cells #[.int .i64 3, .int .i64 src, .int .i64 dst, .int .i64 seq, .int .i64 len, .bool more, .bool cast, .string data] 81)
  have hP := alloc_old hP1 (.cells #[.int .i64 3, .int .i64 src, .int .i64 dst, .int .i64 seq, .int .i64 len, .bool more, .bool cast, .string data] 81)
  have hZ := alloc_old hZ1 (.cells #[.int .i64 3, .int .i64 src, .int .i64 dst, .int .i64 seq, .int .i64 len, .bool more, .bool cast, .string data] 81)
  have hB : Below w.heap.size w (w1.alloc (.cells #[.int .i64 3, .int .i64 src, .int .i64 dst, .int .i64 seq, .int .i64 len, .bool more, .bool cast, .string data] 81)) := Below.trans (show Below w.heap.size w ((((w.alloc (.cells #[.bool true, .int .i64 psrc, .int .i64 pdst, .int .i64 pseq, .string pdata, .int .i64 plen] 76)).alloc (.cells #[.bool false, .int .i64 0, .int .i64 0, .int .i64 0, .string ⟨#[]⟩, .int .i64 0] 76)).alloc (.cells #[.int .i64 0, .int .i64 0, .int .i64 0, .string ⟨#[]⟩] 29)).alloc (.cells #[.int .i64 0, .int .i64 0, .int .i64 0, .string ⟨#[]⟩] 29)) from (by repeat' (first | (with_reducible assumption) | (with_reducible refine below_setRowN ?_ ?_ _) | (with_reducible refine Below.setCell ?_ ?_ _) | (with_reducible refine below_drewN' ?_ _) | (with_reducible refine Below.drew ?_) | (with_reducible refine Below.alloc ?_ ?_ _) | (with_reducible exact Below.refl _ _) | (with_reducible exact Nat.le_refl _) | (simp; done) | omega | (simp; omega)))) ((hb.mono (by omega)).alloc (by omega) _)
  clear hb hG1 hA1 hP1 hZ1 HB1
  generalize w1.alloc (.cells #[.int .i64 3, .int .i64 src, .int .i64 dst, .int .i64 seq, .int .i64 len, .bool more, .bool cast, .string data] 81) = w2 at *
  have fG := fun j => cell_at hG j
  have fF := fun j => cell_at hF j
  have hlf := block_lt hF
  have hlg := block_lt hG
  have H0 := Lib.hid (And.intro hF (And.intro hG (And.intro hA (And.intro hP (And.intro hZ hB)))))
  clear hF hG hA hP hZ hB
  go_wp2
  obtain ⟨hF, hG, hA, hP, hZ, hB⟩ := H0.out
  clear H0
  have hT := alloc_new (w := w2) (.cells #[.bool true, .int .i64 psrc, .int .i64 pdst, .int .i64 pseq, .string (pdata ++ data), .int .i64 plen] 76)
  have hF := alloc_old hF (.cells #[.bool true, .int .i64 psrc, .int .i64 pdst, .int .i64 pseq, .string (pdata ++ data), .int .i64 plen] 76)
  have hG := alloc_old hG (.cells #[.bool true, .int .i64 psrc, .int .i64 pdst, .int .i64 pseq, .string (pdata ++ data), .int .i64 plen] 76)
  have hA := alloc_old hA (.cells #[.bool true, .int .i64 psrc, .int .i64 pdst, .int .i64 pseq, .string (pdata ++ data), .int .i64 plen] 76)
  have hP := alloc_old hP (.cells #[.bool true, .int .i64 psrc, .int .i64 pdst, .int .i64 pseq, .string (pdata ++ data), .int .i64 plen] 76)
  have hZ := alloc_old hZ (.cells #[.bool true, .int .i64 psrc, .int .i64 pdst, .int .i64 pseq, .string (pdata ++ data), .int .i64 plen] 76)
  have hB := hB.alloc hB.size (.cells #[.bool true, .int .i64 psrc, .int .i64 pdst, .int .i64 pseq, .string (pdata ++ data), .int .i64 plen] 76)
  clear fG fF
  generalize hw3 : w2.alloc (.cells #[.bool true, .int .i64 psrc, .int .i64 pdst, .int .i64 pseq, .string (pdata ++ data), .int .i64 plen] 76) = w3 at *
  have hlt := block_lt hT
  clear hw3
  have HX : Hid (∀ w', Only [w.heap.size + 1, w.heap.size + 2] w3 w' → ((∀ j, w'.cell? ⟨w.heap.size, j, none⟩ = (#[.bool true, .int .i64 psrc, .int .i64 pdst, .int .i64 pseq, .string pdata, .int .i64 plen] : Array Value)[j]?) ∧ (∀ j, w'.cell? ⟨w.heap.size + 3, j, none⟩ = (#[.int .i64 0, .int .i64 0, .int .i64 0, .string ⟨#[]⟩] : Array Value)[j]?) ∧ (∀ j, w'.cell? ⟨w1.heap.size, j, none⟩ = (#[.int .i64 3, .int .i64 src, .int .i64 dst, .int .i64 seq, .int .i64 len, .bool more, .bool cast, .string data] : Array Value)[j]?) ∧ (∀ j, w'.cell? ⟨w2.heap.size, j, none⟩ = (#[.bool true, .int .i64 psrc, .int .i64 pdst, .int .i64 pseq, .string (pdata ++ data), .int .i64 plen] : Array Value)[j]?))) := fun w' ho =>
    ⟨fun j => cell_at (ho.at hG (by simp)) j, fun j => cell_at (ho.at hZ (by simp)) j, fun j => cell_at (ho.at hF (by simp; omega)) j, fun j => cell_at (ho.at hT (by simp; omega)) j⟩
  have hlA := block_lt hA
  have hlP := block_lt hP
  have HA := Lib.hid hA
  have HP := Lib.hid hP
  have HB := Lib.hid hB
  clear hA hP hB hG hZ hF hT
  refine wp_region_held_drew (S := (fun w' => ((∀ j, w'.cell? ⟨w.heap.size, j, none⟩ = (#[.bool true, .int .i64 psrc, .int .i64 pdst, .int .i64 pseq, .string pdata, .int .i64 plen] : Array Value)[j]?) ∧ (∀ j, w'.cell? ⟨w.heap.size + 3, j, none⟩ = (#[.int .i64 0, .int .i64 0, .int .i64 0, .string ⟨#[]⟩] : Array Value)[j]?) ∧ (∀ j, w'.cell? ⟨w1.heap.size, j, none⟩ = (#[.int .i64 3, .int .i64 src, .int .i64 dst, .int .i64 seq, .int .i64 len, .bool more, .bool cast, .string data] : Array Value)[j]?) ∧ (∀ j, w'.cell? ⟨w2.heap.size, j, none⟩ = (#[.bool true, .int .i64 psrc, .int .i64 pdst, .int .i64 pseq, .string (pdata ++ data), .int .i64 plen] : Array Value)[j]?)))) (by kernel_rfl) ?_ (fun hHeld0 => ?_)
  · (try dsimp only); exact HX.out _ (by repeat' (first | (with_reducible assumption) | (with_reducible refine only_setRowN ?_ ?_ _) | (with_reducible exact Only.refl _ _) | (with_reducible refine Only.setCell ?_ ?_ _) | (with_reducible refine Only.drewN ?_ _) | (with_reducible refine Only.drew ?_) | (with_reducible refine Only.alloc ?_ _) | (simp; done) | (simp; omega)))
  refine wpAnyH_take (i := 0) (v := ?_) rfl (by kernel_rfl) (by kernel_rfl) (by kernel_rfl) (fun _ _ _ h => h) (Or.inl ⟨by rfl, ?_⟩) (by assumption) ?_
  rotate_left
  · (intro w hSw; (try dsimp only at hSw); go_simp; try with_reducible rfl)
  (try simp only [Act.put, List.setIfInBounds_toArray, List.set_cons_zero, List.set_cons_succ, List.getElem_toArray, List.getElem_cons_zero, List.getElem_cons_succ])
  refine wpAnyH_take (i := 1) (v := ?_) rfl (by kernel_rfl) (by kernel_rfl) (by kernel_rfl) (fun _ _ _ h => h) (Or.inl ⟨by rfl, ?_⟩) (by assumption) ?_
  rotate_left
  · (intro w hSw; (try dsimp only at hSw); go_simp; try with_reducible rfl)
  (try simp only [Act.put, List.setIfInBounds_toArray, List.set_cons_zero, List.set_cons_succ, List.getElem_toArray, List.getElem_cons_zero, List.getElem_cons_succ])
  refine wpAnyH_take (i := 2) (v := ?_) rfl (by kernel_rfl) (by kernel_rfl) (by kernel_rfl) (fun _ _ _ h => h) (Or.inl ⟨by rfl, ?_⟩) (by assumption) ?_
  rotate_left
  · (intro w hSw; (try dsimp only at hSw); go_simp; try with_reducible rfl)
  (try simp only [Act.put, List.setIfInBounds_toArray, List.set_cons_zero, List.set_cons_succ, List.getElem_toArray, List.getElem_cons_zero, List.getElem_cons_succ])
  refine wpAnyH_ready (rs := [3]) (by kernel_rfl) (by simp) ?_
  refine AllReadyH.cons rfl (fun K hK => ?_) ?_
  · (rw [if_pos (by rfl)]; refine wp_store_row 76 _ _ (by rfl) _ _ (by rfl) (by rfl) 76 #[.bool false, .int .i64 0, .int .i64 0, .int .i64 0, .string ⟨#[]⟩, .int .i64 0] (by exact HA.out) (by kernel_rfl) (by rfl) (by first | (simp; done) | simp [Value.oneCell']) ?_)
    refine hK.out _ _ ?_ (fun hHeld1 => ?_)
    · (try dsimp only); exact HX.out _ (by repeat' (first | (with_reducible assumption) | (with_reducible refine only_setRowN ?_ ?_ _) | (with_reducible exact Only.refl _ _) | (with_reducible refine Only.setCell ?_ ?_ _) | (with_reducible refine Only.drewN ?_ _) | (with_reducible refine Only.drew ?_) | (with_reducible refine Only.alloc ?_ _) | (simp; done) | (simp; omega)))
    clear hK K hHeld0
    (try simp only [Act.put, List.setIfInBounds_toArray, List.set_cons_zero, List.set_cons_succ, List.getElem_toArray, List.getElem_cons_zero, List.getElem_cons_succ])
    refine wpAnyH_ready (rs := [4]) (by kernel_rfl) (by simp) ?_
    refine AllReadyH.cons rfl (fun K hK => ?_) ?_
    · (rw [if_pos (by rfl)]; refine wp_store_row 29 _ _ (by rfl) _ _ (by rfl) (by rfl) 29 #[.int .i64 0, .int .i64 0, .int .i64 0, .string ⟨#[]⟩] (by exact setRow_off (w := w3.drew) HP.out (by omega) _) (by kernel_rfl) (by rfl) (by first | (simp; done) | simp [Value.oneCell']) ?_)
      refine hK.out _ _ ?_ (fun hHeld2 => ?_)
      · (try dsimp only); exact HX.out _ (by repeat' (first | (with_reducible assumption) | (with_reducible refine only_setRowN ?_ ?_ _) | (with_reducible exact Only.refl _ _) | (with_reducible refine Only.setCell ?_ ?_ _) | (with_reducible refine Only.drewN ?_ _) | (with_reducible refine Only.drew ?_) | (with_reducible refine Only.alloc ?_ _) | (simp; done) | (simp; omega)))
      clear hK K hHeld1
      (try simp only [Act.put, List.setIfInBounds_toArray, List.set_cons_zero, List.set_cons_succ, List.getElem_toArray, List.getElem_cons_zero, List.getElem_cons_succ])
      refine wpAnyH_take (i := 5) (v := ?_) rfl (by kernel_rfl) (by kernel_rfl) (by kernel_rfl) (fun _ _ _ h => h) (Or.inl ⟨by rfl, ?_⟩) (by assumption) ?_
      rotate_left
      · (intro w hSw; (try dsimp only at hSw); go_simp; try with_reducible rfl)
      (try simp only [Act.put, List.setIfInBounds_toArray, List.set_cons_zero, List.set_cons_succ, List.getElem_toArray, List.getElem_cons_zero, List.getElem_cons_succ])
      refine wpAnyH_take (i := 6) (v := ?_) rfl (by kernel_rfl) (by kernel_rfl) (by kernel_rfl) (fun _ _ _ h => h) (Or.inl ⟨by rfl, ?_⟩) (by assumption) ?_
      rotate_left
      · (intro w hSw; (try dsimp only at hSw); go_simp; try with_reducible rfl)
      (try simp only [Act.put, List.setIfInBounds_toArray, List.set_cons_zero, List.set_cons_succ, List.getElem_toArray, List.getElem_cons_zero, List.getElem_cons_succ])
      refine wpAnyH_done (by kernel_rfl) ?_ _
      go_wp2
      have hB := HB.out
      have hsw := hB.size
      refine bodyPost_ret (res_two_tmp2 rfl _ _ (w.heap.size + 1) (w.heap.size + 2) 76 29 _ _ _ _ rfl rfl (setRow_off (setRow_at (w := w3.drew) HA.out _) (by omega) _) (setRow_at (setRow_off (w := w3.drew) HP.out (by omega) _) _) Try.underlying76 rfl (by kernel_rfl) Try.underlying29 rfl (by kernel_rfl)) rfl ⟨rfl, by repeat' (first | (with_reducible assumption) | (with_reducible refine below_setRowN ?_ ?_ _) | (with_reducible refine Below.setCell ?_ ?_ _) | (with_reducible refine below_drewN' ?_ _) | (with_reducible refine Below.drew ?_) | (with_reducible refine Below.alloc ?_ ?_ _) | (with_reducible exact Below.refl _ _) | (with_reducible exact Nat.le_refl _) | (simp; done) | omega | (simp; omega))⟩
    exact AllReadyH.nil
  exact AllReadyH.nil
set_option maxRecDepth 100000 in
set_option maxHeartbeats 2000000 in
theorem rtake_bad (x : Nat) (psrc pdst pseq plen  src dst seq len  : Int) (pdata data : ByteArray) (more cast : Bool) (w : World) (hR : ∀ w, Calls Try.prog 43 #[.int .u64 (x : Int)] w fun e' w' => e' = .returned (.tuple #[.agg #[.int .i64 3, .int .i64 src, .int .i64 dst, .int .i64 seq, .int .i64 len, .bool more, .bool cast, .string data], .int .i64 0]) ∧ Below w.heap.size w w')
    (hs : ((pdata ++ data).size : Int) ≠ plen) (hd : pdata.size ≤ 4294967296) (hfd : data.size ≤ 6) :
    Calls Try.prog 41 #[.agg #[.bool true, .int .i64 psrc, .int .i64 pdst, .int .i64 pseq, .string pdata, .int .i64 plen], .int .u64 (x : Int)] w fun e' w' => e' = .returned (.tuple #[.agg #[.bool false, .int .i64 0, .int .i64 0, .int .i64 0, .string ⟨#[]⟩, .int .i64 0], .agg #[.int .i64 0, .int .i64 0, .int .i64 0, .string ⟨#[]⟩], .bool false, .int .i64 4]) ∧ Below w.heap.size w w' := by
  have hcat : ((pdata ++ data).size : Int) = (pdata.size : Int) + (data.size : Int) := by rw [ByteArray.size_append]; simp
  have hs1 : ((pdata.size : Int) + (data.size : Int) != plen) = true := bne_iff_ne.2 (by omega)
  have hs2 : (((pdata ++ data).size : Int) != plen) = true := bne_iff_ne.2 hs
  clear hs hcat
  have HR := Lib.hid hR
  clear hR
  go_enter Try.func41, Try.ntmps41
  go_upto_region 3 with (first | (go_at_call 43; ((with_reducible refine (HR.out _).mono ?_); rintro e' w1 ⟨rfl, hb1⟩; have hb1' : Below (w.heap.size + 4) ((((w.alloc (.cells #[.bool true, .int .i64 psrc, .int .i64 pdst, .int .i64 pseq, .string pdata, .int .i64 plen] 76)).alloc (.cells #[.bool false, .int .i64 0, .int .i64 0, .int .i64 0, .string ⟨#[]⟩, .int .i64 0] 76)).alloc (.cells #[.int .i64 0, .int .i64 0, .int .i64 0, .string ⟨#[]⟩] 29)).alloc (.cells #[.int .i64 0, .int .i64 0, .int .i64 0, .string ⟨#[]⟩] 29)) w1 := (by simpa using hb1); have HB1 := Lib.hid hb1'; clear hb1 hb1')))
  have hb := HB1.out
  have hs1 := hb.size
  simp at hs1
  have hG1 := Below.at hb (alloc_old (alloc_old (alloc_old (alloc_new _) _) _) _) (by omega)
  have hA1 := Below.at hb (alloc_old (alloc_old (alloc_at _ (w.heap.size + 1) (by simp)) _) _) (by omega)
  have hP1 := Below.at hb (alloc_old (alloc_at _ (w.heap.size + 2) (by simp)) _) (by omega)
  have hZ1 := Below.at hb (alloc_at _ (w.heap.size + 3) (by simp)) (by omega)
  have hF := alloc_new (w := w1) (.cells #[.int .i64 3, .int .i64 src, .int .i64 dst, .int .i64 seq, .int .i64 len, .bool more, .bool cast, .string data] 81)
  have hG := alloc_old hG1 (.cells #[.int .i64 3, .int .i64 src, .int .i64 dst, .int .i64 seq, .int .i64 len, .bool more, .bool cast, .string data] 81)
  have hA := alloc_old hA1 (.cells #[.int .i64 3, .int .i64 src, .int .i64 dst, .int .i64 seq, .int .i64 len, .bool more, .bool cast, .string data] 81)
  have hP := alloc_old hP1 (.cells #[.int .i64 3, .int .i64 src, .int .i64 dst, .int .i64 seq, .int .i64 len, .bool more, .bool cast, .string data] 81)
  have hZ := alloc_old hZ1 (.cells #[.int .i64 3, .int .i64 src, .int .i64 dst, .int .i64 seq, .int .i64 len, .bool more, .bool cast, .string data] 81)
  have hB : Below w.heap.size w (w1.alloc (.cells #[.int .i64 3, .int .i64 src, .int .i64 dst, .int .i64 seq, .int .i64 len, .bool more, .bool cast, .string data] 81)) := Below.trans (show Below w.heap.size w ((((w.alloc (.cells #[.bool true, .int .i64 psrc, .int .i64 pdst, .int .i64 pseq, .string pdata, .int .i64 plen] 76)).alloc (.cells #[.bool false, .int .i64 0, .int .i64 0, .int .i64 0, .string ⟨#[]⟩, .int .i64 0] 76)).alloc (.cells #[.int .i64 0, .int .i64 0, .int .i64 0, .string ⟨#[]⟩] 29)).alloc (.cells #[.int .i64 0, .int .i64 0, .int .i64 0, .string ⟨#[]⟩] 29)) from (by repeat' (first | (with_reducible assumption) | (with_reducible refine below_setRowN ?_ ?_ _) | (with_reducible refine Below.setCell ?_ ?_ _) | (with_reducible refine below_drewN' ?_ _) | (with_reducible refine Below.drew ?_) | (with_reducible refine Below.alloc ?_ ?_ _) | (with_reducible exact Below.refl _ _) | (with_reducible exact Nat.le_refl _) | (simp; done) | omega | (simp; omega)))) ((hb.mono (by omega)).alloc (by omega) _)
  clear hb hG1 hA1 hP1 hZ1 HB1
  generalize w1.alloc (.cells #[.int .i64 3, .int .i64 src, .int .i64 dst, .int .i64 seq, .int .i64 len, .bool more, .bool cast, .string data] 81) = w2 at *
  have fG := fun j => cell_at hG j
  have fF := fun j => cell_at hF j
  have hlf := block_lt hF
  have hlg := block_lt hG
  have H0 := Lib.hid (And.intro hF (And.intro hG (And.intro hA (And.intro hP (And.intro hZ hB)))))
  clear hF hG hA hP hZ hB
  go_wp2
  obtain ⟨hF, hG, hA, hP, hZ, hB⟩ := H0.out
  clear H0
  have hT := alloc_new (w := w2) (.cells #[.bool true, .int .i64 psrc, .int .i64 pdst, .int .i64 pseq, .string (pdata ++ data), .int .i64 plen] 76)
  have hF := alloc_old hF (.cells #[.bool true, .int .i64 psrc, .int .i64 pdst, .int .i64 pseq, .string (pdata ++ data), .int .i64 plen] 76)
  have hG := alloc_old hG (.cells #[.bool true, .int .i64 psrc, .int .i64 pdst, .int .i64 pseq, .string (pdata ++ data), .int .i64 plen] 76)
  have hA := alloc_old hA (.cells #[.bool true, .int .i64 psrc, .int .i64 pdst, .int .i64 pseq, .string (pdata ++ data), .int .i64 plen] 76)
  have hP := alloc_old hP (.cells #[.bool true, .int .i64 psrc, .int .i64 pdst, .int .i64 pseq, .string (pdata ++ data), .int .i64 plen] 76)
  have hZ := alloc_old hZ (.cells #[.bool true, .int .i64 psrc, .int .i64 pdst, .int .i64 pseq, .string (pdata ++ data), .int .i64 plen] 76)
  have hB := hB.alloc hB.size (.cells #[.bool true, .int .i64 psrc, .int .i64 pdst, .int .i64 pseq, .string (pdata ++ data), .int .i64 plen] 76)
  clear fG fF
  generalize hw3 : w2.alloc (.cells #[.bool true, .int .i64 psrc, .int .i64 pdst, .int .i64 pseq, .string (pdata ++ data), .int .i64 plen] 76) = w3 at *
  have hlt := block_lt hT
  clear hw3
  have HX : Hid (∀ w', Only [w.heap.size + 1, w.heap.size + 2] w3 w' → ((∀ j, w'.cell? ⟨w.heap.size, j, none⟩ = (#[.bool true, .int .i64 psrc, .int .i64 pdst, .int .i64 pseq, .string pdata, .int .i64 plen] : Array Value)[j]?) ∧ (∀ j, w'.cell? ⟨w.heap.size + 3, j, none⟩ = (#[.int .i64 0, .int .i64 0, .int .i64 0, .string ⟨#[]⟩] : Array Value)[j]?) ∧ (∀ j, w'.cell? ⟨w1.heap.size, j, none⟩ = (#[.int .i64 3, .int .i64 src, .int .i64 dst, .int .i64 seq, .int .i64 len, .bool more, .bool cast, .string data] : Array Value)[j]?) ∧ (∀ j, w'.cell? ⟨w2.heap.size, j, none⟩ = (#[.bool true, .int .i64 psrc, .int .i64 pdst, .int .i64 pseq, .string (pdata ++ data), .int .i64 plen] : Array Value)[j]?))) := fun w' ho =>
    ⟨fun j => cell_at (ho.at hG (by simp)) j, fun j => cell_at (ho.at hZ (by simp)) j, fun j => cell_at (ho.at hF (by simp; omega)) j, fun j => cell_at (ho.at hT (by simp; omega)) j⟩
  have hlA := block_lt hA
  have hlP := block_lt hP
  have HA := Lib.hid hA
  have HP := Lib.hid hP
  have HB := Lib.hid hB
  clear hA hP hB hG hZ hF hT
  refine wp_region_held_drew (S := (fun w' => ((∀ j, w'.cell? ⟨w.heap.size, j, none⟩ = (#[.bool true, .int .i64 psrc, .int .i64 pdst, .int .i64 pseq, .string pdata, .int .i64 plen] : Array Value)[j]?) ∧ (∀ j, w'.cell? ⟨w.heap.size + 3, j, none⟩ = (#[.int .i64 0, .int .i64 0, .int .i64 0, .string ⟨#[]⟩] : Array Value)[j]?) ∧ (∀ j, w'.cell? ⟨w1.heap.size, j, none⟩ = (#[.int .i64 3, .int .i64 src, .int .i64 dst, .int .i64 seq, .int .i64 len, .bool more, .bool cast, .string data] : Array Value)[j]?) ∧ (∀ j, w'.cell? ⟨w2.heap.size, j, none⟩ = (#[.bool true, .int .i64 psrc, .int .i64 pdst, .int .i64 pseq, .string (pdata ++ data), .int .i64 plen] : Array Value)[j]?)))) (by kernel_rfl) ?_ (fun hHeld0 => ?_)
  · (try dsimp only); exact HX.out _ (by repeat' (first | (with_reducible assumption) | (with_reducible refine only_setRowN ?_ ?_ _) | (with_reducible exact Only.refl _ _) | (with_reducible refine Only.setCell ?_ ?_ _) | (with_reducible refine Only.drewN ?_ _) | (with_reducible refine Only.drew ?_) | (with_reducible refine Only.alloc ?_ _) | (simp; done) | (simp; omega)))
  refine wpAnyH_take (i := 0) (v := ?_) rfl (by kernel_rfl) (by kernel_rfl) (by kernel_rfl) (fun _ _ _ h => h) (Or.inl ⟨by rfl, ?_⟩) (by assumption) ?_
  rotate_left
  · (intro w hSw; (try dsimp only at hSw); go_simp; try with_reducible rfl)
  (try simp only [Act.put, List.setIfInBounds_toArray, List.set_cons_zero, List.set_cons_succ, List.getElem_toArray, List.getElem_cons_zero, List.getElem_cons_succ])
  refine wpAnyH_take (i := 1) (v := ?_) rfl (by kernel_rfl) (by kernel_rfl) (by kernel_rfl) (fun _ _ _ h => h) (Or.inl ⟨by rfl, ?_⟩) (by assumption) ?_
  rotate_left
  · (intro w hSw; (try dsimp only at hSw); go_simp; try with_reducible rfl)
  (try simp only [Act.put, List.setIfInBounds_toArray, List.set_cons_zero, List.set_cons_succ, List.getElem_toArray, List.getElem_cons_zero, List.getElem_cons_succ])
  refine wpAnyH_ready (rs := [2]) (by kernel_rfl) (by simp) ?_
  refine AllReadyH.cons rfl (fun K hK => ?_) ?_
  · (rw [if_pos (by rfl)]; refine wp_store_row 76 _ _ (by rfl) _ _ (by rfl) (by rfl) 76 #[.bool false, .int .i64 0, .int .i64 0, .int .i64 0, .string ⟨#[]⟩, .int .i64 0] (by exact HA.out) (by kernel_rfl) (by rfl) (by first | (simp; done) | simp [Value.oneCell']) ?_)
    refine hK.out _ _ ?_ (fun hHeld1 => ?_)
    · (try dsimp only); exact HX.out _ (by repeat' (first | (with_reducible assumption) | (with_reducible refine only_setRowN ?_ ?_ _) | (with_reducible exact Only.refl _ _) | (with_reducible refine Only.setCell ?_ ?_ _) | (with_reducible refine Only.drewN ?_ _) | (with_reducible refine Only.drew ?_) | (with_reducible refine Only.alloc ?_ _) | (simp; done) | (simp; omega)))
    clear hK K hHeld0
    (try simp only [Act.put, List.setIfInBounds_toArray, List.set_cons_zero, List.set_cons_succ, List.getElem_toArray, List.getElem_cons_zero, List.getElem_cons_succ])
    refine wpAnyH_ready (rs := [3]) (by kernel_rfl) (by simp) ?_
    refine AllReadyH.cons rfl (fun K hK => ?_) ?_
    · (rw [if_pos (by rfl)]; refine wp_store_row 29 _ _ (by rfl) _ _ (by rfl) (by rfl) 29 #[.int .i64 0, .int .i64 0, .int .i64 0, .string ⟨#[]⟩] (by exact setRow_off (w := w3.drew) HP.out (by omega) _) (by kernel_rfl) (by rfl) (by first | (simp; done) | simp [Value.oneCell']) ?_)
      refine hK.out _ _ ?_ (fun hHeld2 => ?_)
      · (try dsimp only); exact HX.out _ (by repeat' (first | (with_reducible assumption) | (with_reducible refine only_setRowN ?_ ?_ _) | (with_reducible exact Only.refl _ _) | (with_reducible refine Only.setCell ?_ ?_ _) | (with_reducible refine Only.drewN ?_ _) | (with_reducible refine Only.drew ?_) | (with_reducible refine Only.alloc ?_ _) | (simp; done) | (simp; omega)))
      clear hK K hHeld1
      (try simp only [Act.put, List.setIfInBounds_toArray, List.set_cons_zero, List.set_cons_succ, List.getElem_toArray, List.getElem_cons_zero, List.getElem_cons_succ])
      refine wpAnyH_take (i := 4) (v := ?_) rfl (by kernel_rfl) (by kernel_rfl) (by kernel_rfl) (fun _ _ _ h => h) (Or.inl ⟨by rfl, ?_⟩) (by assumption) ?_
      rotate_left
      · (intro w hSw; (try dsimp only at hSw); go_simp; try with_reducible rfl)
      (try simp only [Act.put, List.setIfInBounds_toArray, List.set_cons_zero, List.set_cons_succ, List.getElem_toArray, List.getElem_cons_zero, List.getElem_cons_succ])
      refine wpAnyH_take (i := 5) (v := ?_) rfl (by kernel_rfl) (by kernel_rfl) (by kernel_rfl) (fun _ _ _ h => h) (Or.inl ⟨by rfl, ?_⟩) (by assumption) ?_
      rotate_left
      · (intro w hSw; (try dsimp only at hSw); go_simp; try with_reducible rfl)
      (try simp only [Act.put, List.setIfInBounds_toArray, List.set_cons_zero, List.set_cons_succ, List.getElem_toArray, List.getElem_cons_zero, List.getElem_cons_succ])
      refine wpAnyH_done (by kernel_rfl) ?_ _
      go_wp2
      have hB := HB.out
      have hsw := hB.size
      refine bodyPost_ret (res_two_tmp2 rfl _ _ (w.heap.size + 1) (w.heap.size + 2) 76 29 _ _ _ _ rfl rfl (setRow_off (setRow_at (w := w3.drew) HA.out _) (by omega) _) (setRow_at (setRow_off (w := w3.drew) HP.out (by omega) _) _) Try.underlying76 rfl (by kernel_rfl) Try.underlying29 rfl (by kernel_rfl)) rfl ⟨rfl, by repeat' (first | (with_reducible assumption) | (with_reducible refine below_setRowN ?_ ?_ _) | (with_reducible refine Below.setCell ?_ ?_ _) | (with_reducible refine below_drewN' ?_ _) | (with_reducible refine Below.drew ?_) | (with_reducible refine Below.alloc ?_ ?_ _) | (with_reducible exact Below.refl _ _) | (with_reducible exact Nat.le_refl _) | (simp; done) | omega | (simp; omega))⟩
    exact AllReadyH.nil
  exact AllReadyH.nil
set_option maxRecDepth 100000 in
set_option maxHeartbeats 2000000 in
theorem rtake_long (x : Nat) (psrc pdst pseq plen kind src dst seq len  : Int) (pdata data : ByteArray) (more cast : Bool) (w : World) (hR : ∀ w, Calls Try.prog 43 #[.int .u64 (x : Int)] w fun e' w' => e' = .returned (.tuple #[.agg #[.int .i64 kind, .int .i64 src, .int .i64 dst, .int .i64 seq, .int .i64 len, .bool more, .bool cast, .string data], .int .i64 0]) ∧ Below w.heap.size w w')
    (hk : kind ≠ 1) (hk3 : kind ≠ 3) (hs : plen < ((pdata ++ data).size : Int)) (hd : pdata.size ≤ 4294967296) (hfd : data.size ≤ 6) :
    Calls Try.prog 41 #[.agg #[.bool true, .int .i64 psrc, .int .i64 pdst, .int .i64 pseq, .string pdata, .int .i64 plen], .int .u64 (x : Int)] w fun e' w' => e' = .returned (.tuple #[.agg #[.bool true, .int .i64 psrc, .int .i64 pdst, .int .i64 pseq, .string pdata, .int .i64 plen], .agg #[.int .i64 0, .int .i64 0, .int .i64 0, .string ⟨#[]⟩], .bool false, .int .i64 4]) ∧ Below w.heap.size w w' := by
  have hcat : ((pdata ++ data).size : Int) = (pdata.size : Int) + (data.size : Int) := by rw [ByteArray.size_append]; simp
  have hkb : (kind == 1) = false := beq_eq_false_iff_ne.2 hk
  have hk3b : (kind == 3) = false := beq_eq_false_iff_ne.2 hk3
  clear hk hk3
  have hs1 : plen < (pdata.size : Int) + (data.size : Int) := by omega
  clear hcat
  have HR := Lib.hid hR
  clear hR
  go_enter Try.func41, Try.ntmps41
  go_upto_region 3 with (first | (go_at_call 43; ((with_reducible refine (HR.out _).mono ?_); rintro e' w1 ⟨rfl, hb1⟩; have hb1' : Below (w.heap.size + 4) ((((w.alloc (.cells #[.bool true, .int .i64 psrc, .int .i64 pdst, .int .i64 pseq, .string pdata, .int .i64 plen] 76)).alloc (.cells #[.bool false, .int .i64 0, .int .i64 0, .int .i64 0, .string ⟨#[]⟩, .int .i64 0] 76)).alloc (.cells #[.int .i64 0, .int .i64 0, .int .i64 0, .string ⟨#[]⟩] 29)).alloc (.cells #[.int .i64 0, .int .i64 0, .int .i64 0, .string ⟨#[]⟩] 29)) w1 := (by simpa using hb1); have HB1 := Lib.hid hb1'; clear hb1 hb1')))
  have hb := HB1.out
  have hs1 := hb.size
  simp at hs1
  have hG1 := Below.at hb (alloc_old (alloc_old (alloc_old (alloc_new _) _) _) _) (by omega)
  have hA1 := Below.at hb (alloc_old (alloc_old (alloc_at _ (w.heap.size + 1) (by simp)) _) _) (by omega)
  have hP1 := Below.at hb (alloc_old (alloc_at _ (w.heap.size + 2) (by simp)) _) (by omega)
  have hZ1 := Below.at hb (alloc_at _ (w.heap.size + 3) (by simp)) (by omega)
  have hF := alloc_new (w := w1) (.cells #[.int .i64 kind, .int .i64 src, .int .i64 dst, .int .i64 seq, .int .i64 len, .bool more, .bool cast, .string data] 81)
  have hG := alloc_old hG1 (.cells #[.int .i64 kind, .int .i64 src, .int .i64 dst, .int .i64 seq, .int .i64 len, .bool more, .bool cast, .string data] 81)
  have hA := alloc_old hA1 (.cells #[.int .i64 kind, .int .i64 src, .int .i64 dst, .int .i64 seq, .int .i64 len, .bool more, .bool cast, .string data] 81)
  have hP := alloc_old hP1 (.cells #[.int .i64 kind, .int .i64 src, .int .i64 dst, .int .i64 seq, .int .i64 len, .bool more, .bool cast, .string data] 81)
  have hZ := alloc_old hZ1 (.cells #[.int .i64 kind, .int .i64 src, .int .i64 dst, .int .i64 seq, .int .i64 len, .bool more, .bool cast, .string data] 81)
  have hB : Below w.heap.size w (w1.alloc (.cells #[.int .i64 kind, .int .i64 src, .int .i64 dst, .int .i64 seq, .int .i64 len, .bool more, .bool cast, .string data] 81)) := Below.trans (show Below w.heap.size w ((((w.alloc (.cells #[.bool true, .int .i64 psrc, .int .i64 pdst, .int .i64 pseq, .string pdata, .int .i64 plen] 76)).alloc (.cells #[.bool false, .int .i64 0, .int .i64 0, .int .i64 0, .string ⟨#[]⟩, .int .i64 0] 76)).alloc (.cells #[.int .i64 0, .int .i64 0, .int .i64 0, .string ⟨#[]⟩] 29)).alloc (.cells #[.int .i64 0, .int .i64 0, .int .i64 0, .string ⟨#[]⟩] 29)) from (by repeat' (first | (with_reducible assumption) | (with_reducible refine below_setRowN ?_ ?_ _) | (with_reducible refine Below.setCell ?_ ?_ _) | (with_reducible refine below_drewN' ?_ _) | (with_reducible refine Below.drew ?_) | (with_reducible refine Below.alloc ?_ ?_ _) | (with_reducible exact Below.refl _ _) | (with_reducible exact Nat.le_refl _) | (simp; done) | omega | (simp; omega)))) ((hb.mono (by omega)).alloc (by omega) _)
  clear hb hG1 hA1 hP1 hZ1 HB1
  generalize w1.alloc (.cells #[.int .i64 kind, .int .i64 src, .int .i64 dst, .int .i64 seq, .int .i64 len, .bool more, .bool cast, .string data] 81) = w2 at *
  have fG := fun j => cell_at hG j
  have fF := fun j => cell_at hF j
  have hlf := block_lt hF
  have hlg := block_lt hG
  have H0 := Lib.hid (And.intro hF (And.intro hG (And.intro hA (And.intro hP (And.intro hZ hB)))))
  clear hF hG hA hP hZ hB
  go_wp2
  obtain ⟨hF, hG, hA, hP, hZ, hB⟩ := H0.out
  clear H0
  have hT := alloc_new (w := w2) (.cells #[.bool true, .int .i64 psrc, .int .i64 pdst, .int .i64 pseq, .string (pdata ++ data), .int .i64 plen] 76)
  have hF := alloc_old hF (.cells #[.bool true, .int .i64 psrc, .int .i64 pdst, .int .i64 pseq, .string (pdata ++ data), .int .i64 plen] 76)
  have hG := alloc_old hG (.cells #[.bool true, .int .i64 psrc, .int .i64 pdst, .int .i64 pseq, .string (pdata ++ data), .int .i64 plen] 76)
  have hA := alloc_old hA (.cells #[.bool true, .int .i64 psrc, .int .i64 pdst, .int .i64 pseq, .string (pdata ++ data), .int .i64 plen] 76)
  have hP := alloc_old hP (.cells #[.bool true, .int .i64 psrc, .int .i64 pdst, .int .i64 pseq, .string (pdata ++ data), .int .i64 plen] 76)
  have hZ := alloc_old hZ (.cells #[.bool true, .int .i64 psrc, .int .i64 pdst, .int .i64 pseq, .string (pdata ++ data), .int .i64 plen] 76)
  have hB := hB.alloc hB.size (.cells #[.bool true, .int .i64 psrc, .int .i64 pdst, .int .i64 pseq, .string (pdata ++ data), .int .i64 plen] 76)
  clear fG fF
  generalize hw3 : w2.alloc (.cells #[.bool true, .int .i64 psrc, .int .i64 pdst, .int .i64 pseq, .string (pdata ++ data), .int .i64 plen] 76) = w3 at *
  have hlt := block_lt hT
  clear hw3
  have HX : Hid (∀ w', Only [w.heap.size + 1, w.heap.size + 2] w3 w' → ((∀ j, w'.cell? ⟨w.heap.size, j, none⟩ = (#[.bool true, .int .i64 psrc, .int .i64 pdst, .int .i64 pseq, .string pdata, .int .i64 plen] : Array Value)[j]?) ∧ (∀ j, w'.cell? ⟨w.heap.size + 3, j, none⟩ = (#[.int .i64 0, .int .i64 0, .int .i64 0, .string ⟨#[]⟩] : Array Value)[j]?) ∧ (∀ j, w'.cell? ⟨w1.heap.size, j, none⟩ = (#[.int .i64 kind, .int .i64 src, .int .i64 dst, .int .i64 seq, .int .i64 len, .bool more, .bool cast, .string data] : Array Value)[j]?) ∧ (∀ j, w'.cell? ⟨w2.heap.size, j, none⟩ = (#[.bool true, .int .i64 psrc, .int .i64 pdst, .int .i64 pseq, .string (pdata ++ data), .int .i64 plen] : Array Value)[j]?))) := fun w' ho =>
    ⟨fun j => cell_at (ho.at hG (by simp)) j, fun j => cell_at (ho.at hZ (by simp)) j, fun j => cell_at (ho.at hF (by simp; omega)) j, fun j => cell_at (ho.at hT (by simp; omega)) j⟩
  have hlA := block_lt hA
  have hlP := block_lt hP
  have HA := Lib.hid hA
  have HP := Lib.hid hP
  have HB := Lib.hid hB
  clear hA hP hB hG hZ hF hT
  refine wp_region_held_drew (S := (fun w' => ((∀ j, w'.cell? ⟨w.heap.size, j, none⟩ = (#[.bool true, .int .i64 psrc, .int .i64 pdst, .int .i64 pseq, .string pdata, .int .i64 plen] : Array Value)[j]?) ∧ (∀ j, w'.cell? ⟨w.heap.size + 3, j, none⟩ = (#[.int .i64 0, .int .i64 0, .int .i64 0, .string ⟨#[]⟩] : Array Value)[j]?) ∧ (∀ j, w'.cell? ⟨w1.heap.size, j, none⟩ = (#[.int .i64 kind, .int .i64 src, .int .i64 dst, .int .i64 seq, .int .i64 len, .bool more, .bool cast, .string data] : Array Value)[j]?) ∧ (∀ j, w'.cell? ⟨w2.heap.size, j, none⟩ = (#[.bool true, .int .i64 psrc, .int .i64 pdst, .int .i64 pseq, .string (pdata ++ data), .int .i64 plen] : Array Value)[j]?)))) (by kernel_rfl) ?_ (fun hHeld0 => ?_)
  · (try dsimp only); exact HX.out _ (by repeat' (first | (with_reducible assumption) | (with_reducible refine only_setRowN ?_ ?_ _) | (with_reducible exact Only.refl _ _) | (with_reducible refine Only.setCell ?_ ?_ _) | (with_reducible refine Only.drewN ?_ _) | (with_reducible refine Only.drew ?_) | (with_reducible refine Only.alloc ?_ _) | (simp; done) | (simp; omega)))
  refine wpAnyH_take (i := 0) (v := ?_) rfl (by kernel_rfl) (by kernel_rfl) (by kernel_rfl) (fun _ _ _ h => h) (Or.inl ⟨by rfl, ?_⟩) (by assumption) ?_
  rotate_left
  · (intro w hSw; (try dsimp only at hSw); go_simp; try with_reducible rfl)
  (try simp only [Act.put, List.setIfInBounds_toArray, List.set_cons_zero, List.set_cons_succ, List.getElem_toArray, List.getElem_cons_zero, List.getElem_cons_succ])
  refine wpAnyH_take (i := 1) (v := ?_) rfl (by kernel_rfl) (by kernel_rfl) (by kernel_rfl) (fun _ _ _ h => h) (Or.inl ⟨by rfl, ?_⟩) (by assumption) ?_
  rotate_left
  · (intro w hSw; (try dsimp only at hSw); go_simp; try with_reducible rfl)
  (try simp only [Act.put, List.setIfInBounds_toArray, List.set_cons_zero, List.set_cons_succ, List.getElem_toArray, List.getElem_cons_zero, List.getElem_cons_succ])
  refine wpAnyH_ready (rs := [2]) (by kernel_rfl) (by simp) ?_
  refine AllReadyH.cons rfl (fun K hK => ?_) ?_
  · (rw [if_pos (by rfl)]; refine wp_store_row 76 _ _ (by rfl) _ _ (by rfl) (by rfl) 76 #[.bool false, .int .i64 0, .int .i64 0, .int .i64 0, .string ⟨#[]⟩, .int .i64 0] (by exact HA.out) (by kernel_rfl) (by rfl) (by first | (simp; done) | simp [Value.oneCell']) ?_)
    refine hK.out _ _ ?_ (fun hHeld1 => ?_)
    · (try dsimp only); exact HX.out _ (by repeat' (first | (with_reducible assumption) | (with_reducible refine only_setRowN ?_ ?_ _) | (with_reducible exact Only.refl _ _) | (with_reducible refine Only.setCell ?_ ?_ _) | (with_reducible refine Only.drewN ?_ _) | (with_reducible refine Only.drew ?_) | (with_reducible refine Only.alloc ?_ _) | (simp; done) | (simp; omega)))
    clear hK K hHeld0
    (try simp only [Act.put, List.setIfInBounds_toArray, List.set_cons_zero, List.set_cons_succ, List.getElem_toArray, List.getElem_cons_zero, List.getElem_cons_succ])
    refine wpAnyH_ready (rs := [3]) (by kernel_rfl) (by simp) ?_
    refine AllReadyH.cons rfl (fun K hK => ?_) ?_
    · (rw [if_pos (by rfl)]; refine wp_store_row 29 _ _ (by rfl) _ _ (by rfl) (by rfl) 29 #[.int .i64 0, .int .i64 0, .int .i64 0, .string ⟨#[]⟩] (by exact setRow_off (w := w3.drew) HP.out (by omega) _) (by kernel_rfl) (by rfl) (by first | (simp; done) | simp [Value.oneCell']) ?_)
      refine hK.out _ _ ?_ (fun hHeld2 => ?_)
      · (try dsimp only); exact HX.out _ (by repeat' (first | (with_reducible assumption) | (with_reducible refine only_setRowN ?_ ?_ _) | (with_reducible exact Only.refl _ _) | (with_reducible refine Only.setCell ?_ ?_ _) | (with_reducible refine Only.drewN ?_ _) | (with_reducible refine Only.drew ?_) | (with_reducible refine Only.alloc ?_ _) | (simp; done) | (simp; omega)))
      clear hK K hHeld1
      (try simp only [Act.put, List.setIfInBounds_toArray, List.set_cons_zero, List.set_cons_succ, List.getElem_toArray, List.getElem_cons_zero, List.getElem_cons_succ])
      refine wpAnyH_take (i := 4) (v := ?_) rfl (by kernel_rfl) (by kernel_rfl) (by kernel_rfl) (fun _ _ _ h => h) (Or.inl ⟨by rfl, ?_⟩) (by assumption) ?_
      rotate_left
      · (intro w hSw; (try dsimp only at hSw); go_simp; try with_reducible rfl)
      (try simp only [Act.put, List.setIfInBounds_toArray, List.set_cons_zero, List.set_cons_succ, List.getElem_toArray, List.getElem_cons_zero, List.getElem_cons_succ])
      refine wpAnyH_take (i := 5) (v := ?_) rfl (by kernel_rfl) (by kernel_rfl) (by kernel_rfl) (fun _ _ _ h => h) (Or.inl ⟨by rfl, ?_⟩) (by assumption) ?_
      rotate_left
      · (intro w hSw; (try dsimp only at hSw); go_simp; try with_reducible rfl)
      (try simp only [Act.put, List.setIfInBounds_toArray, List.set_cons_zero, List.set_cons_succ, List.getElem_toArray, List.getElem_cons_zero, List.getElem_cons_succ])
      refine wpAnyH_done (by kernel_rfl) ?_ _
      go_wp2
      have hB := HB.out
      have hsw := hB.size
      refine bodyPost_ret (res_two_tmp2 rfl _ _ (w.heap.size + 1) (w.heap.size + 2) 76 29 _ _ _ _ rfl rfl (setRow_off (setRow_at (w := w3.drew) HA.out _) (by omega) _) (setRow_at (setRow_off (w := w3.drew) HP.out (by omega) _) _) Try.underlying76 rfl (by kernel_rfl) Try.underlying29 rfl (by kernel_rfl)) rfl ⟨rfl, by repeat' (first | (with_reducible assumption) | (with_reducible refine below_setRowN ?_ ?_ _) | (with_reducible refine Below.setCell ?_ ?_ _) | (with_reducible refine below_drewN' ?_ _) | (with_reducible refine Below.drew ?_) | (with_reducible refine Below.alloc ?_ ?_ _) | (with_reducible exact Below.refl _ _) | (with_reducible exact Nat.le_refl _) | (simp; done) | omega | (simp; omega))⟩
    exact AllReadyH.nil
  exact AllReadyH.nil
set_option maxRecDepth 100000 in
set_option maxHeartbeats 2000000 in
theorem rtake_body (x : Nat) (psrc pdst pseq plen kind src dst seq len  : Int) (pdata data : ByteArray) (more cast : Bool) (w : World) (hR : ∀ w, Calls Try.prog 43 #[.int .u64 (x : Int)] w fun e' w' => e' = .returned (.tuple #[.agg #[.int .i64 kind, .int .i64 src, .int .i64 dst, .int .i64 seq, .int .i64 len, .bool more, .bool cast, .string data], .int .i64 0]) ∧ Below w.heap.size w w')
    (hk : kind ≠ 1) (hk3 : kind ≠ 3) (hs : ¬ plen < ((pdata ++ data).size : Int)) (hd : pdata.size ≤ 4294967296) (hfd : data.size ≤ 6) :
    Calls Try.prog 41 #[.agg #[.bool true, .int .i64 psrc, .int .i64 pdst, .int .i64 pseq, .string pdata, .int .i64 plen], .int .u64 (x : Int)] w fun e' w' => e' = .returned (.tuple #[.agg #[.bool true, .int .i64 psrc, .int .i64 pdst, .int .i64 pseq, .string (pdata ++ data), .int .i64 plen], .agg #[.int .i64 0, .int .i64 0, .int .i64 0, .string ⟨#[]⟩], .bool false, .int .i64 0]) ∧ Below w.heap.size w w' := by
  have hcat : ((pdata ++ data).size : Int) = (pdata.size : Int) + (data.size : Int) := by rw [ByteArray.size_append]; simp
  have hkb : (kind == 1) = false := beq_eq_false_iff_ne.2 hk
  have hk3b : (kind == 3) = false := beq_eq_false_iff_ne.2 hk3
  clear hk hk3
  have hs1 : ¬ (plen < (pdata.size : Int) + (data.size : Int)) := by omega
  clear hcat
  have HR := Lib.hid hR
  clear hR
  go_enter Try.func41, Try.ntmps41
  go_upto_region 3 with (first | (go_at_call 43; ((with_reducible refine (HR.out _).mono ?_); rintro e' w1 ⟨rfl, hb1⟩; have hb1' : Below (w.heap.size + 4) ((((w.alloc (.cells #[.bool true, .int .i64 psrc, .int .i64 pdst, .int .i64 pseq, .string pdata, .int .i64 plen] 76)).alloc (.cells #[.bool false, .int .i64 0, .int .i64 0, .int .i64 0, .string ⟨#[]⟩, .int .i64 0] 76)).alloc (.cells #[.int .i64 0, .int .i64 0, .int .i64 0, .string ⟨#[]⟩] 29)).alloc (.cells #[.int .i64 0, .int .i64 0, .int .i64 0, .string ⟨#[]⟩] 29)) w1 := (by simpa using hb1); have HB1 := Lib.hid hb1'; clear hb1 hb1')))
  have hb := HB1.out
  have hs1 := hb.size
  simp at hs1
  have hG1 := Below.at hb (alloc_old (alloc_old (alloc_old (alloc_new _) _) _) _) (by omega)
  have hA1 := Below.at hb (alloc_old (alloc_old (alloc_at _ (w.heap.size + 1) (by simp)) _) _) (by omega)
  have hP1 := Below.at hb (alloc_old (alloc_at _ (w.heap.size + 2) (by simp)) _) (by omega)
  have hZ1 := Below.at hb (alloc_at _ (w.heap.size + 3) (by simp)) (by omega)
  have hF := alloc_new (w := w1) (.cells #[.int .i64 kind, .int .i64 src, .int .i64 dst, .int .i64 seq, .int .i64 len, .bool more, .bool cast, .string data] 81)
  have hG := alloc_old hG1 (.cells #[.int .i64 kind, .int .i64 src, .int .i64 dst, .int .i64 seq, .int .i64 len, .bool more, .bool cast, .string data] 81)
  have hA := alloc_old hA1 (.cells #[.int .i64 kind, .int .i64 src, .int .i64 dst, .int .i64 seq, .int .i64 len, .bool more, .bool cast, .string data] 81)
  have hP := alloc_old hP1 (.cells #[.int .i64 kind, .int .i64 src, .int .i64 dst, .int .i64 seq, .int .i64 len, .bool more, .bool cast, .string data] 81)
  have hZ := alloc_old hZ1 (.cells #[.int .i64 kind, .int .i64 src, .int .i64 dst, .int .i64 seq, .int .i64 len, .bool more, .bool cast, .string data] 81)
  have hB : Below w.heap.size w (w1.alloc (.cells #[.int .i64 kind, .int .i64 src, .int .i64 dst, .int .i64 seq, .int .i64 len, .bool more, .bool cast, .string data] 81)) := Below.trans (show Below w.heap.size w ((((w.alloc (.cells #[.bool true, .int .i64 psrc, .int .i64 pdst, .int .i64 pseq, .string pdata, .int .i64 plen] 76)).alloc (.cells #[.bool false, .int .i64 0, .int .i64 0, .int .i64 0, .string ⟨#[]⟩, .int .i64 0] 76)).alloc (.cells #[.int .i64 0, .int .i64 0, .int .i64 0, .string ⟨#[]⟩] 29)).alloc (.cells #[.int .i64 0, .int .i64 0, .int .i64 0, .string ⟨#[]⟩] 29)) from (by repeat' (first | (with_reducible assumption) | (with_reducible refine below_setRowN ?_ ?_ _) | (with_reducible refine Below.setCell ?_ ?_ _) | (with_reducible refine below_drewN' ?_ _) | (with_reducible refine Below.drew ?_) | (with_reducible refine Below.alloc ?_ ?_ _) | (with_reducible exact Below.refl _ _) | (with_reducible exact Nat.le_refl _) | (simp; done) | omega | (simp; omega)))) ((hb.mono (by omega)).alloc (by omega) _)
  clear hb hG1 hA1 hP1 hZ1 HB1
  generalize w1.alloc (.cells #[.int .i64 kind, .int .i64 src, .int .i64 dst, .int .i64 seq, .int .i64 len, .bool more, .bool cast, .string data] 81) = w2 at *
  have fG := fun j => cell_at hG j
  have fF := fun j => cell_at hF j
  have hlf := block_lt hF
  have hlg := block_lt hG
  have H0 := Lib.hid (And.intro hF (And.intro hG (And.intro hA (And.intro hP (And.intro hZ hB)))))
  clear hF hG hA hP hZ hB
  go_wp2
  obtain ⟨hF, hG, hA, hP, hZ, hB⟩ := H0.out
  clear H0
  have hT := alloc_new (w := w2) (.cells #[.bool true, .int .i64 psrc, .int .i64 pdst, .int .i64 pseq, .string (pdata ++ data), .int .i64 plen] 76)
  have hF := alloc_old hF (.cells #[.bool true, .int .i64 psrc, .int .i64 pdst, .int .i64 pseq, .string (pdata ++ data), .int .i64 plen] 76)
  have hG := alloc_old hG (.cells #[.bool true, .int .i64 psrc, .int .i64 pdst, .int .i64 pseq, .string (pdata ++ data), .int .i64 plen] 76)
  have hA := alloc_old hA (.cells #[.bool true, .int .i64 psrc, .int .i64 pdst, .int .i64 pseq, .string (pdata ++ data), .int .i64 plen] 76)
  have hP := alloc_old hP (.cells #[.bool true, .int .i64 psrc, .int .i64 pdst, .int .i64 pseq, .string (pdata ++ data), .int .i64 plen] 76)
  have hZ := alloc_old hZ (.cells #[.bool true, .int .i64 psrc, .int .i64 pdst, .int .i64 pseq, .string (pdata ++ data), .int .i64 plen] 76)
  have hB := hB.alloc hB.size (.cells #[.bool true, .int .i64 psrc, .int .i64 pdst, .int .i64 pseq, .string (pdata ++ data), .int .i64 plen] 76)
  clear fG fF
  generalize hw3 : w2.alloc (.cells #[.bool true, .int .i64 psrc, .int .i64 pdst, .int .i64 pseq, .string (pdata ++ data), .int .i64 plen] 76) = w3 at *
  have hlt := block_lt hT
  clear hw3
  have HX : Hid (∀ w', Only [w.heap.size + 1, w.heap.size + 2] w3 w' → ((∀ j, w'.cell? ⟨w.heap.size, j, none⟩ = (#[.bool true, .int .i64 psrc, .int .i64 pdst, .int .i64 pseq, .string pdata, .int .i64 plen] : Array Value)[j]?) ∧ (∀ j, w'.cell? ⟨w.heap.size + 3, j, none⟩ = (#[.int .i64 0, .int .i64 0, .int .i64 0, .string ⟨#[]⟩] : Array Value)[j]?) ∧ (∀ j, w'.cell? ⟨w1.heap.size, j, none⟩ = (#[.int .i64 kind, .int .i64 src, .int .i64 dst, .int .i64 seq, .int .i64 len, .bool more, .bool cast, .string data] : Array Value)[j]?) ∧ (∀ j, w'.cell? ⟨w2.heap.size, j, none⟩ = (#[.bool true, .int .i64 psrc, .int .i64 pdst, .int .i64 pseq, .string (pdata ++ data), .int .i64 plen] : Array Value)[j]?))) := fun w' ho =>
    ⟨fun j => cell_at (ho.at hG (by simp)) j, fun j => cell_at (ho.at hZ (by simp)) j, fun j => cell_at (ho.at hF (by simp; omega)) j, fun j => cell_at (ho.at hT (by simp; omega)) j⟩
  have hlA := block_lt hA
  have hlP := block_lt hP
  have HA := Lib.hid hA
  have HP := Lib.hid hP
  have HB := Lib.hid hB
  clear hA hP hB hG hZ hF hT
  refine wp_region_held_drew (S := (fun w' => ((∀ j, w'.cell? ⟨w.heap.size, j, none⟩ = (#[.bool true, .int .i64 psrc, .int .i64 pdst, .int .i64 pseq, .string pdata, .int .i64 plen] : Array Value)[j]?) ∧ (∀ j, w'.cell? ⟨w.heap.size + 3, j, none⟩ = (#[.int .i64 0, .int .i64 0, .int .i64 0, .string ⟨#[]⟩] : Array Value)[j]?) ∧ (∀ j, w'.cell? ⟨w1.heap.size, j, none⟩ = (#[.int .i64 kind, .int .i64 src, .int .i64 dst, .int .i64 seq, .int .i64 len, .bool more, .bool cast, .string data] : Array Value)[j]?) ∧ (∀ j, w'.cell? ⟨w2.heap.size, j, none⟩ = (#[.bool true, .int .i64 psrc, .int .i64 pdst, .int .i64 pseq, .string (pdata ++ data), .int .i64 plen] : Array Value)[j]?)))) (by kernel_rfl) ?_ (fun hHeld0 => ?_)
  · (try dsimp only); exact HX.out _ (by repeat' (first | (with_reducible assumption) | (with_reducible refine only_setRowN ?_ ?_ _) | (with_reducible exact Only.refl _ _) | (with_reducible refine Only.setCell ?_ ?_ _) | (with_reducible refine Only.drewN ?_ _) | (with_reducible refine Only.drew ?_) | (with_reducible refine Only.alloc ?_ _) | (simp; done) | (simp; omega)))
  refine wpAnyH_take (i := 0) (v := ?_) rfl (by kernel_rfl) (by kernel_rfl) (by kernel_rfl) (fun _ _ _ h => h) (Or.inl ⟨by rfl, ?_⟩) (by assumption) ?_
  rotate_left
  · (intro w hSw; (try dsimp only at hSw); go_simp; try with_reducible rfl)
  (try simp only [Act.put, List.setIfInBounds_toArray, List.set_cons_zero, List.set_cons_succ, List.getElem_toArray, List.getElem_cons_zero, List.getElem_cons_succ])
  refine wpAnyH_take (i := 1) (v := ?_) rfl (by kernel_rfl) (by kernel_rfl) (by kernel_rfl) (fun _ _ _ h => h) (Or.inl ⟨by rfl, ?_⟩) (by assumption) ?_
  rotate_left
  · (intro w hSw; (try dsimp only at hSw); go_simp; try with_reducible rfl)
  (try simp only [Act.put, List.setIfInBounds_toArray, List.set_cons_zero, List.set_cons_succ, List.getElem_toArray, List.getElem_cons_zero, List.getElem_cons_succ])
  refine wpAnyH_ready (rs := [2]) (by kernel_rfl) (by simp) ?_
  refine AllReadyH.cons rfl (fun K hK => ?_) ?_
  · (rw [if_pos (by rfl)]; refine wp_store_row 76 _ _ (by rfl) _ _ (by rfl) (by rfl) 76 #[.bool false, .int .i64 0, .int .i64 0, .int .i64 0, .string ⟨#[]⟩, .int .i64 0] (by exact HA.out) (by kernel_rfl) (by rfl) (by first | (simp; done) | simp [Value.oneCell']) ?_)
    refine hK.out _ _ ?_ (fun hHeld1 => ?_)
    · (try dsimp only); exact HX.out _ (by repeat' (first | (with_reducible assumption) | (with_reducible refine only_setRowN ?_ ?_ _) | (with_reducible exact Only.refl _ _) | (with_reducible refine Only.setCell ?_ ?_ _) | (with_reducible refine Only.drewN ?_ _) | (with_reducible refine Only.drew ?_) | (with_reducible refine Only.alloc ?_ _) | (simp; done) | (simp; omega)))
    clear hK K hHeld0
    (try simp only [Act.put, List.setIfInBounds_toArray, List.set_cons_zero, List.set_cons_succ, List.getElem_toArray, List.getElem_cons_zero, List.getElem_cons_succ])
    refine wpAnyH_ready (rs := [3]) (by kernel_rfl) (by simp) ?_
    refine AllReadyH.cons rfl (fun K hK => ?_) ?_
    · (rw [if_pos (by rfl)]; refine wp_store_row 29 _ _ (by rfl) _ _ (by rfl) (by rfl) 29 #[.int .i64 0, .int .i64 0, .int .i64 0, .string ⟨#[]⟩] (by exact setRow_off (w := w3.drew) HP.out (by omega) _) (by kernel_rfl) (by rfl) (by first | (simp; done) | simp [Value.oneCell']) ?_)
      refine hK.out _ _ ?_ (fun hHeld2 => ?_)
      · (try dsimp only); exact HX.out _ (by repeat' (first | (with_reducible assumption) | (with_reducible refine only_setRowN ?_ ?_ _) | (with_reducible exact Only.refl _ _) | (with_reducible refine Only.setCell ?_ ?_ _) | (with_reducible refine Only.drewN ?_ _) | (with_reducible refine Only.drew ?_) | (with_reducible refine Only.alloc ?_ _) | (simp; done) | (simp; omega)))
      clear hK K hHeld1
      (try simp only [Act.put, List.setIfInBounds_toArray, List.set_cons_zero, List.set_cons_succ, List.getElem_toArray, List.getElem_cons_zero, List.getElem_cons_succ])
      refine wpAnyH_take (i := 4) (v := ?_) rfl (by kernel_rfl) (by kernel_rfl) (by kernel_rfl) (fun _ _ _ h => h) (Or.inl ⟨by rfl, ?_⟩) (by assumption) ?_
      rotate_left
      · (intro w hSw; (try dsimp only at hSw); go_simp; try with_reducible rfl)
      (try simp only [Act.put, List.setIfInBounds_toArray, List.set_cons_zero, List.set_cons_succ, List.getElem_toArray, List.getElem_cons_zero, List.getElem_cons_succ])
      refine wpAnyH_take (i := 5) (v := ?_) rfl (by kernel_rfl) (by kernel_rfl) (by kernel_rfl) (fun _ _ _ h => h) (Or.inl ⟨by rfl, ?_⟩) (by assumption) ?_
      rotate_left
      · (intro w hSw; (try dsimp only at hSw); go_simp; try with_reducible rfl)
      (try simp only [Act.put, List.setIfInBounds_toArray, List.set_cons_zero, List.set_cons_succ, List.getElem_toArray, List.getElem_cons_zero, List.getElem_cons_succ])
      refine wpAnyH_done (by kernel_rfl) ?_ _
      go_wp2
      have hB := HB.out
      have hsw := hB.size
      refine bodyPost_ret (res_two_tmp2 rfl _ _ (w.heap.size + 1) (w.heap.size + 2) 76 29 _ _ _ _ rfl rfl (setRow_off (setRow_at (w := w3.drew) HA.out _) (by omega) _) (setRow_at (setRow_off (w := w3.drew) HP.out (by omega) _) _) Try.underlying76 rfl (by kernel_rfl) Try.underlying29 rfl (by kernel_rfl)) rfl ⟨rfl, by repeat' (first | (with_reducible assumption) | (with_reducible refine below_setRowN ?_ ?_ _) | (with_reducible refine Below.setCell ?_ ?_ _) | (with_reducible refine below_drewN' ?_ _) | (with_reducible refine Below.drew ?_) | (with_reducible refine Below.alloc ?_ ?_ _) | (with_reducible exact Below.refl _ _) | (with_reducible exact Nat.le_refl _) | (simp; done) | omega | (simp; omega))⟩
    exact AllReadyH.nil
  exact AllReadyH.nil
theorem rjoin_take (x : Nat) (hx : x < 2 ^ 64) (w : World) (j : JS) (hd : j.pk.data.size ≤ 4294967296) :
    Calls Try.prog 41 #[j.val, .int .u64 (x : Int)] w fun e w' => e = .returned (.tuple #[(j.take x).1.val, (j.take x).2.1.val, .bool (j.take x).2.2.1, .int .i64 (j.take x).2.2.2]) ∧ Below w.heap.size w w' := by
  have hR := fun w => rflit_read x hx w
  have hfd := (read_len (x := x) (f := (readF x).1) (e := (readF x).2) rfl).2
  unfold JS.take
  generalize readF x = r at *
  obtain ⟨f, e⟩ := r
  obtain ⟨is, ⟨psrc, pdst, pseq, pdata⟩, plen⟩ := j
  obtain ⟨kind, src, dst, seq, len, more, cast, data⟩ := f
  dsimp only at *
  by_cases he : e ≠ 0
  · rw [show JS.takeF ⟨is, ⟨psrc, pdst, pseq, pdata⟩, plen⟩ ⟨kind, src, dst, seq, len, more, cast, data⟩ e = (⟨is, ⟨psrc, pdst, pseq, pdata⟩, plen⟩, Pk.zero, false, e) from if_pos he]
    exact rtake_err x psrc pdst pseq plen kind src dst seq len e pdata data is more cast w hR he
  have he0 : e = 0 := by omega
  subst he0
  cases is with
  | true =>
    by_cases hk : kind = 1
    · subst hk
      exact rtake_twice x psrc pdst pseq plen src dst seq len pdata data more cast w hR trivial
    by_cases hk3 : kind = 3
    · subst hk3
      by_cases hs : ((pdata ++ data).size : Int) = plen
      · rw [show JS.takeF ⟨true, ⟨psrc, pdst, pseq, pdata⟩, plen⟩ ⟨3, src, dst, seq, len, more, cast, data⟩ 0 = (JS.zero, ⟨psrc, pdst, pseq, pdata ++ data⟩, true, 0) from if_pos hs]
        exact rtake_tail x psrc pdst pseq plen src dst seq len pdata data more cast w hR hs hd hfd
      · rw [show JS.takeF ⟨true, ⟨psrc, pdst, pseq, pdata⟩, plen⟩ ⟨3, src, dst, seq, len, more, cast, data⟩ 0 = (JS.zero, Pk.zero, false, 4) from if_neg hs]
        exact rtake_bad x psrc pdst pseq plen src dst seq len pdata data more cast w hR hs hd hfd
    · have hcat : ((pdata ++ data).size : Int) = (pdata.size : Int) + (data.size : Int) := by rw [ByteArray.size_append]; simp
      by_cases hs : plen < ((pdata ++ data).size : Int)
      · rw [show JS.takeF ⟨true, ⟨psrc, pdst, pseq, pdata⟩, plen⟩ ⟨kind, src, dst, seq, len, more, cast, data⟩ 0 = (⟨true, ⟨psrc, pdst, pseq, pdata⟩, plen⟩, Pk.zero, false, 4) from by unfold JS.takeF; simp [hk, hk3]; omega]
        exact rtake_long x psrc pdst pseq plen kind src dst seq len pdata data more cast w hR hk hk3 hs hd hfd
      · rw [show JS.takeF ⟨true, ⟨psrc, pdst, pseq, pdata⟩, plen⟩ ⟨kind, src, dst, seq, len, more, cast, data⟩ 0 = (⟨true, ⟨psrc, pdst, pseq, pdata ++ data⟩, plen⟩, Pk.zero, false, 0) from by unfold JS.takeF; simp [hk, hk3]; omega]
        exact rtake_body x psrc pdst pseq plen kind src dst seq len pdata data more cast w hR hk hk3 hs hd hfd
  | false =>
    by_cases hk : kind = 1
    · subst hk
      exact rtake_head x psrc pdst pseq plen src dst seq len pdata data more cast w hR trivial
    · rw [show JS.takeF ⟨false, ⟨psrc, pdst, pseq, pdata⟩, plen⟩ ⟨kind, src, dst, seq, len, more, cast, data⟩ 0 = (⟨false, ⟨psrc, pdst, pseq, pdata⟩, plen⟩, Pk.zero, false, 13) from by unfold JS.takeF; simp [hk]]
      exact rtake_none x psrc pdst pseq plen kind src dst seq len pdata data more cast w hR hk
end Go.Proofs.Ytmehfflomgldeaa
