/- A strings.Builder of a call's own: written to, and read. -/
import Derived.Test.YtmehfflomgldeabCutD
import Derived.Lib.Builder
import Derived.Lib.AppendStr
import Derived.Lib.UnsafeStr
import Derived.Laws.Externs
namespace Go.Proofs.Ytmehfflomgldeab
set_option linter.unusedVariables false
set_option linter.unusedSimpArgs false
open Go.RowKit
theorem infoBT : (Try.prog.info? 119).map (·.size) = some 2 := by kernel_rfl
structure BldAt (w : World) (b : Nat) (v : Value) (bs : ByteArray) : Prop where
  cells : ∃ p, (p = .pointer none ∨ p = .pointer (some ⟨b, 0, none⟩)) ∧ w.heap[b]? = some (.cells #[p, v] 119 (0, 0))
  own : w.ownsRow (b + 1) 5 1 v bs.size (Lib.strCells bs)
theorem BldAt.only {w w' : World} {b : Nat} {v : Value} {bs : ByteArray} {S : List Nat} (h : BldAt w b v bs) (ho : Only S w w') (hb : b ∉ S) (hv : ∀ k, v.ownBlock = some k → k ∉ S) : BldAt w' b v bs := by
  obtain ⟨p, hp, hc⟩ := h.cells
  exact ⟨⟨p, hp, ho.at hc hb⟩, owns_off h.own ho hv⟩
theorem BldAt.aft {w w' : World} {b : Nat} {v : Value} {bs : ByteArray} (h : BldAt w b v bs) (hb : Below w.heap.size w w') : BldAt w' b v bs := h.only (S := []) (Only.ofBelow hb []) (by simp) (fun k _ => by simp)
set_option maxRecDepth 100000 in
set_option maxHeartbeats 1000000 in
theorem bld_check (b : Nat) (p v : Value) (hp : p = .pointer none ∨ p = .pointer (some ⟨b, 0, none⟩)) (w : World) (h : w.heap[b]? = some (.cells #[p, v] 119 (0, 0))) :
    Calls Try.prog 100 #[.pointer (some ⟨b, 0, none⟩)] w fun e w' => e = .returned (.tuple #[]) ∧ w'.heap[b]? = some (.cells #[.pointer (some ⟨b, 0, none⟩), v] 119 (0, 0)) ∧ Only [b] w w' := by
  obtain ⟨j, hj, hjs⟩ := Option.map_eq_some_iff.1 infoBT
  have c0 := cell_at h 0
  have f0 := frozen_at h 0
  have hsh : w.shape? b = some (119, 2) := by simp [World.shape?, h]
  have H := Lib.hid h
  have HS := Lib.hid hsh
  have HJ := Lib.hid hj
  have HJS := Lib.hid hjs
  clear h hsh hj hjs
  rcases hp with rfl | rfl
  · go_enter Try.func100, Try.ntmps100
    go_wp2
    rw [Lib.run_to_unsafe w ⟨b, 0, none⟩ Try.underlying116 Try.underlying154 HJ.out (by rw [HJS.out]; decide) HS.out (Nat.zero_lt_succ 1)]
    simp only [Result.andThen]
    rw [Oper.upon_value]
    go_wp2
    rw [run_callFunc_extern Try.func119 (by kernel_rfl) (by kernel_rfl) (by kernel_rfl) (e := Extern.AbiNoEscape.same) (by kernel_rfl)]
    rw [Lib.run_noEscape]
    simp only [Result.andThen]
    rw [Oper.upon_value]
    go_wp2
    rw [Lib.run_from_unsafe w ⟨b, 0, none⟩ Try.underlying154 Try.underlying116 HJ.out HS.out (by kernel_rfl)]
    simp only [Result.andThen]
    rw [Oper.upon_value]
    go_wp2
    go_end0
    exact ⟨rfl, set_at H.out _ _, (Only.refl _ _).setCell (by simp) _⟩
  · go_enter Try.func100, Try.ntmps100
    go_wp2
    rw [Lib.run_neq_ptr_same w _ Try.underlying116 HJ.out]
    go_wp2
    go_end0
    exact ⟨rfl, H.out, Only.refl _ _⟩
theorem strCells_append (a b : ByteArray) : Lib.strCells (a ++ b) = Lib.strCells a ++ Lib.strCells b := by
  unfold Lib.strCells
  rw [ByteArray.data_append, Array.toList_append, List.map_append]
set_option maxRecDepth 100000 in
set_option maxHeartbeats 1000000 in
theorem bld_write (b : Nat) (v : Value) (bs s : ByteArray) (w : World) (h : BldAt w b v bs) (hlen : bs.size + s.size ≤ 140737488355328) :
    Calls Try.prog 72 #[.pointer (some ⟨b, 0, none⟩), .string s] w fun e w' => e = .returned (.tuple #[.int .i64 (s.size : Int), .nilIface]) ∧ ∃ v', BldAt w' b v' (bs ++ s) ∧ Only (b :: v.ownBlock.toList) w w' := by
  obtain ⟨p, hp, hc⟩ := h.cells
  have hC := bld_check b p v hp w hc
  have hown := h.own
  have hlb := block_lt hc
  obtain ⟨i0, hi, hz0, hz1, hz2⟩ := info_parts infoU8
  have hvb : ∀ k, v.ownBlock = some k → k ≠ b := fun k hk e => by have := (hown.lt k hk).1; omega
  have HC := Lib.hid hC
  have HO := Lib.hid hown
  have HVB := Lib.hid hvb
  have HI := Lib.hid hi
  have HZ0 := Lib.hid hz0
  have HZ1 := Lib.hid hz1
  have HZ2 := Lib.hid hz2
  clear h hp hc hC hown hvb hi hz0 hz1 hz2
  go_enter Try.func72, Try.ntmps72
  go_wp2_with (first
    | (go_at_call 100; ((with_reducible refine (HC.out).mono ?_); rintro e w1 ⟨rfl, hc1, ho1⟩; have hs1 := ho1.size; have hO1 := owns_off HO.out ho1 (fun k hk => by simp [HVB.out k hk]); have c1 := fun j => cell_at hc1 j; have HC1 := Lib.hid hc1; have HO1 := Lib.hid ho1; clear hc1 ho1))
    | (at_builtin; refine Lib.wpList_append_own_string _ rfl _ _ 117 9 rfl (b + 1) 5 i0 Try.underlying117 Try.underlying9 HI.out HZ0.out HZ1.out HZ2.out _ _ _ rfl hO1 s rfl (by unfold maxLen; omega) (by omega) (by omega) ?_; intro v2 w2 hown2 hg2 _; obtain ⟨av, cv, rfl, -, -, -⟩ := CellsOff.own hown2 [] (by simp); have hc2 := (hg2.block b (by omega) (fun e => HVB.out b e.symm rfl)).trans HC1.out; have c2 := fun j => cell_at hc2 j; have u2 := fun j => frozen_at hc2 j; have HC2 := Lib.hid hc2; have HO2 := Lib.hid hown2; have HG2 := Lib.hid hg2; clear hown2 hg2 hc2))
  go_ret2
  refine ⟨rfl, _, ⟨⟨_, .inr rfl, set_at HC2.out _ _⟩, ?_⟩, ?_⟩
  · rw [ByteArray.size_append, strCells_append]
    exact owns_off HO2.out (S := [b]) ((Only.refl _ _).setCell (by simp) _) (fun k hk => by have := (HO2.out.lt k hk).1; simp; omega)
  · refine Only.setCell ?_ (p := ⟨b, 1, none⟩) (by simp) _
    refine Only.grown (HO1.out.mono (by simp)) HG2.out (fun k hk => .inl (by simp; exact .inr hk))
theorem strCells_bytes (bs : ByteArray) : Lib.strCells bs = Lib.byteCells bs.data.toList := rfl
theorem Only.freeze {S : List Nat} {a w : World} (h : Only S a w) {p : Addr} (hp : p.block ∈ S) (n : Nat) : Only S a (w.freeze p n) :=
  h.trans (by
    unfold World.freeze
    split
    · exact Only.refl _ _
    · exact ⟨rfl, rfl, rfl, by simp, fun k hk hne => by
        simp only [Array.getElem?_modify]
        rw [if_neg (fun e => hne (by rw [← e]; exact hp))]⟩)
set_option maxRecDepth 100000 in
set_option maxHeartbeats 1000000 in
theorem bld_string (b : Nat) (v : Value) (bs : ByteArray) (w : World) (h : BldAt w b v bs) :
    Calls Try.prog 73 #[.pointer (some ⟨b, 0, none⟩)] w fun e w' => e = .returned (.string bs) ∧ Only v.ownBlock.toList w w' := by
  obtain ⟨p, hp, hc⟩ := h.cells
  have hown := h.own
  have hlb := block_lt hc
  clear h hp
  rcases hown.2 with ⟨rfl, h0⟩ | ⟨g, cap, cur, rfl, hbg, hg, hnc, hcm, hcs, htake⟩
  · have hbs : bs = ⟨#[]⟩ := by
      obtain ⟨⟨l⟩⟩ := bs
      cases l with
      | nil => rfl
      | cons x l => simp [ByteArray.size] at h0
    subst hbs
    have hUS := fun (W : World) => Lib.run_unsafeString_none (P := Try.prog) W 143 3 9 none
    have c1 : w.drew.cell? ⟨b, 1, none⟩ = some (.slice none 0 0) := cell_at (w := w.drew) hc 1
    have hSD : (Builtin.unsafeSliceData_ #[117] 143 #[.slice none 0 0]).run Try.prog w.drew = .ok (.pointer none) w.drew := rfl
    clear hc hown
    go_enter Try.func73, Try.ntmps73
    go_wp2
    go_region
    all_goals (go_wp2; go_ret; exact ⟨rfl, (Only.refl _ _).drew⟩)
  · by_cases hb0 : bs.size = 0
    · have hbs : bs = ⟨#[]⟩ := by
        obtain ⟨⟨l⟩⟩ := bs
        cases l with
        | nil => rfl
        | cons x l => simp [ByteArray.size] at hb0
      subst hbs
      have hz : (⟨#[]⟩ : ByteArray).size = 0 := rfl
      rw [hz] at hc
      by_cases hc0 : cap = 0
      · subst hc0
        have hUS := fun (W : World) q => Lib.run_unsafeString_none (P := Try.prog) W 143 3 9 q
        have c1 : w.drew.cell? ⟨b, 1, none⟩ = some (.slice (some ⟨g, 0, none⟩) 0 0) := cell_at (w := w.drew) hc 1
        have c0 : w.cell? ⟨b, 1, none⟩ = some (.slice (some ⟨g, 0, none⟩) 0 0) := c1
        have hSD : (Builtin.unsafeSliceData_ #[117] 143 #[.slice (some ⟨g, 0, none⟩) 0 0]).run Try.prog w.drew = .ok (.pointer (some ⟨w.drew.heap.size, 0, none⟩)) (w.drew.alloc (.view ⟨g, 0, none⟩ 5)) :=
          Lib.run_unsafeSliceData_zero w.drew _ _ 5 Try.underlying143 ⟨g, 0, none⟩ 0 (5, cur.size) (by have hg' : w.drew.heap[g]? = some (.cells cur 5 (0, 0)) := hg; simp [World.shape?, hg'])
        have c2 : (w.drew.alloc (.view ⟨g, 0, none⟩ 5)).cell? ⟨b, 1, none⟩ = some (.slice (some ⟨g, 0, none⟩) 0 0) := cell_at (alloc_old (w := w.drew) hc _) 1
        have c3 : (w.alloc (.view ⟨g, 0, none⟩ 5)).drew.cell? ⟨b, 1, none⟩ = some (.slice (some ⟨g, 0, none⟩) 0 0) := c2
        clear hc hown hg htake
        go_enter Try.func73, Try.ntmps73
        go_wp2
        go_region
        all_goals (go_wp2; go_ret; exact ⟨rfl, ((Only.refl _ _).alloc _).drew⟩)
      · have hUS := fun (W : World) q => Lib.run_unsafeString_none (P := Try.prog) W 143 3 9 q
        have c1 : w.drew.cell? ⟨b, 1, none⟩ = some (.slice (some ⟨g, 0, none⟩) 0 cap) := cell_at (w := w.drew) hc 1
        have hSD : (Builtin.unsafeSliceData_ #[117] 143 #[.slice (some ⟨g, 0, none⟩) 0 cap]).run Try.prog w.drew = .ok (.pointer (some ⟨g, 0, none⟩)) w.drew := Lib.run_unsafeSliceData_row _ _ _ _ _ _ hc0
        clear hc hown hg htake hc0
        go_enter Try.func73, Try.ntmps73
        go_wp2
        go_region
        all_goals (go_wp2; go_ret; exact ⟨rfl, (Only.refl _ _).drew⟩)
    · obtain ⟨l, hl⟩ : ∃ l : List UInt8, bs = ⟨l.toArray⟩ := ⟨bs.data.toList, by simp⟩
      have hsz : bs.size = l.length := by rw [hl]; simp [ByteArray.size]
      have hsc : Lib.strCells bs = Lib.byteCells l := by rw [strCells_bytes, hl]
      rw [hsz] at hc hb0 hnc
      rw [hsz, hsc] at hown
      have h0 : l ≠ [] := fun e => hb0 (by rw [e]; rfl)
      have c1 : w.drew.cell? ⟨b, 1, none⟩ = some (.slice (some ⟨g, 0, none⟩) l.length cap) := cell_at (w := w.drew) hc 1
      have hSD : (Builtin.unsafeSliceData_ #[117] 143 #[.slice (some ⟨g, 0, none⟩) l.length cap]).run Try.prog w.drew = .ok (.pointer (some ⟨g, 0, none⟩)) w.drew := Lib.run_unsafeSliceData_row _ _ _ _ _ _ (by omega)
      have hUS : (Builtin.unsafeString_ #[143, 3] 9 #[.pointer (some ⟨g, 0, none⟩), .int .i64 l.length]).run Try.prog w.drew = .ok (.string ⟨l.toArray⟩) (w.drew.freeze ⟨g, 0, none⟩ l.length) := by
        refine Lib.run_unsafeString_row w.drew 143 3 9 5 Try.underlying143 (by kernel_rfl) g cur.size (by have hg' : w.drew.heap[g]? = some (.cells cur 5 (0, 0)) := hg; simp [World.shape?, hg']) l h0 (by omega) (by unfold maxLen at hcm; omega) ?_
        intro j x hx
        have := hown.cells (g := g) rfl j (.int .u8 x.toNat) (by simp [Lib.byteCells, hx])
        exact this
      subst hl
      clear hc hown hg htake hcs hsz hsc h0 hb0
      go_enter Try.func73, Try.ntmps73
      go_wp2
      go_region
      all_goals (go_wp2; go_ret; exact ⟨rfl, Only.freeze ((Only.refl _ _).drew) (p := ⟨g, 0, none⟩) (by simp [Value.ownBlock]) _⟩)
end Go.Proofs.Ytmehfflomgldeab
