/- The reference's ring in memory, as a list: Push, Pop, Lay, Publish, Peek, Room, New. -/
import Derived.Test.YtncdambphaodaaaRdr
import Derived.Test.YtncdambphaodaaaRingF
namespace Go.Proofs.Ytncdambphaodaaa
set_option linter.unusedVariables false
open Go.RowKit

/-- The reference's ring lies in block b, its things off the blocks of S, and reads as s. -/
structure RefAt (w : World) (b : Nat) (S : List Nat) (s : RS Int) : Prop where
  ok : s.Ok
  obj : ∃ a c lv, w.heap[b]? = some (.cells #[.int .i64 s.n, .slice a s.q.length c, .bool s.ld.isSome, .int .i64 lv, .int .u32 s.inn, .int .u32 s.out] 74 (0, 0)) ∧ s.q.length ≤ c ∧ c ≤ maxLen ∧ CellsOff w a (s.q.map (Value.int .i64)) S ∧ (∀ v, s.ld = some v → lv = v)
  mem : b ∈ S
theorem RefAt.only {w w' : World} {b : Nat} {S T : List Nat} {s : RS Int} (h : RefAt w b S s) (ho : Only T w w') (hT : ∀ x ∈ T, x ∈ S) (hb : b ∉ T) : RefAt w' b S s := by
  obtain ⟨h0, ⟨a, c, lv, h1, h2, h3, h4, h5⟩, h6⟩ := h
  exact ⟨h0, ⟨a, c, lv, ho.at h1 hb, h2, h3, h4.only ho hT, h5⟩, h6⟩
theorem RefAt.drewN {w : World} {b : Nat} {S : List Nat} {s : RS Int} (h : RefAt w b S s) (n : Nat) : RefAt (w.drewN n) b S s := by
  obtain ⟨h0, ⟨a, c, lv, h1, h2, h3, h4, h5⟩, h6⟩ := h
  exact ⟨h0, ⟨a, c, lv, h1, h2, h3, h4, h5⟩, h6⟩
theorem RefAt.lt {w : World} {b : Nat} {S : List Nat} {s : RS Int} (h : RefAt w b S s) : b < w.heap.size := by
  obtain ⟨h0, ⟨a, c, lv, h1, h2⟩, h6⟩ := h
  exact block_lt h1
theorem RefAt.below {w w' : World} {b : Nat} {S : List Nat} {s : RS Int} (h : RefAt w b S s) (hb : Below w.heap.size w w') : RefAt w' b S s :=
  h.only (Only.ofBelow hb []) (by simp) (by simp)
theorem infoInt2 : (Try.prog.info? 3).map (fun i => (i.zero, i.size, i.bytes)) = some (some (.int .i64 0), 1, 8) := by kernel_rfl

theorem ref_room (w : World) (b : Nat) (S : List Nat) (s : RS Int) (h : RefAt w b S s) :
    Calls Try.prog 49 #[.pointer (some ⟨b, 0, none⟩)] w fun e w' => e = .returned (.int .i64 s.room) ∧ ∃ k, w' = w.drewN k := by
  obtain ⟨h0, ⟨a, c, lv, h1, h2, h3, h4, h5⟩, h6⟩ := h
  have n2 := h0.n2; have le := h0.le
  have c0 := cell_at h1 0; have c1 := cell_at h1 1; have c2 := cell_at h1 2
  have HR : Hid (s.room = (s.n : Int) - (s.q.length : Int) - (if s.ld.isSome = true then 1 else 0)) := rfl
  clear h1 h0 h4 h5
  generalize s.q.length = ql at *
  generalize s.n = n at *
  cases hl : s.ld.isSome <;> rw [hl] at c2 HR <;> clear hl
  all_goals
    go_enter Try.func49, Try.ntmps49
    go_wp2
    go_quiet (fail)
    go_wp2
    go_ret
    exact ⟨ret_int (by rw [HR.out]; simp), by first | exact drew_close1 | exact drew_close0⟩
theorem ref_peek (w : World) (b : Nat) (S : List Nat) (s : RS Int) (h : RefAt w b S s) :
    Calls Try.prog 63 #[.pointer (some ⟨b, 0, none⟩)] w fun e w' => e = .returned (.tuple #[.int .i64 (s.q.headD 0), .int .i64 s.peekE]) ∧ ∃ k, w' = w.drewN k := by
  obtain ⟨h0, ⟨a, c, lv, h1, h2, h3, h4, h5⟩, h6⟩ := h
  have c1 := cell_at h1 1
  cases hq : s.q with
  | nil =>
    rw [hq] at c1
    have e : s.peekE = 8 := by unfold RS.peekE; rw [hq]; rfl
    rw [e]
    clear h1 h4 h5 e hq
    go_enter Try.func63, Try.ntmps63
    go_wp2
    go_ret2
    exact ⟨rfl, by first | exact ⟨0, rfl⟩ | exact drew_close1⟩
  | cons y t =>
    have e : s.peekE = 0 := by unfold RS.peekE; rw [hq]; rfl
    rw [e]
    rw [hq] at c1 h4 h2
    obtain ⟨blk, off, rfl, _, hc⟩ := h4 0 (.int .i64 y) rfl
    rw [Nat.add_zero] at hc
    simp only [List.length_cons] at c1 h2
    have h2' := h0.le; have h2'' := h0.n2
    rw [hq] at h2'
    simp only [List.length_cons] at h2'
    have hl1 : t.length + 1 ≤ 4096 := by omega
    clear h1 h4 h5 e hq h2' h2'' h0
    go_enter Try.func63, Try.ntmps63
    go_wp2
    go_ret2
    exact ⟨rfl, by first | exact ⟨0, rfl⟩ | exact drew_close1⟩
/-- The ring of one thing, cell by cell. -/
theorem RefAt.mk' {w : World} {b : Nat} {S : List Nat} {s : RS Int} (hok : s.Ok) (hm : b ∈ S) (a : Option Addr) (c : Nat) (lv : Int)
    (h1 : w.heap[b]? = some (.cells #[.int .i64 s.n, .slice a s.q.length c, .bool s.ld.isSome, .int .i64 lv, .int .u32 s.inn, .int .u32 s.out] 74 (0, 0))) (h2 : s.q.length ≤ c) (h3 : c ≤ maxLen) (h4 : CellsOff w a (s.q.map (Value.int .i64)) S) (h5 : ∀ v, s.ld = some v → lv = v) : RefAt w b S s :=
  ⟨hok, ⟨a, c, lv, h1, h2, h3, h4, h5⟩, hm⟩
theorem ref_push (w : World) (b : Nat) (S : List Nat) (s : RS Int) (v : Int) (h : RefAt w b S s) (hS : ∀ x ∈ S, x < w.heap.size) :
    Calls Try.prog 59 #[.pointer (some ⟨b, 0, none⟩), .int .i64 v] w fun e w' => e = .returned (.int .i64 (s.push v).2) ∧ RefAt w' b S (s.push v).1 ∧ Only [b] w w' := by
  have hh := h
  obtain ⟨h0, ⟨a, c, lv, h1, h2, h3, h4, h5⟩, h6⟩ := h
  have hok := h0.push v
  have n2 := h0.n2; have le := h0.le
  have c0 := cell_at h1 0; have c1 := cell_at h1 1; have c2 := cell_at h1 2; have c4 := cell_at h1 4
  by_cases e1 : s.ld.isSome = true
  · have el : s.push v = (s, 13) := by unfold RS.push; rw [if_pos e1]
    rw [el]
    rw [e1] at c2
    clear h1 h4 h5 el hok h0 e1
    go_enter Try.func59, Try.ntmps59
    go_wp2
    go_ret
    exact ⟨rfl, hh, Only.refl _ _⟩
  · have e1' := Bool.eq_false_iff.2 e1
    rw [e1'] at c2
    by_cases e2 : s.q.length = s.n
    · have el : s.push v = (s, 7) := by unfold RS.push; rw [if_neg e1, if_pos e2]
      rw [el]
      rw [e2] at c1
      have hle : s.n ≤ s.n := Nat.le_refl _
      clear h1 h4 h5 el hok h0 e1 e1' h2 le e2
      generalize s.n = n at *
      go_enter Try.func59, Try.ntmps59
      go_wp2
      go_quiet (fail)
      go_wp2
      go_ret
      exact ⟨rfl, hh.drewN _, (Only.refl _ _).drewN _⟩
    · have el : s.push v = ({ s with q := s.q ++ [v], inn := (s.inn + 1) % 4294967296 }, 0) := by unfold RS.push; rw [if_neg e1, if_neg e2]
      rw [el] at hok ⊢
      have hlt : ¬ (s.n : Int) ≤ (s.q.length : Int) := by omega
      have fr1 := frozen_at h1 1
      have fr4 := frozen_at h1 4
      have hlt2 : (s.q.map (Value.int .i64)).length = s.q.length * 1 := by simp
      have hB := hh.lt
      have H1 := Lib.hid h1
      have H5 := Lib.hid h5
      have HLT := Lib.hid hlt2
      have HOK := Lib.hid hok
      have HH := Lib.hid hh
      have E1 := Lib.hid e1'
      clear h1 h5 hlt2 hok hh el e1 e1' e2
      go_enter Try.func59, Try.ntmps59
      go_wp2
      go_quiet (fail)
      go_wp2_with (first
        | (at_builtin; refine append_rows (W0 := w) (s.q.map (Value.int .i64)) s.q.length w.heap.size 22 3 _ 1 8 infoInt2 Try.underlying22 rfl (by decide) (.slice none 0 0) 0 [] (World.ownsRow_nil _ _ _ _) (below_drewN' (Below.refl _ _) _) (Nat.le_refl _) a c HLT.out (h4.weak (by simp)) (oneCell_ints _ _) (by omega) (by decide) rfl _ _ rfl rfl rfl ?_; intro v1 w1 hown1 hb1 hg1 hor1; clear hg1 hor1; simp only [Nat.zero_add, List.nil_append] at hown1)
        | (at_builtin; refine append_own (W0 := w) [.int .i64 v] w.heap.size 22 3 _ 1 8 infoInt2 Try.underlying22 rfl (by decide) v1 s.q.length _ hown1 hb1 hb1.size rfl (by simp [Value.oneCell']) (by omega) (by decide) rfl _ _ rfl rfl rfl ?_; intro v2 w2 hown2 hb2 hg2 hor2; clear hg2 hor2 hown1 hb1; obtain ⟨a2, cc2, rfl, hn2, hm2, hr2⟩ := CellsOff.own hown2 S hS; have H2 := Lib.hid (Below.at hb2 H1.out hB); clear c0 c1 c2 c4 fr1 fr4; have c1 := cell_at H2.out 1; have c4 := cell_at H2.out 4; have fr1 := frozen_at H2.out 1; have fr4 := frozen_at H2.out 4))
      go_ret
      refine ⟨rfl, RefAt.mk' HOK.out h6 a2 cc2 lv ?_ ?_ hm2 ?_ ?_, ?_⟩
      · rw [set_at (set_at H2.out _ _)]
        have : ((s.inn : Int) + 1) % 4294967296 = (((s.inn + 1) % 4294967296 : Nat) : Int) := by omega
        rw [this, E1.out]
        simp
      · simpa using hn2
      · refine CellsOff.only (S := S) (T := [b]) ?_ (((Only.refl _ _).setCell (by simp) _).setCell (by simp) _) (by simp; exact h6)
        simpa using hr2
      · exact H5.out
      · exact ((Only.ofBelow hb2 _).setCell (by simp) _).setCell (by simp) _
theorem ref_lay (w : World) (b : Nat) (S : List Nat) (s : RS Int) (v : Int) (h : RefAt w b S s) (hS : ∀ x ∈ S, x < w.heap.size) :
    Calls Try.prog 61 #[.pointer (some ⟨b, 0, none⟩), .int .i64 v] w fun e w' => e = .returned (.int .i64 (s.lay v).2) ∧ RefAt w' b S (s.lay v).1 ∧ Only [b] w w' := by
  have hh := h
  obtain ⟨h0, ⟨a, c, lv, h1, h2, h3, h4, h5⟩, h6⟩ := h
  have hok := h0.lay v
  have n2 := h0.n2; have le := h0.le
  have c0 := cell_at h1 0; have c1 := cell_at h1 1; have c2 := cell_at h1 2; have c3 := cell_at h1 3
  by_cases e1 : s.ld.isSome = true
  · have el : s.lay v = (s, 13) := by unfold RS.lay; rw [if_pos e1]
    rw [el]
    rw [e1] at c2
    clear h1 h4 h5 el hok h0 e1
    go_enter Try.func61, Try.ntmps61
    go_wp2
    go_ret
    exact ⟨rfl, hh, Only.refl _ _⟩
  · have e1' := Bool.eq_false_iff.2 e1
    rw [e1'] at c2
    by_cases e2 : s.q.length = s.n
    · have el : s.lay v = (s, 7) := by unfold RS.lay; rw [if_neg e1, if_pos e2]
      rw [el]
      rw [e2] at c1
      have hle : s.n ≤ s.n := Nat.le_refl _
      clear h1 h4 h5 el hok h0 e1 e1' h2 le e2
      generalize s.n = n at *
      go_enter Try.func61, Try.ntmps61
      go_wp2
      go_quiet (fail)
      go_wp2
      go_ret
      exact ⟨rfl, hh.drewN _, (Only.refl _ _).drewN _⟩
    · have el : s.lay v = ({ s with ld := some v }, 0) := by unfold RS.lay; rw [if_neg e1, if_neg e2]
      rw [el] at hok ⊢
      have hlt : ¬ (s.n : Int) ≤ (s.q.length : Int) := by omega
      have fr2 := frozen_at h1 2
      have fr3 := frozen_at h1 3
      have H1 := Lib.hid h1
      have HOK := Lib.hid hok
      clear h1 h5 hok hh el e1 e1' e2
      go_enter Try.func61, Try.ntmps61
      go_wp2
      go_quiet (fail)
      go_wp2
      go_ret
      refine ⟨rfl, RefAt.mk' HOK.out h6 a c v ?_ h2 h3 ?_ (fun x hx => by simpa using hx), ?_⟩
      · rw [set_at (set_at (drewN_at H1.out _) _ _)]
        rfl
      · exact CellsOff.only (S := S) (T := [b]) h4 ((((Only.refl _ _).drewN _).setCell (by simp) _).setCell (by simp) _) (by simp; exact h6)
      · exact (((Only.refl _ _).drewN _).setCell (by simp) _).setCell (by simp) _
theorem ref_publish (w : World) (b : Nat) (S : List Nat) (s : RS Int) (h : RefAt w b S s) (hS : ∀ x ∈ S, x < w.heap.size) :
    Calls Try.prog 62 #[.pointer (some ⟨b, 0, none⟩)] w fun e w' => e = .returned (.int .i64 s.publish.2) ∧ RefAt w' b S s.publish.1 ∧ Only [b] w w' := by
  have hh := h
  obtain ⟨h0, ⟨a, c, lv, h1, h2, h3, h4, h5⟩, h6⟩ := h
  have c2 := cell_at h1 2; have c3 := cell_at h1 3
  cases e1 : s.ld with
  | none =>
    have el : s.publish = (s, 13) := by unfold RS.publish; rw [e1]
    rw [el]
    rw [e1] at c2
    clear h1 h4 h5 el h0 e1
    go_enter Try.func62, Try.ntmps62
    go_wp2
    go_ret
    exact ⟨rfl, hh, Only.refl _ _⟩
  | some v =>
    have hlv := h5 v e1
    subst hlv
    have hlt := h0.laid (by rw [e1]; rfl)
    obtain ⟨s', es⟩ : ∃ s' : RS Int, s' = { s with ld := none } := ⟨_, rfl⟩
    have hok' : s'.Ok := by rw [es]; exact ⟨h0.n1, h0.n2, h0.le, h0.li, h0.lo, h0.cnt, fun e => by simp at e⟩
    have ep : s.publish = s'.push lv := by
      rw [es]; unfold RS.publish RS.push; rw [e1]
      simp only [Option.isSome_none, Bool.false_eq_true, if_false]
      rw [if_neg (by show ¬ s.q.length = s.n; omega)]
    rw [ep]
    have fr2 := frozen_at h1 2
    have HS' : Hid (RefAt (w.setCell ⟨b, 2, none⟩ (.bool false)) b S s') := by
      refine RefAt.mk' hok' h6 a c lv ?_ (by rw [es]; exact h2) h3 ?_ (fun x hx => by rw [es] at hx; simp at hx)
      · rw [set_at h1, es]; rfl
      · rw [es]; exact CellsOff.only (S := S) (T := [b]) h4 ((Only.refl _ _).setCell (by simp) _) (by simp; exact h6)
    have HP := Lib.hid (fun w h hS => ref_push w b S s' lv h hS)
    generalize (s'.push lv) = r at *
    obtain ⟨r1, r2⟩ := r
    dsimp only at HP ⊢
    rw [e1] at c2
    clear h1 h4 h5 h0 e1 hlt es hok' ep hh
    go_enter Try.func62, Try.ntmps62
    go_wp2_with (first
      | (go_at_call 59; ((with_reducible refine (HP.out _ ?_ ?_).mono ?_); (exact HS'.out); (intro x hx; have := hS x hx; simpa using this); rintro e w2 ⟨rfl, hR2, hO2⟩)))
    go_ret
    exact ⟨rfl, hR2, ((Only.refl _ _).setCell (by simp) _).trans hO2⟩
theorem ref_pop (w : World) (b : Nat) (S : List Nat) (s : RS Int) (h : RefAt w b S s) :
    Calls Try.prog 60 #[.pointer (some ⟨b, 0, none⟩)] w fun e w' => e = .returned (.tuple #[.int .i64 (s.q.headD 0), .int .i64 s.peekE]) ∧ RefAt w' b S s.free ∧ Only [b] w w' := by
  have hh := h
  obtain ⟨h0, ⟨a, c, lv, h1, h2, h3, h4, h5⟩, h6⟩ := h
  have c1 := cell_at h1 1; have c5 := cell_at h1 5
  have n2 := h0.n2; have le := h0.le
  have hok := h0.free
  cases hq : s.q with
  | nil =>
    rw [hq] at c1
    have e : s.peekE = 8 := by unfold RS.peekE; rw [hq]; rfl
    have ef : s.free = s := by unfold RS.free; rw [hq]; rfl
    rw [e, ef]
    clear h1 h4 h5 e hq ef hok h0
    go_enter Try.func60, Try.ntmps60
    go_wp2
    go_ret2
    exact ⟨rfl, hh, Only.refl _ _⟩
  | cons y t =>
    have e : s.peekE = 0 := by unfold RS.peekE; rw [hq]; rfl
    have ef : s.free = { s with q := t, out := (s.out + 1) % 4294967296 } := by unfold RS.free; rw [hq]; rfl
    rw [e]
    rw [ef] at hok ⊢
    rw [hq] at c1 h4 h2 le
    have h4t := CellsOff.drop h4 1
    simp only [List.map_cons, List.drop_succ_cons, List.drop_zero] at h4t
    obtain ⟨blk, off, rfl, hbs, hc⟩ := h4 0 (.int .i64 y) rfl
    rw [Nat.add_zero] at hc
    rw [Option.map_some, addP] at h4t
    simp only [List.length_cons] at c1 h2 le
    have ne : blk ≠ b := fun e => hbs (e ▸ h6)
    have hl1 : t.length + 1 ≤ 4096 := by omega
    have fr1 := frozen_at h1 1
    have fr5 := frozen_at h1 5
    have H1 := Lib.hid h1
    have HOK := Lib.hid hok
    have H5 := Lib.hid h5
    have H4 := Lib.hid h4t
    have H3 := Lib.hid h3
    have hcc : 1 ≤ c := by omega
    have HQ := Lib.hid hq
    have HE : Hid (c = 1 → t.length = 0) := fun h => by omega
    clear h1 h4 h5 e hq h0 hok ef h4t hh h3
    by_cases hc1 : c = 1
    · have ht := HE.out hc1
      have ht0 : t = [] := List.eq_nil_of_length_eq_zero ht
      subst ht0
      subst hc1
      clear ht
      go_enter Try.func60, Try.ntmps60
      go_wp2
      go_ret2
      refine ⟨rfl, RefAt.mk' HOK.out h6 (some ⟨blk, off, none⟩) 0 lv ?_ (Nat.le_refl _) (by decide) CellsOff.nil H5.out, ((Only.refl _ _).setCell (by simp) _).setCell (by simp) _⟩
      rw [set_at (set_at H1.out _ _)]
      have : ((s.out : Int) + 1) % 4294967296 = (((s.out + 1) % 4294967296 : Nat) : Int) := by omega
      rw [this]
      rfl
    · have HC1 := Lib.hid hc1
      go_enter Try.func60, Try.ntmps60
      go_wp2
      go_ret2
      refine ⟨rfl, RefAt.mk' HOK.out h6 (some ⟨blk, off + 1, none⟩) (c - 1) lv ?_ (by show t.length ≤ c - 1; omega) (by have := H3.out; omega) ?_ H5.out, ((Only.refl _ _).setCell (by simp) _).setCell (by simp) _⟩
      · rw [set_at (set_at H1.out _ _)]
        have : ((s.out : Int) + 1) % 4294967296 = (((s.out + 1) % 4294967296 : Nat) : Int) := by omega
        rw [this]
        rfl
      · exact CellsOff.only (S := S) (T := [b]) H4.out (((Only.refl _ _).setCell (by simp) _).setCell (by simp) _) (by simp; exact h6)
end Go.Proofs.Ytncdambphaodaaa
