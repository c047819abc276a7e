/- The reference's ring: PushAll, PopSome, New. -/
import Derived.Test.YtncdambphaodaaaRefRing
namespace Go.Proofs.Ytncdambphaodaaa
set_option linter.unusedVariables false
open Go.RowKit

theorem ref_pushAll (w : World) (b : Nat) (S : List Nat) (s : RS Int) (a : Option Addr) (c : Nat) (l : List Int) (h : RefAt w b S s) (hS : ∀ x ∈ S, x < w.heap.size) (hl : l.length ≤ maxLen) (hr : IntsOff .i64 w a l [b]) :
    Calls Try.prog 64 #[.pointer (some ⟨b, 0, none⟩), .slice a l.length c] w fun e w' => e = .returned (.int .i64 (((s.pushAll l).2 : Nat) : Int)) ∧ RefAt w' b S (s.pushAll l).1 ∧ Only [b] w w' := by
  unfold maxLen at hl
  go_enter Try.func64, Try.ntmps64
  go_wp2
  go_loopw [5, 6] (fun n i wr => ∃ (m : Nat) (t : RS Int), m ≤ l.length ∧ n = .int .i64 (m : Int) ∧ i = .int .i64 (m : Int) ∧ RefAt wr b S t ∧ Only [b] w wr ∧ Hid ((s.pushAll l).1 = (t.pushAll (l.drop m)).1 ∧ (s.pushAll l).2 = (t.pushAll (l.drop m)).2 + m)) (fun _ i _ => l.length - (intOf i).toNat)
  case atStart => exact ⟨0, s, by omega, rfl, rfl, h, Only.refl _ _, rfl, rfl⟩
  case round =>
    obtain ⟨m, t, hm, rfl, rfl, hR, hO, HQ⟩ := hrel
    have HSw : Hid (∀ x ∈ S, x < wr.heap.size) := fun x hx => Nat.lt_of_lt_of_le (hS x hx) hO.size
    by_cases hlm : m < l.length
    · obtain ⟨blk, off, rfl, _, hcell⟩ := (hr.only hO) m hlm
      have HD := Lib.hid (drop_cons hlm 0)
      generalize l.getD m 0 = v at hcell HD
      have HP := fun w h hS => ref_push w b S t v h hS
      by_cases e1 : (t.push v).2 = 0
      · have HQ2 : Hid ((s.pushAll l).1 = ((t.push v).1.pushAll (l.drop (m + 1))).1 ∧ (s.pushAll l).2 = ((t.push v).1.pushAll (l.drop (m + 1))).2 + (m + 1)) := by
          have := HQ.out
          rw [HD.out, pushAll_cons e1] at this
          exact ⟨this.1, by rw [this.2]; show _ + 1 + m = _; omega⟩
        rw [e1] at HP
        generalize (t.push v).1 = t2 at HP HQ2
        have HP2 := Lib.hid HP
        clear HP e1 HQ
        go_wp2_with (first | (go_at_call 59; ((with_reducible refine (HP2.out _ hR HSw.out).mono ?_); rintro e w2 ⟨rfl, hR2, hO2⟩)))
        go_roundw
        case rel => exact ⟨m + 1, t2, by omega, by go_num, by go_num, hR2, hO.trans hO2, HQ2⟩
        case measure => simp [intOf] <;> omega
      · have hne : ((t.push v).2 != 0) = true := by rw [bne_iff_ne]; exact e1
        have HQ2 : Hid ((s.pushAll l).1 = t ∧ (s.pushAll l).2 = m) := by
          have := HQ.out
          rw [HD.out, pushAll_stop e1] at this
          exact ⟨this.1, by rw [this.2]; show 0 + m = m; omega⟩
        have e2 : (t.push v).1 = t := by
          unfold RS.push at e1 ⊢
          by_cases c1 : t.ld.isSome = true
          · rw [if_pos c1]
          · by_cases c2 : t.q.length = t.n
            · rw [if_neg c1, if_pos c2]
            · rw [if_neg c1, if_neg c2] at e1; simp at e1
        rw [e2] at HP
        generalize (t.push v).2 = r2 at HP hne
        have HP2 := Lib.hid HP
        clear HP e1 e2 HQ
        go_wp2_with (first | (go_at_call 59; ((with_reducible refine (HP2.out _ hR HSw.out).mono ?_); rintro e w2 ⟨rfl, hR2, hO2⟩)))
        go_ret
        exact ⟨ret_int (by rw [HQ2.out.2]), by rw [HQ2.out.1]; exact hR2, hO.trans hO2⟩
    · obtain rfl : m = l.length := by omega
      have HQ2 : Hid ((s.pushAll l).1 = t ∧ (s.pushAll l).2 = l.length) := by
        have := HQ.out
        rw [List.drop_length] at this
        exact ⟨this.1, by rw [this.2]; show 0 + l.length = l.length; omega⟩
      go_wp2
      go_ret
      exact ⟨ret_int (by rw [HQ2.out.2]), by rw [HQ2.out.1]; exact hR, hO⟩
theorem CellsOff.fresh {w : World} {a : Option Addr} {xs : List Value} {S : List Nat} (h : CellsOff w a xs S) {k : Nat} (hk : w.heap.size ≤ k) : CellsOff w a xs (k :: S) := fun j u hu => by
  obtain ⟨blk, off, e, hn, hc⟩ := h j u hu
  have : blk < w.heap.size := World.block_lt_of_cell? w _ hc
  exact ⟨blk, off, e, fun hm => by rcases List.mem_cons.1 hm with h | h; omega; exact hn h, hc⟩
theorem RefAt.fresh {w : World} {b : Nat} {S : List Nat} {s : RS Int} (h : RefAt w b S s) {k : Nat} (hk : w.heap.size ≤ k) : RefAt w b (k :: S) s := by
  obtain ⟨h0, ⟨a, c, lv, h1, h2, h3, h4, h5⟩, h6⟩ := h
  exact ⟨h0, ⟨a, c, lv, h1, h2, h3, h4.fresh hk, h5⟩, List.mem_cons_of_mem _ h6⟩
theorem RefAt.weak {w : World} {b : Nat} {S T : List Nat} {s : RS Int} (h : RefAt w b S s) (hT : ∀ x ∈ T, x ∈ S) (hb : b ∈ T) : RefAt w b T s := by
  obtain ⟨h0, ⟨a, c, lv, h1, h2, h3, h4, h5⟩, h6⟩ := h
  exact ⟨h0, ⟨a, c, lv, h1, h2, h3, h4.weak hT, h5⟩, hb⟩
theorem grown_only {w w' : World} {row : Option Nat} (hg : w.grownBy w' row) : Only row.toList w w' :=
  ⟨hg.os, hg.tape, hg.output, hg.size, fun k hk hn => hg.block k hk (fun e => hn (by rw [← e]; simp))⟩
/-- Behind an append to a row of the call's own. -/
theorem RefAt.grow {w w' : World} {b : Nat} {T : List Nat} {s : RS Int} {v v' : Value} (h : RefAt w b T s) (hg : w.grownBy w' v.ownBlock) (hv : ∀ k, v.ownBlock = some k → k ∈ T ∧ b ≠ k)
    (hor : v'.ownBlock = v.ownBlock ∨ ∃ k, v'.ownBlock = some k ∧ w.heap.size ≤ k) : ∃ T', (∀ x ∈ T, x ∈ T') ∧ (∀ k, v'.ownBlock = some k → k ∈ T' ∧ b ≠ k) ∧ RefAt w' b T' s := by
  have hb := h.lt
  have ho := grown_only hg
  have q1 : ∀ x ∈ v.ownBlock.toList, x ∈ T := fun x hx => by
    cases e : v.ownBlock with
    | none => rw [e] at hx; simp at hx
    | some k => rw [e] at hx; simp at hx; subst hx; exact (hv _ e).1
  have q2 : b ∉ v.ownBlock.toList := fun hx => by
    cases e : v.ownBlock with
    | none => rw [e] at hx; simp at hx
    | some k => rw [e] at hx; simp at hx; exact (hv _ e).2 hx
  rcases hor with hor | ⟨k, hk, hlt⟩
  · exact ⟨T, fun x hx => hx, by rw [hor]; exact hv, h.only ho q1 q2⟩
  · exact ⟨k :: T, fun x hx => List.mem_cons_of_mem _ hx, fun j hj => by rw [hk] at hj; simp at hj; subst hj; exact ⟨by simp, by omega⟩, (h.fresh hlt).only ho (fun x hx => List.mem_cons_of_mem _ (q1 x hx)) q2⟩
theorem ref_popSome (w : World) (b : Nat) (S : List Nat) (s : RS Int) (most : Int) (h : RefAt w b S s) (hS : ∀ x ∈ S, x < w.heap.size) :
    Calls Try.prog 65 #[.pointer (some ⟨b, 0, none⟩), .int .i64 most] w fun e w' => ∃ a c, e = .returned (.slice a (s.q.take (someN s most)).length c) ∧ IntsNew w.heap.size .i64 w' a (s.q.take (someN s most)) ∧ RefAt w' b S (s.popN (someN s most)) ∧ Only [b] w w' := by
  have hle : s.q.length ≤ 4096 := Nat.le_trans h.ok.le h.ok.n2
  have hb := h.lt
  have hS1 : Hid (∀ k ∈ [b], k < w.heap.size) := (show ∀ k ∈ [b], k < w.heap.size by simp; exact hb)
  obtain ⟨K, hK⟩ : ∃ K, K = someN s most := ⟨_, rfl⟩
  rw [← hK]
  have hk : K ≤ s.q.length := by rw [hK]; unfold someN; omega
  have hlen : (s.q.take K).length = K := by rw [List.length_take]; omega
  have HL := Lib.hid hlen
  have HK : Hid ((K : Int) = min (max most 0) (s.q.length : Int)) := by rw [hK]; unfold someN Hid; omega
  clear hlen hK
  go_enter Try.func65, Try.ntmps65
  go_wp2
  go_loopw [5] (fun v wr => ∃ (m : Nat) (T : List Nat), m ≤ K ∧ (∀ x ∈ S, x ∈ T) ∧ (∀ k, v.ownBlock = some k → k ∈ T ∧ b ≠ k) ∧ RefAt wr b T (s.popN m) ∧ Only [b] w wr ∧ ∃ a c, v = .slice a m c ∧ wr.ownsRow w.heap.size 3 1 v m ((s.q.take m).map (Value.int .i64))) (fun v _ => match v with | .slice _ n _ => K - n | _ => 0)
  case atStart => exact ⟨0, S, by omega, fun x hx => hx, fun k hk => by simp [Value.ownBlock] at hk, h, Only.refl _ _, none, 0, rfl, World.ownsRow_nil _ _ _ _⟩
  case round =>
    obtain ⟨m, T, hm, hST, hv, hR, hO, a, c, rfl, hown⟩ := hrel
    have HST := Lib.hid hST
    have HV := Lib.hid hv
    clear hST hv
    obtain ⟨_, ⟨a1, cc1, lv, h1, _, _, _, _⟩, _⟩ := id hR
    have c1 := cell_at h1 1
    rw [popN_q, List.length_drop] at c1
    clear h1
    by_cases hlm : m < K
    · have q1 : (m : Int) < most := by have := HK.out; omega
      have q2 : 0 < s.q.length - m := by omega
      have HP := fun w h => ref_pop w b T (s.popN m) h
      have HT := Lib.hid (take_snoc (l := s.q) (m := m) (by omega))
      rw [popN_q, head_drop, ← popN_succ] at HP
      generalize s.q.getD m 0 = y at HP HT
      generalize (s.popN m).peekE = pe at HP
      have HP2 := Lib.hid HP
      clear HP
      go_wp2_with (first
        | (go_at_call 60; ((with_reducible refine (HP2.out _ hR).mono ?_); rintro e w2 ⟨rfl, hR2, hO2⟩; have hown2 := ownsRow_only hown hO2 hS1.out; clear hown))
        | (at_builtin; refine append_own (W0 := w2) [.int .i64 y] w.heap.size _ _ _ 1 8 infoInt2 Try.underlying22 rfl (by decide) _ _ _ hown2 (Below.refl _ _) (Nat.le_trans hO.size hO2.size) rfl (by simp [Value.oneCell']) (by omega) (by decide) rfl _ _ rfl rfl rfl ?_; intro v1 w1 hown1 hb1 hg1 hor1; clear hown2; have HG := Lib.hid (hR2.grow hg1 HV.out hor1); clear hg1 hor1 hR2; obtain ⟨a2, c2, rfl, _, _, _⟩ := CellsOff.own hown1 [] (by simp)))
      go_roundw
      case rel =>
        obtain ⟨T', t1, t2, t3⟩ := HG.out
        exact ⟨m + 1, T', by omega, fun x hx => t1 x (HST.out x hx), t2, t3, (hO.trans hO2).late_below hb1, a2, c2, rfl, by rw [HT.out, List.map_append]; exact hown1⟩
      case measure => show K - (m + 1) < K - m; omega
    · obtain rfl : m = K := by omega
      by_cases q1 : (m : Int) < most
      · have q2 : s.q.length - m = 0 := by have := HK.out; omega
        rw [q2] at c1
        go_wp2
        go_ret
        obtain ⟨a2, c2, e2, hi⟩ := IntsNew.own (l := s.q.take m) (by rw [HL.out]; exact hown)
        simp only [Value.slice.injEq] at e2
        obtain ⟨rfl, e3, rfl⟩ := e2
        first | exact ⟨a, c, by rw [HL.out]; rfl, hi, hR.weak HST.out h.mem, hO⟩ | exact ⟨a, ⟨c, rfl⟩, hi, hR.weak HST.out h.mem, hO⟩
      · go_wp2
        go_ret
        obtain ⟨a2, c2, e2, hi⟩ := IntsNew.own (l := s.q.take m) (by rw [HL.out]; exact hown)
        simp only [Value.slice.injEq] at e2
        obtain ⟨rfl, e3, rfl⟩ := e2

        first | exact ⟨a, c, by rw [HL.out]; rfl, hi, hR.weak HST.out h.mem, hO⟩ | exact ⟨a, ⟨c, rfl⟩, hi, hR.weak HST.out h.mem, hO⟩
theorem ref_new (room begin' : Int) (w : World) (hb0 : 0 ≤ begin') (hb1 : begin' < 4294967296) :
    Calls Try.prog 47 #[.int .i64 room, .int .u32 begin'] w fun e w' => e = .returned (.pointer (some ⟨w.heap.size, 0, none⟩)) ∧ (∀ S, w.heap.size ∈ S → RefAt w' w.heap.size S (RS.new room begin'.toNat)) ∧ Below w.heap.size w w' := by
  obtain ⟨begin', rfl⟩ := Int.eq_ofNat_of_zero_le hb0
  rw [Int.toNat_natCast]
  have hok := Lib.hid (RS.new_ok (α := Int) room begin' (by omega))
  have hn : min (max room 1) 4096 = ((min (max room 1) 4096).toNat : Int) := by omega
  have HN := Lib.hid hn
  clear hn
  go_enter Try.func47, Try.ntmps47
  go_wp2
  go_ret
  refine ⟨rfl, fun S hm => RefAt.mk' hok.out hm none 0 0 ?_ (Nat.le_refl _) (by decide) CellsOff.nil (fun v hv => by simp [RS.new] at hv), (Below.refl _ _).alloc (Nat.le_refl _) _⟩
  rw [alloc_new, HN.out]
  rfl
end Go.Proofs.Ytncdambphaodaaa
