/- The walk of LinkRow. -/
import Derived.Test.YtmehfflomgldeabScript13
import Derived.BigQuiet
namespace Go.Proofs.Ytmehfflomgldeab
set_option linter.unusedVariables false
open Go.RowKit
theorem ownBlock_lt {w : World} {base : Nat} {e : TypeId} {size : Nat} {v : Value} {n : Nat} {xs : List Value} (h : w.ownsRow base e size v n xs) {j : Nat} (hj : v.ownBlock = some j) : j < w.heap.size := by
  rcases h.2 with ⟨rfl, _⟩ | ⟨g, cap, cur, rfl, _, hg, _⟩
  · simp [Value.ownBlock] at hj
  · have : j = g := by simpa [Value.ownBlock] using hj.symm
    rw [this]; exact block_lt hg
theorem rowC_cells {w : World} {base g c n : Nat} {e : TypeId} {t : List Cl} (h : w.ownsRow base e 2 (.slice (some ⟨g, 0, none⟩) n c) n (flatC t)) {i : Nat} (hi : i < t.length) :
    w.cell? ⟨g, i * 2, none⟩ = some (.int .i64 (t.getD i Cl.zero).lane) ∧ w.cell? ⟨g, i * 2 + 1, none⟩ = some (.int .u64 (t.getD i Cl.zero).word) := by
  constructor
  · have := h.cells rfl (i * 2) (.int .i64 (t.getD i Cl.zero).lane) (by rw [Nat.mul_comm, ← Nat.add_zero (2 * i), flatC_get _ _ _ hi (by omega)]; rfl)
    rwa [addP, Nat.zero_add] at this
  · have := h.cells rfl (i * 2 + 1) (.int .u64 (t.getD i Cl.zero).word) (by rw [Nat.mul_comm, flatC_get _ _ _ hi (by omega)]; rfl)
    rwa [addP, Nat.zero_add] at this
structure RInv (s : LS) (L : Nat) (t : List Cl) (n : Nat) : Prop where
  ok : s.Ok
  la : s.lanes = L
  le : n ≤ t.length
  wd : s.wd = t.drop n
theorem rinv_send {s : LS} {L n : Nat} {t : List Cl} (h : RInv s L t n) (c : Cl) : (∃ s', s.send c = (s', 0) ∧ RInv s' L (t ++ [c]) n) ∨ (∃ e, s.send c = (s, e) ∧ ((e : Int) == 0) = false) := by
  have o := h.ok.send c
  unfold LS.send at o ⊢
  split
  · rename_i h1
    rw [if_pos h1] at o
    split
    · exact .inr ⟨_, rfl, rfl⟩
    · rename_i h2
      rw [if_neg h2] at o
      split
      · exact .inr ⟨_, rfl, rfl⟩
      · rename_i h3
        rw [if_neg h3] at o
        refine .inl ⟨_, rfl, o, h.la, by rw [List.length_append]; have := h.le; omega, ?_⟩
        show s.wd ++ [c] = (t ++ [c]).drop n
        rw [h.wd, List.drop_append_of_le_length h.le]
  · exact .inr ⟨_, rfl, rfl⟩
theorem rinv_carry {s : LS} {L n : Nat} {t : List Cl} (h : RInv s L t n) : (∃ s', n < t.length ∧ s.carry = (s', t.getD n Cl.zero, 0) ∧ RInv s' L t (n + 1)) ∨ (¬ n < t.length ∧ s.carry = (s, Cl.zero, 8)) := by
  by_cases hn : n < t.length
  · have hd : s.wd = t.getD n Cl.zero :: t.drop (n + 1) := by rw [h.wd, drop_cons hn Cl.zero]
    have o := h.ok.carry
    have e : s.carry = (({ s with wd := t.drop (n + 1), fa := s.fa.set (t.getD n Cl.zero).lane.toNat (s.fa.getD (t.getD n Cl.zero).lane.toNat 0 + 1) } : LS), t.getD n Cl.zero, (0 : Int)) := by unfold LS.carry; rw [hd]
    rw [e] at o
    exact .inl ⟨_, hn, e, o, h.la, hn, rfl⟩
  · refine .inr ⟨hn, ?_⟩
    have hd : s.wd = [] := by rw [h.wd, List.drop_eq_nil_of_le (by omega)]
    unfold LS.carry; rw [hd]
theorem rinv_taken {s : LS} {L n : Nat} {t : List Cl} (h : RInv s L t n) (k : Int) : RInv (s.taken k).1 L t n := by
  have o := h.ok.taken k
  unfold LS.taken at o ⊢
  split
  · rename_i h1
    rw [if_pos h1] at o
    split
    · exact h
    · rename_i h2
      rw [if_neg h2] at o
      exact ⟨o, h.la, h.le, h.wd⟩
  · exact h
theorem rinv_credit {s : LS} {L n : Nat} {t : List Cl} (h : RInv s L t n) : RInv s.credit.1 L t n := by
  have o := h.ok.credit
  have hla : s.credit.1.lanes = s.lanes := by unfold LS.credit; split <;> rfl
  have hwd : s.credit.1.wd = s.wd := by unfold LS.credit; split <;> rfl
  exact ⟨o, hla.trans h.la, h.le, hwd.trans h.wd⟩
/-- The ways of a round. -/
theorem rinv_cases {s : LS} {L n : Nat} {t : List Cl} (h : RInv s L t n) (k : Int) (l x : Int) :
    (kindN k = 0 ∧ ∃ s', stepS s k l x = (s', Cl.zero, 0) ∧ RInv s' L (t ++ [⟨l, x⟩]) n)
    ∨ (kindN k = 0 ∧ ∃ e : Int, (e == 0) = false ∧ stepS s k l x = (s, Cl.zero, e) ∧ RInv s L t n)
    ∨ (kindN k = 1 ∧ ∃ s', n < t.length ∧ stepS s k l x = (s', t.getD n Cl.zero, 0) ∧ RInv s' L t (n + 1))
    ∨ (kindN k = 1 ∧ ¬ n < t.length ∧ stepS s k l x = (s, Cl.zero, 8) ∧ RInv s L t n)
    ∨ (∃ kd : Nat, kindN k = kd ∧ 2 ≤ kd ∧ RInv (stepS s k l x).1 L t n) := by
  have hk := kind_lt k
  have h4 : kindN k = 0 ∨ kindN k = 1 ∨ kindN k = 2 ∨ kindN k = 3 := by omega
  unfold stepS
  rcases h4 with e | e | e | e
  · rw [e]
    rcases rinv_send h ⟨l, x⟩ with ⟨s', e1, h1⟩ | ⟨er, e1, h1⟩
    · exact .inl ⟨rfl, s', by show ((s.send ⟨l, x⟩).1, Cl.zero, (s.send ⟨l, x⟩).2) = _; rw [e1], h1⟩
    · exact .inr (.inl ⟨rfl, er, h1, by show ((s.send ⟨l, x⟩).1, Cl.zero, (s.send ⟨l, x⟩).2) = _; rw [e1], h⟩)
  · rw [e]
    rcases rinv_carry h with ⟨s', h1, e1, h2⟩ | ⟨h1, e1⟩
    · exact .inr (.inr (.inl ⟨rfl, s', h1, e1, h2⟩))
    · exact .inr (.inr (.inr (.inl ⟨rfl, h1, e1, h⟩)))
  · rw [e]; exact .inr (.inr (.inr (.inr ⟨2, rfl, by omega, rinv_taken h l⟩)))
  · rw [e]; exact .inr (.inr (.inr (.inr ⟨3, rfl, by omega, rinv_credit h⟩)))
set_option maxRecDepth 100000 in
set_option maxHeartbeats 4000000 in
theorem linkRow_walk (p q r : Int) (a : Option Addr) (c : Nat) (l : List O13) (w : World) (hl : l.length ≤ maxLen) (hc : l.length ≤ c) (hr : Script13 w a l) :
    Calls Try.prog 5 #[.agg #[.int .i64 p, .int .i64 q, .int .i64 r], .slice a l.length c] w fun e w' => e = .returned (.bool true) ∧ Below w.heap.size w w' := by
  obtain ⟨L, hL, hL1, hL4⟩ := lanes_mod p
  have HE := Lib.hid (fun w => early13_calls a l.length c w hl hc)
  have hs := hr.take 150
  have hlt : (l.take 150).length = min l.length 150 := by rw [List.length_take]; omega
  rw [← hlt] at HE
  have hc2 : (l.take 150).length ≤ c := by omega
  have hl2 : (l.take 150).length ≤ 150 := by omega
  generalize l.take 150 = ls at *
  clear hr hlt
  unfold maxLen at hl
  have HV := Lib.hid lives13_calls
  have hN := fun w => link_new (L : Int) q r w
  rw [show clampN (L : Int) 8 = L from by unfold clampN; omega] at hN
  have HN := Lib.hid hN
  have hI : RInv (LS.new L (clampN q 64) (clampN r 64)) L [] 0 := ⟨LS.new_ok hL1 (by omega) (by unfold clampN; omega) (by unfold clampN; omega) (by unfold clampN; omega) (by unfold clampN; omega), rfl, Nat.le_refl _, rfl⟩
  have HI := Lib.hid hI
  clear hN hI
  generalize LS.new L (clampN q 64) (clampN r 64) = s0 at *
  go_enter Try.func5, Try.ntmps5
  go_wp2_with (first
    | (go_at_call 15; ((with_reducible refine (HV.out _).mono ?_); rintro e w1 ⟨rfl, hb1⟩; have hF := Below.at hb1 (alloc_new _) (by simp); have f0 := cell_at hF 0; have f1 := cell_at hF 1; have f2 := cell_at hF 2; have hb1' : Below w.heap.size w w1 := (Below.trans ((Below.refl _ _).alloc (Nat.le_refl _) _) (hb1.mono (by simp))); have hb1s := hb1'.size; clear hF hb1))
    | (go_at_call 16; ((with_reducible refine (HN.out _).mono ?_); rintro e w2 ⟨b, B, rfl, hK, hB, hb2⟩))
    | (go_at_call 18; ((with_reducible refine (HE.out _).mono ?_); rintro e w' ⟨rfl, k, rfl⟩)))
  have h2 : Below w.heap.size w w2 := (Below.trans hb1' (hb2.mono hb1s))
  have hB0 : ∀ k ∈ B, w.heap.size ≤ k := fun k hk => Nat.le_trans hb1s (hB k hk)
  have HB0 := Lib.hid hB0
  have HBl := Lib.hid hK.lt
  have H2s := Lib.hid h2.size
  have HS := Lib.hid hs
  have K0 := Lib.hid hK
  have H2 := Lib.hid h2
  clear hb1' hb2 hB hB0 HV HN HE f0 f1 f2 hb1s hs hK h2
  have hlsI : ((ls.length : Nat) : Int) ≤ 150 := by omega
  go_loopw [7, 8, 9] (fun v vn i wr => ∃ (m n : Nat) (s : LS) (t : List Cl), m ≤ ls.length ∧ i = .int .i64 (m : Int) ∧ vn = .int .i64 (n : Int) ∧ t.length ≤ m ∧ LinkAt wr b B s ∧ Hid (RInv s L t n) ∧ wr.ownsRow w2.heap.size 35 2 v t.length (flatC t) ∧ Below w.heap.size w wr ∧ w2.heap.size ≤ wr.heap.size) (fun _ _ i _ => ls.length - (intOf i).toNat)
  case atStart => exact ⟨0, 0, s0, [], by omega, rfl, rfl, Nat.le_refl _, K0.out.drewN _, HI, World.ownsRow_nil _ _ _ _, below_drewN' H2.out _, Nat.le_refl _⟩
  case round =>
    clear K0 HI H2
    obtain ⟨m, n, s, t, hm, rfl, rfl, htm, hK, hI, hown, hbw, hws2⟩ := hrel
    by_cases hlm : m < ls.length
    · obtain ⟨blk, off, o, -, rfl, q0, q1, q2⟩ := HS.out m hlm
      obtain ⟨ok, ol, ox⟩ := o
      dsimp only at q0 q1 q2
      have c0 := (hbw.cell (World.block_lt_of_cell? w _ q0)).trans q0
      have c1 := (hbw.cell (World.block_lt_of_cell? w _ q1)).trans q1
      have c2 := (hbw.cell (World.block_lt_of_cell? w _ q2)).trans q2
      obtain ⟨kk, hkk, hkL⟩ := lane_mod ol L hL1 (by omega)
      have hcs := rinv_cases hI.out ok kk (m : Int)
      have F1 := fun w h => step_calls ok kk (m : Int) w b B s h
      have FK := Lib.hid (fun w => kind13_calls ok kk (m : Int) w)
      have hlmI : (m : Int) < (ls.length : Int) := by omega
      have hws := hbw.size
      have hoB : wr.heap.size ∉ B := fun hm => Nat.lt_irrefl _ (hK.lt _ hm)
      have hA1 : LinkAt (wr.alloc (.cells #[.int .i64 ok, .int .i64 (kk : Int), .int .u64 (m : Int)] 40)) b B s := hK.alloc _
      have hA2 : (wr.alloc (.cells #[.int .i64 ok, .int .i64 (kk : Int), .int .u64 (m : Int)] 40)).heap[wr.heap.size]? = some (.cells #[.int .i64 ok, .int .i64 (kk : Int), .int .u64 (m : Int)] 40 (0, 0)) := alloc_new _
      have hA3 : Below w.heap.size w (wr.alloc (.cells #[.int .i64 ok, .int .i64 (kk : Int), .int .u64 (m : Int)] 40)) := by repeat' (first | (with_reducible assumption) | (with_reducible refine Below.setCell ?_ ?_ _) | (with_reducible refine below_drewN' ?_ _) | (with_reducible refine Below.drew ?_) | (with_reducible refine Below.alloc ?_ ?_ _) | (with_reducible exact Below.refl _ _) | (with_reducible exact Nat.le_refl _) | omega | (simp; done) | (simp; omega))
      have hA4 := ownsRow_below hown ((Below.refl _ _).alloc (Nat.le_refl _) (.cells #[.int .i64 ok, .int .i64 (kk : Int), .int .u64 (m : Int)] 40))
      have hob := fun (j : Nat) hj => ownBlock_lt hown (j := j) hj
      have HOB := Lib.hid hob
      have HA1 := Lib.hid hA1
      have HA2 := Lib.hid hA2
      have HA3 := Lib.hid hA3
      have HA4 := Lib.hid hA4
      have HTM := Lib.hid htm
      clear hA1 hA2 hA3 hA4 hK hbw hI q0 q1 q2 hown htm hob
      have ht150 : t.length ≤ 150 := Nat.le_trans HTM.out (by omega)
      have h2s := H2s.out
      rcases hcs with ⟨hk, s2, e1, hI2⟩ | ⟨hk, er, hE, e1, hI2⟩ | ⟨hk, s2, hn, e1, hI2⟩ | ⟨hk, hn, e1, hI2⟩ | ⟨kd, hk, hkd, hI2⟩
      · rw [e1] at F1
        rw [hk] at FK
        have F1 := Lib.hid F1
        have GI := Lib.hid hI2
        clear e1 hk hI2
        go_wp2_with (first
          | (go_at_call 19; ((with_reducible refine (F1.out _ HA1.out).mono ?_); rintro e w3 ⟨rfl, hK3, hO3⟩; have GC := Lib.hid (HA3.out.trans (hO3.below (fun k hk => HB0.out k hk) HA3.out.size)); have hO := hO3.at HA2.out hoB; have hz3 := block_lt hO; have OC := Lib.hid (ownsRow_only HA4.out hO3 HBl.out); have f0 := cell_at hO 0; have f1 := cell_at hO 1; have f2 := cell_at hO 2; have HO := Lib.hid hO; have KC := Lib.hid hK3; have h23 : w2.heap.size ≤ w3.heap.size := (by have := hO3.size; simp at this; omega); clear hK3 hO3 hO))
          | (go_at_call 29; ((with_reducible refine (FK.out _).mono ?_); rintro e w4 ⟨rfl, hb4⟩; (first | (have KN := Lib.hid ((KC.out.alloc _).below hb4); have GN := Lib.hid (Below.trans (GC.out.alloc GC.out.size _) (hb4.mono (by have := GC.out.size; simp; omega))); have ON := Lib.hid (ownsRow_below (ownsRow_below OC.out ((Below.refl _ _).alloc (Nat.le_refl _) _)) hb4); have hO := Below.at hb4 (alloc_old HO.out _) (by have := block_lt HO.out; simp; omega); have hT := Below.at hb4 (alloc_new _) (by simp); have t0 := cell_at hT 0; have t1 := cell_at hT 1; have HT := Lib.hid hT; clear hT) | (have KN := Lib.hid (KC.out.below hb4); have GN := Lib.hid (GC.out.trans (hb4.mono GC.out.size)); have ON := Lib.hid (ownsRow_below OC.out hb4); have hO := Below.at hb4 HO.out (block_lt HO.out); first | (have hT := Below.at hb4 HT.out (block_lt HT.out); clear t0 t1; have t0 := cell_at hT 0; have t1 := cell_at hT 1; have HT := Lib.hid hT; clear hT) | skip)); have h24 : w2.heap.size ≤ w4.heap.size := (by have := hb4.size; first | omega | (simp at this; omega)); have KC := KN; have GC := GN; have OC := ON; clear KN GN ON hb4 f0 f1 f2; have f0 := cell_at hO 0; have f1 := cell_at hO 1; have f2 := cell_at hO 2; have HO := Lib.hid hO; clear hO))
          | (at_builtin; refine append_own (W0 := w4) [.int .i64 (kk : Int), .int .u64 (m : Int)] w2.heap.size _ _ _ 2 16 infoC Try.underlying28 rfl (by decide) _ _ _ OC.out (Below.refl _ _) h24 rfl (by simp [Value.oneCell']) (by omega) (by decide) rfl _ _ rfl rfl rfl ?_; intro v1 w7 hown7 hb7 hg7 hor7; have h27 : w2.heap.size ≤ w7.heap.size := Nat.le_trans h24 hb7.size; have hO7 := (hg7.block wr.heap.size (block_lt HO.out) (fun e => Nat.lt_irrefl _ (HOB.out _ e.symm))).trans HO.out; have KN := Lib.hid (KC.out.belowN hb7 HBl.out); have GN := Lib.hid (GC.out.trans (hb7.mono h2s)); have ON := Lib.hid hown7; have KC := KN; have GC := GN; have OC := ON; clear KN GN ON hown7 hb7 hg7 hor7 f0 f1 f2; have f0 := cell_at hO7 0; have f1 := cell_at hO7 1; have f2 := cell_at hO7 2; have HO := Lib.hid hO7; clear hO7))
        go_roundw
        case rel =>
          have ho := OC.out
          exact ⟨m + 1, n, s2, t ++ [(⟨kk, (m : Int)⟩ : Cl)], by omega, by go_num, rfl, by rw [List.length_append]; have := HTM.out; simp; omega, KC.out, GI, by rw [List.length_append, flatC_snoc]; exact ho, GC.out, h24⟩
        case measure => simp [intOf] <;> omega
      · rw [e1] at F1
        rw [hk] at FK
        have F1 := Lib.hid F1
        have GI := Lib.hid hI2
        clear e1 hk hI2
        go_wp2_with (first
          | (go_at_call 19; ((with_reducible refine (F1.out _ HA1.out).mono ?_); rintro e w3 ⟨rfl, hK3, hO3⟩; have GC := Lib.hid (HA3.out.trans (hO3.below (fun k hk => HB0.out k hk) HA3.out.size)); have hO := hO3.at HA2.out hoB; have hz3 := block_lt hO; have OC := Lib.hid (ownsRow_only HA4.out hO3 HBl.out); have f0 := cell_at hO 0; have f1 := cell_at hO 1; have f2 := cell_at hO 2; have HO := Lib.hid hO; have KC := Lib.hid hK3; have h23 : w2.heap.size ≤ w3.heap.size := (by have := hO3.size; simp at this; omega); clear hK3 hO3 hO))
          | (go_at_call 29; ((with_reducible refine (FK.out _).mono ?_); rintro e w4 ⟨rfl, hb4⟩; (first | (have KN := Lib.hid ((KC.out.alloc _).below hb4); have GN := Lib.hid (Below.trans (GC.out.alloc GC.out.size _) (hb4.mono (by have := GC.out.size; simp; omega))); have ON := Lib.hid (ownsRow_below (ownsRow_below OC.out ((Below.refl _ _).alloc (Nat.le_refl _) _)) hb4); have hO := Below.at hb4 (alloc_old HO.out _) (by have := block_lt HO.out; simp; omega); have hT := Below.at hb4 (alloc_new _) (by simp); have t0 := cell_at hT 0; have t1 := cell_at hT 1; have HT := Lib.hid hT; clear hT) | (have KN := Lib.hid (KC.out.below hb4); have GN := Lib.hid (GC.out.trans (hb4.mono GC.out.size)); have ON := Lib.hid (ownsRow_below OC.out hb4); have hO := Below.at hb4 HO.out (block_lt HO.out); first | (have hT := Below.at hb4 HT.out (block_lt HT.out); clear t0 t1; have t0 := cell_at hT 0; have t1 := cell_at hT 1; have HT := Lib.hid hT; clear hT) | skip)); have h24 : w2.heap.size ≤ w4.heap.size := (by have := hb4.size; first | omega | (simp at this; omega)); have KC := KN; have GC := GN; have OC := ON; clear KN GN ON hb4 f0 f1 f2; have f0 := cell_at hO 0; have f1 := cell_at hO 1; have f2 := cell_at hO 2; have HO := Lib.hid hO; clear hO))
        )
        go_roundw
        case rel => exact ⟨m + 1, n, s, t, by omega, by go_num, rfl, by have := HTM.out; omega, KC.out, GI.out, OC.out, GC.out, h24⟩
        case measure => simp [intOf] <;> omega
      · obtain ⟨a2, cc, hv, hrow⟩ := CellsNew.own HA4.out
        obtain ⟨blk2, rfl, hbk, -, -⟩ := hrow n hn
        subst hv
        rw [e1] at F1
        rw [hk] at FK
        have F1 := Lib.hid F1
        have GI := Lib.hid hI2
        have hnI : (n : Int) < (t.length : Int) := by omega
        have HX := Lib.hid (fun (w : World) h => rowC_cells (w := w) (base := w2.heap.size) (g := blk2) (c := cc) (e := 35) (n := t.length) (t := t) h hn)
        generalize t.getD n Cl.zero = y at *
        obtain ⟨y0, y1⟩ := y
        clear e1 hk hI2 hrow
        go_wp2_with (first
          | (go_at_call 19; ((with_reducible refine (F1.out _ HA1.out).mono ?_); rintro e w3 ⟨rfl, hK3, hO3⟩; have GC := Lib.hid (HA3.out.trans (hO3.below (fun k hk => HB0.out k hk) HA3.out.size)); have hO := hO3.at HA2.out hoB; have hz3 := block_lt hO; have OC := Lib.hid (ownsRow_only HA4.out hO3 HBl.out); have f0 := cell_at hO 0; have f1 := cell_at hO 1; have f2 := cell_at hO 2; have HO := Lib.hid hO; have KC := Lib.hid hK3; have h23 : w2.heap.size ≤ w3.heap.size := (by have := hO3.size; simp at this; omega); clear hK3 hO3 hO))
          | (go_at_call 29; ((with_reducible refine (FK.out _).mono ?_); rintro e w4 ⟨rfl, hb4⟩; (first | (have KN := Lib.hid ((KC.out.alloc _).below hb4); have GN := Lib.hid (Below.trans (GC.out.alloc GC.out.size _) (hb4.mono (by have := GC.out.size; simp; omega))); have ON := Lib.hid (ownsRow_below (ownsRow_below OC.out ((Below.refl _ _).alloc (Nat.le_refl _) _)) hb4); have hO := Below.at hb4 (alloc_old HO.out _) (by have := block_lt HO.out; simp; omega); have hT := Below.at hb4 (alloc_new _) (by simp); have t0 := cell_at hT 0; have t1 := cell_at hT 1; have HT := Lib.hid hT; clear hT) | (have KN := Lib.hid (KC.out.below hb4); have GN := Lib.hid (GC.out.trans (hb4.mono GC.out.size)); have ON := Lib.hid (ownsRow_below OC.out hb4); have hO := Below.at hb4 HO.out (block_lt HO.out); first | (have hT := Below.at hb4 HT.out (block_lt HT.out); clear t0 t1; have t0 := cell_at hT 0; have t1 := cell_at hT 1; have HT := Lib.hid hT; clear hT) | skip)); have h24 : w2.heap.size ≤ w4.heap.size := (by have := hb4.size; first | omega | (simp at this; omega)); have KC := KN; have GC := GN; have OC := ON; clear KN GN ON hb4 f0 f1 f2; have f0 := cell_at hO 0; have f1 := cell_at hO 1; have f2 := cell_at hO 2; have HO := Lib.hid hO; clear hO))
        )
        have hrc := HX.out _ OC.out
        have r0 := hrc.1
        have r1 := hrc.2
        clear hrc
        go_quiet (fail)
        go_wp2
        go_roundw
        case rel => exact ⟨m + 1, n + 1, s2, t, by omega, by go_num, by go_num, by have := HTM.out; omega, KC.out.drewN _, GI.out, ownsRow_drewN OC.out _, below_drewN' GC.out _, h24⟩
        case measure => simp [intOf] <;> omega
      · obtain ⟨a2, cc, hv, hrow⟩ := CellsNew.own HA4.out
        subst hv
        rw [e1] at F1
        rw [hk] at FK
        have F1 := Lib.hid F1
        have GI := Lib.hid hI2
        have hnI : ¬ ((n : Int) < (t.length : Int)) := by omega
        clear e1 hk hI2 hrow
        go_wp2_with (first
          | (go_at_call 19; ((with_reducible refine (F1.out _ HA1.out).mono ?_); rintro e w3 ⟨rfl, hK3, hO3⟩; have GC := Lib.hid (HA3.out.trans (hO3.below (fun k hk => HB0.out k hk) HA3.out.size)); have hO := hO3.at HA2.out hoB; have hz3 := block_lt hO; have OC := Lib.hid (ownsRow_only HA4.out hO3 HBl.out); have f0 := cell_at hO 0; have f1 := cell_at hO 1; have f2 := cell_at hO 2; have HO := Lib.hid hO; have KC := Lib.hid hK3; have h23 : w2.heap.size ≤ w3.heap.size := (by have := hO3.size; simp at this; omega); clear hK3 hO3 hO))
          | (go_at_call 29; ((with_reducible refine (FK.out _).mono ?_); rintro e w4 ⟨rfl, hb4⟩; (first | (have KN := Lib.hid ((KC.out.alloc _).below hb4); have GN := Lib.hid (Below.trans (GC.out.alloc GC.out.size _) (hb4.mono (by have := GC.out.size; simp; omega))); have ON := Lib.hid (ownsRow_below (ownsRow_below OC.out ((Below.refl _ _).alloc (Nat.le_refl _) _)) hb4); have hO := Below.at hb4 (alloc_old HO.out _) (by have := block_lt HO.out; simp; omega); have hT := Below.at hb4 (alloc_new _) (by simp); have t0 := cell_at hT 0; have t1 := cell_at hT 1; have HT := Lib.hid hT; clear hT) | (have KN := Lib.hid (KC.out.below hb4); have GN := Lib.hid (GC.out.trans (hb4.mono GC.out.size)); have ON := Lib.hid (ownsRow_below OC.out hb4); have hO := Below.at hb4 HO.out (block_lt HO.out); first | (have hT := Below.at hb4 HT.out (block_lt HT.out); clear t0 t1; have t0 := cell_at hT 0; have t1 := cell_at hT 1; have HT := Lib.hid hT; clear hT) | skip)); have h24 : w2.heap.size ≤ w4.heap.size := (by have := hb4.size; first | omega | (simp at this; omega)); have KC := KN; have GC := GN; have OC := ON; clear KN GN ON hb4 f0 f1 f2; have f0 := cell_at hO 0; have f1 := cell_at hO 1; have f2 := cell_at hO 2; have HO := Lib.hid hO; clear hO))
        )
        go_quiet (fail)
        go_wp2
        go_roundw
        case rel => exact ⟨m + 1, n, s, t, by omega, by go_num, rfl, by have := HTM.out; omega, KC.out.drewN _, GI.out, ownsRow_drewN OC.out _, below_drewN' GC.out _, h24⟩
        case measure => simp [intOf] <;> omega
      · rw [hk] at FK
        have hk0 : (((kd : Nat) : Int) == 0) = false := beq_eq_false_iff_ne.2 (by omega)
        have hk1 : (((kd : Nat) : Int) == 1) = false := beq_eq_false_iff_ne.2 (by omega)
        generalize (stepS s ok (kk : Int) (m : Int)).2 = es at *
        generalize (stepS s ok (kk : Int) (m : Int)).1 = s2 at *
        obtain ⟨⟨e1, e2⟩, e3⟩ := es
        have F1 := Lib.hid F1
        have GI := Lib.hid hI2
        clear hk hI2
        go_wp2_with (first
          | (go_at_call 19; ((with_reducible refine (F1.out _ HA1.out).mono ?_); rintro e w3 ⟨rfl, hK3, hO3⟩; have GC := Lib.hid (HA3.out.trans (hO3.below (fun k hk => HB0.out k hk) HA3.out.size)); have hO := hO3.at HA2.out hoB; have hz3 := block_lt hO; have OC := Lib.hid (ownsRow_only HA4.out hO3 HBl.out); have f0 := cell_at hO 0; have f1 := cell_at hO 1; have f2 := cell_at hO 2; have HO := Lib.hid hO; have KC := Lib.hid hK3; have h23 : w2.heap.size ≤ w3.heap.size := (by have := hO3.size; simp at this; omega); clear hK3 hO3 hO))
          | (go_at_call 29; ((with_reducible refine (FK.out _).mono ?_); rintro e w4 ⟨rfl, hb4⟩; (first | (have KN := Lib.hid ((KC.out.alloc _).below hb4); have GN := Lib.hid (Below.trans (GC.out.alloc GC.out.size _) (hb4.mono (by have := GC.out.size; simp; omega))); have ON := Lib.hid (ownsRow_below (ownsRow_below OC.out ((Below.refl _ _).alloc (Nat.le_refl _) _)) hb4); have hO := Below.at hb4 (alloc_old HO.out _) (by have := block_lt HO.out; simp; omega); have hT := Below.at hb4 (alloc_new _) (by simp); have t0 := cell_at hT 0; have t1 := cell_at hT 1; have HT := Lib.hid hT; clear hT) | (have KN := Lib.hid (KC.out.below hb4); have GN := Lib.hid (GC.out.trans (hb4.mono GC.out.size)); have ON := Lib.hid (ownsRow_below OC.out hb4); have hO := Below.at hb4 HO.out (block_lt HO.out); first | (have hT := Below.at hb4 HT.out (block_lt HT.out); clear t0 t1; have t0 := cell_at hT 0; have t1 := cell_at hT 1; have HT := Lib.hid hT; clear hT) | skip)); have h24 : w2.heap.size ≤ w4.heap.size := (by have := hb4.size; first | omega | (simp at this; omega)); have KC := KN; have GC := GN; have OC := ON; clear KN GN ON hb4 f0 f1 f2; have f0 := cell_at hO 0; have f1 := cell_at hO 1; have f2 := cell_at hO 2; have HO := Lib.hid hO; clear hO))
        )
        go_roundw
        case rel => exact ⟨m + 1, n, s2, t, by omega, by go_num, rfl, by have := HTM.out; omega, KC.out, GI.out, OC.out, GC.out, h24⟩
        case measure => simp [intOf] <;> omega
    · have hmI : ¬ ((m : Int) < (ls.length : Int)) := by omega
      have GC := Lib.hid hbw
      clear hK hbw
      go_wp2
      go_ret
      exact ⟨rfl, GC.out⟩
end Go.Proofs.Ytmehfflomgldeab
