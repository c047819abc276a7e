/- The walk of InboxPlays. -/
import Derived.Test.YtajbfmdgnkpjgaaRefInF
import Derived.Test.YtajbfmdgnkpjgaaScript16
import Derived.Test.YtajbfmdgnkpjgaaInC
import Derived.Deep.DeepCutAuto
import Derived.Deep.CutBlock
import Derived.BigQuiet
namespace Go.Proofs.Ytajbfmdgnkpjgaa
set_option linter.unusedVariables false
set_option linter.unusedSimpArgs false
open Go.RowKit
set_option maxRecDepth 100000 in
set_option maxHeartbeats 8000000 in
theorem inboxPlays_walk (room : Int) (a : Option Addr) (c : Nat) (l : List O16) (w : World) (hl : l.length ≤ maxLen) (hc : l.length ≤ c) (hr : Script16 w a l) :
    Calls Try.prog 5 #[.int .i64 room, .slice a l.length c] w fun e w' => e = .returned (.bool true) ∧ Below w.heap.size w w' := by
  have HV := Lib.hid lives16_calls
  have K0 := Lib.hid (fun w => box_new room w)
  have K1 := Lib.hid (fun w => ref16_new room w)
  have hE := fun w => early16_calls a l.length c w hl hc
  have hr2 := hr.take 120
  have hlen : (l.take 120).length = min l.length 120 := by rw [List.length_take]; omega
  rw [← hlen] at hE
  have h120 : (l.take 120).length ≤ 120 := by omega
  have HQ0 := Lib.hid (Eq16.new room)
  have hok0 := IS.new_ok room
  have HW0 : Hid ((IS.new room).ws.length = 0 ∧ (IS.new room).nx.length = 0) := Lib.hid ⟨rfl, rfl⟩
  generalize IS.new room = s0 at *
  generalize l.take 120 = L at *
  have HE := Lib.hid hE
  have HS := Lib.hid hr2
  clear hE hr hr2 hlen
  go_enter Try.func5, Try.ntmps5
  go_wp2_with (first
    | (go_at_call 11; ((with_reducible refine (HV.out _).mono ?_); rintro e w1 ⟨rfl, hb1⟩)) | (go_at_call 12; ((with_reducible refine (K0.out _).mono ?_); rintro e w2 ⟨b, B, rfl, hB2, hge, hb2⟩; have HB2 := Lib.hid hB2; have HG2 := Lib.hid hge; have HBB2 := Lib.hid hb2; clear hB2 hge hb2)) | (go_at_call 20; ((with_reducible refine (K1.out _).mono ?_); rintro e w3 ⟨r, rfl, hR3, hb3⟩; have HR3 := Lib.hid hR3; have HBB3 := Lib.hid hb3; clear hR3 hb3)) | (go_at_call 21; ((with_reducible refine (HE.out _).mono ?_); rintro e w' ⟨rfl, k, rfl⟩)))
  have hbw2 := hb1.trans (HBB2.out.mono hb1.size)
  have hbw3 := hbw2.trans (HBB3.out.mono hbw2.size)
  have hgw : w.heap.size ≤ w3.heap.size := hbw3.size
  have hgB : w3.heap.size ∉ B := fun hm => by have := HB2.out.lt _ hm; have := HBB3.out.size; omega
  have HBw : Hid (∀ k ∈ B, w.heap.size ≤ k) := Lib.hid (fun k hk => Nat.le_trans hb1.size (HG2.out k hk))
  have HgB := Lib.hid hgB
  have hK0 := ((HB2.out.below HBB3.out).alloc (.cells (r.vals s0) 44)).drewN k
  have hG0 : ((w3.alloc (.cells (r.vals s0) 44)).drewN k).heap[w3.heap.size]? = some (.cells (r.vals s0) 44 (0, 0)) := drewN_at (alloc_new _) _
  have hR0 := (HR3.out (w3.heap.size :: B)).below (below_drewN' ((Below.refl _ _).alloc (Nat.le_refl _) (.cells (r.vals s0) 44)) k)
  have hbw0 := below_drewN' (hbw3.alloc hgw (.cells (r.vals s0) 44)) k
  clear hbw2 hbw3 hgB HB2 HG2 HBB2 HBB3 HR3 HV K0 K1 HE hb1 hl hc
  generalize w3.heap.size = g at *
  go_loopw [7] (fun i wr => ∃ (m : Nat) (s t : IS) (r : RX), m ≤ L.length ∧ i = .int .i64 (m : Int) ∧ BoxAt wr b B s ∧ wr.heap[g]? = some (.cells (r.vals t) 44 (0, 0)) ∧ RI wr t r (g :: B) ∧ Hid (Eq16 s t ∧ t.ws.length ≤ m ∧ t.nx.length ≤ m) ∧ Below w.heap.size w wr) (fun i _ => L.length - (intOf i).toNat)
  case atStart => exact ⟨0, s0, s0, r, by omega, rfl, hK0, hG0, hR0, Lib.hid ⟨HQ0.out, by have := HW0.out; omega, by have := HW0.out; omega⟩, hbw0⟩
  case round =>
    clear hK0 hG0 hR0 hbw0 HQ0 HW0
    obtain ⟨m, s, t, r, hm, rfl, hK, hG, hR, HQ, hbw⟩ := hrel
    have HK := Lib.hid hK
    have HG := Lib.hid hG
    have HR := Lib.hid hR
    have HWW := Lib.hid hbw
    by_cases hlm : m < L.length
    · obtain ⟨blk, off, o, ho, rfl, hwf, c0, c1, c2, c3, c4⟩ := HS.out m hlm
      have hlt : blk < w.heap.size := World.block_lt_of_cell? w _ c0
      have d0 := (hbw.cell (p := ⟨blk, _, none⟩) hlt).trans c0
      have d1 := (hbw.cell (p := ⟨blk, _, none⟩) hlt).trans c1
      have d2 := (hbw.cell (p := ⟨blk, _, none⟩) hlt).trans c2
      have d3 := (hbw.cell (p := ⟨blk, _, none⟩) hlt).trans c3
      have d4 := (hbw.cell (p := ⟨blk, _, none⟩) hlt).trans c4
      have hlt2 : blk < wr.heap.size := Nat.lt_of_lt_of_le hlt hbw.size
      have hg2 := block_lt hG
      obtain ⟨o0, p0, p1, p2, p3⟩ := o
      dsimp only at c0 c1 c2 c3 c4 d0 d1 d2 d3 d4 hwf
      obtain ⟨kd, hk, hk4⟩ := mod_nat o0 4 (by omega) (by omega)
      have hKK := fun w => kind16_calls o0 p0 p1 p2 p3 w
      rw [hk] at hKK
      have HWF := Lib.hid hwf
      have HD := Lib.hid (And.intro c0 (And.intro c1 (And.intro c2 (And.intro c3 c4))))
      have hmI : (m : Int) < (L.length : Int) := by omega
      clear c0 c1 c2 c3 c4 hwf ho hK hG hR hbw hk
      have HKK := Lib.hid hKK
      clear hKK
      go_upto_if 45 with (first | (go_at_call 22; ((with_reducible refine (HKK.out _).mono ?_); rintro e w4 ⟨rfl, hb4⟩; have HB4 := Lib.hid hb4; clear hb4)))
      have hA0 := (Below.refl wr.heap.size wr).alloc (Nat.le_refl _) (.cells #[.int .i64 p0, .int .i64 p1, .int .i64 p2, .string p3] 30)
      have hp4 := Below.at HB4.out (alloc_new (w := wr) (.cells #[.int .i64 p0, .int .i64 p1, .int .i64 p2, .string p3] 30)) (by simp)
      have h04 : Below wr.heap.size wr w4 := hA0.trans (HB4.out.mono (by simp))
      have hg4 := Below.at h04 HG.out hg2
      have hK4 := HK.out.below h04
      have hR4 := (HR.out.fresh1 (Nat.le_refl wr.heap.size)).below h04
      have hw4 := HWW.out.trans (h04.mono HWW.out.size)
      have hgp : g < wr.heap.size := hg2
      have hwwr := HWW.out.size
      have hkB : ∀ k ∈ B, k < wr.heap.size := HK.out.lt
      clear hA0 HB4 h04 HK HG HR HWW d0 d1 d2 d3 d4
      generalize hpb : wr.heap.size = pb at *
      go_cut [] (fun wx => ∃ z : Int, (Lit.int .i64 z).wf = true ∧ wx.heap[pb]? = some (.cells #[.int .i64 p0, .int .i64 p1, .int .i64 z, .string p3] 30 (0, 0)) ∧ wx.heap[g]? = some (.cells (r.vals t) 44 (0, 0)) ∧ RI wx t r (pb :: g :: B) ∧ BoxAt wx b B s ∧ Below w.heap.size w wx)
      case first =>
        by_cases hk3 : kd = 3
        · have hb3 : ((kd : Int) == 3) = true := beq_iff_eq.2 (by omega)
          have hwz : (Lit.int .i64 (t.next p0)).wf = true := by
            have h1 := HQ.out.1.nx p0
            have h2 := HQ.out.1.hi p0
            unfold IS.next
            rw [h1]
            exact wf_small (by omega) (by omega)
          have hO := fun w' h => ref16_of w' t r (pb :: g :: B) p0 h
          generalize t.next p0 = z at *
          have HO := Lib.hid hO
          have HWZ := Lib.hid hwz
          have HP4 := Lib.hid hp4
          have HG4 := Lib.hid hg4
          have HK4 := Lib.hid hK4
          have HR4 := Lib.hid hR4
          have HW4 := Lib.hid hw4
          have fG := fun j => cell_at hg4 j
          have fP := fun j => cell_at hp4 j
          have hpl := block_lt hp4
          have hgl := block_lt hg4
          clear hO hwz hp4 hg4 hK4 hR4 hw4 hk3
          go_wp2_with (go_at_call 23; ((with_reducible refine (HO.out _ HR4.out).mono ?_); rintro e w5 ⟨rfl, hb5⟩; have hp5 := Below.at hb5 HP4.out hpl; have l5 := fun j => frozen_at hp5 j; have f5 := fun j => cell_at hp5 j; have HB5 := Lib.hid hb5; have HP5 := Lib.hid hp5; clear hb5 hp5))
          go_meet
          have ho : Only [pb] w5 (w5.setCell ⟨pb, 2, none⟩ (.int .i64 z)) := Only.setCell (p := ⟨pb, 2, none⟩) (Only.refl _ _) (List.mem_singleton.2 rfl) _
          have hw5 := HW4.out.trans (HB5.out.mono HW4.out.size)
          refine ⟨z, HWZ.out, set_at HP5.out 2 _, ho.at (Below.at HB5.out HG4.out hgl) (by rw [List.mem_singleton]; omega), (HR4.out.below HB5.out).only ho (fun x hx => List.mem_singleton.1 hx ▸ List.mem_cons_self ..), (HK4.out.below HB5.out).only ho (fun k hk hm => by have := hkB k hk; rw [List.mem_singleton.1 hm] at this; omega), hw5.trans (only_below ho (fun k hk => by rw [List.mem_singleton.1 hk]; exact hwwr) hw5.size)⟩
        · have hb3 : ((kd : Int) == 3) = false := beq_eq_false_iff_ne.2 (by omega)
          go_wp2
          go_meet
          exact ⟨p2, HWF.out.2.2, hp4, hg4, hR4, hK4, hw4⟩
      case rest =>
      obtain ⟨z, hwz, hp5, hg5, hR5, hK5, hw5⟩ := hcut
      obtain ⟨w5, rfl⟩ : ∃ x : World, x = wc := ⟨_, rfl⟩
      have HWZ := Lib.hid hwz
      have HP5 := Lib.hid hp5
      have HG5 := Lib.hid hg5
      have HR5 := Lib.hid hR5
      have HK5 := Lib.hid hK5
      have HW5 := Lib.hid hw5
      have d0 := (hw5.cell (p := ⟨blk, _, none⟩) hlt).trans HD.out.1
      have d1 := (hw5.cell (p := ⟨blk, _, none⟩) hlt).trans HD.out.2.1
      have d2 := (hw5.cell (p := ⟨blk, _, none⟩) hlt).trans HD.out.2.2.1
      have d3 := (hw5.cell (p := ⟨blk, _, none⟩) hlt).trans HD.out.2.2.2.1
      have d4 := (hw5.cell (p := ⟨blk, _, none⟩) hlt).trans HD.out.2.2.2.2
      have hgl := block_lt hg5
      have hpl := block_lt hp5
      clear hwz hp5 hg5 hR5 hK5 hw5 hp4 hg4 hR4 hK4 hw4
      go_upto_block 2 with (go_at_call 22; ((with_reducible refine (HKK.out _).mono ?_); rintro e w6 ⟨rfl, hb6⟩; have HB6 := Lib.hid hb6; clear hb6))
      have hP6 := Below.at HB6.out HP5.out hpl
      have hG6 := Below.at HB6.out HG5.out hgl
      have HP6 := Lib.hid hP6
      have HG6 := Lib.hid hG6
      have HR6 := Lib.hid (HR5.out.below HB6.out)
      have HK6 := Lib.hid (HK5.out.below HB6.out)
      have HW6 := Lib.hid (HW5.out.trans (HB6.out.mono HW5.out.size))
      have fG := fun j => cell_at hG6 j
      have fP := fun j => cell_at hP6 j
      have hgl := block_lt hG6
      have hpl := block_lt hP6
      have hS6 : ∀ x ∈ pb :: g :: B, x < w6.heap.size := fun x hx => by
        simp only [List.mem_cons] at hx
        rcases hx with rfl | rfl | hx
        · exact hpl
        · exact hgl
        · exact HK6.out.lt x hx
      have HS6 := Lib.hid hS6
      have hne : pb ≠ g := by omega
      have hne2 : g ≠ pb := by omega
      have HKB := Lib.hid hkB
      clear hP6 hG6 hS6 hkB HP5 HG5 HR5 HK5 HW5 HB6 d0 d1 d2 d3 d4 HD HKK HS
      go_cut [9] (fun v9 wx => v9 = .bool true ∧ ∃ (s2 t2 : IS) (r2 : RX), BoxAt wx b B s2 ∧ wx.heap[g]? = some (.cells (r2.vals t2) 44 (0, 0)) ∧ RI wx t2 r2 (g :: B) ∧ Hid (Eq16 s2 t2 ∧ t2.ws.length ≤ m + 1 ∧ t2.nx.length ≤ m + 1) ∧ wx.heap[pb]? = some (.cells #[.int .i64 p0, .int .i64 p1, .int .i64 z, .string p3] 30 (0, 0)) ∧ Below w.heap.size w wx)
      case first =>
        have hkk : kd = 0 ∨ kd = 1 ∨ kd = 2 ∨ kd = 3 := by omega
        have HWF2 : Hid ((Lit.int .i64 p0).wf = true) := Lib.hid HWF.out.1
        clear hk4
        rcases hkk with rfl | rfl | rfl | rfl
        · skip
          have hq := HQ.out.1.come ⟨p0, p1, z, p3⟩
          have hl1 := HQ.out.2.1
          have hl2 := HQ.out.2.2
          have F1 := fun w h hS => ref16_come w t r (pb :: g :: B) ⟨p0, p1, z, p3⟩ h (by omega) hS
          have F2 := fun w h => box_come ⟨p0, p1, z, p3⟩ w b B s HWF2.out HWZ.out h
          generalize t.come ⟨p0, p1, z, p3⟩ = tc at *
          generalize s.come ⟨p0, p1, z, p3⟩ = sc at *
          obtain ⟨t2, e2⟩ := tc
          obtain ⟨s2, e3⟩ := sc
          dsimp only [Pk.val] at hq F1 F2
          obtain ⟨hq1, rfl, hq3, hq4⟩ := hq
          have F1 := Lib.hid F1
          have F2 := Lib.hid F2
          have HQ2 : Hid (Eq16 s2 t2 ∧ t2.ws.length ≤ m + 1 ∧ t2.nx.length ≤ m + 1) := Lib.hid ⟨hq1, by omega, by rw [hq4]; omega⟩
          clear hq1 hq3 hq4 hl1 hl2
          go_upto_region 17 with (first | (go_at_call 24; ((with_reducible refine (F1.out _ HR6.out HS6.out).mono ?_); rintro e w7 ⟨r2, rfl, hR7, hb7⟩; have hG7 := Below.at hb7 HG6.out hgl; have hP7 := Below.at hb7 HP6.out hpl; have l7 := fun j => frozen_at hG7 j; have fG7 := fun j => cell_at hG7 j; have f7 := fun j => cell_at hP7 j; have hgl7 := block_lt hG7; have hpl7 := block_lt hP7; have HG7 := Lib.hid hG7; have HP7 := Lib.hid hP7; have HR7 := Lib.hid hR7; have HK7 := Lib.hid (HK6.out.below hb7); have HW7 := Lib.hid (HW6.out.trans (hb7.mono HW6.out.size)); clear hG7 hP7 hR7 hb7)))
          have ho : Only [g] w7 (((((w7.setCell ⟨g, 0, none⟩ (.int .i64 (t2.n : Int))).setCell ⟨g, 1, none⟩ (.slice r2.a1 t2.q.length r2.c1)).setCell ⟨g, 2, none⟩ (.slice r2.a2 t2.ws.length r2.c2)).setCell ⟨g, 3, none⟩ (.slice r2.a3 t2.nx.length r2.c3)).alloc (.cells (r2.vals t2) 44)) := by repeat' (first | (with_reducible assumption) | (with_reducible refine only_setRowN ?_ ?_ _) | (with_reducible exact Only.refl _ _) | (with_reducible refine Only.setCell ?_ ?_ _) | (with_reducible refine Only.drewN ?_ _) | (with_reducible refine Only.drew ?_) | (with_reducible refine Only.alloc ?_ _) | (simp; done) | (simp; omega))
          have hG8 : (((((w7.setCell ⟨g, 0, none⟩ (.int .i64 (t2.n : Int))).setCell ⟨g, 1, none⟩ (.slice r2.a1 t2.q.length r2.c1)).setCell ⟨g, 2, none⟩ (.slice r2.a2 t2.ws.length r2.c2)).setCell ⟨g, 3, none⟩ (.slice r2.a3 t2.nx.length r2.c3)).alloc (.cells (r2.vals t2) 44)).heap[g]? = some (.cells (r2.vals t2) 44 (0, 0)) := (alloc_old (stored4 HG7.out) _)
          have hP8 := ho.at HP7.out (show pb ∉ [g] by simpa using hne)
          have hR8 := HR7.out.only ho (fun x hx => by rw [List.mem_singleton.1 hx]; simp)
          have hK8 := HK7.out.only ho (fun k hk hm => HgB.out (List.mem_singleton.1 hm ▸ hk))
          have hW8 := HW7.out.trans (only_below ho (fun k hk => by rw [List.mem_singleton.1 hk]; exact hgw) HW7.out.size)
          clear HG7 HP7 HR7 HK7 HW7 l7 f7 fG7
          generalize ((((w7.setCell ⟨g, 0, none⟩ (.int .i64 (t2.n : Int))).setCell ⟨g, 1, none⟩ (.slice r2.a1 t2.q.length r2.c1)).setCell ⟨g, 2, none⟩ (.slice r2.a2 t2.ws.length r2.c2)).setCell ⟨g, 3, none⟩ (.slice r2.a3 t2.nx.length r2.c3)).alloc (.cells (r2.vals t2) 44) = w8 at *
          have HG8 := Lib.hid hG8
          have HP8 := Lib.hid hP8
          have HR8 := Lib.hid hR8
          have HK8 := Lib.hid hK8
          have HW8 := Lib.hid hW8
          have f8 := fun j => cell_at hP8 j
          clear hG8 hP8 hR8 hK8 hW8 ho
          go_wp2_with (go_at_call 13; (with_reducible refine (F2.out _ HK8.out).mono ?_); rintro e w9 ⟨rfl, hBn, hOn⟩; have HK9 := Lib.hid hBn; have HO9 := Lib.hid hOn; clear hBn hOn)
          go_meet
          have hw9 := HW8.out.trans (only_below HO9.out HBw.out HW8.out.size)
          exact ⟨rfl, s2, t2, r2, HK9.out, HO9.out.at HG8.out HgB.out, (HR8.out.only HO9.out (fun x hx => by simp [hx])).weak (fun x hx => List.mem_cons_of_mem _ hx), HQ2, HO9.out.at HP8.out (fun hm => Nat.lt_irrefl _ (HKB.out _ hm)), hw9⟩
        · skip
          have hl1 := HQ.out.2.1
          have hl2 := HQ.out.2.2
          have F1 := fun w h hS => ref16_tell w s t r (pb :: g :: B) HQ.out.1 HK6.out.ok h hS (by omega)
          have F2 := fun w h => box_tell w b B s h
          generalize s.tell = sc at *
          obtain ⟨s2, f⟩ := sc
          dsimp only at F1 F2
          have F1 := Lib.hid F1
          have F2 := Lib.hid F2
          clear hl1 hl2
          go_upto_region 21 with (first | (go_at_call 25; ((with_reducible refine (F1.out _ HR6.out HS6.out).mono ?_); rintro e w7 ⟨r2, t2, rfl, hq2, hR7, hb7⟩; have hG7 := Below.at hb7 HG6.out hgl; have hP7 := Below.at hb7 HP6.out hpl; have l7 := fun j => frozen_at hG7 j; have fG7 := fun j => cell_at hG7 j; have f7 := fun j => cell_at hP7 j; have hgl7 := block_lt hG7; have hpl7 := block_lt hP7; have HG7 := Lib.hid hG7; have HP7 := Lib.hid hP7; have HR7 := Lib.hid hR7; have HK7 := Lib.hid (HK6.out.below hb7); have HW7 := Lib.hid (HW6.out.trans (hb7.mono HW6.out.size)); clear hG7 hP7 hR7 hb7)))
          have HQ2 : Hid (Eq16 s2 t2 ∧ t2.ws.length ≤ m + 1 ∧ t2.nx.length ≤ m + 1) := Lib.hid ⟨hq2.1, by have := HQ.out.2.1; omega, by have := HQ.out.2.2; omega⟩
          clear hq2
          have ho : Only [g] w7 (((((w7.setCell ⟨g, 0, none⟩ (.int .i64 (t2.n : Int))).setCell ⟨g, 1, none⟩ (.slice r2.a1 t2.q.length r2.c1)).setCell ⟨g, 2, none⟩ (.slice r2.a2 t2.ws.length r2.c2)).setCell ⟨g, 3, none⟩ (.slice r2.a3 t2.nx.length r2.c3)).alloc (.cells (r2.vals t2) 44)) := by repeat' (first | (with_reducible assumption) | (with_reducible refine only_setRowN ?_ ?_ _) | (with_reducible exact Only.refl _ _) | (with_reducible refine Only.setCell ?_ ?_ _) | (with_reducible refine Only.drewN ?_ _) | (with_reducible refine Only.drew ?_) | (with_reducible refine Only.alloc ?_ _) | (simp; done) | (simp; omega))
          have hG8 : (((((w7.setCell ⟨g, 0, none⟩ (.int .i64 (t2.n : Int))).setCell ⟨g, 1, none⟩ (.slice r2.a1 t2.q.length r2.c1)).setCell ⟨g, 2, none⟩ (.slice r2.a2 t2.ws.length r2.c2)).setCell ⟨g, 3, none⟩ (.slice r2.a3 t2.nx.length r2.c3)).alloc (.cells (r2.vals t2) 44)).heap[g]? = some (.cells (r2.vals t2) 44 (0, 0)) := (alloc_old (stored4 HG7.out) _)
          have hP8 := ho.at HP7.out (show pb ∉ [g] by simpa using hne)
          have hR8 := HR7.out.only ho (fun x hx => by rw [List.mem_singleton.1 hx]; simp)
          have hK8 := HK7.out.only ho (fun k hk hm => HgB.out (List.mem_singleton.1 hm ▸ hk))
          have hW8 := HW7.out.trans (only_below ho (fun k hk => by rw [List.mem_singleton.1 hk]; exact hgw) HW7.out.size)
          clear HG7 HP7 HR7 HK7 HW7 l7 f7 fG7
          generalize ((((w7.setCell ⟨g, 0, none⟩ (.int .i64 (t2.n : Int))).setCell ⟨g, 1, none⟩ (.slice r2.a1 t2.q.length r2.c1)).setCell ⟨g, 2, none⟩ (.slice r2.a2 t2.ws.length r2.c2)).setCell ⟨g, 3, none⟩ (.slice r2.a3 t2.nx.length r2.c3)).alloc (.cells (r2.vals t2) 44) = w8 at *
          have HG8 := Lib.hid hG8
          have HP8 := Lib.hid hP8
          have HR8 := Lib.hid hR8
          have HK8 := Lib.hid hK8
          have HW8 := Lib.hid hW8
          have f8 := fun j => cell_at hP8 j
          clear hG8 hP8 hR8 hK8 hW8 ho
          go_wp2_with (go_at_call 14; (with_reducible refine (F2.out _ HK8.out).mono ?_); rintro e w9 ⟨rfl, hBn, hOn⟩; have HK9 := Lib.hid hBn; have HO9 := Lib.hid hOn; clear hBn hOn)
          go_meet
          have hw9 := HW8.out.trans (only_below HO9.out HBw.out HW8.out.size)
          exact ⟨rfl, s2, t2, r2, HK9.out, HO9.out.at HG8.out HgB.out, (HR8.out.only HO9.out (fun x hx => by simp [hx])).weak (fun x hx => List.mem_cons_of_mem _ hx), HQ2, HO9.out.at HP8.out (fun hm => Nat.lt_irrefl _ (HKB.out _ hm)), hw9⟩
        · skip
          have hq := HQ.out.1.recv
          have F1 := fun w h hS => ref16_recv w t r (pb :: g :: B) h hS
          have F2 := fun w h => box_recv w b B s h
          generalize t.recv = tc at *
          generalize s.recv = sc at *
          obtain ⟨t2, te⟩ := tc
          obtain ⟨s2, ⟨⟨y0, y1, y2, y3⟩, e3⟩⟩ := sc
          dsimp only at hq F1 F2
          obtain ⟨hq1, rfl, hq3, hq4⟩ := hq
          have F1 := Lib.hid F1
          have F2 := Lib.hid F2
          have HQ2 : Hid (Eq16 s2 t2 ∧ t2.ws.length ≤ m + 1 ∧ t2.nx.length ≤ m + 1) := Lib.hid ⟨hq1, by rw [hq3]; have := HQ.out.2.1; omega, by rw [hq4]; have := HQ.out.2.2; omega⟩
          clear hq1 hq3 hq4
          go_upto_region 25 with (first | (go_at_call 26; ((with_reducible refine (F1.out _ HR6.out HS6.out).mono ?_); rintro e w7 ⟨r2, rfl, hR7, hb7⟩; have hG7 := Below.at hb7 HG6.out hgl; have hP7 := Below.at hb7 HP6.out hpl; have l7 := fun j => frozen_at hG7 j; have fG7 := fun j => cell_at hG7 j; have f7 := fun j => cell_at hP7 j; have hgl7 := block_lt hG7; have hpl7 := block_lt hP7; have HG7 := Lib.hid hG7; have HP7 := Lib.hid hP7; have HR7 := Lib.hid hR7; have HK7 := Lib.hid (HK6.out.below hb7); have HW7 := Lib.hid (HW6.out.trans (hb7.mono HW6.out.size)); clear hG7 hP7 hR7 hb7)))
          have hY8 : ((((((w7.setCell ⟨g, 0, none⟩ (.int .i64 (t2.n : Int))).setCell ⟨g, 1, none⟩ (.slice r2.a1 t2.q.length r2.c1)).setCell ⟨g, 2, none⟩ (.slice r2.a2 t2.ws.length r2.c2)).setCell ⟨g, 3, none⟩ (.slice r2.a3 t2.nx.length r2.c3)).alloc (.cells (r2.vals t2) 44)).alloc (.cells #[.int .i64 y0, .int .i64 y1, .int .i64 y2, .string y3] 30)).heap[w7.heap.size + 1]? = some (.cells #[.int .i64 y0, .int .i64 y1, .int .i64 y2, .string y3] 30 (0, 0)) := alloc_atK _ _ (by simp)
          have hyB : w7.heap.size + 1 ∉ B := fun hm => by have := HK7.out.lt _ hm; omega
          have ho : Only [g] w7 ((((((w7.setCell ⟨g, 0, none⟩ (.int .i64 (t2.n : Int))).setCell ⟨g, 1, none⟩ (.slice r2.a1 t2.q.length r2.c1)).setCell ⟨g, 2, none⟩ (.slice r2.a2 t2.ws.length r2.c2)).setCell ⟨g, 3, none⟩ (.slice r2.a3 t2.nx.length r2.c3)).alloc (.cells (r2.vals t2) 44)).alloc (.cells #[.int .i64 y0, .int .i64 y1, .int .i64 y2, .string y3] 30)) := by repeat' (first | (with_reducible assumption) | (with_reducible refine only_setRowN ?_ ?_ _) | (with_reducible exact Only.refl _ _) | (with_reducible refine Only.setCell ?_ ?_ _) | (with_reducible refine Only.drewN ?_ _) | (with_reducible refine Only.drew ?_) | (with_reducible refine Only.alloc ?_ _) | (simp; done) | (simp; omega))
          have hG8 : ((((((w7.setCell ⟨g, 0, none⟩ (.int .i64 (t2.n : Int))).setCell ⟨g, 1, none⟩ (.slice r2.a1 t2.q.length r2.c1)).setCell ⟨g, 2, none⟩ (.slice r2.a2 t2.ws.length r2.c2)).setCell ⟨g, 3, none⟩ (.slice r2.a3 t2.nx.length r2.c3)).alloc (.cells (r2.vals t2) 44)).alloc (.cells #[.int .i64 y0, .int .i64 y1, .int .i64 y2, .string y3] 30)).heap[g]? = some (.cells (r2.vals t2) 44 (0, 0)) := (alloc_old (alloc_old (stored4 HG7.out) _) _)
          have hP8 := ho.at HP7.out (show pb ∉ [g] by simpa using hne)
          have hR8 := HR7.out.only ho (fun x hx => by rw [List.mem_singleton.1 hx]; simp)
          have hK8 := HK7.out.only ho (fun k hk hm => HgB.out (List.mem_singleton.1 hm ▸ hk))
          have hW8 := HW7.out.trans (only_below ho (fun k hk => by rw [List.mem_singleton.1 hk]; exact hgw) HW7.out.size)
          clear HG7 HP7 HR7 HK7 HW7 l7 f7 fG7
          generalize (((((w7.setCell ⟨g, 0, none⟩ (.int .i64 (t2.n : Int))).setCell ⟨g, 1, none⟩ (.slice r2.a1 t2.q.length r2.c1)).setCell ⟨g, 2, none⟩ (.slice r2.a2 t2.ws.length r2.c2)).setCell ⟨g, 3, none⟩ (.slice r2.a3 t2.nx.length r2.c3)).alloc (.cells (r2.vals t2) 44)).alloc (.cells #[.int .i64 y0, .int .i64 y1, .int .i64 y2, .string y3] 30) = w8 at *
          have HG8 := Lib.hid hG8
          have HP8 := Lib.hid hP8
          have HR8 := Lib.hid hR8
          have HK8 := Lib.hid hK8
          have HW8 := Lib.hid hW8
          have f8 := fun j => cell_at hP8 j
          clear hG8 hP8 hR8 hK8 hW8 ho
          have HY8 := Lib.hid hY8
          have HYB := Lib.hid hyB
          clear hY8 hyB
          go_wp2_with (go_at_call 15; (with_reducible refine (F2.out _ HK8.out).mono ?_); rintro e w9 ⟨rfl, hBn, hOn⟩; have hY9 := hOn.at HY8.out HYB.out; have y9 := fun j => cell_at hY9 j; have hy9l := block_lt hY9; have HK9 := Lib.hid hBn; have HO9 := Lib.hid hOn; clear hBn hOn hY9)
          go_meet
          have hw9 := HW8.out.trans (only_below HO9.out HBw.out HW8.out.size)
          exact ⟨rfl, s2, t2, r2, HK9.out.alloc _, alloc_old (HO9.out.at HG8.out HgB.out) _, ((HR8.out.only HO9.out (fun x hx => by simp [hx])).weak (fun x hx => List.mem_cons_of_mem _ hx)).below ((Below.refl _ _).alloc (Nat.le_refl _) _), HQ2, alloc_old (HO9.out.at HP8.out (fun hm => Nat.lt_irrefl _ (HKB.out _ hm))) _, hw9.alloc hw9.size _⟩
        · skip
          have hq := HQ.out.1.come ⟨p0, p1, z, p3⟩
          have hl1 := HQ.out.2.1
          have hl2 := HQ.out.2.2
          have F1 := fun w h hS => ref16_come w t r (pb :: g :: B) ⟨p0, p1, z, p3⟩ h (by omega) hS
          have F2 := fun w h => box_come ⟨p0, p1, z, p3⟩ w b B s HWF2.out HWZ.out h
          generalize t.come ⟨p0, p1, z, p3⟩ = tc at *
          generalize s.come ⟨p0, p1, z, p3⟩ = sc at *
          obtain ⟨t2, e2⟩ := tc
          obtain ⟨s2, e3⟩ := sc
          dsimp only [Pk.val] at hq F1 F2
          obtain ⟨hq1, rfl, hq3, hq4⟩ := hq
          have F1 := Lib.hid F1
          have F2 := Lib.hid F2
          have HQ2 : Hid (Eq16 s2 t2 ∧ t2.ws.length ≤ m + 1 ∧ t2.nx.length ≤ m + 1) := Lib.hid ⟨hq1, by omega, by rw [hq4]; omega⟩
          clear hq1 hq3 hq4 hl1 hl2
          go_upto_region 17 with (first | (go_at_call 24; ((with_reducible refine (F1.out _ HR6.out HS6.out).mono ?_); rintro e w7 ⟨r2, rfl, hR7, hb7⟩; have hG7 := Below.at hb7 HG6.out hgl; have hP7 := Below.at hb7 HP6.out hpl; have l7 := fun j => frozen_at hG7 j; have fG7 := fun j => cell_at hG7 j; have f7 := fun j => cell_at hP7 j; have hgl7 := block_lt hG7; have hpl7 := block_lt hP7; have HG7 := Lib.hid hG7; have HP7 := Lib.hid hP7; have HR7 := Lib.hid hR7; have HK7 := Lib.hid (HK6.out.below hb7); have HW7 := Lib.hid (HW6.out.trans (hb7.mono HW6.out.size)); clear hG7 hP7 hR7 hb7)))
          have ho : Only [g] w7 (((((w7.setCell ⟨g, 0, none⟩ (.int .i64 (t2.n : Int))).setCell ⟨g, 1, none⟩ (.slice r2.a1 t2.q.length r2.c1)).setCell ⟨g, 2, none⟩ (.slice r2.a2 t2.ws.length r2.c2)).setCell ⟨g, 3, none⟩ (.slice r2.a3 t2.nx.length r2.c3)).alloc (.cells (r2.vals t2) 44)) := by repeat' (first | (with_reducible assumption) | (with_reducible refine only_setRowN ?_ ?_ _) | (with_reducible exact Only.refl _ _) | (with_reducible refine Only.setCell ?_ ?_ _) | (with_reducible refine Only.drewN ?_ _) | (with_reducible refine Only.drew ?_) | (with_reducible refine Only.alloc ?_ _) | (simp; done) | (simp; omega))
          have hG8 : (((((w7.setCell ⟨g, 0, none⟩ (.int .i64 (t2.n : Int))).setCell ⟨g, 1, none⟩ (.slice r2.a1 t2.q.length r2.c1)).setCell ⟨g, 2, none⟩ (.slice r2.a2 t2.ws.length r2.c2)).setCell ⟨g, 3, none⟩ (.slice r2.a3 t2.nx.length r2.c3)).alloc (.cells (r2.vals t2) 44)).heap[g]? = some (.cells (r2.vals t2) 44 (0, 0)) := (alloc_old (stored4 HG7.out) _)
          have hP8 := ho.at HP7.out (show pb ∉ [g] by simpa using hne)
          have hR8 := HR7.out.only ho (fun x hx => by rw [List.mem_singleton.1 hx]; simp)
          have hK8 := HK7.out.only ho (fun k hk hm => HgB.out (List.mem_singleton.1 hm ▸ hk))
          have hW8 := HW7.out.trans (only_below ho (fun k hk => by rw [List.mem_singleton.1 hk]; exact hgw) HW7.out.size)
          clear HG7 HP7 HR7 HK7 HW7 l7 f7 fG7
          generalize ((((w7.setCell ⟨g, 0, none⟩ (.int .i64 (t2.n : Int))).setCell ⟨g, 1, none⟩ (.slice r2.a1 t2.q.length r2.c1)).setCell ⟨g, 2, none⟩ (.slice r2.a2 t2.ws.length r2.c2)).setCell ⟨g, 3, none⟩ (.slice r2.a3 t2.nx.length r2.c3)).alloc (.cells (r2.vals t2) 44) = w8 at *
          have HG8 := Lib.hid hG8
          have HP8 := Lib.hid hP8
          have HR8 := Lib.hid hR8
          have HK8 := Lib.hid hK8
          have HW8 := Lib.hid hW8
          have f8 := fun j => cell_at hP8 j
          clear hG8 hP8 hR8 hK8 hW8 ho
          go_wp2_with (go_at_call 13; (with_reducible refine (F2.out _ HK8.out).mono ?_); rintro e w9 ⟨rfl, hBn, hOn⟩; have HK9 := Lib.hid hBn; have HO9 := Lib.hid hOn; clear hBn hOn)
          go_meet
          have hw9 := HW8.out.trans (only_below HO9.out HBw.out HW8.out.size)
          exact ⟨rfl, s2, t2, r2, HK9.out, HO9.out.at HG8.out HgB.out, (HR8.out.only HO9.out (fun x hx => by simp [hx])).weak (fun x hx => List.mem_cons_of_mem _ hx), HQ2, HO9.out.at HP8.out (fun hm => Nat.lt_irrefl _ (HKB.out _ hm)), hw9⟩
      case rest =>
      obtain ⟨rfl, s2, t2, r2, hK, hG, hR, HQ2, hP, hW⟩ := hcut
      obtain ⟨w10, rfl⟩ : ∃ x : World, x = wc := ⟨_, rfl⟩
      have HK := Lib.hid hK
      have HG := Lib.hid hG
      have HR := Lib.hid hR
      have HP := Lib.hid hP
      have HW := Lib.hid hW
      have FP := fun w h => box_peek w b B s2 h
      obtain ⟨px, hpx⟩ : ∃ x : Pk, x = s2.q.headD Pk.zero := ⟨_, rfl⟩
      obtain ⟨pe, hpe⟩ : ∃ x : Int, x = s2.peekE := ⟨_, rfl⟩
      rw [← hpx, ← hpe] at FP
      have HPX := Lib.hid (And.intro hpx hpe)
      obtain ⟨x0, x1, x2, x3⟩ := px
      dsimp only [Pk.val] at FP
      have FP := Lib.hid FP
      clear hK hG hR hP hW hpx hpe HP6 HG6 HR6 HK6 HW6 fG fP HS6
      go_upto_region 28 with (go_at_call 27; ((with_reducible refine (FP.out _ HK.out).mono ?_); rintro e w11 ⟨rfl, hb11⟩; have HB11 := Lib.hid hb11; clear hb11))
      have h12 : Below w10.heap.size w10 (w11.alloc (.cells #[.int .i64 x0, .int .i64 x1, .int .i64 x2, .string x3] 30)) := HB11.out.alloc HB11.out.size _
      have hX12 : (w11.alloc (.cells #[.int .i64 x0, .int .i64 x1, .int .i64 x2, .string x3] 30)).heap[w11.heap.size]? = some (.cells #[.int .i64 x0, .int .i64 x1, .int .i64 x2, .string x3] 30 (0, 0)) := alloc_new _
      have hG12 := Below.at h12 HG.out (block_lt HG.out)
      have hP12 := Below.at h12 HP.out (block_lt HP.out)
      have hR12 := HR.out.below h12
      have hK12 := HK.out.below h12
      have hW12 := HW.out.trans (h12.mono HW.out.size)
      clear h12 HB11 HG HP HR HK HW FP
      generalize w11.alloc (.cells #[.int .i64 x0, .int .i64 x1, .int .i64 x2, .string x3] 30) = w12 at *
      generalize w11.heap.size = xb at *
      have HW := Lib.hid hW12
      have HG := Lib.hid hG12
      have HR := Lib.hid hR12
      have HK := Lib.hid hK12
      have HX := Lib.hid hX12
      have HP := Lib.hid hP12
      clear hG12 hP12 hR12 hK12 hW12 hX12
      go_cut [157] (fun v wx => v = .bool false ∧ Aft w12 wx)
      case first =>
        obtain ⟨v, hv, R5⟩ := ref16_ready_fix t2 r2 (g :: B) (HQ2.out.1.ok HK.out.ok).kd
        rw [HQ2.out.1.ready] at hv
        have G1 := fun w h => box_len w b B s2 h
        have G2 := fun w h => box_room w b B s2 h
        have G3 := fun w h => box_waits w b B s2 h
        have G4 := fun w h => box_next w b B s2 p0 HWF.out.1 h
        have G5 := fun w h => box_isready w b B s2 h
        have R4 := fun w h => ref16_of w t2 r2 (g :: B) p0 h
        rw [hv] at G5
        have hnx : s2.next p0 = t2.next p0 := (HQ2.out.1.nx p0).symm
        rw [hnx] at G4
        rw [← HQ2.out.1.q] at G1 G2
        rw [← HQ2.out.1.n] at G2
        rw [← HQ2.out.1.ws] at G3
        have hl1 := HR.out.l1
        have hn2 := (HQ2.out.1.ok HK.out.ok).n2
        have hwr : (t2.n : Int) - (t2.q.length : Int) = IntKind.i64.wrap ((t2.n : Int) - (t2.q.length : Int)) := by
          rw [IntWalk.i64_left, IntWalk.wrap64_in _ (by omega)]
        rw [hwr] at G2
        have fGp := aft_cells HG.out
        have fPp := aft_cells HP.out
        have HKp := Lib.hid (fun p : In (Aft w12) => HK.out.below p.h)
        have HRp := Lib.hid (fun p : In (Aft w12) => HR.out.below p.h)
        have G1 := Lib.hid G1
        have G2 := Lib.hid G2
        have G3 := Lib.hid G3
        have G4 := Lib.hid G4
        have G5 := Lib.hid G5
        have R4 := Lib.hid R4
        have R5 := Lib.hid R5
        clear hv hnx hwr
        refine wp_region_in (Aft w12) (by kernel_rfl) (by kernel_rfl) (Below.drew (Below.refl _ _)) ?_
        repeat (go_big_quiet_step (first
          | (go_at_call 17; exact aft_drew (G1.out _ (HKp.out _)))
          | (go_at_call 28; exact aft_drew (G2.out _ (HKp.out _)))
          | (go_at_call 16; exact aft_drew (G3.out _ (HKp.out _)))
          | (go_at_call 19; exact aft_drew (G4.out _ (HKp.out _)))
          | (go_at_call 18; exact aft_calls (G5.out _ (HKp.out _)))
          | (go_at_call 23; exact aft_calls (R4.out _ (HRp.out _)))
          | (go_at_call 29; exact aft_calls (R5.out _ (HRp.out _)))))
        refine wpQuiet_nil ?_
        intro _ hw'
        obtain ⟨p3, rfl⟩ := hw'
        go_wp2
        go_meet
        exact ⟨rfl, p3.h⟩
      case rest =>
        obtain ⟨rfl, hA⟩ := hcut
        obtain ⟨w13, rfl⟩ : ∃ x : World, x = wc := ⟨_, rfl⟩
        go_upto_region 30 with (fail)
        have hG13 := Below.at hA HG.out (block_lt HG.out)
        have hX13 := Below.at hA HX.out (block_lt HX.out)
        have hR13 := HR.out.below hA
        have hK13 := HK.out.below hA
        have hW13 := HW.out.trans (Below.mono hA HW.out.size)
        have fg := fun j => cell_at hG13 j
        have fx := fun j => cell_at hX13 j
        have hqe : t2.q = s2.q := HQ2.out.1.q
        have hl1 := hR13.l1
        have HFIN : Hid (∃ (s : IS) (t : IS) (r : RX), BoxAt w13.drew b B s ∧ w13.drew.heap[g]? = some (.cells (r.vals t) 44 (0, 0)) ∧ RI w13.drew t r (g :: B) ∧ Hid (Eq16 s t ∧ t.ws.length ≤ m + 1 ∧ t.nx.length ≤ m + 1) ∧ Below w.heap.size w w13.drew) := Lib.hid ⟨s2, t2, r2, hK13.drew, hG13, hR13.below ((Below.refl _ _).drew), HQ2, hW13.drew⟩
        have hq1 := hR13.r1
        cases hqq : s2.q with
        | nil =>
          obtain ⟨-, hpe⟩ := HPX.out
          have hpe8 : pe = 8 := by rw [hpe]; unfold IS.peekE; rw [hqq]; rfl
          have hlq : t2.q.length = 0 := by rw [hqe, hqq]; rfl
          have fg0 : ∀ j, w13.cell? ⟨g, j, none⟩ = (#[.int .i64 (t2.n : Int), .slice r2.a1 0 r2.c1, .slice r2.a2 t2.ws.length r2.c2, .slice r2.a3 t2.nx.length r2.c3] : Array Value)[j]? := fun j => by rw [fg j, ← hlq]
          subst hpe8
          clear fg
          clear hG13 hX13 hR13 hK13 hW13 fx hqe hl1 hq1 hpe hlq hA HPX hqq
          refine wp_region_held_drew (S := (fun w' => (∀ j, w'.cell? ⟨g, j, none⟩ = (#[.int .i64 (t2.n : Int), .slice r2.a1 0 r2.c1, .slice r2.a2 t2.ws.length r2.c2, .slice r2.a3 t2.nx.length r2.c3] : Array Value)[j]?))) (by kernel_rfl) ?_ (fun hHeld0 => ?_)
          · (try dsimp only); exact fg0
          refine wpAnyH_take (i := 0) (v := ?_) rfl (by kernel_rfl) (by kernel_rfl) (by kernel_rfl) (fun _ _ _ h => h) (Or.inl ⟨by rfl, ?_⟩) (by assumption) ?_
          rotate_left
          · (intro w hSw; (try dsimp only at hSw); go_simp; try with_reducible rfl)
          (try simp only [Act.put, List.setIfInBounds_toArray, List.set_cons_zero, List.set_cons_succ, List.getElem_toArray, List.getElem_cons_zero, List.getElem_cons_succ])
          refine wpAnyH_take (i := 1) (v := ?_) rfl (by kernel_rfl) (by kernel_rfl) (by kernel_rfl) (fun _ _ _ h => h) (Or.inl ⟨by rfl, ?_⟩) (by assumption) ?_
          rotate_left
          · (intro w hSw; (try dsimp only at hSw); go_simp; try with_reducible rfl)
          (try simp only [Act.put, List.setIfInBounds_toArray, List.set_cons_zero, List.set_cons_succ, List.getElem_toArray, List.getElem_cons_zero, List.getElem_cons_succ])
          refine wpAnyH_take (i := 2) (v := ?_) rfl (by kernel_rfl) (by kernel_rfl) (by kernel_rfl) (fun _ _ _ h => h) (Or.inl ⟨by rfl, ?_⟩) (by assumption) ?_
          rotate_left
          · (intro w hSw; (try dsimp only at hSw); go_simp; try with_reducible rfl)
          (try simp only [Act.put, List.setIfInBounds_toArray, List.set_cons_zero, List.set_cons_succ, List.getElem_toArray, List.getElem_cons_zero, List.getElem_cons_succ])
          refine wpAnyH_take (i := 3) (v := ?_) rfl (by kernel_rfl) (by kernel_rfl) (by kernel_rfl) (fun _ _ _ h => h) (Or.inl ⟨by rfl, ?_⟩) (by assumption) ?_
          rotate_left
          · (intro w hSw; (try dsimp only at hSw); go_simp; try with_reducible rfl)
          (try simp only [Act.put, List.setIfInBounds_toArray, List.set_cons_zero, List.set_cons_succ, List.getElem_toArray, List.getElem_cons_zero, List.getElem_cons_succ])
          refine wpAnyH_take (i := 4) (v := ?_) rfl (by kernel_rfl) (by kernel_rfl) (by kernel_rfl) (fun _ _ _ h => h) (Or.inl ⟨by rfl, ?_⟩) (by assumption) ?_
          rotate_left
          · (intro w hSw; (try dsimp only at hSw); go_simp; try with_reducible rfl)
          (try simp only [Act.put, List.setIfInBounds_toArray, List.set_cons_zero, List.set_cons_succ, List.getElem_toArray, List.getElem_cons_zero, List.getElem_cons_succ])
          refine wpAnyH_take (i := 5) (v := undef) rfl (by kernel_rfl) (by kernel_rfl) (by kernel_rfl) (fun _ _ _ h => h) (Or.inr ⟨by rfl, rfl⟩) (by assumption) ?_
          (try simp only [Act.put, List.setIfInBounds_toArray, List.set_cons_zero, List.set_cons_succ, List.getElem_toArray, List.getElem_cons_zero, List.getElem_cons_succ])
          refine wpAnyH_take (i := 6) (v := undef) rfl (by kernel_rfl) (by kernel_rfl) (by kernel_rfl) (fun _ _ _ h => h) (Or.inr ⟨by rfl, rfl⟩) (by assumption) ?_
          (try simp only [Act.put, List.setIfInBounds_toArray, List.set_cons_zero, List.set_cons_succ, List.getElem_toArray, List.getElem_cons_zero, List.getElem_cons_succ])
          refine wpAnyH_take (i := 7) (v := undef) rfl (by kernel_rfl) (by kernel_rfl) (by kernel_rfl) (fun _ _ _ h => h) (Or.inr ⟨by rfl, rfl⟩) (by assumption) ?_
          (try simp only [Act.put, List.setIfInBounds_toArray, List.set_cons_zero, List.set_cons_succ, List.getElem_toArray, List.getElem_cons_zero, List.getElem_cons_succ])
          refine wpAnyH_take (i := 8) (v := undef) rfl (by kernel_rfl) (by kernel_rfl) (by kernel_rfl) (fun _ _ _ h => h) (Or.inr ⟨by rfl, rfl⟩) (by assumption) ?_
          (try simp only [Act.put, List.setIfInBounds_toArray, List.set_cons_zero, List.set_cons_succ, List.getElem_toArray, List.getElem_cons_zero, List.getElem_cons_succ])
          refine wpAnyH_take (i := 9) (v := undef) rfl (by kernel_rfl) (by kernel_rfl) (by kernel_rfl) (fun _ _ _ h => h) (Or.inr ⟨by rfl, rfl⟩) (by assumption) ?_
          (try simp only [Act.put, List.setIfInBounds_toArray, List.set_cons_zero, List.set_cons_succ, List.getElem_toArray, List.getElem_cons_zero, List.getElem_cons_succ])
          refine wpAnyH_take (i := 10) (v := undef) rfl (by kernel_rfl) (by kernel_rfl) (by kernel_rfl) (fun _ _ _ h => h) (Or.inr ⟨by rfl, rfl⟩) (by assumption) ?_
          (try simp only [Act.put, List.setIfInBounds_toArray, List.set_cons_zero, List.set_cons_succ, List.getElem_toArray, List.getElem_cons_zero, List.getElem_cons_succ])
          refine wpAnyH_take (i := 11) (v := undef) rfl (by kernel_rfl) (by kernel_rfl) (by kernel_rfl) (fun _ _ _ h => h) (Or.inr ⟨by rfl, rfl⟩) (by assumption) ?_
          (try simp only [Act.put, List.setIfInBounds_toArray, List.set_cons_zero, List.set_cons_succ, List.getElem_toArray, List.getElem_cons_zero, List.getElem_cons_succ])
          refine wpAnyH_take (i := 12) (v := undef) rfl (by kernel_rfl) (by kernel_rfl) (by kernel_rfl) (fun _ _ _ h => h) (Or.inr ⟨by rfl, rfl⟩) (by assumption) ?_
          (try simp only [Act.put, List.setIfInBounds_toArray, List.set_cons_zero, List.set_cons_succ, List.getElem_toArray, List.getElem_cons_zero, List.getElem_cons_succ])
          refine wpAnyH_take (i := 13) (v := undef) rfl (by kernel_rfl) (by kernel_rfl) (by kernel_rfl) (fun _ _ _ h => h) (Or.inr ⟨by rfl, rfl⟩) (by assumption) ?_
          (try simp only [Act.put, List.setIfInBounds_toArray, List.set_cons_zero, List.set_cons_succ, List.getElem_toArray, List.getElem_cons_zero, List.getElem_cons_succ])
          refine wpAnyH_take (i := 14) (v := undef) rfl (by kernel_rfl) (by kernel_rfl) (by kernel_rfl) (fun _ _ _ h => h) (Or.inr ⟨by rfl, rfl⟩) (by assumption) ?_
          (try simp only [Act.put, List.setIfInBounds_toArray, List.set_cons_zero, List.set_cons_succ, List.getElem_toArray, List.getElem_cons_zero, List.getElem_cons_succ])
          refine wpAnyH_take (i := 15) (v := ?_) rfl (by kernel_rfl) (by kernel_rfl) (by kernel_rfl) (fun _ _ _ h => h) (Or.inl ⟨by rfl, ?_⟩) (by assumption) ?_
          rotate_left
          · (intro w hSw; (try dsimp only at hSw); go_simp; try with_reducible rfl)
          (try simp only [Act.put, List.setIfInBounds_toArray, List.set_cons_zero, List.set_cons_succ, List.getElem_toArray, List.getElem_cons_zero, List.getElem_cons_succ])
          refine wpAnyH_take (i := 16) (v := ?_) rfl (by kernel_rfl) (by kernel_rfl) (by kernel_rfl) (fun _ _ _ h => h) (Or.inl ⟨by rfl, ?_⟩) (by assumption) ?_
          rotate_left
          · (intro w hSw; (try dsimp only at hSw); go_simp; try with_reducible rfl)
          (try simp only [Act.put, List.setIfInBounds_toArray, List.set_cons_zero, List.set_cons_succ, List.getElem_toArray, List.getElem_cons_zero, List.getElem_cons_succ])
          refine wpAnyH_take (i := 17) (v := ?_) rfl (by kernel_rfl) (by kernel_rfl) (by kernel_rfl) (fun _ _ _ h => h) (Or.inl ⟨by rfl, ?_⟩) (by assumption) ?_
          rotate_left
          · (intro w hSw; (try dsimp only at hSw); go_simp; try with_reducible rfl)
          (try simp only [Act.put, List.setIfInBounds_toArray, List.set_cons_zero, List.set_cons_succ, List.getElem_toArray, List.getElem_cons_zero, List.getElem_cons_succ])
          refine wpAnyH_take (i := 18) (v := ?_) rfl (by kernel_rfl) (by kernel_rfl) (by kernel_rfl) (fun _ _ _ h => h) (Or.inl ⟨by rfl, ?_⟩) (by assumption) ?_
          rotate_left
          · (intro w hSw; (try dsimp only at hSw); go_simp; try with_reducible rfl)
          (try simp only [Act.put, List.setIfInBounds_toArray, List.set_cons_zero, List.set_cons_succ, List.getElem_toArray, List.getElem_cons_zero, List.getElem_cons_succ])
          refine wpAnyH_take (i := 19) (v := ?_) rfl (by kernel_rfl) (by kernel_rfl) (by kernel_rfl) (fun _ _ _ h => h) (Or.inl ⟨by rfl, ?_⟩) (by assumption) ?_
          rotate_left
          · (intro w hSw; (try dsimp only at hSw); go_simp; try with_reducible rfl)
          (try simp only [Act.put, List.setIfInBounds_toArray, List.set_cons_zero, List.set_cons_succ, List.getElem_toArray, List.getElem_cons_zero, List.getElem_cons_succ])
          refine wpAnyH_take (i := 20) (v := ?_) rfl (by kernel_rfl) (by kernel_rfl) (by kernel_rfl) (fun _ _ _ h => h) (Or.inl ⟨by rfl, ?_⟩) (by assumption) ?_
          rotate_left
          · (intro w hSw; (try dsimp only at hSw); go_simp; try with_reducible rfl)
          (try simp only [Act.put, List.setIfInBounds_toArray, List.set_cons_zero, List.set_cons_succ, List.getElem_toArray, List.getElem_cons_zero, List.getElem_cons_succ])
          refine wpAnyH_take (i := 21) (v := ?_) rfl (by kernel_rfl) (by kernel_rfl) (by kernel_rfl) (fun _ _ _ h => h) (Or.inl ⟨by rfl, ?_⟩) (by assumption) ?_
          rotate_left
          · (intro w hSw; (try dsimp only at hSw); go_simp; try with_reducible rfl)
          (try simp only [Act.put, List.setIfInBounds_toArray, List.set_cons_zero, List.set_cons_succ, List.getElem_toArray, List.getElem_cons_zero, List.getElem_cons_succ])
          refine wpAnyH_take (i := 22) (v := ?_) rfl (by kernel_rfl) (by kernel_rfl) (by kernel_rfl) (fun _ _ _ h => h) (Or.inl ⟨by rfl, ?_⟩) (by assumption) ?_
          rotate_left
          · (intro w hSw; (try dsimp only at hSw); go_simp; try with_reducible rfl)
          (try simp only [Act.put, List.setIfInBounds_toArray, List.set_cons_zero, List.set_cons_succ, List.getElem_toArray, List.getElem_cons_zero, List.getElem_cons_succ])
          refine wpAnyH_take (i := 23) (v := ?_) rfl (by kernel_rfl) (by kernel_rfl) (by kernel_rfl) (fun _ _ _ h => h) (Or.inl ⟨by rfl, ?_⟩) (by assumption) ?_
          rotate_left
          · (intro w hSw; (try dsimp only at hSw); go_simp; try with_reducible rfl)
          (try simp only [Act.put, List.setIfInBounds_toArray, List.set_cons_zero, List.set_cons_succ, List.getElem_toArray, List.getElem_cons_zero, List.getElem_cons_succ])
          refine wpAnyH_take (i := 24) (v := ?_) rfl (by kernel_rfl) (by kernel_rfl) (by kernel_rfl) (fun _ _ _ h => h) (Or.inl ⟨by rfl, ?_⟩) (by assumption) ?_
          rotate_left
          · (intro w hSw; (try dsimp only at hSw); go_simp; try with_reducible rfl)
          (try simp only [Act.put, List.setIfInBounds_toArray, List.set_cons_zero, List.set_cons_succ, List.getElem_toArray, List.getElem_cons_zero, List.getElem_cons_succ])
          refine wpAnyH_take (i := 25) (v := ?_) rfl (by kernel_rfl) (by kernel_rfl) (by kernel_rfl) (fun _ _ _ h => h) (Or.inl ⟨by rfl, ?_⟩) (by assumption) ?_
          rotate_left
          · (intro w hSw; (try dsimp only at hSw); go_simp; try with_reducible rfl)
          (try simp only [Act.put, List.setIfInBounds_toArray, List.set_cons_zero, List.set_cons_succ, List.getElem_toArray, List.getElem_cons_zero, List.getElem_cons_succ])
          refine wpAnyH_done (by kernel_rfl) ?_ _
          go_wp2
          go_roundw
          case rel =>
            obtain ⟨s, t, r, h1, h2, h3, h4, h5⟩ := HFIN.out
            exact ⟨m + 1, s, t, r, by omega, by go_num, h1, h2, h3, h4, h5⟩
          case measure => simp [intOf] <;> omega
        | cons hd tl =>
          obtain ⟨hpx, hpe⟩ := HPX.out
          have hpe0 : pe = 0 := by rw [hpe]; unfold IS.peekE; rw [hqq]; rfl
          rw [hqq] at hpx
          have hhd : (⟨x0, x1, x2, x3⟩ : Pk) = hd := hpx
          have hlq : t2.q.length = tl.length + 1 := by rw [hqe, hqq]; rfl
          obtain ⟨blk2, off2, ha1, _, hblt2, hcell⟩ := CellsOff.elem (i := 0) Pk.clen Pk.zero hq1 (by omega) (by omega)
          have hg0 : t2.q.getD 0 Pk.zero = ⟨x0, x1, x2, x3⟩ := by rw [hqe, hqq, hhd]; rfl
          rw [hg0] at hcell
          have q0 : w13.cell? ⟨blk2, off2, none⟩ = some (.int .i64 x0) := by have := hcell 0 (by omega); simpa [Pk.cells] using this
          have q1 : w13.cell? ⟨blk2, off2 + 1, none⟩ = some (.int .i64 x1) := by have := hcell 1 (by omega); simpa [Pk.cells] using this
          have q2 : w13.cell? ⟨blk2, off2 + 2, none⟩ = some (.int .i64 x2) := by have := hcell 2 (by omega); simpa [Pk.cells] using this
          have q3 : w13.cell? ⟨blk2, off2 + 3, none⟩ = some (.string x3) := by have := hcell 3 (by omega); simpa [Pk.cells] using this
          obtain ⟨lq, hlqe⟩ : ∃ x : Nat, x = t2.q.length := ⟨_, rfl⟩
          have hb0 : 0 < lq := by omega
          have hb1 : ((lq : Int) == 0) = false := beq_eq_false_iff_ne.2 (by omega)
          have hb2 : ¬ (lq = 0) := by omega
          subst hpe0
          have fg1 : ∀ j, w13.cell? ⟨g, j, none⟩ = (#[.int .i64 (t2.n : Int), .slice (some ⟨blk2, off2, none⟩) lq r2.c1, .slice r2.a2 t2.ws.length r2.c2, .slice r2.a3 t2.nx.length r2.c3] : Array Value)[j]? := fun j => by rw [fg j]; unfold RX.vals; rw [ha1, hlqe]
          clear hlqe fg
          clear hG13 hX13 hR13 hK13 hW13 hqe hq1 hpe hlq hA HPX hqq hpx hhd hcell hg0
          clear ha1
          refine wp_region_held_drew (S := (fun w' => (∀ j, w'.cell? ⟨g, j, none⟩ = (#[.int .i64 (t2.n : Int), .slice (some ⟨blk2, off2, none⟩) lq r2.c1, .slice r2.a2 t2.ws.length r2.c2, .slice r2.a3 t2.nx.length r2.c3] : Array Value)[j]?) ∧ (∀ j, w'.cell? ⟨xb, j, none⟩ = (#[.int .i64 x0, .int .i64 x1, .int .i64 x2, .string x3] : Array Value)[j]?) ∧ w'.cell? ⟨blk2, off2, none⟩ = some (.int .i64 x0) ∧ w'.cell? ⟨blk2, off2 + 1, none⟩ = some (.int .i64 x1) ∧ w'.cell? ⟨blk2, off2 + 2, none⟩ = some (.int .i64 x2) ∧ w'.cell? ⟨blk2, off2 + 3, none⟩ = some (.string x3))) (by kernel_rfl) ?_ (fun hHeld0 => ?_)
          · (try dsimp only); exact ⟨fg1, fx, q0, q1, q2, q3⟩
          refine wpAnyH_take (i := 0) (v := ?_) rfl (by kernel_rfl) (by kernel_rfl) (by kernel_rfl) (fun _ _ _ h => h) (Or.inl ⟨by rfl, ?_⟩) (by assumption) ?_
          rotate_left
          · (intro w hSw; (try dsimp only at hSw); go_simp; try with_reducible rfl)
          (try simp only [Act.put, List.setIfInBounds_toArray, List.set_cons_zero, List.set_cons_succ, List.getElem_toArray, List.getElem_cons_zero, List.getElem_cons_succ])
          refine wpAnyH_take (i := 1) (v := ?_) rfl (by kernel_rfl) (by kernel_rfl) (by kernel_rfl) (fun _ _ _ h => h) (Or.inl ⟨by rfl, ?_⟩) (by assumption) ?_
          rotate_left
          · (intro w hSw; (try dsimp only at hSw); go_simp; try with_reducible rfl)
          (try simp only [Act.put, List.setIfInBounds_toArray, List.set_cons_zero, List.set_cons_succ, List.getElem_toArray, List.getElem_cons_zero, List.getElem_cons_succ])
          refine wpAnyH_take (i := 2) (v := ?_) rfl (by kernel_rfl) (by kernel_rfl) (by kernel_rfl) (fun _ _ _ h => h) (Or.inl ⟨by rfl, ?_⟩) (by assumption) ?_
          rotate_left
          · (intro w hSw; (try dsimp only at hSw); go_simp; try with_reducible rfl)
          (try simp only [Act.put, List.setIfInBounds_toArray, List.set_cons_zero, List.set_cons_succ, List.getElem_toArray, List.getElem_cons_zero, List.getElem_cons_succ])
          refine wpAnyH_take (i := 3) (v := ?_) rfl (by kernel_rfl) (by kernel_rfl) (by kernel_rfl) (fun _ _ _ h => h) (Or.inl ⟨by rfl, ?_⟩) (by assumption) ?_
          rotate_left
          · (intro w hSw; (try dsimp only at hSw); go_simp; try with_reducible rfl)
          (try simp only [Act.put, List.setIfInBounds_toArray, List.set_cons_zero, List.set_cons_succ, List.getElem_toArray, List.getElem_cons_zero, List.getElem_cons_succ])
          refine wpAnyH_take (i := 4) (v := ?_) rfl (by kernel_rfl) (by kernel_rfl) (by kernel_rfl) (fun _ _ _ h => h) (Or.inl ⟨by rfl, ?_⟩) (by assumption) ?_
          rotate_left
          · (intro w hSw; (try dsimp only at hSw); go_simp; try with_reducible rfl)
          (try simp only [Act.put, List.setIfInBounds_toArray, List.set_cons_zero, List.set_cons_succ, List.getElem_toArray, List.getElem_cons_zero, List.getElem_cons_succ])
          refine wpAnyH_take (i := 5) (v := ?_) rfl (by kernel_rfl) (by kernel_rfl) (by kernel_rfl) (fun _ _ _ h => h) (Or.inl ⟨by rfl, ?_⟩) (by assumption) ?_
          rotate_left
          · (intro w hSw; (try dsimp only at hSw); go_simp; try with_reducible rfl)
          (try simp only [Act.put, List.setIfInBounds_toArray, List.set_cons_zero, List.set_cons_succ, List.getElem_toArray, List.getElem_cons_zero, List.getElem_cons_succ])
          refine wpAnyH_take (i := 6) (v := ?_) rfl (by kernel_rfl) (by kernel_rfl) (by kernel_rfl) (fun _ _ _ h => h) (Or.inl ⟨by rfl, ?_⟩) (by assumption) ?_
          rotate_left
          · (intro w hSw; (try dsimp only at hSw); go_simp; try with_reducible rfl)
          (try simp only [Act.put, List.setIfInBounds_toArray, List.set_cons_zero, List.set_cons_succ, List.getElem_toArray, List.getElem_cons_zero, List.getElem_cons_succ])
          refine wpAnyH_take (i := 7) (v := ?_) rfl (by kernel_rfl) (by kernel_rfl) (by kernel_rfl) (fun _ _ _ h => h) (Or.inl ⟨by rfl, ?_⟩) (by assumption) ?_
          rotate_left
          · (intro w hSw; (try dsimp only at hSw); go_simp; try with_reducible rfl)
          (try simp only [Act.put, List.setIfInBounds_toArray, List.set_cons_zero, List.set_cons_succ, List.getElem_toArray, List.getElem_cons_zero, List.getElem_cons_succ])
          refine wpAnyH_take (i := 8) (v := ?_) rfl (by kernel_rfl) (by kernel_rfl) (by kernel_rfl) (fun _ _ _ h => h) (Or.inl ⟨by rfl, ?_⟩) (by assumption) ?_
          rotate_left
          · (intro w hSw; (try dsimp only at hSw); go_simp; try with_reducible rfl)
          (try simp only [Act.put, List.setIfInBounds_toArray, List.set_cons_zero, List.set_cons_succ, List.getElem_toArray, List.getElem_cons_zero, List.getElem_cons_succ])
          refine wpAnyH_take (i := 9) (v := ?_) rfl (by kernel_rfl) (by kernel_rfl) (by kernel_rfl) (fun _ _ _ h => h) (Or.inl ⟨by rfl, ?_⟩) (by assumption) ?_
          rotate_left
          · (intro w hSw; (try dsimp only at hSw); go_simp; try with_reducible rfl)
          (try simp only [Act.put, List.setIfInBounds_toArray, List.set_cons_zero, List.set_cons_succ, List.getElem_toArray, List.getElem_cons_zero, List.getElem_cons_succ])
          refine wpAnyH_take (i := 10) (v := ?_) rfl (by kernel_rfl) (by kernel_rfl) (by kernel_rfl) (fun _ _ _ h => h) (Or.inl ⟨by rfl, ?_⟩) (by assumption) ?_
          rotate_left
          · (intro w hSw; (try dsimp only at hSw); go_simp; try with_reducible rfl)
          (try simp only [Act.put, List.setIfInBounds_toArray, List.set_cons_zero, List.set_cons_succ, List.getElem_toArray, List.getElem_cons_zero, List.getElem_cons_succ])
          refine wpAnyH_take (i := 11) (v := ?_) rfl (by kernel_rfl) (by kernel_rfl) (by kernel_rfl) (fun _ _ _ h => h) (Or.inl ⟨by rfl, ?_⟩) (by assumption) ?_
          rotate_left
          · (intro w hSw; (try dsimp only at hSw); go_simp; try with_reducible rfl)
          (try simp only [Act.put, List.setIfInBounds_toArray, List.set_cons_zero, List.set_cons_succ, List.getElem_toArray, List.getElem_cons_zero, List.getElem_cons_succ])
          refine wpAnyH_take (i := 12) (v := ?_) rfl (by kernel_rfl) (by kernel_rfl) (by kernel_rfl) (fun _ _ _ h => h) (Or.inl ⟨by rfl, ?_⟩) (by assumption) ?_
          rotate_left
          · (intro w hSw; (try dsimp only at hSw); go_simp; try with_reducible rfl)
          (try simp only [Act.put, List.setIfInBounds_toArray, List.set_cons_zero, List.set_cons_succ, List.getElem_toArray, List.getElem_cons_zero, List.getElem_cons_succ])
          refine wpAnyH_take (i := 13) (v := ?_) rfl (by kernel_rfl) (by kernel_rfl) (by kernel_rfl) (fun _ _ _ h => h) (Or.inl ⟨by rfl, ?_⟩) (by assumption) ?_
          rotate_left
          · (intro w hSw; (try dsimp only at hSw); go_simp; try with_reducible rfl)
          (try simp only [Act.put, List.setIfInBounds_toArray, List.set_cons_zero, List.set_cons_succ, List.getElem_toArray, List.getElem_cons_zero, List.getElem_cons_succ])
          refine wpAnyH_take (i := 14) (v := ?_) rfl (by kernel_rfl) (by kernel_rfl) (by kernel_rfl) (fun _ _ _ h => h) (Or.inl ⟨by rfl, ?_⟩) (by assumption) ?_
          rotate_left
          · (intro w hSw; (try dsimp only at hSw); go_simp; try with_reducible rfl)
          (try simp only [Act.put, List.setIfInBounds_toArray, List.set_cons_zero, List.set_cons_succ, List.getElem_toArray, List.getElem_cons_zero, List.getElem_cons_succ])
          refine wpAnyH_take (i := 15) (v := ?_) rfl (by kernel_rfl) (by kernel_rfl) (by kernel_rfl) (fun _ _ _ h => h) (Or.inl ⟨by rfl, ?_⟩) (by assumption) ?_
          rotate_left
          · (intro w hSw; (try dsimp only at hSw); go_simp; try with_reducible rfl)
          (try simp only [Act.put, List.setIfInBounds_toArray, List.set_cons_zero, List.set_cons_succ, List.getElem_toArray, List.getElem_cons_zero, List.getElem_cons_succ])
          refine wpAnyH_take (i := 16) (v := ?_) rfl (by kernel_rfl) (by kernel_rfl) (by kernel_rfl) (fun _ _ _ h => h) (Or.inl ⟨by rfl, ?_⟩) (by assumption) ?_
          rotate_left
          · (intro w hSw; (try dsimp only at hSw); go_simp; try with_reducible rfl)
          (try simp only [Act.put, List.setIfInBounds_toArray, List.set_cons_zero, List.set_cons_succ, List.getElem_toArray, List.getElem_cons_zero, List.getElem_cons_succ])
          refine wpAnyH_take (i := 17) (v := ?_) rfl (by kernel_rfl) (by kernel_rfl) (by kernel_rfl) (fun _ _ _ h => h) (Or.inl ⟨by rfl, ?_⟩) (by assumption) ?_
          rotate_left
          · (intro w hSw; (try dsimp only at hSw); go_simp; try with_reducible rfl)
          (try simp only [Act.put, List.setIfInBounds_toArray, List.set_cons_zero, List.set_cons_succ, List.getElem_toArray, List.getElem_cons_zero, List.getElem_cons_succ])
          refine wpAnyH_take (i := 18) (v := ?_) rfl (by kernel_rfl) (by kernel_rfl) (by kernel_rfl) (fun _ _ _ h => h) (Or.inl ⟨by rfl, ?_⟩) (by assumption) ?_
          rotate_left
          · (intro w hSw; (try dsimp only at hSw); go_simp; try with_reducible rfl)
          (try simp only [Act.put, List.setIfInBounds_toArray, List.set_cons_zero, List.set_cons_succ, List.getElem_toArray, List.getElem_cons_zero, List.getElem_cons_succ])
          refine wpAnyH_take (i := 19) (v := ?_) rfl (by kernel_rfl) (by kernel_rfl) (by kernel_rfl) (fun _ _ _ h => h) (Or.inl ⟨by rfl, ?_⟩) (by assumption) ?_
          rotate_left
          · (intro w hSw; (try dsimp only at hSw); go_simp; try with_reducible rfl)
          (try simp only [Act.put, List.setIfInBounds_toArray, List.set_cons_zero, List.set_cons_succ, List.getElem_toArray, List.getElem_cons_zero, List.getElem_cons_succ])
          refine wpAnyH_take (i := 20) (v := ?_) rfl (by kernel_rfl) (by kernel_rfl) (by kernel_rfl) (fun _ _ _ h => h) (Or.inl ⟨by rfl, ?_⟩) (by assumption) ?_
          rotate_left
          · (intro w hSw; (try dsimp only at hSw); go_simp; try with_reducible rfl)
          (try simp only [Act.put, List.setIfInBounds_toArray, List.set_cons_zero, List.set_cons_succ, List.getElem_toArray, List.getElem_cons_zero, List.getElem_cons_succ])
          refine wpAnyH_take (i := 21) (v := ?_) rfl (by kernel_rfl) (by kernel_rfl) (by kernel_rfl) (fun _ _ _ h => h) (Or.inl ⟨by rfl, ?_⟩) (by assumption) ?_
          rotate_left
          · (intro w hSw; (try dsimp only at hSw); go_simp; try with_reducible rfl)
          (try simp only [Act.put, List.setIfInBounds_toArray, List.set_cons_zero, List.set_cons_succ, List.getElem_toArray, List.getElem_cons_zero, List.getElem_cons_succ])
          refine wpAnyH_take (i := 22) (v := undef) rfl (by kernel_rfl) (by kernel_rfl) (by kernel_rfl) (fun _ _ _ h => h) (Or.inr ⟨by rfl, rfl⟩) (by assumption) ?_
          (try simp only [Act.put, List.setIfInBounds_toArray, List.set_cons_zero, List.set_cons_succ, List.getElem_toArray, List.getElem_cons_zero, List.getElem_cons_succ])
          refine wpAnyH_take (i := 23) (v := undef) rfl (by kernel_rfl) (by kernel_rfl) (by kernel_rfl) (fun _ _ _ h => h) (Or.inr ⟨by rfl, rfl⟩) (by assumption) ?_
          (try simp only [Act.put, List.setIfInBounds_toArray, List.set_cons_zero, List.set_cons_succ, List.getElem_toArray, List.getElem_cons_zero, List.getElem_cons_succ])
          refine wpAnyH_take (i := 24) (v := ?_) rfl (by kernel_rfl) (by kernel_rfl) (by kernel_rfl) (fun _ _ _ h => h) (Or.inl ⟨by rfl, ?_⟩) (by assumption) ?_
          rotate_left
          · (intro w hSw; (try dsimp only at hSw); go_simp; try with_reducible rfl)
          (try simp only [Act.put, List.setIfInBounds_toArray, List.set_cons_zero, List.set_cons_succ, List.getElem_toArray, List.getElem_cons_zero, List.getElem_cons_succ])
          refine wpAnyH_take (i := 25) (v := ?_) rfl (by kernel_rfl) (by kernel_rfl) (by kernel_rfl) (fun _ _ _ h => h) (Or.inl ⟨by rfl, ?_⟩) (by assumption) ?_
          rotate_left
          · (intro w hSw; (try dsimp only at hSw); go_simp; try with_reducible rfl)
          (try simp only [Act.put, List.setIfInBounds_toArray, List.set_cons_zero, List.set_cons_succ, List.getElem_toArray, List.getElem_cons_zero, List.getElem_cons_succ])
          refine wpAnyH_done (by kernel_rfl) ?_ _
          go_wp2
          go_roundw
          case rel =>
            obtain ⟨s, t, r, h1, h2, h3, h4, h5⟩ := HFIN.out
            exact ⟨m + 1, s, t, r, by omega, by go_num, h1, h2, h3, h4, h5⟩
          case measure => simp [intOf] <;> omega
    · have hmI : ¬ ((m : Int) < (L.length : Int)) := by omega
      clear hK hG hR hbw
      go_wp2
      go_ret
      exact ⟨rfl, HWW.out⟩
end Go.Proofs.Ytajbfmdgnkpjgaa
