/- A ring's New, Push and Pop. -/
import Derived.Test.YtmehfflomgldeabRingC
namespace Go.Proofs.Ytmehfflomgldeab
set_option linter.unusedVariables false
open Go.RowKit

theorem infoInt : (Try.prog.info? 3).map (fun i => (i.zero, i.size, i.bytes)) = some (some (.int .i64 0), 1, 8) := by kernel_rfl
theorem made_ints (n : Nat) : madeCells (Value.int .i64 0).cells (n * 1) = ((List.replicate n (0 : Int)).map (Value.int .i64)).toArray := by
  apply Array.ext'
  rw [Nat.mul_one]
  have := toList_madeCells_one (Value.int .i64 0) n
  simpa [Value.cells] using this
/-- How many places there are. -/
def roomN (room : Int) : Nat := (min (max room 1) 4096).toNat
theorem new_walk (room begin' : Int) (w : World) :
    Calls Try.prog 53 #[.int .i64 room, .int .u32 begin'] w fun e w' => e = .returned (.pointer (some ⟨w.heap.size + 1, 0, none⟩)) ∧ w' = (w.alloc (.cells (madeCells (Value.int .i64 0).cells (roomN room * 1)) 3)).alloc (.cells #[.slice (some ⟨w.heap.size, 0, none⟩) (roomN room) (roomN room), .int .u32 begin', .int .u32 begin', .int .i64 0, .bool false] 135) := by
  by_cases h1 : room < 1
  · have e : roomN room = 1 := by unfold roomN; omega
    rw [e]
    clear e
    go_enter Try.func53, Try.ntmps53
    go_wp2_with (first | (at_make; refine make_new 27 3 _ 1 8 infoInt Try.underlying27 1 (by omega) (by unfold maxLen; omega) rfl _ _ rfl .i64 .i64 _ _ rfl rfl (by first | rfl | omega) (by first | rfl | omega) ?_))
    go_ret
    exact ⟨rfl, rfl⟩
  · by_cases h2 : 4096 < room
    · have e : roomN room = 4096 := by unfold roomN; omega
      rw [e]
      clear e
      go_enter Try.func53, Try.ntmps53
      go_wp2_with (first | (at_make; refine make_new 27 3 _ 1 8 infoInt Try.underlying27 4096 (by omega) (by unfold maxLen; omega) rfl _ _ rfl .i64 .i64 _ _ rfl rfl (by first | rfl | omega) (by first | rfl | omega) ?_))
      go_ret
      exact ⟨rfl, rfl⟩
    · obtain ⟨n, rfl⟩ := Int.eq_ofNat_of_zero_le (by omega : 0 ≤ room)
      have e : roomN (n : Int) = n := by unfold roomN; omega
      rw [e]
      clear e
      go_enter Try.func53, Try.ntmps53
      go_wp2_with (first | (at_make; refine make_new 27 3 _ 1 8 infoInt Try.underlying27 n (by omega) (by unfold maxLen; omega) rfl _ _ rfl .i64 .i64 _ _ rfl rfl (by first | rfl | omega) (by first | rfl | omega) ?_))
      go_ret
      exact ⟨rfl, rfl⟩
theorem ring_new (room begin' : Int) (w : World) (hb0 : 0 ≤ begin') (hb1 : begin' < 4294967296) :
    Calls Try.prog 53 #[.int .i64 room, .int .u32 begin'] w fun e w' => ∃ b g, e = .returned (.pointer (some ⟨b, 0, none⟩)) ∧ RingAt w' b g (RS.new room begin'.toNat) ∧ w.heap.size ≤ b ∧ w.heap.size ≤ g ∧ Below w.heap.size w w' := by
  obtain ⟨begin', rfl⟩ := Int.eq_ofNat_of_zero_le hb0
  rw [Int.toNat_natCast]
  have hok := RS.new_ok (α := Int) room begin' (by omega)
  refine (new_walk room begin' w).mono ?_
  rintro e w' ⟨rfl, rfl⟩
  refine ⟨_, w.heap.size, rfl, ⟨hok, List.replicate (roomN room) 0, 0, ⟨?_, ?_, by omega⟩, List.length_replicate, hok.n1, fun i hi => by simp [RS.new] at hi, fun v hv => by simp [RS.new] at hv⟩, by omega, by omega, ?_⟩
  · have := alloc_new (w := w.alloc (.cells (madeCells (Value.int .i64 0).cells (roomN room * 1)) 3)) (.cells #[.slice (some ⟨w.heap.size, 0, none⟩) (roomN room) (roomN room), .int .u32 (begin' : Int), .int .u32 (begin' : Int), .int .i64 0, .bool false] 135)
    rw [World.size_alloc] at this
    rw [this, List.length_replicate]
    rfl
  · apply alloc_old
    rw [made_ints]
    exact alloc_new _
  · exact ((Below.refl _ _).alloc (Nat.le_refl _) _).alloc (by simp) _
theorem ring_push (w : World) (b g : Nat) (s : RS Int) (v : Int) (h : RingAt w b g s) :
    Calls Try.prog 65 #[.pointer (some ⟨b, 0, none⟩), .int .i64 v] w fun e w' => e = .returned (.int .i64 (s.push v).2) ∧ RingAt w' b g (s.push v).1 ∧ Only [b, g] w w' := by
  have HL := ring_lay w b g s v h
  by_cases e1 : (s.lay v).2 = 0
  · have e2 : s.push v = (s.lay v).1.publish := by rw [RS.push_eq, if_pos e1]
    have e3 : (s.lay v).1.publish.2 = 0 := by
      have hl : (s.lay v).1.ld = some v := by
        unfold RS.lay at e1 ⊢
        by_cases c1 : s.ld.isSome = true
        · rw [if_pos c1] at e1; simp at e1
        · by_cases c2 : s.q.length = s.n
          · rw [if_neg c1, if_pos c2] at e1; simp at e1
          · rw [if_neg c1, if_neg c2]
      unfold RS.publish; rw [hl]
    rw [e2]
    rw [e1] at HL
    have HP := fun w h => ring_publish w b g (s.lay v).1 h
    rw [e3] at HP ⊢
    generalize (s.lay v).1.publish.1 = s2 at HP ⊢
    generalize (s.lay v).1 = s1 at HL HP
    have HL2 := Lib.hid HL
    have HP2 := Lib.hid HP
    clear HL HP e1 e2 e3
    go_enter Try.func65, Try.ntmps65
    go_wp2_with (first | (go_at_call 90; refine HL2.out.mono ?_; rintro e w1 ⟨rfl, hR, hO⟩) | (go_at_call 91; refine (HP2.out _ hR).mono ?_; rintro e w2 ⟨rfl, hR2, hO2⟩))
    go_ret
    exact ⟨rfl, hR2, hO.trans hO2⟩
  · have e2 : s.push v = s.lay v := by rw [RS.push_eq, if_neg e1]
    rw [e2]
    have hne : ((s.lay v).2 != 0) = true := by rw [bne_iff_ne]; exact e1
    generalize s.lay v = r at HL hne ⊢
    obtain ⟨s1, r2⟩ := r
    dsimp only at HL hne ⊢
    have HL2 := Lib.hid HL
    clear HL e1 e2
    go_enter Try.func65, Try.ntmps65
    go_wp2_with (first | (go_at_call 90; refine HL2.out.mono ?_; rintro e w1 ⟨rfl, hR, hO⟩))
    go_ret
    exact ⟨rfl, hR, hO⟩
theorem ring_pop (w : World) (b g : Nat) (s : RS Int) (h : RingAt w b g s) :
    Calls Try.prog 66 #[.pointer (some ⟨b, 0, none⟩)] w fun e w' => e = .returned (.tuple #[.int .i64 (s.q.headD 0), .int .i64 s.peekE]) ∧ RingAt w' b g s.free ∧ Only [b, g] w w' := by
  have HK := ring_peek w b g s h
  have HF := fun w h => ring_free w b g s h
  by_cases e1 : s.q.length = 0
  · have e2 : s.peekE = 8 := by unfold RS.peekE; rw [if_pos e1]
    have e3 : s.free = s := by unfold RS.free; rw [if_pos e1]
    rw [e3]
    rw [e2] at HK ⊢
    generalize s.q.headD 0 = y at HK ⊢
    have HK2 := Lib.hid HK
    clear HK HF e1 e2 e3
    go_enter Try.func66, Try.ntmps66
    go_wp2_with (first | (go_at_call 92; refine HK2.out.mono ?_; rintro e w' ⟨rfl, k, rfl⟩))
    go_ret2
    exact ⟨rfl, h.drewN _, (Only.refl _ _).drewN _⟩
  · have e2 : s.peekE = 0 := by unfold RS.peekE; rw [if_neg e1]
    rw [e2] at HK HF ⊢
    generalize s.q.headD 0 = y at HK ⊢
    generalize s.free = s2 at HF ⊢
    have HK2 := Lib.hid HK
    have HF2 := Lib.hid HF
    clear HK HF e1 e2
    go_enter Try.func66, Try.ntmps66
    go_wp2_with (first | (go_at_call 92; refine HK2.out.mono ?_; rintro e w' ⟨rfl, k, rfl⟩) | (go_at_call 93; refine (HF2.out _ (h.drewN _)).mono ?_; rintro e w2 ⟨rfl, hR2, hO2⟩))
    go_ret2
    exact ⟨rfl, hR2, ((Only.refl _ _).drewN _).trans hO2⟩
end Go.Proofs.Ytmehfflomgldeab
