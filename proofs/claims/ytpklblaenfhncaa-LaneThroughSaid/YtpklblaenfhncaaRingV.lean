/- A ring of whole numbers in memory as a list, and its methods' contracts over that list. -/
import Derived.Test.YtpklblaenfhncaaRingU
import Derived.Test.YtpklblaenfhncaaRingState
namespace Go.Proofs.Ytpklblaenfhncaa
set_option linter.unusedVariables false
open Go.RowKit

/-- The ring at block b, its places at block g, reads as s. -/
def RingAt (w : World) (b g : Nat) (s : RS Int) : Prop :=
  s.Ok ∧ ∃ (arr : List Int) (a : Nat), Raw w b g arr s.inn s.out a s.ld.isSome ∧ arr.length = s.n ∧ a < s.n ∧ (∀ i, i < s.q.length → arr.getD ((a + i) % s.n) 0 = s.q.getD i 0) ∧ (∀ v, s.ld = some v → arr.getD ((a + s.q.length) % s.n) 0 = v)
theorem RingAt.only {w w' : World} {b g : Nat} {s : RS Int} {S : List Nat} (h : RingAt w b g s) (ho : Only S w w') (hb : b ∉ S) (hg : g ∉ S) : RingAt w' b g s := by
  obtain ⟨h0, arr, a, h1, h2⟩ := h
  exact ⟨h0, arr, a, h1.only ho hb hg, h2⟩
theorem RingAt.drewN {w : World} {b g : Nat} {s : RS Int} (h : RingAt w b g s) (n : Nat) : RingAt (w.drewN n) b g s := by
  obtain ⟨h0, arr, a, h1, h2⟩ := h
  exact ⟨h0, arr, a, h1.drewN n, h2⟩
theorem RingAt.lt {w : World} {b g : Nat} {s : RS Int} (h : RingAt w b g s) : b < w.heap.size ∧ g < w.heap.size := by
  obtain ⟨h0, arr, a, h1, h2⟩ := h
  exact ⟨block_lt h1.obj, block_lt h1.row⟩
theorem RingAt.ne {w : World} {b g : Nat} {s : RS Int} (h : RingAt w b g s) : b ≠ g := by
  obtain ⟨h0, arr, a, h1, h2⟩ := h
  exact h1.ne
theorem cnt_ok {s : RS Int} (h : s.Ok) : cnt s.inn s.out = s.q.length := h.cnt

theorem ring_len (w : World) (b g : Nat) (s : RS Int) (h : RingAt w b g s) :
    Calls Try.prog 52 #[.pointer (some ⟨b, 0, none⟩)] w fun e w' => e = .returned (.int .i64 ((s.q.length : Nat) : Int)) ∧ ∃ k, w' = w.drewN k := by
  obtain ⟨h0, arr, a, h1, h2⟩ := h
  have := len_raw w b g arr s.inn s.out a _ h1 h0.li h0.lo
  rwa [cnt_ok h0] at this
theorem ring_room (w : World) (b g : Nat) (s : RS Int) (h : RingAt w b g s) :
    Calls Try.prog 54 #[.pointer (some ⟨b, 0, none⟩)] w fun e w' => e = .returned (.int .i64 s.room) ∧ ∃ k, w' = w.drewN k := by
  obtain ⟨h0, arr, a, h1, h2, _⟩ := h
  have h3 := h0.n2; have h4 := h0.le
  have := room_raw w b g arr s.inn s.out a _ h1 h0.li h0.lo (by omega) (by rw [cnt_ok h0]; omega)
  rw [cnt_ok h0, h2] at this
  exact this
theorem ring_peek (w : World) (b g : Nat) (s : RS Int) (h : RingAt w b g s) :
    Calls Try.prog 53 #[.pointer (some ⟨b, 0, none⟩)] w fun e w' => e = .returned (.tuple #[.int .u64 (s.q.headD 0), .int .i64 s.peekE]) ∧ ∃ k, w' = w.drewN k := by
  obtain ⟨h0, arr, a, h1, h2, h3, h4, _⟩ := h
  have h5 := h0.n2
  have := peek_raw w b g arr s.inn s.out a _ h1 h0.li h0.lo (by omega) (by omega)
  rw [cnt_ok h0] at this
  have e1 : (if s.q.length = 0 then (0 : Int) else arr.getD a 0) = s.q.headD 0 := by
    split
    · rename_i he; rw [List.eq_nil_of_length_eq_zero he]; rfl
    · rename_i he
      have := h4 0 (by omega)
      rw [Nat.add_zero, Nat.mod_eq_of_lt h3] at this
      rw [this]; cases hq : s.q with | nil => simp [hq] at he | cons x l => rfl
  rw [e1] at this
  exact this
theorem getD_set_self {l : List Int} {i : Nat} {v : Int} (h : i < l.length) : (l.set i v).getD i 0 = v := by
  rw [List.getD_eq_getElem?_getD, List.getElem?_set_self h]; rfl
theorem getD_set_other {l : List Int} {i j : Nat} {v : Int} (h : i ≠ j) : (l.set i v).getD j 0 = l.getD j 0 := by
  rw [List.getD_eq_getElem?_getD, List.getElem?_set_ne h, List.getD_eq_getElem?_getD]
theorem getD_snoc_last (l : List Int) (v : Int) : (l ++ [v]).getD l.length 0 = v := by
  rw [List.getD_eq_getElem?_getD, List.getElem?_append_right (Nat.le_refl _)]; simp
theorem getD_snoc_lt {l : List Int} {v : Int} {i : Nat} (h : i < l.length) : (l ++ [v]).getD i 0 = l.getD i 0 := by
  rw [List.getD_eq_getElem?_getD, List.getElem?_append_left h, ← List.getD_eq_getElem?_getD]
theorem mod_apart {a i j n : Nat} (hij : i < j) (hj : j < n) : (a + i) % n ≠ (a + j) % n := by
  intro e
  have h1 := Nat.div_add_mod (a + i) n
  have h2 := Nat.div_add_mod (a + j) n
  have h3 : (a + j) / n = (a + i) / n ∨ (a + j) / n ≥ (a + i) / n + 1 := by
    have : (a + i) / n ≤ (a + j) / n := Nat.div_le_div_right (by omega)
    omega
  rcases h3 with h3 | h3
  · rw [h3] at h2; omega
  · have : n * ((a + i) / n + 1) ≤ n * ((a + j) / n) := Nat.mul_le_mul_left n h3
    rw [Nat.mul_add, Nat.mul_one] at this
    omega
theorem set_row {w : World} {g : Nat} {arr : List Int} {T : TypeId} (h : w.heap[g]? = some (.cells (arr.map (Value.int .u64)).toArray T (0, 0))) (x : Nat) (v : Int) :
    (w.setCell ⟨g, x, none⟩ (.int .u64 v)).heap[g]? = some (.cells ((arr.set x v).map (Value.int .u64)).toArray T (0, 0)) := by
  rw [set_at h]
  congr 2
  apply Array.ext'
  rw [Array.toList_setIfInBounds, List.map_set]
theorem ring_lay (w : World) (b g : Nat) (s : RS Int) (v : Int) (h : RingAt w b g s) :
    Calls Try.prog 75 #[.pointer (some ⟨b, 0, none⟩), .int .u64 v] w fun e w' => e = .returned (.int .i64 (s.lay v).2) ∧ RingAt w' b g (s.lay v).1 ∧ Only [b, g] w w' := by
  have hh := h
  obtain ⟨h0, arr, a, h1, h2, h3, h4, h5⟩ := h
  have h6 := h0.n2; have h7 := h0.le
  by_cases e1 : s.ld.isSome = true
  · rw [e1] at h1
    refine (lay_state w b g arr s.inn s.out a v h1).mono ?_
    rintro e w' ⟨rfl, k, rfl⟩
    unfold RS.lay; rw [if_pos e1]
    exact ⟨rfl, hh.drewN k, (Only.refl _ _).drewN k⟩
  · have e1' := Bool.eq_false_iff.2 e1
    by_cases e2 : s.q.length = s.n
    · have hr : s.room = 0 := by unfold RS.room; rw [if_neg e1]; omega
      refine (lay_full w b g arr s.inn s.out a v (e1' ▸ h1) (fun w hw => ?_)).mono ?_
      · have := ring_room w b g s ⟨h0, arr, a, e1' ▸ hw, h2, h3, h4, h5⟩
        rwa [hr] at this
      · rintro e w' ⟨rfl, k, rfl⟩
        unfold RS.lay; rw [if_neg e1, if_pos e2]
        exact ⟨rfl, hh.drewN k, (Only.refl _ _).drewN k⟩
    · have hx : (a + s.q.length) % arr.length < arr.length := Nat.mod_lt _ (by omega)
      have hok := h0.lay v
      have el : s.lay v = ({ s with ld := some v }, 0) := by unfold RS.lay; rw [if_neg e1, if_neg e2]
      rw [el] at hok ⊢
      refine (lay_walk w b g arr s.inn s.out a v s.room _ ((a + s.q.length) % arr.length) (e1' ▸ h1) (fun w hw => ring_room w b g s ⟨h0, arr, a, e1' ▸ hw, h2, h3, h4, h5⟩) (fun w hw => ?_) ?_ hx (h1.place _ hx) (frozen_at h1.row _) (frozen_at h1.obj _)).mono ?_
      · have := end_raw w b g arr s.inn s.out a false hw h0.li h0.lo (by omega) (by omega) (by omega)
        rwa [cnt_ok h0] at this
      · have : s.room ≠ 0 := by unfold RS.room; rw [if_neg e1]; omega
        simpa using this
      · rintro e w' ⟨rfl, hq⟩
        refine ⟨rfl, ⟨hok, arr.set ((a + s.q.length) % arr.length) v, a, ⟨?_, ?_, h1.ne⟩, by rw [List.length_set]; exact h2, h3, ?_, ?_⟩, ?_⟩
        · apply hq.at
          rw [set_at (set_other h1.obj h1.ne _ _), List.length_set]
          rfl
        · apply hq.at
          exact set_other (set_row h1.row _ _) (Ne.symm h1.ne) _ _
        · intro i hi0
          have hi : i < s.q.length := hi0
          rw [getD_set_other (by rw [h2]; exact (mod_apart hi (by omega)).symm)]
          exact h4 i hi
        · rintro u hu
          simp only [Option.some.injEq] at hu
          subst hu
          show (arr.set ((a + s.q.length) % arr.length) v).getD ((a + s.q.length) % s.n) 0 = v
          rw [← h2, getD_set_self hx]
        · exact (((Only.refl _ _).setCell (by simp) _).setCell (by simp) _).eqv hq
theorem ring_publish (w : World) (b g : Nat) (s : RS Int) (h : RingAt w b g s) :
    Calls Try.prog 76 #[.pointer (some ⟨b, 0, none⟩)] w fun e w' => e = .returned (.int .i64 s.publish.2) ∧ RingAt w' b g s.publish.1 ∧ Only [b, g] w w' := by
  have hh := h
  obtain ⟨h0, arr, a, h1, h2, h3, h4, h5⟩ := h
  have hok := h0.publish
  cases e1 : s.ld with
  | none =>
    rw [e1] at h1
    refine (publish_no w b g arr s.inn s.out a h1).mono ?_
    rintro e w' ⟨rfl, k, rfl⟩
    have el : s.publish = (s, 13) := by unfold RS.publish; rw [e1]
    rw [el]
    exact ⟨rfl, hh.drewN k, (Only.refl _ _).drewN k⟩
  | some v =>
    rw [e1] at h1
    have el : s.publish = ({ s with q := s.q ++ [v], ld := none, inn := (s.inn + 1) % 4294967296 }, 0) := by unfold RS.publish; rw [e1]
    have hv := h5 v e1
    have hlt := h0.laid (by rw [e1]; rfl)
    rw [el] at hok ⊢
    refine (publish_walk w b g arr s.inn s.out a h1).mono ?_
    rintro e w' ⟨rfl, hq⟩
    refine ⟨rfl, ⟨hok, arr, a, ⟨?_, ?_, h1.ne⟩, h2, h3, ?_, ?_⟩, ?_⟩
    · apply hq.at
      rw [set_at (set_at h1.obj _ _)]
      have : ((s.inn : Int) + 1) % 4294967296 = (((s.inn + 1) % 4294967296 : Nat) : Int) := by omega
      rw [this]
      rfl
    · apply hq.at
      exact set_other (set_other h1.row (Ne.symm h1.ne) _ _) (Ne.symm h1.ne) _ _
    · intro i hi0
      have hi : i < (s.q ++ [v]).length := hi0
      rw [List.length_append] at hi
      show _ = (s.q ++ [v]).getD i 0
      by_cases e : i = s.q.length
      · subst e
        rw [getD_snoc_last]
        exact hv
      · rw [getD_snoc_lt (by simp at hi; omega)]
        exact h4 i (by simp at hi; omega)
    · intro u hu; simp at hu
    · exact (((Only.refl _ _).setCell (by simp) _).setCell (by simp) _).eqv hq
theorem ring_free (w : World) (b g : Nat) (s : RS Int) (h : RingAt w b g s) :
    Calls Try.prog 83 #[.pointer (some ⟨b, 0, none⟩)] w fun e w' => e = .returned (.int .i64 s.peekE) ∧ RingAt w' b g s.free ∧ Only [b, g] w w' := by
  have hh := h
  obtain ⟨h0, arr, a, h1, h2, h3, h4, h5⟩ := h
  have hok := h0.free
  have hpk := fun w hw => ring_peek w b g s ⟨h0, arr, a, hw, h2, h3, h4, h5⟩
  by_cases e1 : s.q.length = 0
  · have el : s.free = s := by unfold RS.free; rw [if_pos e1]
    have ep : s.peekE = 8 := by unfold RS.peekE; rw [if_pos e1]
    rw [ep] at hpk
    rw [el, ep]
    refine (free_no w b g arr s.inn s.out a _ _ h1 hpk).mono ?_
    rintro e w' ⟨rfl, k, rfl⟩
    exact ⟨rfl, hh.drewN k, (Only.refl _ _).drewN k⟩
  · have el : s.free = { s with q := s.q.tail, out := (s.out + 1) % 4294967296 } := by unfold RS.free; rw [if_neg e1]
    have ep : s.peekE = 0 := by unfold RS.peekE; rw [if_neg e1]
    have h6 := h0.n2
    have h7 := h0.le
    rw [ep] at hpk
    rw [el] at hok ⊢
    rw [ep]
    have ha : a < arr.length := by omega
    refine (free_walk w b g arr s.inn s.out a _ _ _ h1 (by omega) hpk ha (h1.place a ha)).mono ?_
    rintro e w' ⟨rfl, hq⟩
    have key : ∀ j, ((a + 1) % s.n + j) % s.n = (a + (j + 1)) % s.n := fun j => by rw [Nat.mod_add_mod]; congr 1; omega
    refine ⟨rfl, ⟨hok, arr.set a 0, (a + 1) % s.n, ⟨?_, ?_, h1.ne⟩, by rw [List.length_set]; exact h2, Nat.mod_lt _ (by omega), ?_, ?_⟩, ?_⟩
    · apply hq.at
      rw [set_at (set_at (set_other h1.obj h1.ne _ _) _ _), List.length_set]
      have e1 : ((s.out : Int) + 1) % 4294967296 = (((s.out + 1) % 4294967296 : Nat) : Int) := by omega
      have e2 : ((a : Int) + 1) % (arr.length : Int) = (((a + 1) % s.n : Nat) : Int) := by rw [h2]; simp
      rw [e1, e2]
      rfl
    · apply hq.at
      exact set_other (set_other (set_row h1.row _ _) (Ne.symm h1.ne) _ _) (Ne.symm h1.ne) _ _
    · intro i hi0
      have hi : i < s.q.tail.length := hi0
      rw [List.length_tail] at hi
      show (arr.set a 0).getD (((a + 1) % s.n + i) % s.n) 0 = s.q.tail.getD i 0
      rw [key, getD_set_other (by have := mod_apart (a := a) (n := s.n) (i := 0) (j := i + 1) (by omega) (by omega); rwa [Nat.add_zero, Nat.mod_eq_of_lt h3] at this), h4 (i + 1) (by omega)]
      cases hq2 : s.q with
      | nil => simp [hq2] at e1
      | cons y l => rfl
    · intro v hv
      have hlt := h0.laid (by rw [show s.ld = some v from hv]; rfl)
      show (arr.set a 0).getD (((a + 1) % s.n + s.q.tail.length) % s.n) 0 = v
      rw [key, List.length_tail, show s.q.length - 1 + 1 = s.q.length from by omega, getD_set_other (by have := mod_apart (a := a) (n := s.n) (i := 0) (j := s.q.length) (by omega) hlt; rwa [Nat.add_zero, Nat.mod_eq_of_lt h3] at this)]
      exact h5 v hv
    · exact ((((Only.refl _ _).setCell (by simp) _).setCell (by simp) _).setCell (by simp) _).eqv hq
end Go.Proofs.Ytpklblaenfhncaa
namespace Go.Proofs.Ytpklblaenfhncaa
set_option linter.unusedVariables false
open Go.RowKit

theorem infoU64r : (Try.prog.info? 22).map (fun i => (i.zero, i.size, i.bytes)) = some (some (.int .u64 0), 1, 8) := by kernel_rfl
theorem made_ints (n : Nat) : madeCells (Value.int .u64 0).cells (n * 1) = ((List.replicate n (0 : Int)).map (Value.int .u64)).toArray := by
  apply Array.ext'
  rw [Nat.mul_one]
  have := toList_madeCells_one (Value.int .u64 0) n
  simpa [Value.cells] using this
/-- How many places there are. -/
def roomN (room : Int) : Nat := (min (max room 1) 4096).toNat
theorem new_walk (room begin' : Int) (w : World) :
    Calls Try.prog 41 #[.int .i64 room, .int .u32 begin'] w fun e w' => e = .returned (.pointer (some ⟨w.heap.size + 1, 0, none⟩)) ∧ w' = (w.alloc (.cells (madeCells (Value.int .u64 0).cells (roomN room * 1)) 22)).alloc (.cells #[.slice (some ⟨w.heap.size, 0, none⟩) (roomN room) (roomN room), .int .u32 begin', .int .u32 begin', .int .i64 0, .bool false] 119) := by
  by_cases h1 : room < 1
  · have e : roomN room = 1 := by unfold roomN; omega
    rw [e]
    clear e
    go_enter Try.func41, Try.ntmps41
    go_wp2_with (first | (at_make; refine make_new 44 22 _ 1 8 infoU64r Try.underlying44 1 (by omega) (by unfold maxLen; omega) rfl _ _ rfl .i64 .i64 _ _ rfl rfl (by first | rfl | omega) (by first | rfl | omega) ?_))
    go_ret
    exact ⟨rfl, rfl⟩
  · by_cases h2 : 4096 < room
    · have e : roomN room = 4096 := by unfold roomN; omega
      rw [e]
      clear e
      go_enter Try.func41, Try.ntmps41
      go_wp2_with (first | (at_make; refine make_new 44 22 _ 1 8 infoU64r Try.underlying44 4096 (by omega) (by unfold maxLen; omega) rfl _ _ rfl .i64 .i64 _ _ rfl rfl (by first | rfl | omega) (by first | rfl | omega) ?_))
      go_ret
      exact ⟨rfl, rfl⟩
    · obtain ⟨n, rfl⟩ := Int.eq_ofNat_of_zero_le (by omega : 0 ≤ room)
      have e : roomN (n : Int) = n := by unfold roomN; omega
      rw [e]
      clear e
      go_enter Try.func41, Try.ntmps41
      go_wp2_with (first | (at_make; refine make_new 44 22 _ 1 8 infoU64r Try.underlying44 n (by omega) (by unfold maxLen; omega) rfl _ _ rfl .i64 .i64 _ _ rfl rfl (by first | rfl | omega) (by first | rfl | omega) ?_))
      go_ret
      exact ⟨rfl, rfl⟩
theorem ring_new (room begin' : Int) (w : World) (hb0 : 0 ≤ begin') (hb1 : begin' < 4294967296) :
    Calls Try.prog 41 #[.int .i64 room, .int .u32 begin'] w fun e w' => ∃ b g, e = .returned (.pointer (some ⟨b, 0, none⟩)) ∧ RingAt w' b g (RS.new room begin'.toNat) ∧ w.heap.size ≤ b ∧ w.heap.size ≤ g ∧ Below w.heap.size w w' := by
  obtain ⟨begin', rfl⟩ := Int.eq_ofNat_of_zero_le hb0
  rw [Int.toNat_natCast]
  have hok := RS.new_ok (α := Int) room begin' (by omega)
  refine (new_walk room begin' w).mono ?_
  rintro e w' ⟨rfl, rfl⟩
  refine ⟨_, w.heap.size, rfl, ⟨hok, List.replicate (roomN room) 0, 0, ⟨?_, ?_, by omega⟩, List.length_replicate, hok.n1, fun i hi => by simp [RS.new] at hi, fun v hv => by simp [RS.new] at hv⟩, by omega, by omega, ?_⟩
  · have := alloc_new (w := w.alloc (.cells (madeCells (Value.int .u64 0).cells (roomN room * 1)) 22)) (.cells #[.slice (some ⟨w.heap.size, 0, none⟩) (roomN room) (roomN room), .int .u32 (begin' : Int), .int .u32 (begin' : Int), .int .i64 0, .bool false] 119)
    rw [World.size_alloc] at this
    rw [this, List.length_replicate]
    rfl
  · apply alloc_old
    rw [made_ints]
    exact alloc_new _
  · exact ((Below.refl _ _).alloc (Nat.le_refl _) _).alloc (by simp) _
theorem ring_push (w : World) (b g : Nat) (s : RS Int) (v : Int) (h : RingAt w b g s) :
    Calls Try.prog 44 #[.pointer (some ⟨b, 0, none⟩), .int .u64 v] w fun e w' => e = .returned (.int .i64 (s.push v).2) ∧ RingAt w' b g (s.push v).1 ∧ Only [b, g] w w' := by
  have HL := ring_lay w b g s v h
  by_cases e1 : (s.lay v).2 = 0
  · have e2 : s.push v = (s.lay v).1.publish := by rw [RS.push_eq, if_pos e1]
    have e3 : (s.lay v).1.publish.2 = 0 := by
      have hl : (s.lay v).1.ld = some v := by
        unfold RS.lay at e1 ⊢
        by_cases c1 : s.ld.isSome = true
        · rw [if_pos c1] at e1; simp at e1
        · by_cases c2 : s.q.length = s.n
          · rw [if_neg c1, if_pos c2] at e1; simp at e1
          · rw [if_neg c1, if_neg c2]
      unfold RS.publish; rw [hl]
    rw [e2]
    rw [e1] at HL
    have HP := fun w h => ring_publish w b g (s.lay v).1 h
    rw [e3] at HP ⊢
    generalize (s.lay v).1.publish.1 = s2 at HP ⊢
    generalize (s.lay v).1 = s1 at HL HP
    have HL2 := Lib.hid HL
    have HP2 := Lib.hid HP
    clear HL HP e1 e2 e3
    go_enter Try.func44, Try.ntmps44
    go_wp2_with (first | (go_at_call 75; refine HL2.out.mono ?_; rintro e w1 ⟨rfl, hR, hO⟩) | (go_at_call 76; refine (HP2.out _ hR).mono ?_; rintro e w2 ⟨rfl, hR2, hO2⟩))
    go_ret
    exact ⟨rfl, hR2, hO.trans hO2⟩
  · have e2 : s.push v = s.lay v := by rw [RS.push_eq, if_neg e1]
    rw [e2]
    have hne : ((s.lay v).2 != 0) = true := by rw [bne_iff_ne]; exact e1
    generalize s.lay v = r at HL hne ⊢
    obtain ⟨s1, r2⟩ := r
    dsimp only at HL hne ⊢
    have HL2 := Lib.hid HL
    clear HL e1 e2
    go_enter Try.func44, Try.ntmps44
    go_wp2_with (first | (go_at_call 75; refine HL2.out.mono ?_; rintro e w1 ⟨rfl, hR, hO⟩))
    go_ret
    exact ⟨rfl, hR, hO⟩
theorem ring_pop (w : World) (b g : Nat) (s : RS Int) (h : RingAt w b g s) :
    Calls Try.prog 49 #[.pointer (some ⟨b, 0, none⟩)] w fun e w' => e = .returned (.tuple #[.int .u64 (s.q.headD 0), .int .i64 s.peekE]) ∧ RingAt w' b g s.free ∧ Only [b, g] w w' := by
  have HK := ring_peek w b g s h
  have HF := fun w h => ring_free w b g s h
  by_cases e1 : s.q.length = 0
  · have e2 : s.peekE = 8 := by unfold RS.peekE; rw [if_pos e1]
    have e3 : s.free = s := by unfold RS.free; rw [if_pos e1]
    rw [e3]
    rw [e2] at HK ⊢
    generalize s.q.headD 0 = y at HK ⊢
    have HK2 := Lib.hid HK
    clear HK HF e1 e2 e3
    go_enter Try.func49, Try.ntmps49
    go_wp2_with (first | (go_at_call 53; refine HK2.out.mono ?_; rintro e w' ⟨rfl, k, rfl⟩))
    go_ret2
    exact ⟨rfl, h.drewN _, (Only.refl _ _).drewN _⟩
  · have e2 : s.peekE = 0 := by unfold RS.peekE; rw [if_neg e1]
    rw [e2] at HK HF ⊢
    generalize s.q.headD 0 = y at HK ⊢
    generalize s.free = s2 at HF ⊢
    have HK2 := Lib.hid HK
    have HF2 := Lib.hid HF
    clear HK HF e1 e2
    go_enter Try.func49, Try.ntmps49
    go_wp2_with (first | (go_at_call 53; refine HK2.out.mono ?_; rintro e w' ⟨rfl, k, rfl⟩) | (go_at_call 83; refine (HF2.out _ (h.drewN _)).mono ?_; rintro e w2 ⟨rfl, hR2, hO2⟩))
    go_ret2
    exact ⟨rfl, hR2, ((Only.refl _ _).drewN _).trans hO2⟩
end Go.Proofs.Ytpklblaenfhncaa
