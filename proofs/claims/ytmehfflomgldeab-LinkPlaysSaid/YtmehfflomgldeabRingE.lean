/- A ring's All: all things, the first one first. -/
import Derived.Test.YtmehfflomgldeabRingD
import Derived.Deep.RegionLaw
namespace Go.Proofs.Ytmehfflomgldeab
set_option linter.unusedVariables false
open Go.RowKit

theorem RingAt.below {w w' : World} {b g B : Nat} {s : RS Int} (h : RingAt w b g s) (hb : Below B w w') (h1 : b < B) (h2 : g < B) : RingAt w' b g s := by
  obtain ⟨h0, arr, a, r, h3⟩ := h
  exact ⟨h0, arr, a, ⟨Below.at hb r.obj h1, Below.at hb r.row h2, r.ne⟩, h3⟩
theorem take_snoc {l : List Int} {m : Nat} (h : m < l.length) : l.take (m + 1) = l.take m ++ [l.getD m 0] := by
  rw [List.take_succ_eq_append_getElem h, List.getD_eq_getElem?_getD, List.getElem?_eq_getElem h]; rfl
theorem IntsNew.ownC {k : IntKind} {w : World} {base : Nat} {e : TypeId} {v : Value} {l : List Int} (h : w.ownsRow base e 1 v l.length (l.map (Value.int k))) : ∃ a c, v = .slice a l.length c ∧ IntsNew base k w a l ∧ l.length ≤ c := by
  have h' := h
  rcases h.2 with ⟨rfl, h0⟩ | ⟨g, cap, cur, rfl, hbg, _, hnc, _⟩
  · exact ⟨none, 0, by rw [h0], fun i hi => by omega, by omega⟩
  · refine ⟨_, cap, rfl, fun i hi => ⟨g, rfl, hbg, ?_⟩, by omega⟩
    rw [h'.cellAt i (by omega), List.getElem?_map, List.getElem?_eq_getElem hi, List.getD_eq_getElem?_getD, List.getElem?_eq_getElem hi]
    rfl
theorem ring_allC (w : World) (b g : Nat) (s : RS Int) (h : RingAt w b g s) :
    Calls Try.prog 62 #[.pointer (some ⟨b, 0, none⟩)] w fun e w' => ∃ a c, e = .returned (.slice a s.q.length c) ∧ IntsNew w.heap.size .i64 w' a s.q ∧ Below w.heap.size w w' ∧ s.q.length ≤ c := by
  have hlt := h.lt
  have HL := Lib.hid (fun w h => ring_len w b g s h)
  have hle : s.q.length ≤ 4096 := Nat.le_trans h.1.le h.1.n2
  obtain ⟨h0, arr, a, hr, hn, ha, hq, _⟩ := id h
  have HC : Hid (∀ w', Below w.heap.size w w' → Raw w' b g arr s.inn s.out a s.ld.isSome) := fun w' hb => ⟨Below.at hb hr.obj hlt.1, Below.at hb hr.row hlt.2, hr.ne⟩
  have hn1 := h0.n1
  have hn2 := h0.n2
  have HQ := Lib.hid hq
  clear hq
  rw [← hn] at hn1 hn2 ha
  go_enter Try.func62, Try.ntmps62
  go_wp2_with (first | (go_at_call 68; ((with_reducible refine (HL.out _ h).mono ?_); rintro e w' ⟨rfl, k, rfl⟩)))
  go_loopw [3, 7] (fun v i wr => ∃ m : Nat, m ≤ s.q.length ∧ i = .int .i64 (m : Int) ∧ wr.ownsRow w.heap.size 3 1 v m ((s.q.take m).map (Value.int .i64)) ∧ Below w.heap.size w wr) (fun _ i _ => s.q.length - (intOf i).toNat)
  case atStart => exact ⟨0, by omega, rfl, World.ownsRow_nil _ _ _ _, below_drewN' (Below.refl _ _) _⟩
  case round =>
    obtain ⟨m, hm, rfl, hown, hb⟩ := hrel
    by_cases hlm : m < s.q.length
    · obtain ⟨x, hx⟩ : ∃ x, x = (a + m) % arr.length := ⟨_, rfl⟩
      have hidx : x < arr.length := by rw [hx]; exact Nat.mod_lt _ (by omega)
      have hy := HQ.out m hlm
      rw [← hn, ← hx] at hy
      have HT := Lib.hid (take_snoc hlm)
      generalize s.q.getD m 0 = y at hy HT
      have HS : Hid (∀ w', Below w.heap.size w w' → w'.cell? ⟨b, 0, none⟩ = some (.slice (some ⟨g, 0, none⟩) arr.length arr.length) ∧ w'.cell? ⟨b, 3, none⟩ = some (.int .i64 a) ∧ w'.cell? ⟨g, x, none⟩ = some (.int .i64 y)) := fun w' hb => by
        have hr := HC.out w' hb
        have hp := hr.place x hidx
        rw [hy] at hp
        exact ⟨hr.cells.1, hr.cells.2.2.2.1, hp⟩
      obtain ⟨c0, c3, hp⟩ := HS.out _ hb
      have hidx2 : (x : Int) < (arr.length : Int) := by omega
      have e1 : IntKind.i64.wrap ((a : Int) + (m : Int)) = (a : Int) + (m : Int) := IntWalk.i64_in _ (by omega)
      have e2 : ((a : Int) + (m : Int)).tmod (arr.length : Int) = (x : Int) := by
        rw [hx, Int.tmod_eq_emod_of_nonneg (by omega)]; simp
      have e3 : ¬ arr = [] := fun e => by rw [e] at hn1; simp at hn1
      have HX := Lib.hid (And.intro hx hy)
      have HN := Lib.hid (And.intro hn (And.intro hn1 (And.intro hn2 ha)))
      clear hx hy hn hn1 hn2 ha
      go_wp2
      go_region_held3 (fun w' => w'.cell? ⟨b, 0, none⟩ = some (.slice (some ⟨g, 0, none⟩) arr.length arr.length) ∧ w'.cell? ⟨b, 3, none⟩ = some (.int .i64 a) ∧ w'.cell? ⟨g, x, none⟩ = some (.int .i64 y)) (first | exact HS.out _ hb.drew | exact HS.out _ (hb.drew.alloc hb.size _) | exact HS.out _ hb1)
        (first | (refine append_step [.int .i64 y] _ _ _ _ 1 8 infoInt Try.underlying27 rfl (by decide) _ _ _ hown.drew hb.drew hb.size rfl (by simp [Value.oneCell']) (by omega) (by decide) rfl _ _ rfl rfl rfl ?_; intro v1 w1 hown1 hb1 hg1 hor1; clear hg1 hor1 hown hb))
      go_wp2
      go_roundw
      case rel => exact ⟨m + 1, by omega, by go_num, by rw [HT.out, List.map_append]; exact hown1, hb1⟩
      case measure => simp [intOf] <;> omega
    · obtain rfl : m = s.q.length := by omega
      rw [List.take_length] at hown
      go_wp2
      go_ret
      obtain ⟨a, c, rfl, hi, hc⟩ := IntsNew.ownC hown
      exact ⟨a, c, rfl, hi, hb, hc⟩
theorem ring_all (w : World) (b g : Nat) (s : RS Int) (h : RingAt w b g s) :
    Calls Try.prog 62 #[.pointer (some ⟨b, 0, none⟩)] w fun e w' => ∃ a c, e = .returned (.slice a s.q.length c) ∧ IntsNew w.heap.size .i64 w' a s.q ∧ Below w.heap.size w w' :=
  (ring_allC w b g s h).mono fun e w' ⟨a, c, h1, h2, h3, _⟩ => ⟨a, c, h1, h2, h3⟩
end Go.Proofs.Ytmehfflomgldeab
