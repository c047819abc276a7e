/- A ring of cells: All. -/
import Derived.Test.YtmehfflomgldeabRCellD
import Derived.Test.YtmehfflomgldeabRingE
import Derived.Test.YtmehfflomgldeabRdr
import Derived.Deep.RegionLaw
namespace Go.Proofs.Ytmehfflomgldeab
set_option linter.unusedVariables false
open Go.RowKit

theorem takeC_snoc {l : List Cl} {m : Nat} (h : m < l.length) : l.take (m + 1) = l.take m ++ [l.getD m Cl.zero] := by
  rw [List.take_succ_eq_append_getElem h, List.getD_eq_getElem?_getD, List.getElem?_eq_getElem h]; rfl
theorem flatC_snoc (l : List Cl) (c : Cl) : flatC (l ++ [c]) = flatC l ++ [.int .i64 c.lane, .int .u64 c.word] := by
  unfold flatC; rw [List.flatMap_append]; simp [Cl.cells]
/-- Cells in a block that was made from B on. -/
def CellsNew (B : Nat) (w : World) (a : Option Addr) (l : List Cl) : Prop := ∀ i, i < l.length → ∃ blk, a = some ⟨blk, 0, none⟩ ∧ B ≤ blk ∧ w.cell? ⟨blk, i * 2, none⟩ = some (.int .i64 (l.getD i Cl.zero).lane) ∧ w.cell? ⟨blk, i * 2 + 1, none⟩ = some (.int .u64 (l.getD i Cl.zero).word)
theorem CellsNew.own {w : World} {base : Nat} {e : TypeId} {v : Value} {l : List Cl} (h : w.ownsRow base e 2 v l.length (flatC l)) : ∃ a c, v = .slice a l.length c ∧ CellsNew base w a l := by
  have h' := h
  rcases h.2 with ⟨rfl, h0⟩ | ⟨g, cap, cur, rfl, hbg, _, hnc, _⟩
  · exact ⟨none, 0, by rw [h0], fun i hi => by omega⟩
  · refine ⟨_, cap, rfl, fun i hi => ⟨g, rfl, hbg, ?_, ?_⟩⟩
    · have := h'.cells rfl (i * 2) (.int .i64 (l.getD i Cl.zero).lane) (by rw [Nat.mul_comm, ← Nat.add_zero (2 * i), flatC_get _ _ _ hi (by omega)]; rfl)
      rwa [addP, Nat.zero_add] at this
    · have := h'.cells rfl (i * 2 + 1) (.int .u64 (l.getD i Cl.zero).word) (by rw [Nat.mul_comm, flatC_get _ _ _ hi (by omega)]; rfl)
      rwa [addP, Nat.zero_add] at this
set_option maxRecDepth 100000 in
set_option maxHeartbeats 1000000 in
theorem ringC_all (w : World) (b g : Nat) (s : RS Cl) (h : RingC w b g s) :
    Calls Try.prog 61 #[.pointer (some ⟨b, 0, none⟩)] w fun e w' => ∃ a c, e = .returned (.slice a s.q.length c) ∧ CellsNew w.heap.size w' a s.q ∧ Below w.heap.size w w' := by
  have hlt := h.lt
  have HL := Lib.hid (fun w h => ringC_len w b g s h)
  have hle : s.q.length ≤ 4096 := Nat.le_trans h.1.le h.1.n2
  obtain ⟨h0, arr, a, hr, hn, ha, hq, _⟩ := id h
  have HC : Hid (∀ w', Below w.heap.size w w' → RawC w' b g arr s.inn s.out a s.ld.isSome) := fun w' hb => hr.below hb hlt.1 hlt.2
  have hn1 := h0.n1
  have hn2 := h0.n2
  have HQ := Lib.hid hq
  clear hq
  rw [← hn] at hn1 hn2 ha
  go_enter Try.func61, Try.ntmps61
  go_wp2_with (first | (go_at_call 67; ((with_reducible refine (HL.out _ h).mono ?_); rintro e w' ⟨rfl, k, rfl⟩)))
  go_loopw [3, 7] (fun v i wr => ∃ m : Nat, m ≤ s.q.length ∧ i = .int .i64 (m : Int) ∧ wr.ownsRow w.heap.size 35 2 v m (flatC (s.q.take m)) ∧ Below w.heap.size w wr) (fun _ i _ => s.q.length - (intOf i).toNat)
  case atStart => exact ⟨0, by omega, rfl, World.ownsRow_nil _ _ _ _, below_drewN' (Below.refl _ _) _⟩
  case round =>
    obtain ⟨m, hm, rfl, hown, hb⟩ := hrel
    by_cases hlm : m < s.q.length
    · obtain ⟨x, hx⟩ : ∃ x, x = (a + m) % arr.length := ⟨_, rfl⟩
      have hidx : x < arr.length := by rw [hx]; exact Nat.mod_lt _ (by omega)
      have hy := HQ.out m hlm
      rw [← hn, ← hx] at hy
      have HT := Lib.hid (takeC_snoc hlm)
      generalize s.q.getD m Cl.zero = y at hy HT
      obtain ⟨y0, y1⟩ := y
      have HS : Hid (∀ w', Below w.heap.size w w' → w'.cell? ⟨b, 0, none⟩ = some (.slice (some ⟨g, 0, none⟩) arr.length arr.length) ∧ w'.cell? ⟨b, 3, none⟩ = some (.int .i64 a) ∧ w'.cell? ⟨g, x * 2, none⟩ = some (.int .i64 y0) ∧ w'.cell? ⟨g, x * 2 + 1, none⟩ = some (.int .u64 y1)) := fun w' hb => by
        have hr := HC.out w' hb
        have hp := hr.place x hidx
        rw [hy] at hp
        exact ⟨hr.cells.1, hr.cells.2.2.2.1, hp.1, hp.2⟩
      obtain ⟨c0, c3, hp0, hp1⟩ := HS.out _ hb
      have hidx2 : (x : Int) < (arr.length : Int) := by omega
      have e1 : IntKind.i64.wrap ((a : Int) + (m : Int)) = (a : Int) + (m : Int) := IntWalk.i64_in _ (by omega)
      have e2 : ((a : Int) + (m : Int)).tmod (arr.length : Int) = (x : Int) := by
        rw [hx, Int.tmod_eq_emod_of_nonneg (by omega)]; simp
      have e3 : ¬ arr = [] := fun e => by rw [e] at hn1; simp at hn1
      have HX := Lib.hid (And.intro hx hy)
      have HN := Lib.hid (And.intro hn (And.intro hn1 (And.intro hn2 ha)))
      clear hx hy hn hn1 hn2 ha
      go_wp2
      go_region_held3 (fun w' => w'.cell? ⟨b, 0, none⟩ = some (.slice (some ⟨g, 0, none⟩) arr.length arr.length) ∧ w'.cell? ⟨b, 3, none⟩ = some (.int .i64 a) ∧ w'.cell? ⟨g, x * 2, none⟩ = some (.int .i64 y0) ∧ w'.cell? ⟨g, x * 2 + 1, none⟩ = some (.int .u64 y1)) (first | exact HS.out _ hb.drew | exact HS.out _ (hb.drew.alloc hb.size _) | exact HS.out _ hb1)
        (first | (refine append_step [.int .i64 y0, .int .u64 y1] _ _ _ _ 2 16 infoC Try.underlying28 rfl (by decide) _ _ _ hown.drew hb.drew hb.size rfl (by simp [Value.oneCell']) (by omega) (by decide) rfl _ _ rfl rfl rfl ?_; intro v1 w1 hown1 hb1 hg1 hor1; clear hg1 hor1 hown hb))
      go_wp2
      go_roundw
      case rel => exact ⟨m + 1, by omega, by go_num, by rw [HT.out, flatC_snoc]; exact hown1, hb1⟩
      case measure => simp [intOf] <;> omega
    · obtain rfl : m = s.q.length := by omega
      rw [List.take_length] at hown
      go_wp2
      go_ret
      obtain ⟨a, c, rfl, hi⟩ := CellsNew.own hown
      exact ⟨a, c, rfl, hi, hb⟩
end Go.Proofs.Ytmehfflomgldeab
