/- The program's inbox and the reference's, told by their lists: alike before a step, alike behind it. -/
import Derived.Test.YtajbfmdgnkpjgaaRefInE
namespace Go.Proofs.Ytajbfmdgnkpjgaa
set_option linter.unusedVariables false
open Go.RowKit
/-- Alike: all but the order of the next numbers. -/
structure Eq16 (s t : IS) : Prop where
  n : t.n = s.n
  q : t.q = s.q
  ws : t.ws = s.ws
  nx : ∀ x, lookI t.nx x = lookI s.nx x
  hi : ∀ x, 0 ≤ lookI s.nx x ∧ lookI s.nx x < 65536
theorem Eq16.new (room : Int) : Eq16 (IS.new room) (IS.new room) := ⟨rfl, rfl, rfl, fun x => rfl, fun x => by show 0 ≤ (0 : Int) ∧ (0 : Int) < 65536; omega⟩
theorem Eq16.come {s t : IS} (h : Eq16 s t) (p : Pk) : Eq16 (s.come p).1 (t.come p).1 ∧ (t.come p).2 = (s.come p).2 ∧ (t.come p).1.ws.length ≤ t.ws.length + 1 ∧ (t.come p).1.nx = t.nx := by
  unfold IS.come
  rw [h.ws]
  split
  · exact ⟨h, rfl, by rw [← h.ws]; exact Nat.le_succ _, rfl⟩
  · split
    · exact ⟨⟨h.n, h.q, rfl, h.nx, h.hi⟩, rfl, by simp, rfl⟩
    · exact ⟨h, rfl, by rw [← h.ws]; exact Nat.le_succ _, rfl⟩
theorem Eq16.recv {s t : IS} (h : Eq16 s t) : Eq16 s.recv.1 t.recv.1 ∧ t.recv.2 = s.recv.2 ∧ t.recv.1.ws = t.ws ∧ t.recv.1.nx = t.nx := by
  unfold IS.recv
  rw [h.q]
  split
  · exact ⟨h, rfl, rfl, rfl⟩
  · exact ⟨⟨h.n, rfl, h.ws, h.nx, h.hi⟩, rfl, rfl, rfl⟩
theorem Eq16.ok {s t : IS} (h : Eq16 s t) (hs : s.Ok) : t.Ok := ⟨by rw [h.n]; exact hs.n1, by rw [h.n]; exact hs.n2, by rw [h.n, h.q]; exact hs.le, by rw [h.ws]; exact hs.kd, by rw [h.ws]; exact hs.wr⟩
theorem Eq16.ready {s t : IS} (h : Eq16 s t) : t.ready = s.ready := by
  unfold IS.ready
  have e : t.rdy = s.rdy := by
    funext p
    unfold IS.rdy IS.next
    rw [h.nx]
  rw [e, h.ws]
/-- The telling that the place j says is the program's. -/
theorem Eq16.tell {s t : IS} (h : Eq16 s t) (hs : s.Ok) {j : Nat} (hb : BestAt t t.ws.length (some j)) (hq : ¬ t.q.length = t.n) :
    s.tell.2 = true ∧ Eq16 s.tell.1 (t.tellJ (t.ws.getD j Pk.zero) j) ∧ (t.tellJ (t.ws.getD j Pk.zero) j).ws.length ≤ t.ws.length ∧ (t.tellJ (t.ws.getD j Pk.zero) j).nx.length ≤ t.nx.length + 1 := by
  have hj : j < t.ws.length := hb.1
  have hr := hb.ready (h.ok hs).kd
  rw [h.ready] at hr
  have hq2 : ¬ s.q.length = s.n := by rw [← h.q, ← h.n]; exact hq
  have hp : t.ws.getD j Pk.zero ∈ t.ws := by rw [List.getD_eq_getElem?_getD, List.getElem?_eq_getElem hj]; exact List.getElem_mem hj
  have hin := (h.ok hs).wr _ hp
  unfold inR at hin
  rw [decide_eq_true_eq] at hin
  rw [IS.tell_some hr hq2]
  refine ⟨rfl, ⟨h.n, ?_, ?_, fun x => ?_, fun x => ?_⟩, ?_, ?_⟩
  · show t.q ++ [_] = s.q ++ [_]
    rw [h.q]
  · show t.ws.take j ++ t.ws.drop (j + 1) = s.ws.eraseP (keyEq (t.ws.getD j Pk.zero))
    rw [← h.ws, List.getD_eq_getElem?_getD, List.getElem?_eq_getElem hj]
    exact (IS.erase_at (h.ok hs).kd hj).symm
  · show lookI (_ ++ [_]) x = lookI (putI s.nx _ _) x
    rw [IS.look_filter, lookI_put, h.nx]
  · show 0 ≤ lookI (putI s.nx _ _) x ∧ lookI (putI s.nx _ _) x < 65536
    rw [lookI_put]
    split
    · omega
    · exact h.hi x
  · show (t.ws.take j ++ t.ws.drop (j + 1)).length ≤ _
    rw [List.length_append, List.length_take, List.length_drop]; omega
  · show (t.nx.filter _ ++ [_]).length ≤ _
    rw [List.length_append]
    have := List.length_filter_le (fun q : Int × Int => decide (q.1 ≠ (t.ws.getD j Pk.zero).src)) t.nx
    simp only [List.length_singleton]; omega
/-- No telling: the program's tells nothing either. -/
theorem Eq16.none {s t : IS} (h : Eq16 s t) (hn : t.ready = .none ∨ t.q.length = t.n) : s.tell = (s, false) := by
  rcases hn with hn | hn
  · exact IS.tell_none (by rw [← h.ready]; exact hn)
  · cases hr : s.ready with
    | none => exact IS.tell_none hr
    | some p => exact IS.tell_full hr (by rw [← h.q, ← h.n]; exact hn)
theorem ref16_tell (w : World) (s t : IS) (r : RX) (S : List Nat) (hE : Eq16 s t) (hok : s.Ok) (h : RI w t r S) (hS : ∀ x ∈ S, x < w.heap.size) (hnx : t.nx.length < 1000) :
    Calls Try.prog 25 #[.agg (r.vals t)] w fun e w' => ∃ (r' : RX) (t2 : IS), e = .returned (.tuple #[.agg (r'.vals t2), .bool s.tell.2]) ∧ (Eq16 s.tell.1 t2 ∧ t2.ws.length ≤ t.ws.length ∧ t2.nx.length ≤ t.nx.length + 1) ∧ RI w' t2 r' S ∧ Below w.heap.size w w' := by
  have htk := hE.ok hok
  by_cases hn : t.ready.isSome = true ∧ ¬ t.q.length = t.n
  · refine (ref16_tell_some w t r S h hS htk hn.1 hn.2 hnx).mono ?_
    rintro e w' ⟨r', j, hb, rfl, hR, hB⟩
    obtain ⟨h1, h2, h3, h4⟩ := hE.tell hok hb hn.2
    exact ⟨r', _, by rw [h1], ⟨h2, h3, h4⟩, hR, hB⟩
  · have hnn : t.ready = .none ∨ t.q.length = t.n := by
      by_cases h1 : t.q.length = t.n
      · exact .inr h1
      · cases hr : t.ready with
        | none => exact .inl rfl
        | some p => exact absurd ⟨by rw [hr]; rfl, h1⟩ hn
    refine (ref16_tell_none w t r S h hS htk (fun b hb => ?_)).mono ?_
    · rcases hnn with h1 | h1
      · have := hb.ready htk.kd
        rw [h1] at this
        cases b with
        | none => exact .inl rfl
        | some j => simp at this
      · exact .inr h1
    · rintro e w' ⟨rfl, hB⟩
      rw [hE.none hnn]
      exact ⟨r, t, rfl, ⟨hE, Nat.le_refl _, Nat.le_succ _⟩, h.below hB, hB⟩
theorem BestAt.ex (s : IS) : ∀ m, ∃ b, BestAt s m b
  | 0 => ⟨none, fun i hi => by omega⟩
  | m + 1 => by
    obtain ⟨b, hb⟩ := BestAt.ex s m
    by_cases hr : s.rdy (s.ws.getD m Pk.zero) = true
    · cases b with
      | none => exact ⟨_, hb.first hr⟩
      | some j =>
        by_cases hl : (s.ws.getD m Pk.zero).src < (s.ws.getD j Pk.zero).src
        · exact ⟨_, hb.less hr hl⟩
        · exact ⟨_, hb.keep hl⟩
    · exact ⟨_, hb.skip (Bool.eq_false_iff.2 hr)⟩
theorem BestAt.uniq {s : IS} (hk : (s.ws.map (fun p => (p.src, p.seq))).Nodup) {b c : Option Nat} (hb : BestAt s s.ws.length b) (hc : BestAt s s.ws.length c) : b = c := by
  have h1 := hb.ready hk
  have h2 := hc.ready hk
  rw [h1] at h2
  cases b with
  | none => cases c with
    | none => rfl
    | some j => simp at h2
  | some i => cases c with
    | none => simp at h2
    | some j =>
      have hi : i < s.ws.length := hb.1
      have hj : j < s.ws.length := hc.1
      simp only [Option.map_some, Option.some.injEq] at h2
      rw [List.getD_eq_getElem?_getD, List.getElem?_eq_getElem hi, List.getD_eq_getElem?_getD, List.getElem?_eq_getElem hj] at h2
      have h3 : s.ws[i] = s.ws[j] := h2
      rw [(List.getElem_inj (IS.kd_nodup hk)).1 h3]
/-- Ready's place, told once for all. -/
theorem ref16_ready_fix (t : IS) (r : RX) (S : List Nat) (hk : (t.ws.map (fun p => (p.src, p.seq))).Nodup) : ∃ v : Int, t.ready.isSome = decide (0 ≤ v) ∧ ∀ w, RI w t r S → Calls Try.prog 29 #[.agg (r.vals t)] w fun e w' => e = .returned (.int .i64 v) ∧ Below w.heap.size w w' := by
  obtain ⟨b, hb⟩ := BestAt.ex t t.ws.length
  refine ⟨atV b, ?_, fun w h => (ref16_ready w t r S h).mono ?_⟩
  · rw [hb.ready hk]
    cases b with
    | none => rfl
    | some j => unfold atV; simp
  · rintro e w' ⟨c, rfl, hc, hB⟩
    rw [BestAt.uniq hk hc hb]
    exact ⟨rfl, hB⟩
end Go.Proofs.Ytajbfmdgnkpjgaa
