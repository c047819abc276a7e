/- Parcels as data: which may be, their words, their packets, one that may be made of any. -/
import Derived.Test.YtpklblaenfhncaaRefFlitG
import Derived.Test.YtpklblaenfhncaaFlat
namespace Go.Proofs.Ytpklblaenfhncaa
set_option linter.unusedVariables false
open BM
structure T2 where
  node : Int
  seq : Int
def T2.zero : T2 := ⟨0, 0⟩
def T2.cells (t : T2) : List Value := [.int .i64 t.node, .int .i64 t.seq]
theorem T2.clen (t : T2) : t.cells.length = 2 := rfl
structure Pk where
  src : Int
  dst : Int
  seq : Int
  data : ByteArray
def Pk.zero : Pk := ⟨0, 0, 0, ByteArray.empty⟩
abbrev Pk.val (p : Pk) : Value := .agg #[.int .i64 p.src, .int .i64 p.dst, .int .i64 p.seq, .string p.data]
def Pk.cells (p : Pk) : List Value := [.int .i64 p.src, .int .i64 p.dst, .int .i64 p.seq, .string p.data]
theorem Pk.clen (p : Pk) : p.cells.length = 4 := rfl
structure Pa where
  src : Int
  cast : Bool
  heads : List T2
  data : ByteArray
abbrev Pa.val (p : Pa) (v : Value) : Value := .agg #[.int .i64 p.src, .bool p.cast, v, .string p.data]
def UV (n : Nat) : Value := .int .u64 (n : Int)
def okT (t : T2) : Bool := decide (0 ≤ t.node ∧ t.node ≤ 4095 ∧ 0 ≤ t.seq ∧ t.seq ≤ 65535)
def rightP (p : Pa) : Bool := p.heads.all okT && decide (0 ≤ p.src ∧ p.src ≤ 4095 ∧ 1 ≤ p.heads.length ∧ p.heads.length ≤ 4096 ∧ (p.cast = true ∨ p.heads.length = 1) ∧ p.data.size ≤ 64)
def headFl (p : Pa) (i : Nat) : Fl := ⟨1, p.src, (p.heads.getD i T2.zero).node, (p.heads.getD i T2.zero).seq, p.data.size, decide (i + 1 < p.heads.length), p.cast, ByteArray.empty⟩
def bodyFl (d : ByteArray) (k : Nat) : Fl := ⟨2, 0, 0, 0, 0, false, false, d.extract (6 * k) (6 * k + 6)⟩
def nBody (d : ByteArray) : Nat := (d.size - 1) / 6
def tailFl (d : ByteArray) : Fl := ⟨3, 0, 0, 0, 0, false, false, d.extract (6 * nBody d) d.size⟩
def headWs (p : Pa) : List Nat := (List.range p.heads.length).map (fun i => wordF (headFl p i))
def bodyWs (d : ByteArray) : List Nat := (List.range (nBody d)).map (fun k => wordF (bodyFl d k))
def restWs (d : ByteArray) : List Nat := bodyWs d ++ [wordF (tailFl d)]
def wordsP (p : Pa) : List Nat := headWs p ++ restWs p.data
def packetsP (p : Pa) : List Pk := p.heads.map (fun t => ⟨p.src, t.node, t.seq, p.data⟩)
def goodT (t : T2) : T2 := ⟨t.node % 4096, t.seq % 65536⟩
def goodH (p : Pa) : List T2 := (p.heads.take (if p.cast = true then 6 else 1)).map goodT
def goodP (p : Pa) : Pa := ⟨p.src % 4096, p.cast, if (goodH p).length = 0 then [⟨1, 0⟩] else goodH p, p.data.extract 0 (min p.data.size 64)⟩
theorem right_parts {p : Pa} (h : rightP p = true) : (∀ t ∈ p.heads, 0 ≤ t.node ∧ t.node ≤ 4095 ∧ 0 ≤ t.seq ∧ t.seq ≤ 65535) ∧ 0 ≤ p.src ∧ p.src ≤ 4095 ∧ 1 ≤ p.heads.length ∧ p.heads.length ≤ 4096 ∧ (p.cast = true ∨ p.heads.length = 1) ∧ p.data.size ≤ 64 := by
  unfold rightP at h
  rw [Bool.and_eq_true, List.all_eq_true, decide_eq_true_eq] at h
  exact ⟨fun t ht => by have := h.1 t ht; unfold okT at this; exact of_decide_eq_true this, h.2⟩
theorem good_heads (p : Pa) : (goodP p).heads.length ≤ 6 ∧ 1 ≤ (goodP p).heads.length ∧ (p.cast = false → (goodP p).heads.length = 1) := by
  have hl : (goodH p).length ≤ (if p.cast = true then 6 else 1) := by unfold goodH; rw [List.length_map, List.length_take]; omega
  show (if (goodH p).length = 0 then [(⟨1, 0⟩ : T2)] else goodH p).length ≤ 6 ∧ 1 ≤ (if (goodH p).length = 0 then [(⟨1, 0⟩ : T2)] else goodH p).length ∧ (p.cast = false → (if (goodH p).length = 0 then [(⟨1, 0⟩ : T2)] else goodH p).length = 1)
  split
  · simp
  · rename_i h
    refine ⟨by split at hl <;> omega, by omega, fun hc => ?_⟩
    rw [hc] at hl; simp at hl; omega
theorem good_size (p : Pa) : (goodP p).data.size ≤ 64 := by
  show (p.data.extract 0 (min p.data.size 64)).size ≤ 64
  rw [ByteArray.size_extract]; omega
theorem good_right (p : Pa) : rightP (goodP p) = true := by
  have h1 := good_heads p
  have h2 := good_size p
  unfold rightP
  rw [Bool.and_eq_true, List.all_eq_true, decide_eq_true_eq]
  refine ⟨fun t ht => ?_, by show 0 ≤ p.src % 4096; omega, by show p.src % 4096 ≤ 4095; omega, h1.2.1, by omega, ?_, h2⟩
  · have ht' : t ∈ (if (goodH p).length = 0 then [(⟨1, 0⟩ : T2)] else goodH p) := ht
    split at ht'
    · rw [List.mem_singleton.1 ht']; decide
    · unfold goodH at ht'
      obtain ⟨u, _, rfl⟩ := List.mem_map.1 ht'
      unfold okT goodT
      refine decide_eq_true ⟨?_, ?_, ?_, ?_⟩ <;> dsimp only <;> omega
  · cases hc : p.cast with
    | true => exact .inl hc
    | false => exact .inr (h1.2.2 hc)
theorem head_right {p : Pa} (h : rightP p = true) {i : Nat} (hi : i < p.heads.length) : rightF (headFl p i) = true := by
  obtain ⟨h1, h2, h3, h4, h5, h6, h7⟩ := right_parts h
  have ht := h1 (p.heads.getD i T2.zero) (by rw [List.getD_eq_getElem?_getD, List.getElem?_eq_getElem hi]; exact List.getElem_mem hi)
  show headOk (headFl p i) = true
  unfold headOk headFl
  refine decide_eq_true ⟨rfl, h2, ?_, ht.1, ?_, ht.2.2.1, ?_, ?_, ?_⟩ <;> dsimp only <;> omega
theorem body_right {d : ByteArray} {k : Nat} (hk : k < nBody d) : rightF (bodyFl d k) = true := by
  unfold nBody at hk
  unfold rightF
  rw [if_neg (by show ¬ ((2 : Int) = 1); decide), Bool.and_eq_true]
  refine ⟨rfl, decide_eq_true (.inl ⟨rfl, ?_⟩)⟩
  show (d.extract (6 * k) (6 * k + 6)).size = 6
  rw [ByteArray.size_extract]; omega
theorem tail_right (d : ByteArray) : rightF (tailFl d) = true := by
  unfold rightF
  rw [if_neg (by show ¬ ((3 : Int) = 1); decide), Bool.and_eq_true]
  refine ⟨rfl, decide_eq_true (.inr ⟨rfl, ?_⟩)⟩
  show (d.extract (6 * nBody d) d.size).size ≤ 6
  unfold nBody
  rw [ByteArray.size_extract]; omega
theorem headWs_len (p : Pa) : (headWs p).length = p.heads.length := by unfold headWs; rw [List.length_map, List.length_range]
theorem restWs_len (d : ByteArray) : (restWs d).length = nBody d + 1 := by unfold restWs bodyWs; rw [List.length_append, List.length_map, List.length_range]; rfl
theorem wordsP_len (p : Pa) : (wordsP p).length = p.heads.length + nBody p.data + 1 := by unfold wordsP; rw [List.length_append, headWs_len, restWs_len]; omega
theorem words_lt (p : Pa) : ∀ x ∈ wordsP p, x < 2 ^ 64 := fun x hx => by
  unfold wordsP headWs restWs bodyWs at hx
  simp only [List.mem_append, List.mem_map, List.mem_singleton] at hx
  rcases hx with ⟨i, _, rfl⟩ | ⟨i, _, rfl⟩ | rfl <;> exact wordF_lt _
end Go.Proofs.Ytpklblaenfhncaa
