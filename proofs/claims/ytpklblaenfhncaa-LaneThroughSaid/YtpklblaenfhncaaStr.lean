/- '[]byte(s)', as the walk meets it. -/
import Derived.Test.YtpklblaenfhncaaFlitMath
import Derived.Test.YtpklblaenfhncaaRdr
import Derived.Laws.IdiomStrings
namespace Go.Proofs.Ytpklblaenfhncaa
set_option linter.unusedVariables false
open Go.RowKit BM
theorem dataInts_getD (s : ByteArray) (i : Nat) (hi : i < s.size) : (dataInts s).getD i 0 = (s.data[i].toNat : Int) := by
  unfold dataInts
  have h : i < s.data.toList.length := hi
  rw [List.getD_eq_getElem?_getD, List.getElem?_map, List.getElem?_eq_getElem h]
  rfl
theorem conv_bytes {P : Program} {w : World} {ops : Array Oper} {rest : List Oper} {o : Oper} {a : Act} {Q : Exit → Act → World → Prop} (src dst e : TypeId) (s : ByteArray) (x : Operand)
    (ho : o.op = .convert src dst x) (hgd : o.guard = none) (hx : a.eval x = .string s)
    (hs : P.underlying src = some .string) (hd : P.underlying dst = some (.slice e)) (he : P.underlying e = some (.int .u8))
    (h : ∀ cap w', IntsNew w.heap.size .u8 w' (some ⟨w.heap.size, 0, none⟩) (dataInts s) → Below w.heap.size w w' → w.heap.size < w'.heap.size → wpList P ops Q rest (a.put o.dst (.slice (some ⟨w.heap.size, 0, none⟩) s.size cap)) w') : wpList P ops Q (o :: rest) a w := by
  refine wpList_plain hgd fun K hK => ?_
  have hr := run_bytes_of_string (P := P) w src dst e s hs hd he
  unfold Oper.wp
  simp [execOp, ho, hx, hr, Result.andThen]
  refine hK _ _ (h _ _ ?_ ?_ ?_)
  · intro i hi
    rw [dataInts_len] at hi
    refine ⟨_, rfl, Nat.le_refl _, ?_⟩
    rw [dataInts_getD s i hi]
    show (w.drew.alloc _).cell? ⟨w.drew.heap.size, i, none⟩ = _
    rw [cell_of_row _ _ _ _ _ _ (heap_alloc_new w.drew _)]
    exact bytesRow_at s _ i hi
  · exact ((Below.refl _ _).drew).alloc (Nat.le_refl _) _
  · show w.heap.size < (w.drew.alloc _).heap.size
    rw [World.size_alloc]; exact Nat.lt_succ_self _
end Go.Proofs.Ytpklblaenfhncaa
