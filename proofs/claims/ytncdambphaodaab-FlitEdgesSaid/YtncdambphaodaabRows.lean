/-
  No cell of these rows narrows 'for every input' (looked for: loops, veiled, ifaces, maps, wideKeys, modest, calm, conditions, laid).
  DERIVED. THE GIVEN ROWS OF THIS SEAT. 6 by the template 'for every input the law returns true; each argument reads behind the call as it read before'; 0 by the template 'total and deterministic' (their statements: YtncdambphaodaabTotals.lean).
  GIVEN WITH THE SEED: the statements are not yours to turn. If you find one false, say at which input.
  Laid BY PROGRAM, IN A SANDBOX (cutbox-rows.mjs): the forced cells as the released guide's own fill.sh prints them over the translation 202ed70a6f69274e… (all of the seat's roots in one cut). By AI agents, Wed Nov 11 2026. No macro, syntax, notation, axiom, sorry.
-/
import Derived.Test.YtncdambphaodaabChecked
import GoSem.Claim
import GoSem.ClaimJoined
import GoSem.ClaimMapViews
import Derived.JoinedTies
import Derived.KernelRfl
namespace Go.Proofs.Ytncdambphaodaab
/- THE CELL 'sum', in the pinned program and in every row, IS THE sha256 OF THE DUMP (.gsa) THAT YtncdambphaodaabProg.lean LOADS. Nothing in Lean hashes anything: it is a label: what it is worth is what the hold of that sum in a sandbox is worth. -/
noncomputable def Try.pinned : Pinned := { name := "ytncdambphaodaab", sum := "202ed70a6f69274e994107f77853477bc25dddd8226a2738bb2c3a261f9e86dd", checked := Try.checked }
namespace Rows
def none {H : Type} : Left H := { results := [], args := [] }

/-- 'reticulelaw01.RingFirst': WHATEVER THE INPUT: true; the input reads as it did. -/
def ringFirstSpec : ChangeSpec := { name := "ringFirst", fn := fun _ => fun
  | [d1, d2] => { results := [.lit (.bool true)], args := [d1, d2] }
  | _ => none }
def ringFirstRow : OpenClaim := { program := "ytncdambphaodaab", sum := "202ed70a6f69274e994107f77853477bc25dddd8226a2738bb2c3a261f9e86dd", func := "reticule/reticulelaw01.RingFirst", spec := "ringFirst", apart := false }
def RingFirstSaid : Prop := ringFirstRow.holds Try.pinned (OpenSpec.ofChange ringFirstSpec)

/-- ITS FALSE NEIGHBOUR: 'it returns false'. Refute it at one input. -/
def ringFirstWrong : ChangeSpec := { name := "ringFirst", fn := fun _ => fun
  | [d1, d2] => { results := [.lit (.bool false)], args := [d1, d2] }
  | _ => none }
def RingFirstWrongFalsely : Prop := ringFirstRow.holds Try.pinned (OpenSpec.ofChange ringFirstWrong)

/-- 'reticulelaw03.FlitReads': WHATEVER THE INPUT: true; the input reads as it did. -/
def flitReadsSpec : ChangeSpec := { name := "flitReads", fn := fun _ => fun
  | [d] => { results := [.lit (.bool true)], args := [d] }
  | _ => none }
def flitReadsRow : OpenClaim := { program := "ytncdambphaodaab", sum := "202ed70a6f69274e994107f77853477bc25dddd8226a2738bb2c3a261f9e86dd", func := "reticule/reticulelaw03.FlitReads", spec := "flitReads", unfollowed := true, recurses := true, apart := false }
def FlitReadsSaid : Prop := flitReadsRow.holds Try.pinned (OpenSpec.ofChange flitReadsSpec)

/-- ITS FALSE NEIGHBOUR: 'it returns false'. Refute it at one input. -/
def flitReadsWrong : ChangeSpec := { name := "flitReads", fn := fun _ => fun
  | [d] => { results := [.lit (.bool false)], args := [d] }
  | _ => none }
def FlitReadsWrongFalsely : Prop := flitReadsRow.holds Try.pinned (OpenSpec.ofChange flitReadsWrong)

/-- 'reticulelaw03.FlitBack': WHATEVER THE INPUT: true; the input reads as it did. -/
def flitBackSpec : ChangeSpec := { name := "flitBack", fn := fun _ => fun
  | [d1, d2] => { results := [.lit (.bool true)], args := [d1, d2] }
  | _ => none }
def flitBackRow : OpenClaim := { program := "ytncdambphaodaab", sum := "202ed70a6f69274e994107f77853477bc25dddd8226a2738bb2c3a261f9e86dd", func := "reticule/reticulelaw03.FlitBack", spec := "flitBack", unfollowed := true, recurses := true, apart := false }
def FlitBackSaid : Prop := flitBackRow.holds Try.pinned (OpenSpec.ofChange flitBackSpec)

/-- ITS FALSE NEIGHBOUR: 'it returns false'. Refute it at one input. -/
def flitBackWrong : ChangeSpec := { name := "flitBack", fn := fun _ => fun
  | [d1, d2] => { results := [.lit (.bool false)], args := [d1, d2] }
  | _ => none }
def FlitBackWrongFalsely : Prop := flitBackRow.holds Try.pinned (OpenSpec.ofChange flitBackWrong)

/-- 'reticulelaw03.FlitOne': WHATEVER THE INPUT: true; the input reads as it did. -/
def flitOneSpec : ChangeSpec := { name := "flitOne", fn := fun _ => fun
  | [d1, d2, d3] => { results := [.lit (.bool true)], args := [d1, d2, d3] }
  | _ => none }
def flitOneRow : OpenClaim := { program := "ytncdambphaodaab", sum := "202ed70a6f69274e994107f77853477bc25dddd8226a2738bb2c3a261f9e86dd", func := "reticule/reticulelaw03.FlitOne", spec := "flitOne", unfollowed := true, recurses := true, apart := false }
def FlitOneSaid : Prop := flitOneRow.holds Try.pinned (OpenSpec.ofChange flitOneSpec)

/-- ITS FALSE NEIGHBOUR: 'it returns false'. Refute it at one input. -/
def flitOneWrong : ChangeSpec := { name := "flitOne", fn := fun _ => fun
  | [d1, d2, d3] => { results := [.lit (.bool false)], args := [d1, d2, d3] }
  | _ => none }
def FlitOneWrongFalsely : Prop := flitOneRow.holds Try.pinned (OpenSpec.ofChange flitOneWrong)

/-- 'reticulelaw03.FlitEdges': WHATEVER THE INPUT: true; the input reads as it did. -/
def flitEdgesSpec : ChangeSpec := { name := "flitEdges", fn := fun _ => fun
  | [d1, d2, d3] => { results := [.lit (.bool true)], args := [d1, d2, d3] }
  | _ => none }
def flitEdgesRow : OpenClaim := { program := "ytncdambphaodaab", sum := "202ed70a6f69274e994107f77853477bc25dddd8226a2738bb2c3a261f9e86dd", func := "reticule/reticulelaw03.FlitEdges", spec := "flitEdges", unfollowed := true, recurses := true, apart := false }
def FlitEdgesSaid : Prop := flitEdgesRow.holds Try.pinned (OpenSpec.ofChange flitEdgesSpec)

/-- ITS FALSE NEIGHBOUR: 'it returns false'. Refute it at one input. -/
def flitEdgesWrong : ChangeSpec := { name := "flitEdges", fn := fun _ => fun
  | [d1, d2, d3] => { results := [.lit (.bool false)], args := [d1, d2, d3] }
  | _ => none }
def FlitEdgesWrongFalsely : Prop := flitEdgesRow.holds Try.pinned (OpenSpec.ofChange flitEdgesWrong)

/-- 'reticulelaw03.FlitWrites': WHATEVER THE INPUT: true; the input reads as it did. -/
def flitWritesSpec : ChangeSpec := { name := "flitWrites", fn := fun _ => fun
  | [d1, d2] => { results := [.lit (.bool true)], args := [d1, d2] }
  | _ => none }
def flitWritesRow : OpenClaim := { program := "ytncdambphaodaab", sum := "202ed70a6f69274e994107f77853477bc25dddd8226a2738bb2c3a261f9e86dd", func := "reticule/reticulelaw03.FlitWrites", spec := "flitWrites", unfollowed := true, recurses := true, apart := false }
def FlitWritesSaid : Prop := flitWritesRow.holds Try.pinned (OpenSpec.ofChange flitWritesSpec)

/-- ITS FALSE NEIGHBOUR: 'it returns false'. Refute it at one input. -/
def flitWritesWrong : ChangeSpec := { name := "flitWrites", fn := fun _ => fun
  | [d1, d2] => { results := [.lit (.bool false)], args := [d1, d2] }
  | _ => none }
def FlitWritesWrongFalsely : Prop := flitWritesRow.holds Try.pinned (OpenSpec.ofChange flitWritesWrong)

/- THE SECOND FORM. 'bulk': how many values and letters a reading holds, each counted each time it is reached (what is shared counts as often as it is met; a slice's spare places count too). A statement '..UptoSaid' is the law's where the arguments, and the package variables that the reading takes, are together of bulk at most 1048576: NARROWER than '..Said'. Prove '..Said' where nothing that the law and all that it calls make is longer than what came in: it says more and counts as full. Else prove '..UptoSaid'. A law counts once. -/
mutual
def uptoBulk {H : Type} : DataW H → Nat
  | .lit (.string bytes) => bytes.length + 1
  | .lit _ => 1
  | .nil => 1
  | .ptr d => uptoBulk d + 1
  | .slice elems spare => uptoBulkAll elems + uptoBulkAll spare + 1
  | .agg parts => uptoBulkAll parts + 1
  | .iface _ d => uptoBulk d + 1
  | .map entries => uptoBulkEntries entries + 1
  | .held _ => 1
def uptoBulkAll {H : Type} : List (DataW H) → Nat
  | [] => 0
  | d :: r => uptoBulk d + uptoBulkAll r
def uptoBulkEntries {H : Type} : List (Lit × DataW H) → Nat
  | [] => 0
  | x :: r => uptoBulkEntry x + uptoBulkEntries r
def uptoBulkEntry {H : Type} : Lit × DataW H → Nat
  | (.string bytes, d) => bytes.length + uptoBulk d + 1
  | (_, d) => uptoBulk d + 1
 end
def uptoSmall : (H : Type) → List (DataW H) → Bool := fun _ ds => decide (uptoBulkAll ds ≤ 1048576)
def OpenSpec.upto (s : _root_.Go.ChangeSpec) : _root_.Go.OpenSpec := { _root_.Go.OpenSpec.ofChange s with cond := some uptoSmall }

/-- 'reticulelaw01.RingFirst', WHERE WHAT IT READS IS OF BULK AT MOST 1048576: true; the input reads as it did. -/
def ringFirstUptoRow : OpenClaim := { program := "ytncdambphaodaab", sum := "202ed70a6f69274e994107f77853477bc25dddd8226a2738bb2c3a261f9e86dd", func := "reticule/reticulelaw01.RingFirst", spec := "ringFirst", apart := false, narrowed := true }
def RingFirstUptoSaid : Prop := ringFirstUptoRow.holds Try.pinned (OpenSpec.upto ringFirstSpec)

/-- 'reticulelaw03.FlitReads', WHERE WHAT IT READS IS OF BULK AT MOST 1048576: true; the input reads as it did. -/
def flitReadsUptoRow : OpenClaim := { program := "ytncdambphaodaab", sum := "202ed70a6f69274e994107f77853477bc25dddd8226a2738bb2c3a261f9e86dd", func := "reticule/reticulelaw03.FlitReads", spec := "flitReads", unfollowed := true, recurses := true, apart := false, narrowed := true }
def FlitReadsUptoSaid : Prop := flitReadsUptoRow.holds Try.pinned (OpenSpec.upto flitReadsSpec)

/-- 'reticulelaw03.FlitBack', WHERE WHAT IT READS IS OF BULK AT MOST 1048576: true; the input reads as it did. -/
def flitBackUptoRow : OpenClaim := { program := "ytncdambphaodaab", sum := "202ed70a6f69274e994107f77853477bc25dddd8226a2738bb2c3a261f9e86dd", func := "reticule/reticulelaw03.FlitBack", spec := "flitBack", unfollowed := true, recurses := true, apart := false, narrowed := true }
def FlitBackUptoSaid : Prop := flitBackUptoRow.holds Try.pinned (OpenSpec.upto flitBackSpec)

/-- 'reticulelaw03.FlitOne', WHERE WHAT IT READS IS OF BULK AT MOST 1048576: true; the input reads as it did. -/
def flitOneUptoRow : OpenClaim := { program := "ytncdambphaodaab", sum := "202ed70a6f69274e994107f77853477bc25dddd8226a2738bb2c3a261f9e86dd", func := "reticule/reticulelaw03.FlitOne", spec := "flitOne", unfollowed := true, recurses := true, apart := false, narrowed := true }
def FlitOneUptoSaid : Prop := flitOneUptoRow.holds Try.pinned (OpenSpec.upto flitOneSpec)

/-- 'reticulelaw03.FlitEdges', WHERE WHAT IT READS IS OF BULK AT MOST 1048576: true; the input reads as it did. -/
def flitEdgesUptoRow : OpenClaim := { program := "ytncdambphaodaab", sum := "202ed70a6f69274e994107f77853477bc25dddd8226a2738bb2c3a261f9e86dd", func := "reticule/reticulelaw03.FlitEdges", spec := "flitEdges", unfollowed := true, recurses := true, apart := false, narrowed := true }
def FlitEdgesUptoSaid : Prop := flitEdgesUptoRow.holds Try.pinned (OpenSpec.upto flitEdgesSpec)

/-- 'reticulelaw03.FlitWrites', WHERE WHAT IT READS IS OF BULK AT MOST 1048576: true; the input reads as it did. -/
def flitWritesUptoRow : OpenClaim := { program := "ytncdambphaodaab", sum := "202ed70a6f69274e994107f77853477bc25dddd8226a2738bb2c3a261f9e86dd", func := "reticule/reticulelaw03.FlitWrites", spec := "flitWrites", unfollowed := true, recurses := true, apart := false, narrowed := true }
def FlitWritesUptoSaid : Prop := flitWritesUptoRow.holds Try.pinned (OpenSpec.upto flitWritesSpec)

end Rows
end Go.Proofs.Ytncdambphaodaab
