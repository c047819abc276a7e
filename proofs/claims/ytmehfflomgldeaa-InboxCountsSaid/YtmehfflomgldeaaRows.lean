/-
  No cell of these rows narrows 'for every input' (looked for: loops, veiled, ifaces, maps, wideKeys, modest, calm, conditions, laid).
  DERIVED. THE GIVEN ROWS OF THIS SEAT. 12 by the template 'for every input the law returns true; each argument reads behind the call as it read before'; 0 by the template 'total and deterministic' (their statements: YtmehfflomgldeaaTotals.lean).
  GIVEN WITH THE SEED: the statements are not yours to turn. If you find one false, say at which input.
  Laid BY PROGRAM, IN A SANDBOX (cutbox-rows.mjs): the forced cells as the released guide's own fill.sh prints them over the translation f6c01e35d372ed33… (all of the seat's roots in one cut). By AI agents, Wed Nov 11 2026. No macro, syntax, notation, axiom, sorry.
-/
import Derived.Test.YtmehfflomgldeaaChecked
import GoSem.Claim
import GoSem.ClaimJoined
import GoSem.ClaimMapViews
import Derived.JoinedTies
import Derived.KernelRfl
namespace Go.Proofs.Ytmehfflomgldeaa
/- THE CELL 'sum', in the pinned program and in every row, IS THE sha256 OF THE DUMP (.gsa) THAT YtmehfflomgldeaaProg.lean LOADS. Nothing in Lean hashes anything: it is a label: what it is worth is what the hold of that sum in a sandbox is worth. -/
noncomputable def Try.pinned : Pinned := { name := "ytmehfflomgldeaa", sum := "f6c01e35d372ed33fa555a15db619cbefd5068c1456c7bad1c721ec2531677d9", checked := Try.checked }
namespace Rows
def none {H : Type} : Left H := { results := [], args := [] }

/-- 'reticulelaw16.InboxRound': WHATEVER THE INPUT: true; the input reads as it did. -/
def inboxRoundSpec : ChangeSpec := { name := "inboxRound", fn := fun _ => fun
  | [d] => { results := [.lit (.bool true)], args := [d] }
  | _ => none }
def inboxRoundRow : OpenClaim := { program := "ytmehfflomgldeaa", sum := "f6c01e35d372ed33fa555a15db619cbefd5068c1456c7bad1c721ec2531677d9", func := "reticule/reticulelaw16.InboxRound", spec := "inboxRound", plainKeys := false, apart := false }
def InboxRoundSaid : Prop := inboxRoundRow.holds Try.pinned (OpenSpec.ofChange inboxRoundSpec)

/-- ITS FALSE NEIGHBOUR: 'it returns false'. Refute it at one input. -/
def inboxRoundWrong : ChangeSpec := { name := "inboxRound", fn := fun _ => fun
  | [d] => { results := [.lit (.bool false)], args := [d] }
  | _ => none }
def InboxRoundWrongFalsely : Prop := inboxRoundRow.holds Try.pinned (OpenSpec.ofChange inboxRoundWrong)

/-- 'reticulelaw16.InboxRow': WHATEVER THE INPUT: true; the input reads as it did. -/
def inboxRowSpec : ChangeSpec := { name := "inboxRow", fn := fun _ => fun
  | [d1, d2, d3] => { results := [.lit (.bool true)], args := [d1, d2, d3] }
  | _ => none }
def inboxRowRow : OpenClaim := { program := "ytmehfflomgldeaa", sum := "f6c01e35d372ed33fa555a15db619cbefd5068c1456c7bad1c721ec2531677d9", func := "reticule/reticulelaw16.InboxRow", spec := "inboxRow", plainKeys := false, apart := false }
def InboxRowSaid : Prop := inboxRowRow.holds Try.pinned (OpenSpec.ofChange inboxRowSpec)

/-- ITS FALSE NEIGHBOUR: 'it returns false'. Refute it at one input. -/
def inboxRowWrong : ChangeSpec := { name := "inboxRow", fn := fun _ => fun
  | [d1, d2, d3] => { results := [.lit (.bool false)], args := [d1, d2, d3] }
  | _ => none }
def InboxRowWrongFalsely : Prop := inboxRowRow.holds Try.pinned (OpenSpec.ofChange inboxRowWrong)

/-- 'reticulelaw16.InboxFull': WHATEVER THE INPUT: true; the input reads as it did. -/
def inboxFullSpec : ChangeSpec := { name := "inboxFull", fn := fun _ => fun
  | [d1, d2] => { results := [.lit (.bool true)], args := [d1, d2] }
  | _ => none }
def inboxFullRow : OpenClaim := { program := "ytmehfflomgldeaa", sum := "f6c01e35d372ed33fa555a15db619cbefd5068c1456c7bad1c721ec2531677d9", func := "reticule/reticulelaw16.InboxFull", spec := "inboxFull", plainKeys := false, apart := false }
def InboxFullSaid : Prop := inboxFullRow.holds Try.pinned (OpenSpec.ofChange inboxFullSpec)

/-- ITS FALSE NEIGHBOUR: 'it returns false'. Refute it at one input. -/
def inboxFullWrong : ChangeSpec := { name := "inboxFull", fn := fun _ => fun
  | [d1, d2] => { results := [.lit (.bool false)], args := [d1, d2] }
  | _ => none }
def InboxFullWrongFalsely : Prop := inboxFullRow.holds Try.pinned (OpenSpec.ofChange inboxFullWrong)

/-- 'reticulelaw16.InboxApart': WHATEVER THE INPUT: true; the input reads as it did. -/
def inboxApartSpec : ChangeSpec := { name := "inboxApart", fn := fun _ => fun
  | [d1, d2] => { results := [.lit (.bool true)], args := [d1, d2] }
  | _ => none }
def inboxApartRow : OpenClaim := { program := "ytmehfflomgldeaa", sum := "f6c01e35d372ed33fa555a15db619cbefd5068c1456c7bad1c721ec2531677d9", func := "reticule/reticulelaw16.InboxApart", spec := "inboxApart", plainKeys := false, apart := false }
def InboxApartSaid : Prop := inboxApartRow.holds Try.pinned (OpenSpec.ofChange inboxApartSpec)

/-- ITS FALSE NEIGHBOUR: 'it returns false'. Refute it at one input. -/
def inboxApartWrong : ChangeSpec := { name := "inboxApart", fn := fun _ => fun
  | [d1, d2] => { results := [.lit (.bool false)], args := [d1, d2] }
  | _ => none }
def InboxApartWrongFalsely : Prop := inboxApartRow.holds Try.pinned (OpenSpec.ofChange inboxApartWrong)

/-- 'reticulelaw16.InboxCounts': WHATEVER THE INPUT: true; the input reads as it did. -/
def inboxCountsSpec : ChangeSpec := { name := "inboxCounts", fn := fun _ => fun
  | [d1, d2] => { results := [.lit (.bool true)], args := [d1, d2] }
  | _ => none }
def inboxCountsRow : OpenClaim := { program := "ytmehfflomgldeaa", sum := "f6c01e35d372ed33fa555a15db619cbefd5068c1456c7bad1c721ec2531677d9", func := "reticule/reticulelaw16.InboxCounts", spec := "inboxCounts", plainKeys := false, apart := false }
def InboxCountsSaid : Prop := inboxCountsRow.holds Try.pinned (OpenSpec.ofChange inboxCountsSpec)

/-- ITS FALSE NEIGHBOUR: 'it returns false'. Refute it at one input. -/
def inboxCountsWrong : ChangeSpec := { name := "inboxCounts", fn := fun _ => fun
  | [d1, d2] => { results := [.lit (.bool false)], args := [d1, d2] }
  | _ => none }
def InboxCountsWrongFalsely : Prop := inboxCountsRow.holds Try.pinned (OpenSpec.ofChange inboxCountsWrong)

/-- 'reticulelaw16.InboxPlays': WHATEVER THE INPUT: true; the input reads as it did. -/
def inboxPlaysSpec : ChangeSpec := { name := "inboxPlays", fn := fun _ => fun
  | [d1, d2] => { results := [.lit (.bool true)], args := [d1, d2] }
  | _ => none }
def inboxPlaysRow : OpenClaim := { program := "ytmehfflomgldeaa", sum := "f6c01e35d372ed33fa555a15db619cbefd5068c1456c7bad1c721ec2531677d9", func := "reticule/reticulelaw16.InboxPlays", spec := "inboxPlays", plainKeys := false, apart := false }
def InboxPlaysSaid : Prop := inboxPlaysRow.holds Try.pinned (OpenSpec.ofChange inboxPlaysSpec)

/-- ITS FALSE NEIGHBOUR: 'it returns false'. Refute it at one input. -/
def inboxPlaysWrong : ChangeSpec := { name := "inboxPlays", fn := fun _ => fun
  | [d1, d2] => { results := [.lit (.bool false)], args := [d1, d2] }
  | _ => none }
def InboxPlaysWrongFalsely : Prop := inboxPlaysRow.holds Try.pinned (OpenSpec.ofChange inboxPlaysWrong)

/-- 'reticulelaw16.InboxOdd': WHATEVER THE INPUT: true; the input reads as it did. -/
def inboxOddSpec : ChangeSpec := { name := "inboxOdd", fn := fun _ => fun
  | [d] => { results := [.lit (.bool true)], args := [d] }
  | _ => none }
def inboxOddRow : OpenClaim := { program := "ytmehfflomgldeaa", sum := "f6c01e35d372ed33fa555a15db619cbefd5068c1456c7bad1c721ec2531677d9", func := "reticule/reticulelaw16.InboxOdd", spec := "inboxOdd", plainKeys := false, apart := false }
def InboxOddSaid : Prop := inboxOddRow.holds Try.pinned (OpenSpec.ofChange inboxOddSpec)

/-- ITS FALSE NEIGHBOUR: 'it returns false'. Refute it at one input. -/
def inboxOddWrong : ChangeSpec := { name := "inboxOdd", fn := fun _ => fun
  | [d] => { results := [.lit (.bool false)], args := [d] }
  | _ => none }
def InboxOddWrongFalsely : Prop := inboxOddRow.holds Try.pinned (OpenSpec.ofChange inboxOddWrong)

/-- 'reticulelaw11.JoinRow': WHATEVER THE INPUT: true; the input reads as it did. -/
def joinRowSpec : ChangeSpec := { name := "joinRow", fn := fun _ => fun
  | [d] => { results := [.lit (.bool true)], args := [d] }
  | _ => none }
def joinRowRow : OpenClaim := { program := "ytmehfflomgldeaa", sum := "f6c01e35d372ed33fa555a15db619cbefd5068c1456c7bad1c721ec2531677d9", func := "reticule/reticulelaw11.JoinRow", spec := "joinRow", unfollowed := true, recurses := true, plainKeys := false, apart := false }
def JoinRowSaid : Prop := joinRowRow.holds Try.pinned (OpenSpec.ofChange joinRowSpec)

/-- ITS FALSE NEIGHBOUR: 'it returns false'. Refute it at one input. -/
def joinRowWrong : ChangeSpec := { name := "joinRow", fn := fun _ => fun
  | [d] => { results := [.lit (.bool false)], args := [d] }
  | _ => none }
def JoinRowWrongFalsely : Prop := joinRowRow.holds Try.pinned (OpenSpec.ofChange joinRowWrong)

/-- 'reticulelaw11.JoinPrefix': WHATEVER THE INPUT: true; the input reads as it did. -/
def joinPrefixSpec : ChangeSpec := { name := "joinPrefix", fn := fun _ => fun
  | [d1, d2] => { results := [.lit (.bool true)], args := [d1, d2] }
  | _ => none }
def joinPrefixRow : OpenClaim := { program := "ytmehfflomgldeaa", sum := "f6c01e35d372ed33fa555a15db619cbefd5068c1456c7bad1c721ec2531677d9", func := "reticule/reticulelaw11.JoinPrefix", spec := "joinPrefix", unfollowed := true, recurses := true, plainKeys := false, apart := false }
def JoinPrefixSaid : Prop := joinPrefixRow.holds Try.pinned (OpenSpec.ofChange joinPrefixSpec)

/-- ITS FALSE NEIGHBOUR: 'it returns false'. Refute it at one input. -/
def joinPrefixWrong : ChangeSpec := { name := "joinPrefix", fn := fun _ => fun
  | [d1, d2] => { results := [.lit (.bool false)], args := [d1, d2] }
  | _ => none }
def JoinPrefixWrongFalsely : Prop := joinPrefixRow.holds Try.pinned (OpenSpec.ofChange joinPrefixWrong)

/-- 'reticulelaw11.JoinTakes': WHATEVER THE INPUT: true; the input reads as it did. -/
def joinTakesSpec : ChangeSpec := { name := "joinTakes", fn := fun _ => fun
  | [d1, d2, d3] => { results := [.lit (.bool true)], args := [d1, d2, d3] }
  | _ => none }
def joinTakesRow : OpenClaim := { program := "ytmehfflomgldeaa", sum := "f6c01e35d372ed33fa555a15db619cbefd5068c1456c7bad1c721ec2531677d9", func := "reticule/reticulelaw11.JoinTakes", spec := "joinTakes", unfollowed := true, recurses := true, plainKeys := false, apart := false }
def JoinTakesSaid : Prop := joinTakesRow.holds Try.pinned (OpenSpec.ofChange joinTakesSpec)

/-- ITS FALSE NEIGHBOUR: 'it returns false'. Refute it at one input. -/
def joinTakesWrong : ChangeSpec := { name := "joinTakes", fn := fun _ => fun
  | [d1, d2, d3] => { results := [.lit (.bool false)], args := [d1, d2, d3] }
  | _ => none }
def JoinTakesWrongFalsely : Prop := joinTakesRow.holds Try.pinned (OpenSpec.ofChange joinTakesWrong)

/-- 'reticulelaw11.JoinErrors': WHATEVER THE INPUT: true; the input reads as it did. -/
def joinErrorsSpec : ChangeSpec := { name := "joinErrors", fn := fun _ => fun
  | [d1, d2, d3] => { results := [.lit (.bool true)], args := [d1, d2, d3] }
  | _ => none }
def joinErrorsRow : OpenClaim := { program := "ytmehfflomgldeaa", sum := "f6c01e35d372ed33fa555a15db619cbefd5068c1456c7bad1c721ec2531677d9", func := "reticule/reticulelaw11.JoinErrors", spec := "joinErrors", unfollowed := true, recurses := true, plainKeys := false, apart := false }
def JoinErrorsSaid : Prop := joinErrorsRow.holds Try.pinned (OpenSpec.ofChange joinErrorsSpec)

/-- ITS FALSE NEIGHBOUR: 'it returns false'. Refute it at one input. -/
def joinErrorsWrong : ChangeSpec := { name := "joinErrors", fn := fun _ => fun
  | [d1, d2, d3] => { results := [.lit (.bool false)], args := [d1, d2, d3] }
  | _ => none }
def JoinErrorsWrongFalsely : Prop := joinErrorsRow.holds Try.pinned (OpenSpec.ofChange joinErrorsWrong)

/-- 'reticulelaw11.JoinNil': WHATEVER THE INPUT: true; the input reads as it did. -/
def joinNilSpec : ChangeSpec := { name := "joinNil", fn := fun _ => fun
  | [d] => { results := [.lit (.bool true)], args := [d] }
  | _ => none }
def joinNilRow : OpenClaim := { program := "ytmehfflomgldeaa", sum := "f6c01e35d372ed33fa555a15db619cbefd5068c1456c7bad1c721ec2531677d9", func := "reticule/reticulelaw11.JoinNil", spec := "joinNil", unfollowed := true, recurses := true, plainKeys := false, apart := false }
def JoinNilSaid : Prop := joinNilRow.holds Try.pinned (OpenSpec.ofChange joinNilSpec)

/-- ITS FALSE NEIGHBOUR: 'it returns false'. Refute it at one input. -/
def joinNilWrong : ChangeSpec := { name := "joinNil", fn := fun _ => fun
  | [d] => { results := [.lit (.bool false)], args := [d] }
  | _ => none }
def JoinNilWrongFalsely : Prop := joinNilRow.holds Try.pinned (OpenSpec.ofChange joinNilWrong)

/- THE SECOND FORM. 'bulk': how many values and letters a reading holds, each counted each time it is reached (what is shared counts as often as it is met; a slice's spare places count too). A statement '..UptoSaid' is the law's where the arguments, and the package variables that the reading takes, are together of bulk at most 1048576: NARROWER than '..Said'. Prove '..Said' where nothing that the law and all that it calls make is longer than what came in: it says more and counts as full. Else prove '..UptoSaid'. A law counts once. -/
mutual
def uptoBulk {H : Type} : DataW H → Nat
  | .lit (.string bytes) => bytes.length + 1
  | .lit _ => 1
  | .nil => 1
  | .ptr d => uptoBulk d + 1
  | .slice elems spare => uptoBulkAll elems + uptoBulkAll spare + 1
  | .agg parts => uptoBulkAll parts + 1
  | .iface _ d => uptoBulk d + 1
  | .map entries => uptoBulkEntries entries + 1
  | .held _ => 1
def uptoBulkAll {H : Type} : List (DataW H) → Nat
  | [] => 0
  | d :: r => uptoBulk d + uptoBulkAll r
def uptoBulkEntries {H : Type} : List (Lit × DataW H) → Nat
  | [] => 0
  | x :: r => uptoBulkEntry x + uptoBulkEntries r
def uptoBulkEntry {H : Type} : Lit × DataW H → Nat
  | (.string bytes, d) => bytes.length + uptoBulk d + 1
  | (_, d) => uptoBulk d + 1
 end
def uptoSmall : (H : Type) → List (DataW H) → Bool := fun _ ds => decide (uptoBulkAll ds ≤ 1048576)
def OpenSpec.upto (s : _root_.Go.ChangeSpec) : _root_.Go.OpenSpec := { _root_.Go.OpenSpec.ofChange s with cond := some uptoSmall }

/-- 'reticulelaw16.InboxRound', WHERE WHAT IT READS IS OF BULK AT MOST 1048576: true; the input reads as it did. -/
def inboxRoundUptoRow : OpenClaim := { program := "ytmehfflomgldeaa", sum := "f6c01e35d372ed33fa555a15db619cbefd5068c1456c7bad1c721ec2531677d9", func := "reticule/reticulelaw16.InboxRound", spec := "inboxRound", plainKeys := false, apart := false, narrowed := true }
def InboxRoundUptoSaid : Prop := inboxRoundUptoRow.holds Try.pinned (OpenSpec.upto inboxRoundSpec)

/-- 'reticulelaw16.InboxRow', WHERE WHAT IT READS IS OF BULK AT MOST 1048576: true; the input reads as it did. -/
def inboxRowUptoRow : OpenClaim := { program := "ytmehfflomgldeaa", sum := "f6c01e35d372ed33fa555a15db619cbefd5068c1456c7bad1c721ec2531677d9", func := "reticule/reticulelaw16.InboxRow", spec := "inboxRow", plainKeys := false, apart := false, narrowed := true }
def InboxRowUptoSaid : Prop := inboxRowUptoRow.holds Try.pinned (OpenSpec.upto inboxRowSpec)

/-- 'reticulelaw16.InboxFull', WHERE WHAT IT READS IS OF BULK AT MOST 1048576: true; the input reads as it did. -/
def inboxFullUptoRow : OpenClaim := { program := "ytmehfflomgldeaa", sum := "f6c01e35d372ed33fa555a15db619cbefd5068c1456c7bad1c721ec2531677d9", func := "reticule/reticulelaw16.InboxFull", spec := "inboxFull", plainKeys := false, apart := false, narrowed := true }
def InboxFullUptoSaid : Prop := inboxFullUptoRow.holds Try.pinned (OpenSpec.upto inboxFullSpec)

/-- 'reticulelaw16.InboxApart', WHERE WHAT IT READS IS OF BULK AT MOST 1048576: true; the input reads as it did. -/
def inboxApartUptoRow : OpenClaim := { program := "ytmehfflomgldeaa", sum := "f6c01e35d372ed33fa555a15db619cbefd5068c1456c7bad1c721ec2531677d9", func := "reticule/reticulelaw16.InboxApart", spec := "inboxApart", plainKeys := false, apart := false, narrowed := true }
def InboxApartUptoSaid : Prop := inboxApartUptoRow.holds Try.pinned (OpenSpec.upto inboxApartSpec)

/-- 'reticulelaw16.InboxCounts', WHERE WHAT IT READS IS OF BULK AT MOST 1048576: true; the input reads as it did. -/
def inboxCountsUptoRow : OpenClaim := { program := "ytmehfflomgldeaa", sum := "f6c01e35d372ed33fa555a15db619cbefd5068c1456c7bad1c721ec2531677d9", func := "reticule/reticulelaw16.InboxCounts", spec := "inboxCounts", plainKeys := false, apart := false, narrowed := true }
def InboxCountsUptoSaid : Prop := inboxCountsUptoRow.holds Try.pinned (OpenSpec.upto inboxCountsSpec)

/-- 'reticulelaw16.InboxPlays', WHERE WHAT IT READS IS OF BULK AT MOST 1048576: true; the input reads as it did. -/
def inboxPlaysUptoRow : OpenClaim := { program := "ytmehfflomgldeaa", sum := "f6c01e35d372ed33fa555a15db619cbefd5068c1456c7bad1c721ec2531677d9", func := "reticule/reticulelaw16.InboxPlays", spec := "inboxPlays", plainKeys := false, apart := false, narrowed := true }
def InboxPlaysUptoSaid : Prop := inboxPlaysUptoRow.holds Try.pinned (OpenSpec.upto inboxPlaysSpec)

/-- 'reticulelaw16.InboxOdd', WHERE WHAT IT READS IS OF BULK AT MOST 1048576: true; the input reads as it did. -/
def inboxOddUptoRow : OpenClaim := { program := "ytmehfflomgldeaa", sum := "f6c01e35d372ed33fa555a15db619cbefd5068c1456c7bad1c721ec2531677d9", func := "reticule/reticulelaw16.InboxOdd", spec := "inboxOdd", plainKeys := false, apart := false, narrowed := true }
def InboxOddUptoSaid : Prop := inboxOddUptoRow.holds Try.pinned (OpenSpec.upto inboxOddSpec)

/-- 'reticulelaw11.JoinRow', WHERE WHAT IT READS IS OF BULK AT MOST 1048576: true; the input reads as it did. -/
def joinRowUptoRow : OpenClaim := { program := "ytmehfflomgldeaa", sum := "f6c01e35d372ed33fa555a15db619cbefd5068c1456c7bad1c721ec2531677d9", func := "reticule/reticulelaw11.JoinRow", spec := "joinRow", unfollowed := true, recurses := true, plainKeys := false, apart := false, narrowed := true }
def JoinRowUptoSaid : Prop := joinRowUptoRow.holds Try.pinned (OpenSpec.upto joinRowSpec)

/-- 'reticulelaw11.JoinPrefix', WHERE WHAT IT READS IS OF BULK AT MOST 1048576: true; the input reads as it did. -/
def joinPrefixUptoRow : OpenClaim := { program := "ytmehfflomgldeaa", sum := "f6c01e35d372ed33fa555a15db619cbefd5068c1456c7bad1c721ec2531677d9", func := "reticule/reticulelaw11.JoinPrefix", spec := "joinPrefix", unfollowed := true, recurses := true, plainKeys := false, apart := false, narrowed := true }
def JoinPrefixUptoSaid : Prop := joinPrefixUptoRow.holds Try.pinned (OpenSpec.upto joinPrefixSpec)

/-- 'reticulelaw11.JoinTakes', WHERE WHAT IT READS IS OF BULK AT MOST 1048576: true; the input reads as it did. -/
def joinTakesUptoRow : OpenClaim := { program := "ytmehfflomgldeaa", sum := "f6c01e35d372ed33fa555a15db619cbefd5068c1456c7bad1c721ec2531677d9", func := "reticule/reticulelaw11.JoinTakes", spec := "joinTakes", unfollowed := true, recurses := true, plainKeys := false, apart := false, narrowed := true }
def JoinTakesUptoSaid : Prop := joinTakesUptoRow.holds Try.pinned (OpenSpec.upto joinTakesSpec)

/-- 'reticulelaw11.JoinErrors', WHERE WHAT IT READS IS OF BULK AT MOST 1048576: true; the input reads as it did. -/
def joinErrorsUptoRow : OpenClaim := { program := "ytmehfflomgldeaa", sum := "f6c01e35d372ed33fa555a15db619cbefd5068c1456c7bad1c721ec2531677d9", func := "reticule/reticulelaw11.JoinErrors", spec := "joinErrors", unfollowed := true, recurses := true, plainKeys := false, apart := false, narrowed := true }
def JoinErrorsUptoSaid : Prop := joinErrorsUptoRow.holds Try.pinned (OpenSpec.upto joinErrorsSpec)

/-- 'reticulelaw11.JoinNil', WHERE WHAT IT READS IS OF BULK AT MOST 1048576: true; the input reads as it did. -/
def joinNilUptoRow : OpenClaim := { program := "ytmehfflomgldeaa", sum := "f6c01e35d372ed33fa555a15db619cbefd5068c1456c7bad1c721ec2531677d9", func := "reticule/reticulelaw11.JoinNil", spec := "joinNil", unfollowed := true, recurses := true, plainKeys := false, apart := false, narrowed := true }
def JoinNilUptoSaid : Prop := joinNilUptoRow.holds Try.pinned (OpenSpec.upto joinNilSpec)

end Rows
end Go.Proofs.Ytmehfflomgldeaa
