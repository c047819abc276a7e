/-
  No cell of these rows narrows 'for every input' (looked for: loops, veiled, ifaces, maps, wideKeys, modest, calm, conditions, laid).
  DERIVED. THE GIVEN ROWS OF THIS SEAT. 12 by the template 'for every input the law returns true; each argument reads behind the call as it read before'; 0 by the template 'total and deterministic' (their statements: YtmehfflomgldeabTotals.lean).
  GIVEN WITH THE SEED: the statements are not yours to turn. If you find one false, say at which input.
  Laid BY PROGRAM, IN A SANDBOX (cutbox-rows.mjs): the forced cells as the released guide's own fill.sh prints them over the translation 4190e7c1fd65b1ae… (all of the seat's roots in one cut). By AI agents, Wed Nov 11 2026. No macro, syntax, notation, axiom, sorry.
-/
import Derived.Test.YtmehfflomgldeabChecked
import GoSem.Claim
import GoSem.ClaimJoined
import GoSem.ClaimMapViews
import Derived.JoinedTies
import Derived.KernelRfl
namespace Go.Proofs.Ytmehfflomgldeab
/- THE CELL 'sum', in the pinned program and in every row, IS THE sha256 OF THE DUMP (.gsa) THAT YtmehfflomgldeabProg.lean LOADS. Nothing in Lean hashes anything: it is a label: what it is worth is what the hold of that sum in a sandbox is worth. -/
noncomputable def Try.pinned : Pinned := { name := "ytmehfflomgldeab", sum := "4190e7c1fd65b1aef3369c6e20b387d4a03d02549346a4c356f9f713a1c98a28", checked := Try.checked }
namespace Rows
def none {H : Type} : Left H := { results := [], args := [] }

/-- 'reticulelaw13.LinkPlays': WHATEVER THE INPUT: true; the input reads as it did. -/
def linkPlaysSpec : ChangeSpec := { name := "linkPlays", fn := fun _ => fun
  | [d1, d2] => { results := [.lit (.bool true)], args := [d1, d2] }
  | _ => none }
def linkPlaysRow : OpenClaim := { program := "ytmehfflomgldeab", sum := "4190e7c1fd65b1aef3369c6e20b387d4a03d02549346a4c356f9f713a1c98a28", func := "reticule/reticulelaw13.LinkPlays", spec := "linkPlays", apart := false }
def LinkPlaysSaid : Prop := linkPlaysRow.holds Try.pinned (OpenSpec.ofChange linkPlaysSpec)

/-- ITS FALSE NEIGHBOUR: 'it returns false'. Refute it at one input. -/
def linkPlaysWrong : ChangeSpec := { name := "linkPlays", fn := fun _ => fun
  | [d1, d2] => { results := [.lit (.bool false)], args := [d1, d2] }
  | _ => none }
def LinkPlaysWrongFalsely : Prop := linkPlaysRow.holds Try.pinned (OpenSpec.ofChange linkPlaysWrong)

/-- 'reticulelaw13.LinkSums': WHATEVER THE INPUT: true; the input reads as it did. -/
def linkSumsSpec : ChangeSpec := { name := "linkSums", fn := fun _ => fun
  | [d1, d2] => { results := [.lit (.bool true)], args := [d1, d2] }
  | _ => none }
def linkSumsRow : OpenClaim := { program := "ytmehfflomgldeab", sum := "4190e7c1fd65b1aef3369c6e20b387d4a03d02549346a4c356f9f713a1c98a28", func := "reticule/reticulelaw13.LinkSums", spec := "linkSums", apart := false }
def LinkSumsSaid : Prop := linkSumsRow.holds Try.pinned (OpenSpec.ofChange linkSumsSpec)

/-- ITS FALSE NEIGHBOUR: 'it returns false'. Refute it at one input. -/
def linkSumsWrong : ChangeSpec := { name := "linkSums", fn := fun _ => fun
  | [d1, d2] => { results := [.lit (.bool false)], args := [d1, d2] }
  | _ => none }
def LinkSumsWrongFalsely : Prop := linkSumsRow.holds Try.pinned (OpenSpec.ofChange linkSumsWrong)

/-- 'reticulelaw13.LinkRow': WHATEVER THE INPUT: true; the input reads as it did. -/
def linkRowSpec : ChangeSpec := { name := "linkRow", fn := fun _ => fun
  | [d1, d2] => { results := [.lit (.bool true)], args := [d1, d2] }
  | _ => none }
def linkRowRow : OpenClaim := { program := "ytmehfflomgldeab", sum := "4190e7c1fd65b1aef3369c6e20b387d4a03d02549346a4c356f9f713a1c98a28", func := "reticule/reticulelaw13.LinkRow", spec := "linkRow", apart := false }
def LinkRowSaid : Prop := linkRowRow.holds Try.pinned (OpenSpec.ofChange linkRowSpec)

/-- ITS FALSE NEIGHBOUR: 'it returns false'. Refute it at one input. -/
def linkRowWrong : ChangeSpec := { name := "linkRow", fn := fun _ => fun
  | [d1, d2] => { results := [.lit (.bool false)], args := [d1, d2] }
  | _ => none }
def LinkRowWrongFalsely : Prop := linkRowRow.holds Try.pinned (OpenSpec.ofChange linkRowWrong)

/-- 'reticulelaw13.LinkDrains': WHATEVER THE INPUT: true; the input reads as it did. -/
def linkDrainsSpec : ChangeSpec := { name := "linkDrains", fn := fun _ => fun
  | [d1, d2] => { results := [.lit (.bool true)], args := [d1, d2] }
  | _ => none }
def linkDrainsRow : OpenClaim := { program := "ytmehfflomgldeab", sum := "4190e7c1fd65b1aef3369c6e20b387d4a03d02549346a4c356f9f713a1c98a28", func := "reticule/reticulelaw13.LinkDrains", spec := "linkDrains", apart := false }
def LinkDrainsSaid : Prop := linkDrainsRow.holds Try.pinned (OpenSpec.ofChange linkDrainsSpec)

/-- ITS FALSE NEIGHBOUR: 'it returns false'. Refute it at one input. -/
def linkDrainsWrong : ChangeSpec := { name := "linkDrains", fn := fun _ => fun
  | [d1, d2] => { results := [.lit (.bool false)], args := [d1, d2] }
  | _ => none }
def LinkDrainsWrongFalsely : Prop := linkDrainsRow.holds Try.pinned (OpenSpec.ofChange linkDrainsWrong)

/-- 'reticulelaw13.LinkNil': WHATEVER THE INPUT: true; the input reads as it did. -/
def linkNilSpec : ChangeSpec := { name := "linkNil", fn := fun _ => fun
  | [d] => { results := [.lit (.bool true)], args := [d] }
  | _ => none }
def linkNilRow : OpenClaim := { program := "ytmehfflomgldeab", sum := "4190e7c1fd65b1aef3369c6e20b387d4a03d02549346a4c356f9f713a1c98a28", func := "reticule/reticulelaw13.LinkNil", spec := "linkNil", apart := false }
def LinkNilSaid : Prop := linkNilRow.holds Try.pinned (OpenSpec.ofChange linkNilSpec)

/-- ITS FALSE NEIGHBOUR: 'it returns false'. Refute it at one input. -/
def linkNilWrong : ChangeSpec := { name := "linkNil", fn := fun _ => fun
  | [d] => { results := [.lit (.bool false)], args := [d] }
  | _ => none }
def LinkNilWrongFalsely : Prop := linkNilRow.holds Try.pinned (OpenSpec.ofChange linkNilWrong)

/-- 'reticulelaw13.LinkLanes': WHATEVER THE INPUT: true; the input reads as it did. -/
def linkLanesSpec : ChangeSpec := { name := "linkLanes", fn := fun _ => fun
  | [d1, d2, d3] => { results := [.lit (.bool true)], args := [d1, d2, d3] }
  | _ => none }
def linkLanesRow : OpenClaim := { program := "ytmehfflomgldeab", sum := "4190e7c1fd65b1aef3369c6e20b387d4a03d02549346a4c356f9f713a1c98a28", func := "reticule/reticulelaw13.LinkLanes", spec := "linkLanes", apart := false }
def LinkLanesSaid : Prop := linkLanesRow.holds Try.pinned (OpenSpec.ofChange linkLanesSpec)

/-- ITS FALSE NEIGHBOUR: 'it returns false'. Refute it at one input. -/
def linkLanesWrong : ChangeSpec := { name := "linkLanes", fn := fun _ => fun
  | [d1, d2, d3] => { results := [.lit (.bool false)], args := [d1, d2, d3] }
  | _ => none }
def LinkLanesWrongFalsely : Prop := linkLanesRow.holds Try.pinned (OpenSpec.ofChange linkLanesWrong)

/-- 'reticulelaw13.LinkBack': WHATEVER THE INPUT: true; the input reads as it did. -/
def linkBackSpec : ChangeSpec := { name := "linkBack", fn := fun _ => fun
  | [d1, d2] => { results := [.lit (.bool true)], args := [d1, d2] }
  | _ => none }
def linkBackRow : OpenClaim := { program := "ytmehfflomgldeab", sum := "4190e7c1fd65b1aef3369c6e20b387d4a03d02549346a4c356f9f713a1c98a28", func := "reticule/reticulelaw13.LinkBack", spec := "linkBack", apart := false }
def LinkBackSaid : Prop := linkBackRow.holds Try.pinned (OpenSpec.ofChange linkBackSpec)

/-- ITS FALSE NEIGHBOUR: 'it returns false'. Refute it at one input. -/
def linkBackWrong : ChangeSpec := { name := "linkBack", fn := fun _ => fun
  | [d1, d2] => { results := [.lit (.bool false)], args := [d1, d2] }
  | _ => none }
def LinkBackWrongFalsely : Prop := linkBackRow.holds Try.pinned (OpenSpec.ofChange linkBackWrong)

/-- 'reticulelaw10.CutReads': WHATEVER THE INPUT: true; the input reads as it did. -/
def cutReadsSpec : ChangeSpec := { name := "cutReads", fn := fun _ => fun
  | [d1, d2, d3] => { results := [.lit (.bool true)], args := [d1, d2, d3] }
  | _ => none }
def cutReadsRow : OpenClaim := { program := "ytmehfflomgldeab", sum := "4190e7c1fd65b1aef3369c6e20b387d4a03d02549346a4c356f9f713a1c98a28", func := "reticule/reticulelaw10.CutReads", spec := "cutReads", inPlace := ["internal/abi.NoEscape"], unfollowed := true, recurses := true, apart := false }
def CutReadsSaid : Prop := cutReadsRow.holds Try.pinned (OpenSpec.ofChange cutReadsSpec)

/-- ITS FALSE NEIGHBOUR: 'it returns false'. Refute it at one input. -/
def cutReadsWrong : ChangeSpec := { name := "cutReads", fn := fun _ => fun
  | [d1, d2, d3] => { results := [.lit (.bool false)], args := [d1, d2, d3] }
  | _ => none }
def CutReadsWrongFalsely : Prop := cutReadsRow.holds Try.pinned (OpenSpec.ofChange cutReadsWrong)

/-- 'reticulelaw10.CutKinds': WHATEVER THE INPUT: true; the input reads as it did. -/
def cutKindsSpec : ChangeSpec := { name := "cutKinds", fn := fun _ => fun
  | [d] => { results := [.lit (.bool true)], args := [d] }
  | _ => none }
def cutKindsRow : OpenClaim := { program := "ytmehfflomgldeab", sum := "4190e7c1fd65b1aef3369c6e20b387d4a03d02549346a4c356f9f713a1c98a28", func := "reticule/reticulelaw10.CutKinds", spec := "cutKinds", inPlace := ["internal/abi.NoEscape"], unfollowed := true, recurses := true, apart := false }
def CutKindsSaid : Prop := cutKindsRow.holds Try.pinned (OpenSpec.ofChange cutKindsSpec)

/-- ITS FALSE NEIGHBOUR: 'it returns false'. Refute it at one input. -/
def cutKindsWrong : ChangeSpec := { name := "cutKinds", fn := fun _ => fun
  | [d] => { results := [.lit (.bool false)], args := [d] }
  | _ => none }
def CutKindsWrongFalsely : Prop := cutKindsRow.holds Try.pinned (OpenSpec.ofChange cutKindsWrong)

/-- 'reticulelaw10.CutData': WHATEVER THE INPUT: true; the input reads as it did. -/
def cutDataSpec : ChangeSpec := { name := "cutData", fn := fun _ => fun
  | [d1, d2] => { results := [.lit (.bool true)], args := [d1, d2] }
  | _ => none }
def cutDataRow : OpenClaim := { program := "ytmehfflomgldeab", sum := "4190e7c1fd65b1aef3369c6e20b387d4a03d02549346a4c356f9f713a1c98a28", func := "reticule/reticulelaw10.CutData", spec := "cutData", inPlace := ["internal/abi.NoEscape"], unfollowed := true, recurses := true, apart := false }
def CutDataSaid : Prop := cutDataRow.holds Try.pinned (OpenSpec.ofChange cutDataSpec)

/-- ITS FALSE NEIGHBOUR: 'it returns false'. Refute it at one input. -/
def cutDataWrong : ChangeSpec := { name := "cutData", fn := fun _ => fun
  | [d1, d2] => { results := [.lit (.bool false)], args := [d1, d2] }
  | _ => none }
def CutDataWrongFalsely : Prop := cutDataRow.holds Try.pinned (OpenSpec.ofChange cutDataWrong)

/-- 'reticulelaw10.CutWords': WHATEVER THE INPUT: true; the input reads as it did. -/
def cutWordsSpec : ChangeSpec := { name := "cutWords", fn := fun _ => fun
  | [d1, d2] => { results := [.lit (.bool true)], args := [d1, d2] }
  | _ => none }
def cutWordsRow : OpenClaim := { program := "ytmehfflomgldeab", sum := "4190e7c1fd65b1aef3369c6e20b387d4a03d02549346a4c356f9f713a1c98a28", func := "reticule/reticulelaw10.CutWords", spec := "cutWords", inPlace := ["internal/abi.NoEscape"], unfollowed := true, recurses := true, apart := false }
def CutWordsSaid : Prop := cutWordsRow.holds Try.pinned (OpenSpec.ofChange cutWordsSpec)

/-- ITS FALSE NEIGHBOUR: 'it returns false'. Refute it at one input. -/
def cutWordsWrong : ChangeSpec := { name := "cutWords", fn := fun _ => fun
  | [d1, d2] => { results := [.lit (.bool false)], args := [d1, d2] }
  | _ => none }
def CutWordsWrongFalsely : Prop := cutWordsRow.holds Try.pinned (OpenSpec.ofChange cutWordsWrong)

/-- 'reticulelaw10.CutBack': WHATEVER THE INPUT: true; the input reads as it did. -/
def cutBackSpec : ChangeSpec := { name := "cutBack", fn := fun _ => fun
  | [d] => { results := [.lit (.bool true)], args := [d] }
  | _ => none }
def cutBackRow : OpenClaim := { program := "ytmehfflomgldeab", sum := "4190e7c1fd65b1aef3369c6e20b387d4a03d02549346a4c356f9f713a1c98a28", func := "reticule/reticulelaw10.CutBack", spec := "cutBack", inPlace := ["internal/abi.NoEscape"], unfollowed := true, recurses := true, apart := false }
def CutBackSaid : Prop := cutBackRow.holds Try.pinned (OpenSpec.ofChange cutBackSpec)

/-- ITS FALSE NEIGHBOUR: 'it returns false'. Refute it at one input. -/
def cutBackWrong : ChangeSpec := { name := "cutBack", fn := fun _ => fun
  | [d] => { results := [.lit (.bool false)], args := [d] }
  | _ => none }
def CutBackWrongFalsely : Prop := cutBackRow.holds Try.pinned (OpenSpec.ofChange cutBackWrong)

/- THE SECOND FORM. 'bulk': how many values and letters a reading holds, each counted each time it is reached (what is shared counts as often as it is met; a slice's spare places count too). A statement '..UptoSaid' is the law's where the arguments, and the package variables that the reading takes, are together of bulk at most 1048576: NARROWER than '..Said'. Prove '..Said' where nothing that the law and all that it calls make is longer than what came in: it says more and counts as full. Else prove '..UptoSaid'. A law counts once. -/
mutual
def uptoBulk {H : Type} : DataW H → Nat
  | .lit (.string bytes) => bytes.length + 1
  | .lit _ => 1
  | .nil => 1
  | .ptr d => uptoBulk d + 1
  | .slice elems spare => uptoBulkAll elems + uptoBulkAll spare + 1
  | .agg parts => uptoBulkAll parts + 1
  | .iface _ d => uptoBulk d + 1
  | .map entries => uptoBulkEntries entries + 1
  | .held _ => 1
def uptoBulkAll {H : Type} : List (DataW H) → Nat
  | [] => 0
  | d :: r => uptoBulk d + uptoBulkAll r
def uptoBulkEntries {H : Type} : List (Lit × DataW H) → Nat
  | [] => 0
  | x :: r => uptoBulkEntry x + uptoBulkEntries r
def uptoBulkEntry {H : Type} : Lit × DataW H → Nat
  | (.string bytes, d) => bytes.length + uptoBulk d + 1
  | (_, d) => uptoBulk d + 1
 end
def uptoSmall : (H : Type) → List (DataW H) → Bool := fun _ ds => decide (uptoBulkAll ds ≤ 1048576)
def OpenSpec.upto (s : _root_.Go.ChangeSpec) : _root_.Go.OpenSpec := { _root_.Go.OpenSpec.ofChange s with cond := some uptoSmall }

/-- 'reticulelaw13.LinkPlays', WHERE WHAT IT READS IS OF BULK AT MOST 1048576: true; the input reads as it did. -/
def linkPlaysUptoRow : OpenClaim := { program := "ytmehfflomgldeab", sum := "4190e7c1fd65b1aef3369c6e20b387d4a03d02549346a4c356f9f713a1c98a28", func := "reticule/reticulelaw13.LinkPlays", spec := "linkPlays", apart := false, narrowed := true }
def LinkPlaysUptoSaid : Prop := linkPlaysUptoRow.holds Try.pinned (OpenSpec.upto linkPlaysSpec)

/-- 'reticulelaw13.LinkSums', WHERE WHAT IT READS IS OF BULK AT MOST 1048576: true; the input reads as it did. -/
def linkSumsUptoRow : OpenClaim := { program := "ytmehfflomgldeab", sum := "4190e7c1fd65b1aef3369c6e20b387d4a03d02549346a4c356f9f713a1c98a28", func := "reticule/reticulelaw13.LinkSums", spec := "linkSums", apart := false, narrowed := true }
def LinkSumsUptoSaid : Prop := linkSumsUptoRow.holds Try.pinned (OpenSpec.upto linkSumsSpec)

/-- 'reticulelaw13.LinkRow', WHERE WHAT IT READS IS OF BULK AT MOST 1048576: true; the input reads as it did. -/
def linkRowUptoRow : OpenClaim := { program := "ytmehfflomgldeab", sum := "4190e7c1fd65b1aef3369c6e20b387d4a03d02549346a4c356f9f713a1c98a28", func := "reticule/reticulelaw13.LinkRow", spec := "linkRow", apart := false, narrowed := true }
def LinkRowUptoSaid : Prop := linkRowUptoRow.holds Try.pinned (OpenSpec.upto linkRowSpec)

/-- 'reticulelaw13.LinkDrains', WHERE WHAT IT READS IS OF BULK AT MOST 1048576: true; the input reads as it did. -/
def linkDrainsUptoRow : OpenClaim := { program := "ytmehfflomgldeab", sum := "4190e7c1fd65b1aef3369c6e20b387d4a03d02549346a4c356f9f713a1c98a28", func := "reticule/reticulelaw13.LinkDrains", spec := "linkDrains", apart := false, narrowed := true }
def LinkDrainsUptoSaid : Prop := linkDrainsUptoRow.holds Try.pinned (OpenSpec.upto linkDrainsSpec)

/-- 'reticulelaw13.LinkNil', WHERE WHAT IT READS IS OF BULK AT MOST 1048576: true; the input reads as it did. -/
def linkNilUptoRow : OpenClaim := { program := "ytmehfflomgldeab", sum := "4190e7c1fd65b1aef3369c6e20b387d4a03d02549346a4c356f9f713a1c98a28", func := "reticule/reticulelaw13.LinkNil", spec := "linkNil", apart := false, narrowed := true }
def LinkNilUptoSaid : Prop := linkNilUptoRow.holds Try.pinned (OpenSpec.upto linkNilSpec)

/-- 'reticulelaw13.LinkLanes', WHERE WHAT IT READS IS OF BULK AT MOST 1048576: true; the input reads as it did. -/
def linkLanesUptoRow : OpenClaim := { program := "ytmehfflomgldeab", sum := "4190e7c1fd65b1aef3369c6e20b387d4a03d02549346a4c356f9f713a1c98a28", func := "reticule/reticulelaw13.LinkLanes", spec := "linkLanes", apart := false, narrowed := true }
def LinkLanesUptoSaid : Prop := linkLanesUptoRow.holds Try.pinned (OpenSpec.upto linkLanesSpec)

/-- 'reticulelaw13.LinkBack', WHERE WHAT IT READS IS OF BULK AT MOST 1048576: true; the input reads as it did. -/
def linkBackUptoRow : OpenClaim := { program := "ytmehfflomgldeab", sum := "4190e7c1fd65b1aef3369c6e20b387d4a03d02549346a4c356f9f713a1c98a28", func := "reticule/reticulelaw13.LinkBack", spec := "linkBack", apart := false, narrowed := true }
def LinkBackUptoSaid : Prop := linkBackUptoRow.holds Try.pinned (OpenSpec.upto linkBackSpec)

/-- 'reticulelaw10.CutReads', WHERE WHAT IT READS IS OF BULK AT MOST 1048576: true; the input reads as it did. -/
def cutReadsUptoRow : OpenClaim := { program := "ytmehfflomgldeab", sum := "4190e7c1fd65b1aef3369c6e20b387d4a03d02549346a4c356f9f713a1c98a28", func := "reticule/reticulelaw10.CutReads", spec := "cutReads", inPlace := ["internal/abi.NoEscape"], unfollowed := true, recurses := true, apart := false, narrowed := true }
def CutReadsUptoSaid : Prop := cutReadsUptoRow.holds Try.pinned (OpenSpec.upto cutReadsSpec)

/-- 'reticulelaw10.CutKinds', WHERE WHAT IT READS IS OF BULK AT MOST 1048576: true; the input reads as it did. -/
def cutKindsUptoRow : OpenClaim := { program := "ytmehfflomgldeab", sum := "4190e7c1fd65b1aef3369c6e20b387d4a03d02549346a4c356f9f713a1c98a28", func := "reticule/reticulelaw10.CutKinds", spec := "cutKinds", inPlace := ["internal/abi.NoEscape"], unfollowed := true, recurses := true, apart := false, narrowed := true }
def CutKindsUptoSaid : Prop := cutKindsUptoRow.holds Try.pinned (OpenSpec.upto cutKindsSpec)

/-- 'reticulelaw10.CutData', WHERE WHAT IT READS IS OF BULK AT MOST 1048576: true; the input reads as it did. -/
def cutDataUptoRow : OpenClaim := { program := "ytmehfflomgldeab", sum := "4190e7c1fd65b1aef3369c6e20b387d4a03d02549346a4c356f9f713a1c98a28", func := "reticule/reticulelaw10.CutData", spec := "cutData", inPlace := ["internal/abi.NoEscape"], unfollowed := true, recurses := true, apart := false, narrowed := true }
def CutDataUptoSaid : Prop := cutDataUptoRow.holds Try.pinned (OpenSpec.upto cutDataSpec)

/-- 'reticulelaw10.CutWords', WHERE WHAT IT READS IS OF BULK AT MOST 1048576: true; the input reads as it did. -/
def cutWordsUptoRow : OpenClaim := { program := "ytmehfflomgldeab", sum := "4190e7c1fd65b1aef3369c6e20b387d4a03d02549346a4c356f9f713a1c98a28", func := "reticule/reticulelaw10.CutWords", spec := "cutWords", inPlace := ["internal/abi.NoEscape"], unfollowed := true, recurses := true, apart := false, narrowed := true }
def CutWordsUptoSaid : Prop := cutWordsUptoRow.holds Try.pinned (OpenSpec.upto cutWordsSpec)

/-- 'reticulelaw10.CutBack', WHERE WHAT IT READS IS OF BULK AT MOST 1048576: true; the input reads as it did. -/
def cutBackUptoRow : OpenClaim := { program := "ytmehfflomgldeab", sum := "4190e7c1fd65b1aef3369c6e20b387d4a03d02549346a4c356f9f713a1c98a28", func := "reticule/reticulelaw10.CutBack", spec := "cutBack", inPlace := ["internal/abi.NoEscape"], unfollowed := true, recurses := true, apart := false, narrowed := true }
def CutBackUptoSaid : Prop := cutBackUptoRow.holds Try.pinned (OpenSpec.upto cutBackSpec)

end Rows
end Go.Proofs.Ytmehfflomgldeab
