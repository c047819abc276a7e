/-
  No cell of these rows narrows 'for every input' (looked for: loops, veiled, ifaces, maps, wideKeys, modest, calm, conditions, laid).
  DERIVED. THE GIVEN ROWS OF THIS SEAT. 12 by the template 'for every input the law returns true; each argument reads behind the call as it read before'; 0 by the template 'total and deterministic' (their statements: YtncdambphaodaaaTotals.lean).
  GIVEN WITH THE SEED: the statements are not yours to turn. If you find one false, say at which input.
  Laid BY PROGRAM, IN A SANDBOX (cutbox-rows.mjs): the forced cells as the released guide's own fill.sh prints them over the translation 0d928945bc4c9729… (all of the seat's roots in one cut). By AI agents, Wed Nov 11 2026. No macro, syntax, notation, axiom, sorry.
-/
import Derived.Test.YtncdambphaodaaaChecked
import GoSem.Claim
import GoSem.ClaimJoined
import GoSem.ClaimMapViews
import Derived.JoinedTies
import Derived.KernelRfl
namespace Go.Proofs.Ytncdambphaodaaa
/- THE CELL 'sum', in the pinned program and in every row, IS THE sha256 OF THE DUMP (.gsa) THAT YtncdambphaodaaaProg.lean LOADS. Nothing in Lean hashes anything: it is a label: what it is worth is what the hold of that sum in a sandbox is worth. -/
noncomputable def Try.pinned : Pinned := { name := "ytncdambphaodaaa", sum := "0d928945bc4c9729da2fdad521b60d5c95f6ee12b5a47efa9a1030a8234879f7", checked := Try.checked }
namespace Rows
def none {H : Type} : Left H := { results := [], args := [] }

/-- 'reticulelaw02.BitsPacks': WHATEVER THE INPUT: true; the input reads as it did. -/
def bitsPacksSpec : ChangeSpec := { name := "bitsPacks", fn := fun _ => fun
  | [d1, d2, d3] => { results := [.lit (.bool true)], args := [d1, d2, d3] }
  | _ => none }
def bitsPacksRow : OpenClaim := { program := "ytncdambphaodaaa", sum := "0d928945bc4c9729da2fdad521b60d5c95f6ee12b5a47efa9a1030a8234879f7", func := "reticule/reticulelaw02.BitsPacks", spec := "bitsPacks", apart := false }
def BitsPacksSaid : Prop := bitsPacksRow.holds Try.pinned (OpenSpec.ofChange bitsPacksSpec)

/-- ITS FALSE NEIGHBOUR: 'it returns false'. Refute it at one input. -/
def bitsPacksWrong : ChangeSpec := { name := "bitsPacks", fn := fun _ => fun
  | [d1, d2, d3] => { results := [.lit (.bool false)], args := [d1, d2, d3] }
  | _ => none }
def BitsPacksWrongFalsely : Prop := bitsPacksRow.holds Try.pinned (OpenSpec.ofChange bitsPacksWrong)

/-- 'reticulelaw02.BitsChecks': WHATEVER THE INPUT: true; the input reads as it did. -/
def bitsChecksSpec : ChangeSpec := { name := "bitsChecks", fn := fun _ => fun
  | [d] => { results := [.lit (.bool true)], args := [d] }
  | _ => none }
def bitsChecksRow : OpenClaim := { program := "ytncdambphaodaaa", sum := "0d928945bc4c9729da2fdad521b60d5c95f6ee12b5a47efa9a1030a8234879f7", func := "reticule/reticulelaw02.BitsChecks", spec := "bitsChecks", apart := false }
def BitsChecksSaid : Prop := bitsChecksRow.holds Try.pinned (OpenSpec.ofChange bitsChecksSpec)

/-- ITS FALSE NEIGHBOUR: 'it returns false'. Refute it at one input. -/
def bitsChecksWrong : ChangeSpec := { name := "bitsChecks", fn := fun _ => fun
  | [d] => { results := [.lit (.bool false)], args := [d] }
  | _ => none }
def BitsChecksWrongFalsely : Prop := bitsChecksRow.holds Try.pinned (OpenSpec.ofChange bitsChecksWrong)

/-- 'reticulelaw02.BitsOne': WHATEVER THE INPUT: true; the input reads as it did. -/
def bitsOneSpec : ChangeSpec := { name := "bitsOne", fn := fun _ => fun
  | [d1, d2, d3] => { results := [.lit (.bool true)], args := [d1, d2, d3] }
  | _ => none }
def bitsOneRow : OpenClaim := { program := "ytncdambphaodaaa", sum := "0d928945bc4c9729da2fdad521b60d5c95f6ee12b5a47efa9a1030a8234879f7", func := "reticule/reticulelaw02.BitsOne", spec := "bitsOne", apart := false }
def BitsOneSaid : Prop := bitsOneRow.holds Try.pinned (OpenSpec.ofChange bitsOneSpec)

/-- ITS FALSE NEIGHBOUR: 'it returns false'. Refute it at one input. -/
def bitsOneWrong : ChangeSpec := { name := "bitsOne", fn := fun _ => fun
  | [d1, d2, d3] => { results := [.lit (.bool false)], args := [d1, d2, d3] }
  | _ => none }
def BitsOneWrongFalsely : Prop := bitsOneRow.holds Try.pinned (OpenSpec.ofChange bitsOneWrong)

/-- 'reticulelaw02.BitsApart': WHATEVER THE INPUT: true; the input reads as it did. -/
def bitsApartSpec : ChangeSpec := { name := "bitsApart", fn := fun _ => fun
  | [d1, d2, d3] => { results := [.lit (.bool true)], args := [d1, d2, d3] }
  | _ => none }
def bitsApartRow : OpenClaim := { program := "ytncdambphaodaaa", sum := "0d928945bc4c9729da2fdad521b60d5c95f6ee12b5a47efa9a1030a8234879f7", func := "reticule/reticulelaw02.BitsApart", spec := "bitsApart", apart := false }
def BitsApartSaid : Prop := bitsApartRow.holds Try.pinned (OpenSpec.ofChange bitsApartSpec)

/-- ITS FALSE NEIGHBOUR: 'it returns false'. Refute it at one input. -/
def bitsApartWrong : ChangeSpec := { name := "bitsApart", fn := fun _ => fun
  | [d1, d2, d3] => { results := [.lit (.bool false)], args := [d1, d2, d3] }
  | _ => none }
def BitsApartWrongFalsely : Prop := bitsApartRow.holds Try.pinned (OpenSpec.ofChange bitsApartWrong)

/-- 'reticulelaw02.BitsFields': WHATEVER THE INPUT: true; the input reads as it did. -/
def bitsFieldsSpec : ChangeSpec := { name := "bitsFields", fn := fun _ => fun
  | [d1, d2, d3] => { results := [.lit (.bool true)], args := [d1, d2, d3] }
  | _ => none }
def bitsFieldsRow : OpenClaim := { program := "ytncdambphaodaaa", sum := "0d928945bc4c9729da2fdad521b60d5c95f6ee12b5a47efa9a1030a8234879f7", func := "reticule/reticulelaw02.BitsFields", spec := "bitsFields", apart := false }
def BitsFieldsSaid : Prop := bitsFieldsRow.holds Try.pinned (OpenSpec.ofChange bitsFieldsSpec)

/-- ITS FALSE NEIGHBOUR: 'it returns false'. Refute it at one input. -/
def bitsFieldsWrong : ChangeSpec := { name := "bitsFields", fn := fun _ => fun
  | [d1, d2, d3] => { results := [.lit (.bool false)], args := [d1, d2, d3] }
  | _ => none }
def BitsFieldsWrongFalsely : Prop := bitsFieldsRow.holds Try.pinned (OpenSpec.ofChange bitsFieldsWrong)

/-- 'reticulelaw02.BitsBack': WHATEVER THE INPUT: true; the input reads as it did. -/
def bitsBackSpec : ChangeSpec := { name := "bitsBack", fn := fun _ => fun
  | [d1, d2, d3] => { results := [.lit (.bool true)], args := [d1, d2, d3] }
  | _ => none }
def bitsBackRow : OpenClaim := { program := "ytncdambphaodaaa", sum := "0d928945bc4c9729da2fdad521b60d5c95f6ee12b5a47efa9a1030a8234879f7", func := "reticule/reticulelaw02.BitsBack", spec := "bitsBack", apart := false }
def BitsBackSaid : Prop := bitsBackRow.holds Try.pinned (OpenSpec.ofChange bitsBackSpec)

/-- ITS FALSE NEIGHBOUR: 'it returns false'. Refute it at one input. -/
def bitsBackWrong : ChangeSpec := { name := "bitsBack", fn := fun _ => fun
  | [d1, d2, d3] => { results := [.lit (.bool false)], args := [d1, d2, d3] }
  | _ => none }
def BitsBackWrongFalsely : Prop := bitsBackRow.holds Try.pinned (OpenSpec.ofChange bitsBackWrong)

/-- 'reticulelaw01.RingRow': WHATEVER THE INPUT: true; the input reads as it did. -/
def ringRowSpec : ChangeSpec := { name := "ringRow", fn := fun _ => fun
  | [d1, d2] => { results := [.lit (.bool true)], args := [d1, d2] }
  | _ => none }
def ringRowRow : OpenClaim := { program := "ytncdambphaodaaa", sum := "0d928945bc4c9729da2fdad521b60d5c95f6ee12b5a47efa9a1030a8234879f7", func := "reticule/reticulelaw01.RingRow", spec := "ringRow", apart := false }
def RingRowSaid : Prop := ringRowRow.holds Try.pinned (OpenSpec.ofChange ringRowSpec)

/-- ITS FALSE NEIGHBOUR: 'it returns false'. Refute it at one input. -/
def ringRowWrong : ChangeSpec := { name := "ringRow", fn := fun _ => fun
  | [d1, d2] => { results := [.lit (.bool false)], args := [d1, d2] }
  | _ => none }
def RingRowWrongFalsely : Prop := ringRowRow.holds Try.pinned (OpenSpec.ofChange ringRowWrong)

/-- 'reticulelaw01.RingHalves': WHATEVER THE INPUT: true; the input reads as it did. -/
def ringHalvesSpec : ChangeSpec := { name := "ringHalves", fn := fun _ => fun
  | [d1, d2, d3] => { results := [.lit (.bool true)], args := [d1, d2, d3] }
  | _ => none }
def ringHalvesRow : OpenClaim := { program := "ytncdambphaodaaa", sum := "0d928945bc4c9729da2fdad521b60d5c95f6ee12b5a47efa9a1030a8234879f7", func := "reticule/reticulelaw01.RingHalves", spec := "ringHalves", apart := false }
def RingHalvesSaid : Prop := ringHalvesRow.holds Try.pinned (OpenSpec.ofChange ringHalvesSpec)

/-- ITS FALSE NEIGHBOUR: 'it returns false'. Refute it at one input. -/
def ringHalvesWrong : ChangeSpec := { name := "ringHalves", fn := fun _ => fun
  | [d1, d2, d3] => { results := [.lit (.bool false)], args := [d1, d2, d3] }
  | _ => none }
def RingHalvesWrongFalsely : Prop := ringHalvesRow.holds Try.pinned (OpenSpec.ofChange ringHalvesWrong)

/-- 'reticulelaw01.RingBegins': WHATEVER THE INPUT: true; the input reads as it did. -/
def ringBeginsSpec : ChangeSpec := { name := "ringBegins", fn := fun _ => fun
  | [d1, d2, d3] => { results := [.lit (.bool true)], args := [d1, d2, d3] }
  | _ => none }
def ringBeginsRow : OpenClaim := { program := "ytncdambphaodaaa", sum := "0d928945bc4c9729da2fdad521b60d5c95f6ee12b5a47efa9a1030a8234879f7", func := "reticule/reticulelaw01.RingBegins", spec := "ringBegins", apart := false }
def RingBeginsSaid : Prop := ringBeginsRow.holds Try.pinned (OpenSpec.ofChange ringBeginsSpec)

/-- ITS FALSE NEIGHBOUR: 'it returns false'. Refute it at one input. -/
def ringBeginsWrong : ChangeSpec := { name := "ringBegins", fn := fun _ => fun
  | [d1, d2, d3] => { results := [.lit (.bool false)], args := [d1, d2, d3] }
  | _ => none }
def RingBeginsWrongFalsely : Prop := ringBeginsRow.holds Try.pinned (OpenSpec.ofChange ringBeginsWrong)

/-- 'reticulelaw01.RingPlays': WHATEVER THE INPUT: true; the input reads as it did. -/
def ringPlaysSpec : ChangeSpec := { name := "ringPlays", fn := fun _ => fun
  | [d1, d2, d3] => { results := [.lit (.bool true)], args := [d1, d2, d3] }
  | _ => none }
def ringPlaysRow : OpenClaim := { program := "ytncdambphaodaaa", sum := "0d928945bc4c9729da2fdad521b60d5c95f6ee12b5a47efa9a1030a8234879f7", func := "reticule/reticulelaw01.RingPlays", spec := "ringPlays", apart := false }
def RingPlaysSaid : Prop := ringPlaysRow.holds Try.pinned (OpenSpec.ofChange ringPlaysSpec)

/-- ITS FALSE NEIGHBOUR: 'it returns false'. Refute it at one input. -/
def ringPlaysWrong : ChangeSpec := { name := "ringPlays", fn := fun _ => fun
  | [d1, d2, d3] => { results := [.lit (.bool false)], args := [d1, d2, d3] }
  | _ => none }
def RingPlaysWrongFalsely : Prop := ringPlaysRow.holds Try.pinned (OpenSpec.ofChange ringPlaysWrong)

/-- 'reticulelaw01.RingMany': WHATEVER THE INPUT: true; the input reads as it did. -/
def ringManySpec : ChangeSpec := { name := "ringMany", fn := fun _ => fun
  | [d1, d2, d3] => { results := [.lit (.bool true)], args := [d1, d2, d3] }
  | _ => none }
def ringManyRow : OpenClaim := { program := "ytncdambphaodaaa", sum := "0d928945bc4c9729da2fdad521b60d5c95f6ee12b5a47efa9a1030a8234879f7", func := "reticule/reticulelaw01.RingMany", spec := "ringMany", apart := false }
def RingManySaid : Prop := ringManyRow.holds Try.pinned (OpenSpec.ofChange ringManySpec)

/-- ITS FALSE NEIGHBOUR: 'it returns false'. Refute it at one input. -/
def ringManyWrong : ChangeSpec := { name := "ringMany", fn := fun _ => fun
  | [d1, d2, d3] => { results := [.lit (.bool false)], args := [d1, d2, d3] }
  | _ => none }
def RingManyWrongFalsely : Prop := ringManyRow.holds Try.pinned (OpenSpec.ofChange ringManyWrong)

/-- 'reticulelaw01.RingNil': WHATEVER THE INPUT: true; the input reads as it did. -/
def ringNilSpec : ChangeSpec := { name := "ringNil", fn := fun _ => fun
  | [d] => { results := [.lit (.bool true)], args := [d] }
  | _ => none }
def ringNilRow : OpenClaim := { program := "ytncdambphaodaaa", sum := "0d928945bc4c9729da2fdad521b60d5c95f6ee12b5a47efa9a1030a8234879f7", func := "reticule/reticulelaw01.RingNil", spec := "ringNil", apart := false }
def RingNilSaid : Prop := ringNilRow.holds Try.pinned (OpenSpec.ofChange ringNilSpec)

/-- ITS FALSE NEIGHBOUR: 'it returns false'. Refute it at one input. -/
def ringNilWrong : ChangeSpec := { name := "ringNil", fn := fun _ => fun
  | [d] => { results := [.lit (.bool false)], args := [d] }
  | _ => none }
def RingNilWrongFalsely : Prop := ringNilRow.holds Try.pinned (OpenSpec.ofChange ringNilWrong)

/- THE SECOND FORM. 'bulk': how many values and letters a reading holds, each counted each time it is reached (what is shared counts as often as it is met; a slice's spare places count too). A statement '..UptoSaid' is the law's where the arguments, and the package variables that the reading takes, are together of bulk at most 1048576: NARROWER than '..Said'. Prove '..Said' where nothing that the law and all that it calls make is longer than what came in: it says more and counts as full. Else prove '..UptoSaid'. A law counts once. -/
mutual
def uptoBulk {H : Type} : DataW H → Nat
  | .lit (.string bytes) => bytes.length + 1
  | .lit _ => 1
  | .nil => 1
  | .ptr d => uptoBulk d + 1
  | .slice elems spare => uptoBulkAll elems + uptoBulkAll spare + 1
  | .agg parts => uptoBulkAll parts + 1
  | .iface _ d => uptoBulk d + 1
  | .map entries => uptoBulkEntries entries + 1
  | .held _ => 1
def uptoBulkAll {H : Type} : List (DataW H) → Nat
  | [] => 0
  | d :: r => uptoBulk d + uptoBulkAll r
def uptoBulkEntries {H : Type} : List (Lit × DataW H) → Nat
  | [] => 0
  | x :: r => uptoBulkEntry x + uptoBulkEntries r
def uptoBulkEntry {H : Type} : Lit × DataW H → Nat
  | (.string bytes, d) => bytes.length + uptoBulk d + 1
  | (_, d) => uptoBulk d + 1
 end
def uptoSmall : (H : Type) → List (DataW H) → Bool := fun _ ds => decide (uptoBulkAll ds ≤ 1048576)
def OpenSpec.upto (s : _root_.Go.ChangeSpec) : _root_.Go.OpenSpec := { _root_.Go.OpenSpec.ofChange s with cond := some uptoSmall }

/-- 'reticulelaw02.BitsPacks', WHERE WHAT IT READS IS OF BULK AT MOST 1048576: true; the input reads as it did. -/
def bitsPacksUptoRow : OpenClaim := { program := "ytncdambphaodaaa", sum := "0d928945bc4c9729da2fdad521b60d5c95f6ee12b5a47efa9a1030a8234879f7", func := "reticule/reticulelaw02.BitsPacks", spec := "bitsPacks", apart := false, narrowed := true }
def BitsPacksUptoSaid : Prop := bitsPacksUptoRow.holds Try.pinned (OpenSpec.upto bitsPacksSpec)

/-- 'reticulelaw02.BitsChecks', WHERE WHAT IT READS IS OF BULK AT MOST 1048576: true; the input reads as it did. -/
def bitsChecksUptoRow : OpenClaim := { program := "ytncdambphaodaaa", sum := "0d928945bc4c9729da2fdad521b60d5c95f6ee12b5a47efa9a1030a8234879f7", func := "reticule/reticulelaw02.BitsChecks", spec := "bitsChecks", apart := false, narrowed := true }
def BitsChecksUptoSaid : Prop := bitsChecksUptoRow.holds Try.pinned (OpenSpec.upto bitsChecksSpec)

/-- 'reticulelaw02.BitsOne', WHERE WHAT IT READS IS OF BULK AT MOST 1048576: true; the input reads as it did. -/
def bitsOneUptoRow : OpenClaim := { program := "ytncdambphaodaaa", sum := "0d928945bc4c9729da2fdad521b60d5c95f6ee12b5a47efa9a1030a8234879f7", func := "reticule/reticulelaw02.BitsOne", spec := "bitsOne", apart := false, narrowed := true }
def BitsOneUptoSaid : Prop := bitsOneUptoRow.holds Try.pinned (OpenSpec.upto bitsOneSpec)

/-- 'reticulelaw02.BitsApart', WHERE WHAT IT READS IS OF BULK AT MOST 1048576: true; the input reads as it did. -/
def bitsApartUptoRow : OpenClaim := { program := "ytncdambphaodaaa", sum := "0d928945bc4c9729da2fdad521b60d5c95f6ee12b5a47efa9a1030a8234879f7", func := "reticule/reticulelaw02.BitsApart", spec := "bitsApart", apart := false, narrowed := true }
def BitsApartUptoSaid : Prop := bitsApartUptoRow.holds Try.pinned (OpenSpec.upto bitsApartSpec)

/-- 'reticulelaw02.BitsFields', WHERE WHAT IT READS IS OF BULK AT MOST 1048576: true; the input reads as it did. -/
def bitsFieldsUptoRow : OpenClaim := { program := "ytncdambphaodaaa", sum := "0d928945bc4c9729da2fdad521b60d5c95f6ee12b5a47efa9a1030a8234879f7", func := "reticule/reticulelaw02.BitsFields", spec := "bitsFields", apart := false, narrowed := true }
def BitsFieldsUptoSaid : Prop := bitsFieldsUptoRow.holds Try.pinned (OpenSpec.upto bitsFieldsSpec)

/-- 'reticulelaw02.BitsBack', WHERE WHAT IT READS IS OF BULK AT MOST 1048576: true; the input reads as it did. -/
def bitsBackUptoRow : OpenClaim := { program := "ytncdambphaodaaa", sum := "0d928945bc4c9729da2fdad521b60d5c95f6ee12b5a47efa9a1030a8234879f7", func := "reticule/reticulelaw02.BitsBack", spec := "bitsBack", apart := false, narrowed := true }
def BitsBackUptoSaid : Prop := bitsBackUptoRow.holds Try.pinned (OpenSpec.upto bitsBackSpec)

/-- 'reticulelaw01.RingRow', WHERE WHAT IT READS IS OF BULK AT MOST 1048576: true; the input reads as it did. -/
def ringRowUptoRow : OpenClaim := { program := "ytncdambphaodaaa", sum := "0d928945bc4c9729da2fdad521b60d5c95f6ee12b5a47efa9a1030a8234879f7", func := "reticule/reticulelaw01.RingRow", spec := "ringRow", apart := false, narrowed := true }
def RingRowUptoSaid : Prop := ringRowUptoRow.holds Try.pinned (OpenSpec.upto ringRowSpec)

/-- 'reticulelaw01.RingHalves', WHERE WHAT IT READS IS OF BULK AT MOST 1048576: true; the input reads as it did. -/
def ringHalvesUptoRow : OpenClaim := { program := "ytncdambphaodaaa", sum := "0d928945bc4c9729da2fdad521b60d5c95f6ee12b5a47efa9a1030a8234879f7", func := "reticule/reticulelaw01.RingHalves", spec := "ringHalves", apart := false, narrowed := true }
def RingHalvesUptoSaid : Prop := ringHalvesUptoRow.holds Try.pinned (OpenSpec.upto ringHalvesSpec)

/-- 'reticulelaw01.RingBegins', WHERE WHAT IT READS IS OF BULK AT MOST 1048576: true; the input reads as it did. -/
def ringBeginsUptoRow : OpenClaim := { program := "ytncdambphaodaaa", sum := "0d928945bc4c9729da2fdad521b60d5c95f6ee12b5a47efa9a1030a8234879f7", func := "reticule/reticulelaw01.RingBegins", spec := "ringBegins", apart := false, narrowed := true }
def RingBeginsUptoSaid : Prop := ringBeginsUptoRow.holds Try.pinned (OpenSpec.upto ringBeginsSpec)

/-- 'reticulelaw01.RingPlays', WHERE WHAT IT READS IS OF BULK AT MOST 1048576: true; the input reads as it did. -/
def ringPlaysUptoRow : OpenClaim := { program := "ytncdambphaodaaa", sum := "0d928945bc4c9729da2fdad521b60d5c95f6ee12b5a47efa9a1030a8234879f7", func := "reticule/reticulelaw01.RingPlays", spec := "ringPlays", apart := false, narrowed := true }
def RingPlaysUptoSaid : Prop := ringPlaysUptoRow.holds Try.pinned (OpenSpec.upto ringPlaysSpec)

/-- 'reticulelaw01.RingMany', WHERE WHAT IT READS IS OF BULK AT MOST 1048576: true; the input reads as it did. -/
def ringManyUptoRow : OpenClaim := { program := "ytncdambphaodaaa", sum := "0d928945bc4c9729da2fdad521b60d5c95f6ee12b5a47efa9a1030a8234879f7", func := "reticule/reticulelaw01.RingMany", spec := "ringMany", apart := false, narrowed := true }
def RingManyUptoSaid : Prop := ringManyUptoRow.holds Try.pinned (OpenSpec.upto ringManySpec)

/-- 'reticulelaw01.RingNil', WHERE WHAT IT READS IS OF BULK AT MOST 1048576: true; the input reads as it did. -/
def ringNilUptoRow : OpenClaim := { program := "ytncdambphaodaaa", sum := "0d928945bc4c9729da2fdad521b60d5c95f6ee12b5a47efa9a1030a8234879f7", func := "reticule/reticulelaw01.RingNil", spec := "ringNil", apart := false, narrowed := true }
def RingNilUptoSaid : Prop := ringNilUptoRow.holds Try.pinned (OpenSpec.upto ringNilSpec)

end Rows
end Go.Proofs.Ytncdambphaodaaa
