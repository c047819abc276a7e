/-
  No cell of these rows narrows 'for every input' (looked for: loops, veiled, ifaces, maps, wideKeys, modest, calm, conditions, laid).
  DERIVED. THE GIVEN ROWS OF THIS SEAT. 8 by the template 'for every input the law returns true; each argument reads behind the call as it read before'; 0 by the template 'total and deterministic' (their statements: YtajbfmdgnkpjgaaTotals.lean).
  GIVEN WITH THE SEED: the statements are not yours to turn. If you find one false, say at which input.
  Laid BY PROGRAM, IN A SANDBOX (cutbox-rows.mjs): the forced cells as the released guide's own fill.sh prints them over the translation d1193c62b9f94f73… (all of the seat's roots in one cut). By AI agents, Wed Nov 11 2026. No macro, syntax, notation, axiom, sorry.
-/
import Derived.Test.YtajbfmdgnkpjgaaChecked
import GoSem.Claim
import GoSem.ClaimJoined
import GoSem.ClaimMapViews
import Derived.JoinedTies
import Derived.KernelRfl
namespace Go.Proofs.Ytajbfmdgnkpjgaa
/- THE CELL 'sum', in the pinned program and in every row, IS THE sha256 OF THE DUMP (.gsa) THAT YtajbfmdgnkpjgaaProg.lean LOADS. Nothing in Lean hashes anything: it is a label: what it is worth is what the hold of that sum in a sandbox is worth. -/
noncomputable def Try.pinned : Pinned := { name := "ytajbfmdgnkpjgaa", sum := "d1193c62b9f94f733f5c1822dc1e79ebbb5763090b211412b50d719a98b5e85a", checked := Try.checked }
namespace Rows
def none {H : Type} : Left H := { results := [], args := [] }

/-- 'reticulelaw16.InboxRow': WHATEVER THE INPUT: true; the input reads as it did. -/
def inboxRowSpec : ChangeSpec := { name := "inboxRow", fn := fun _ => fun
  | [d1, d2, d3] => { results := [.lit (.bool true)], args := [d1, d2, d3] }
  | _ => none }
def inboxRowRow : OpenClaim := { program := "ytajbfmdgnkpjgaa", sum := "d1193c62b9f94f733f5c1822dc1e79ebbb5763090b211412b50d719a98b5e85a", func := "reticule/reticulelaw16.InboxRow", spec := "inboxRow", plainKeys := false, apart := false }
def InboxRowSaid : Prop := inboxRowRow.holds Try.pinned (OpenSpec.ofChange inboxRowSpec)

/-- ITS FALSE NEIGHBOUR: 'it returns false'. Refute it at one input. -/
def inboxRowWrong : ChangeSpec := { name := "inboxRow", fn := fun _ => fun
  | [d1, d2, d3] => { results := [.lit (.bool false)], args := [d1, d2, d3] }
  | _ => none }
def InboxRowWrongFalsely : Prop := inboxRowRow.holds Try.pinned (OpenSpec.ofChange inboxRowWrong)

/-- 'reticulelaw16.InboxApart': WHATEVER THE INPUT: true; the input reads as it did. -/
def inboxApartSpec : ChangeSpec := { name := "inboxApart", fn := fun _ => fun
  | [d1, d2] => { results := [.lit (.bool true)], args := [d1, d2] }
  | _ => none }
def inboxApartRow : OpenClaim := { program := "ytajbfmdgnkpjgaa", sum := "d1193c62b9f94f733f5c1822dc1e79ebbb5763090b211412b50d719a98b5e85a", func := "reticule/reticulelaw16.InboxApart", spec := "inboxApart", plainKeys := false, apart := false }
def InboxApartSaid : Prop := inboxApartRow.holds Try.pinned (OpenSpec.ofChange inboxApartSpec)

/-- ITS FALSE NEIGHBOUR: 'it returns false'. Refute it at one input. -/
def inboxApartWrong : ChangeSpec := { name := "inboxApart", fn := fun _ => fun
  | [d1, d2] => { results := [.lit (.bool false)], args := [d1, d2] }
  | _ => none }
def InboxApartWrongFalsely : Prop := inboxApartRow.holds Try.pinned (OpenSpec.ofChange inboxApartWrong)

/-- 'reticulelaw16.InboxPlays': WHATEVER THE INPUT: true; the input reads as it did. -/
def inboxPlaysSpec : ChangeSpec := { name := "inboxPlays", fn := fun _ => fun
  | [d1, d2] => { results := [.lit (.bool true)], args := [d1, d2] }
  | _ => none }
def inboxPlaysRow : OpenClaim := { program := "ytajbfmdgnkpjgaa", sum := "d1193c62b9f94f733f5c1822dc1e79ebbb5763090b211412b50d719a98b5e85a", func := "reticule/reticulelaw16.InboxPlays", spec := "inboxPlays", plainKeys := false, apart := false }
def InboxPlaysSaid : Prop := inboxPlaysRow.holds Try.pinned (OpenSpec.ofChange inboxPlaysSpec)

/-- ITS FALSE NEIGHBOUR: 'it returns false'. Refute it at one input. -/
def inboxPlaysWrong : ChangeSpec := { name := "inboxPlays", fn := fun _ => fun
  | [d1, d2] => { results := [.lit (.bool false)], args := [d1, d2] }
  | _ => none }
def InboxPlaysWrongFalsely : Prop := inboxPlaysRow.holds Try.pinned (OpenSpec.ofChange inboxPlaysWrong)

/-- 'reticulelaw16.InboxOdd': WHATEVER THE INPUT: true; the input reads as it did. -/
def inboxOddSpec : ChangeSpec := { name := "inboxOdd", fn := fun _ => fun
  | [d] => { results := [.lit (.bool true)], args := [d] }
  | _ => none }
def inboxOddRow : OpenClaim := { program := "ytajbfmdgnkpjgaa", sum := "d1193c62b9f94f733f5c1822dc1e79ebbb5763090b211412b50d719a98b5e85a", func := "reticule/reticulelaw16.InboxOdd", spec := "inboxOdd", plainKeys := false, apart := false }
def InboxOddSaid : Prop := inboxOddRow.holds Try.pinned (OpenSpec.ofChange inboxOddSpec)

/-- ITS FALSE NEIGHBOUR: 'it returns false'. Refute it at one input. -/
def inboxOddWrong : ChangeSpec := { name := "inboxOdd", fn := fun _ => fun
  | [d] => { results := [.lit (.bool false)], args := [d] }
  | _ => none }
def InboxOddWrongFalsely : Prop := inboxOddRow.holds Try.pinned (OpenSpec.ofChange inboxOddWrong)

/-- 'reticulelaw17.NicPuts': WHATEVER THE INPUT: true; the input reads as it did. -/
def nicPutsSpec : ChangeSpec := { name := "nicPuts", fn := fun _ => fun
  | [d1, d2, d3] => { results := [.lit (.bool true)], args := [d1, d2, d3] }
  | _ => none }
def nicPutsRow : OpenClaim := { program := "ytajbfmdgnkpjgaa", sum := "d1193c62b9f94f733f5c1822dc1e79ebbb5763090b211412b50d719a98b5e85a", func := "reticule/reticulelaw17.NicPuts", spec := "nicPuts", unfollowed := true, recurses := true, plainKeys := false, apart := false }
def NicPutsSaid : Prop := nicPutsRow.holds Try.pinned (OpenSpec.ofChange nicPutsSpec)

/-- ITS FALSE NEIGHBOUR: 'it returns false'. Refute it at one input. -/
def nicPutsWrong : ChangeSpec := { name := "nicPuts", fn := fun _ => fun
  | [d1, d2, d3] => { results := [.lit (.bool false)], args := [d1, d2, d3] }
  | _ => none }
def NicPutsWrongFalsely : Prop := nicPutsRow.holds Try.pinned (OpenSpec.ofChange nicPutsWrong)

/-- 'reticulelaw17.NicRefuses': WHATEVER THE INPUT: true; the input reads as it did. -/
def nicRefusesSpec : ChangeSpec := { name := "nicRefuses", fn := fun _ => fun
  | [d1, d2] => { results := [.lit (.bool true)], args := [d1, d2] }
  | _ => none }
def nicRefusesRow : OpenClaim := { program := "ytajbfmdgnkpjgaa", sum := "d1193c62b9f94f733f5c1822dc1e79ebbb5763090b211412b50d719a98b5e85a", func := "reticule/reticulelaw17.NicRefuses", spec := "nicRefuses", unfollowed := true, recurses := true, plainKeys := false, apart := false }
def NicRefusesSaid : Prop := nicRefusesRow.holds Try.pinned (OpenSpec.ofChange nicRefusesSpec)

/-- ITS FALSE NEIGHBOUR: 'it returns false'. Refute it at one input. -/
def nicRefusesWrong : ChangeSpec := { name := "nicRefuses", fn := fun _ => fun
  | [d1, d2] => { results := [.lit (.bool false)], args := [d1, d2] }
  | _ => none }
def NicRefusesWrongFalsely : Prop := nicRefusesRow.holds Try.pinned (OpenSpec.ofChange nicRefusesWrong)

/-- 'reticulelaw17.NicTakes': WHATEVER THE INPUT: true; the input reads as it did. -/
def nicTakesSpec : ChangeSpec := { name := "nicTakes", fn := fun _ => fun
  | [d1, d2, d3] => { results := [.lit (.bool true)], args := [d1, d2, d3] }
  | _ => none }
def nicTakesRow : OpenClaim := { program := "ytajbfmdgnkpjgaa", sum := "d1193c62b9f94f733f5c1822dc1e79ebbb5763090b211412b50d719a98b5e85a", func := "reticule/reticulelaw17.NicTakes", spec := "nicTakes", unfollowed := true, recurses := true, plainKeys := false, apart := false }
def NicTakesSaid : Prop := nicTakesRow.holds Try.pinned (OpenSpec.ofChange nicTakesSpec)

/-- ITS FALSE NEIGHBOUR: 'it returns false'. Refute it at one input. -/
def nicTakesWrong : ChangeSpec := { name := "nicTakes", fn := fun _ => fun
  | [d1, d2, d3] => { results := [.lit (.bool false)], args := [d1, d2, d3] }
  | _ => none }
def NicTakesWrongFalsely : Prop := nicTakesRow.holds Try.pinned (OpenSpec.ofChange nicTakesWrong)

/-- 'reticulelaw17.NicNil': WHATEVER THE INPUT: true; the input reads as it did. -/
def nicNilSpec : ChangeSpec := { name := "nicNil", fn := fun _ => fun
  | [d1, d2, d3] => { results := [.lit (.bool true)], args := [d1, d2, d3] }
  | _ => none }
def nicNilRow : OpenClaim := { program := "ytajbfmdgnkpjgaa", sum := "d1193c62b9f94f733f5c1822dc1e79ebbb5763090b211412b50d719a98b5e85a", func := "reticule/reticulelaw17.NicNil", spec := "nicNil", unfollowed := true, recurses := true, plainKeys := false, apart := false }
def NicNilSaid : Prop := nicNilRow.holds Try.pinned (OpenSpec.ofChange nicNilSpec)

/-- ITS FALSE NEIGHBOUR: 'it returns false'. Refute it at one input. -/
def nicNilWrong : ChangeSpec := { name := "nicNil", fn := fun _ => fun
  | [d1, d2, d3] => { results := [.lit (.bool false)], args := [d1, d2, d3] }
  | _ => none }
def NicNilWrongFalsely : Prop := nicNilRow.holds Try.pinned (OpenSpec.ofChange nicNilWrong)

/- THE SECOND FORM. 'bulk': how many values and letters a reading holds, each counted each time it is reached (what is shared counts as often as it is met; a slice's spare places count too). A statement '..UptoSaid' is the law's where the arguments, and the package variables that the reading takes, are together of bulk at most 1048576: NARROWER than '..Said'. Prove '..Said' where nothing that the law and all that it calls make is longer than what came in: it says more and counts as full. Else prove '..UptoSaid'. A law counts once. -/
mutual
def uptoBulk {H : Type} : DataW H → Nat
  | .lit (.string bytes) => bytes.length + 1
  | .lit _ => 1
  | .nil => 1
  | .ptr d => uptoBulk d + 1
  | .slice elems spare => uptoBulkAll elems + uptoBulkAll spare + 1
  | .agg parts => uptoBulkAll parts + 1
  | .iface _ d => uptoBulk d + 1
  | .map entries => uptoBulkEntries entries + 1
  | .held _ => 1
def uptoBulkAll {H : Type} : List (DataW H) → Nat
  | [] => 0
  | d :: r => uptoBulk d + uptoBulkAll r
def uptoBulkEntries {H : Type} : List (Lit × DataW H) → Nat
  | [] => 0
  | x :: r => uptoBulkEntry x + uptoBulkEntries r
def uptoBulkEntry {H : Type} : Lit × DataW H → Nat
  | (.string bytes, d) => bytes.length + uptoBulk d + 1
  | (_, d) => uptoBulk d + 1
 end
def uptoSmall : (H : Type) → List (DataW H) → Bool := fun _ ds => decide (uptoBulkAll ds ≤ 1048576)
def OpenSpec.upto (s : _root_.Go.ChangeSpec) : _root_.Go.OpenSpec := { _root_.Go.OpenSpec.ofChange s with cond := some uptoSmall }

/-- 'reticulelaw16.InboxRow', WHERE WHAT IT READS IS OF BULK AT MOST 1048576: true; the input reads as it did. -/
def inboxRowUptoRow : OpenClaim := { program := "ytajbfmdgnkpjgaa", sum := "d1193c62b9f94f733f5c1822dc1e79ebbb5763090b211412b50d719a98b5e85a", func := "reticule/reticulelaw16.InboxRow", spec := "inboxRow", plainKeys := false, apart := false, narrowed := true }
def InboxRowUptoSaid : Prop := inboxRowUptoRow.holds Try.pinned (OpenSpec.upto inboxRowSpec)

/-- 'reticulelaw16.InboxApart', WHERE WHAT IT READS IS OF BULK AT MOST 1048576: true; the input reads as it did. -/
def inboxApartUptoRow : OpenClaim := { program := "ytajbfmdgnkpjgaa", sum := "d1193c62b9f94f733f5c1822dc1e79ebbb5763090b211412b50d719a98b5e85a", func := "reticule/reticulelaw16.InboxApart", spec := "inboxApart", plainKeys := false, apart := false, narrowed := true }
def InboxApartUptoSaid : Prop := inboxApartUptoRow.holds Try.pinned (OpenSpec.upto inboxApartSpec)

/-- 'reticulelaw16.InboxPlays', WHERE WHAT IT READS IS OF BULK AT MOST 1048576: true; the input reads as it did. -/
def inboxPlaysUptoRow : OpenClaim := { program := "ytajbfmdgnkpjgaa", sum := "d1193c62b9f94f733f5c1822dc1e79ebbb5763090b211412b50d719a98b5e85a", func := "reticule/reticulelaw16.InboxPlays", spec := "inboxPlays", plainKeys := false, apart := false, narrowed := true }
def InboxPlaysUptoSaid : Prop := inboxPlaysUptoRow.holds Try.pinned (OpenSpec.upto inboxPlaysSpec)

/-- 'reticulelaw16.InboxOdd', WHERE WHAT IT READS IS OF BULK AT MOST 1048576: true; the input reads as it did. -/
def inboxOddUptoRow : OpenClaim := { program := "ytajbfmdgnkpjgaa", sum := "d1193c62b9f94f733f5c1822dc1e79ebbb5763090b211412b50d719a98b5e85a", func := "reticule/reticulelaw16.InboxOdd", spec := "inboxOdd", plainKeys := false, apart := false, narrowed := true }
def InboxOddUptoSaid : Prop := inboxOddUptoRow.holds Try.pinned (OpenSpec.upto inboxOddSpec)

/-- 'reticulelaw17.NicPuts', WHERE WHAT IT READS IS OF BULK AT MOST 1048576: true; the input reads as it did. -/
def nicPutsUptoRow : OpenClaim := { program := "ytajbfmdgnkpjgaa", sum := "d1193c62b9f94f733f5c1822dc1e79ebbb5763090b211412b50d719a98b5e85a", func := "reticule/reticulelaw17.NicPuts", spec := "nicPuts", unfollowed := true, recurses := true, plainKeys := false, apart := false, narrowed := true }
def NicPutsUptoSaid : Prop := nicPutsUptoRow.holds Try.pinned (OpenSpec.upto nicPutsSpec)

/-- 'reticulelaw17.NicRefuses', WHERE WHAT IT READS IS OF BULK AT MOST 1048576: true; the input reads as it did. -/
def nicRefusesUptoRow : OpenClaim := { program := "ytajbfmdgnkpjgaa", sum := "d1193c62b9f94f733f5c1822dc1e79ebbb5763090b211412b50d719a98b5e85a", func := "reticule/reticulelaw17.NicRefuses", spec := "nicRefuses", unfollowed := true, recurses := true, plainKeys := false, apart := false, narrowed := true }
def NicRefusesUptoSaid : Prop := nicRefusesUptoRow.holds Try.pinned (OpenSpec.upto nicRefusesSpec)

/-- 'reticulelaw17.NicTakes', WHERE WHAT IT READS IS OF BULK AT MOST 1048576: true; the input reads as it did. -/
def nicTakesUptoRow : OpenClaim := { program := "ytajbfmdgnkpjgaa", sum := "d1193c62b9f94f733f5c1822dc1e79ebbb5763090b211412b50d719a98b5e85a", func := "reticule/reticulelaw17.NicTakes", spec := "nicTakes", unfollowed := true, recurses := true, plainKeys := false, apart := false, narrowed := true }
def NicTakesUptoSaid : Prop := nicTakesUptoRow.holds Try.pinned (OpenSpec.upto nicTakesSpec)

/-- 'reticulelaw17.NicNil', WHERE WHAT IT READS IS OF BULK AT MOST 1048576: true; the input reads as it did. -/
def nicNilUptoRow : OpenClaim := { program := "ytajbfmdgnkpjgaa", sum := "d1193c62b9f94f733f5c1822dc1e79ebbb5763090b211412b50d719a98b5e85a", func := "reticule/reticulelaw17.NicNil", spec := "nicNil", unfollowed := true, recurses := true, plainKeys := false, apart := false, narrowed := true }
def NicNilUptoSaid : Prop := nicNilUptoRow.holds Try.pinned (OpenSpec.upto nicNilSpec)

end Rows
end Go.Proofs.Ytajbfmdgnkpjgaa
