/-
  No cell of these rows narrows 'for every input' (looked for: loops, veiled, ifaces, maps, wideKeys, modest, calm, conditions, laid).
  DERIVED. THE GIVEN ROWS OF THIS SEAT. 7 by the template 'for every input the law returns true; each argument reads behind the call as it read before'; 0 by the template 'total and deterministic' (their statements: YtpklblaenfhncaaTotals.lean).
  GIVEN WITH THE SEED: the statements are not yours to turn. If you find one false, say at which input.
  Laid BY PROGRAM, IN A SANDBOX (cutbox-rows.mjs): the forced cells as the released guide's own fill.sh prints them over the translation b2abbbf43e9bc8d2… (all of the seat's roots in one cut). By AI agents, Wed Nov 11 2026. No macro, syntax, notation, axiom, sorry.
-/
import Derived.Test.YtpklblaenfhncaaChecked
import GoSem.Claim
import GoSem.ClaimJoined
import GoSem.ClaimMapViews
import Derived.JoinedTies
import Derived.KernelRfl
namespace Go.Proofs.Ytpklblaenfhncaa
/- THE CELL 'sum', in the pinned program and in every row, IS THE sha256 OF THE DUMP (.gsa) THAT YtpklblaenfhncaaProg.lean LOADS. Nothing in Lean hashes anything: it is a label: what it is worth is what the hold of that sum in a sandbox is worth. -/
noncomputable def Try.pinned : Pinned := { name := "ytpklblaenfhncaa", sum := "b2abbbf43e9bc8d2fbf6ae7afb6034a208a5aafc01bef5eb3e6dd87a4dd83bc4", checked := Try.checked }
namespace Rows
def none {H : Type} : Left H := { results := [], args := [] }

/-- 'reticulelaw14.LaneOdd': WHATEVER THE INPUT: true; the input reads as it did. -/
def laneOddSpec : ChangeSpec := { name := "laneOdd", fn := fun _ => fun
  | [d1, d2, d3] => { results := [.lit (.bool true)], args := [d1, d2, d3] }
  | _ => none }
def laneOddRow : OpenClaim := { program := "ytpklblaenfhncaa", sum := "b2abbbf43e9bc8d2fbf6ae7afb6034a208a5aafc01bef5eb3e6dd87a4dd83bc4", func := "reticule/reticulelaw14.LaneOdd", spec := "laneOdd", unfollowed := true, recurses := true, apart := false }
def LaneOddSaid : Prop := laneOddRow.holds Try.pinned (OpenSpec.ofChange laneOddSpec)

/-- ITS FALSE NEIGHBOUR: 'it returns false'. Refute it at one input. -/
def laneOddWrong : ChangeSpec := { name := "laneOdd", fn := fun _ => fun
  | [d1, d2, d3] => { results := [.lit (.bool false)], args := [d1, d2, d3] }
  | _ => none }
def LaneOddWrongFalsely : Prop := laneOddRow.holds Try.pinned (OpenSpec.ofChange laneOddWrong)

/-- 'reticulelaw14.LanePasses': WHATEVER THE INPUT: true; the input reads as it did. -/
def lanePassesSpec : ChangeSpec := { name := "lanePasses", fn := fun _ => fun
  | [d1, d2, d3] => { results := [.lit (.bool true)], args := [d1, d2, d3] }
  | _ => none }
def lanePassesRow : OpenClaim := { program := "ytpklblaenfhncaa", sum := "b2abbbf43e9bc8d2fbf6ae7afb6034a208a5aafc01bef5eb3e6dd87a4dd83bc4", func := "reticule/reticulelaw14.LanePasses", spec := "lanePasses", unfollowed := true, recurses := true, apart := false }
def LanePassesSaid : Prop := lanePassesRow.holds Try.pinned (OpenSpec.ofChange lanePassesSpec)

/-- ITS FALSE NEIGHBOUR: 'it returns false'. Refute it at one input. -/
def lanePassesWrong : ChangeSpec := { name := "lanePasses", fn := fun _ => fun
  | [d1, d2, d3] => { results := [.lit (.bool false)], args := [d1, d2, d3] }
  | _ => none }
def LanePassesWrongFalsely : Prop := lanePassesRow.holds Try.pinned (OpenSpec.ofChange lanePassesWrong)

/-- 'reticulelaw14.LaneThrough': WHATEVER THE INPUT: true; the input reads as it did. -/
def laneThroughSpec : ChangeSpec := { name := "laneThrough", fn := fun _ => fun
  | [d1, d2, d3] => { results := [.lit (.bool true)], args := [d1, d2, d3] }
  | _ => none }
def laneThroughRow : OpenClaim := { program := "ytpklblaenfhncaa", sum := "b2abbbf43e9bc8d2fbf6ae7afb6034a208a5aafc01bef5eb3e6dd87a4dd83bc4", func := "reticule/reticulelaw14.LaneThrough", spec := "laneThrough", unfollowed := true, recurses := true, apart := false }
def LaneThroughSaid : Prop := laneThroughRow.holds Try.pinned (OpenSpec.ofChange laneThroughSpec)

/-- ITS FALSE NEIGHBOUR: 'it returns false'. Refute it at one input. -/
def laneThroughWrong : ChangeSpec := { name := "laneThrough", fn := fun _ => fun
  | [d1, d2, d3] => { results := [.lit (.bool false)], args := [d1, d2, d3] }
  | _ => none }
def LaneThroughWrongFalsely : Prop := laneThroughRow.holds Try.pinned (OpenSpec.ofChange laneThroughWrong)

/-- 'reticulelaw14.LaneTwo': WHATEVER THE INPUT: true; the input reads as it did. -/
def laneTwoSpec : ChangeSpec := { name := "laneTwo", fn := fun _ => fun
  | [d1, d2, d3] => { results := [.lit (.bool true)], args := [d1, d2, d3] }
  | _ => none }
def laneTwoRow : OpenClaim := { program := "ytpklblaenfhncaa", sum := "b2abbbf43e9bc8d2fbf6ae7afb6034a208a5aafc01bef5eb3e6dd87a4dd83bc4", func := "reticule/reticulelaw14.LaneTwo", spec := "laneTwo", unfollowed := true, recurses := true, apart := false }
def LaneTwoSaid : Prop := laneTwoRow.holds Try.pinned (OpenSpec.ofChange laneTwoSpec)

/-- ITS FALSE NEIGHBOUR: 'it returns false'. Refute it at one input. -/
def laneTwoWrong : ChangeSpec := { name := "laneTwo", fn := fun _ => fun
  | [d1, d2, d3] => { results := [.lit (.bool false)], args := [d1, d2, d3] }
  | _ => none }
def LaneTwoWrongFalsely : Prop := laneTwoRow.holds Try.pinned (OpenSpec.ofChange laneTwoWrong)

/-- 'reticulelaw14.LaneNil': WHATEVER THE INPUT: true; the input reads as it did. -/
def laneNilSpec : ChangeSpec := { name := "laneNil", fn := fun _ => fun
  | [d] => { results := [.lit (.bool true)], args := [d] }
  | _ => none }
def laneNilRow : OpenClaim := { program := "ytpklblaenfhncaa", sum := "b2abbbf43e9bc8d2fbf6ae7afb6034a208a5aafc01bef5eb3e6dd87a4dd83bc4", func := "reticule/reticulelaw14.LaneNil", spec := "laneNil", unfollowed := true, recurses := true, apart := false }
def LaneNilSaid : Prop := laneNilRow.holds Try.pinned (OpenSpec.ofChange laneNilSpec)

/-- ITS FALSE NEIGHBOUR: 'it returns false'. Refute it at one input. -/
def laneNilWrong : ChangeSpec := { name := "laneNil", fn := fun _ => fun
  | [d] => { results := [.lit (.bool false)], args := [d] }
  | _ => none }
def LaneNilWrongFalsely : Prop := laneNilRow.holds Try.pinned (OpenSpec.ofChange laneNilWrong)

/-- 'reticulelaw15.RouterGates': WHATEVER THE INPUT: true; the input reads as it did. -/
def routerGatesSpec : ChangeSpec := { name := "routerGates", fn := fun _ => fun
  | [d1, d2, d3] => { results := [.lit (.bool true)], args := [d1, d2, d3] }
  | _ => none }
def routerGatesRow : OpenClaim := { program := "ytpklblaenfhncaa", sum := "b2abbbf43e9bc8d2fbf6ae7afb6034a208a5aafc01bef5eb3e6dd87a4dd83bc4", func := "reticule/reticulelaw15.RouterGates", spec := "routerGates", unfollowed := true, recurses := true, apart := false }
def RouterGatesSaid : Prop := routerGatesRow.holds Try.pinned (OpenSpec.ofChange routerGatesSpec)

/-- ITS FALSE NEIGHBOUR: 'it returns false'. Refute it at one input. -/
def routerGatesWrong : ChangeSpec := { name := "routerGates", fn := fun _ => fun
  | [d1, d2, d3] => { results := [.lit (.bool false)], args := [d1, d2, d3] }
  | _ => none }
def RouterGatesWrongFalsely : Prop := routerGatesRow.holds Try.pinned (OpenSpec.ofChange routerGatesWrong)

/-- 'reticulelaw15.RouterTurns': WHATEVER THE INPUT: true; the input reads as it did. -/
def routerTurnsSpec : ChangeSpec := { name := "routerTurns", fn := fun _ => fun
  | [d1, d2, d3] => { results := [.lit (.bool true)], args := [d1, d2, d3] }
  | _ => none }
def routerTurnsRow : OpenClaim := { program := "ytpklblaenfhncaa", sum := "b2abbbf43e9bc8d2fbf6ae7afb6034a208a5aafc01bef5eb3e6dd87a4dd83bc4", func := "reticule/reticulelaw15.RouterTurns", spec := "routerTurns", unfollowed := true, recurses := true, apart := false }
def RouterTurnsSaid : Prop := routerTurnsRow.holds Try.pinned (OpenSpec.ofChange routerTurnsSpec)

/-- ITS FALSE NEIGHBOUR: 'it returns false'. Refute it at one input. -/
def routerTurnsWrong : ChangeSpec := { name := "routerTurns", fn := fun _ => fun
  | [d1, d2, d3] => { results := [.lit (.bool false)], args := [d1, d2, d3] }
  | _ => none }
def RouterTurnsWrongFalsely : Prop := routerTurnsRow.holds Try.pinned (OpenSpec.ofChange routerTurnsWrong)

/- THE SECOND FORM. 'bulk': how many values and letters a reading holds, each counted each time it is reached (what is shared counts as often as it is met; a slice's spare places count too). A statement '..UptoSaid' is the law's where the arguments, and the package variables that the reading takes, are together of bulk at most 1048576: NARROWER than '..Said'. Prove '..Said' where nothing that the law and all that it calls make is longer than what came in: it says more and counts as full. Else prove '..UptoSaid'. A law counts once. -/
mutual
def uptoBulk {H : Type} : DataW H → Nat
  | .lit (.string bytes) => bytes.length + 1
  | .lit _ => 1
  | .nil => 1
  | .ptr d => uptoBulk d + 1
  | .slice elems spare => uptoBulkAll elems + uptoBulkAll spare + 1
  | .agg parts => uptoBulkAll parts + 1
  | .iface _ d => uptoBulk d + 1
  | .map entries => uptoBulkEntries entries + 1
  | .held _ => 1
def uptoBulkAll {H : Type} : List (DataW H) → Nat
  | [] => 0
  | d :: r => uptoBulk d + uptoBulkAll r
def uptoBulkEntries {H : Type} : List (Lit × DataW H) → Nat
  | [] => 0
  | x :: r => uptoBulkEntry x + uptoBulkEntries r
def uptoBulkEntry {H : Type} : Lit × DataW H → Nat
  | (.string bytes, d) => bytes.length + uptoBulk d + 1
  | (_, d) => uptoBulk d + 1
 end
def uptoSmall : (H : Type) → List (DataW H) → Bool := fun _ ds => decide (uptoBulkAll ds ≤ 1048576)
def OpenSpec.upto (s : _root_.Go.ChangeSpec) : _root_.Go.OpenSpec := { _root_.Go.OpenSpec.ofChange s with cond := some uptoSmall }

/-- 'reticulelaw14.LaneOdd', WHERE WHAT IT READS IS OF BULK AT MOST 1048576: true; the input reads as it did. -/
def laneOddUptoRow : OpenClaim := { program := "ytpklblaenfhncaa", sum := "b2abbbf43e9bc8d2fbf6ae7afb6034a208a5aafc01bef5eb3e6dd87a4dd83bc4", func := "reticule/reticulelaw14.LaneOdd", spec := "laneOdd", unfollowed := true, recurses := true, apart := false, narrowed := true }
def LaneOddUptoSaid : Prop := laneOddUptoRow.holds Try.pinned (OpenSpec.upto laneOddSpec)

/-- 'reticulelaw14.LanePasses', WHERE WHAT IT READS IS OF BULK AT MOST 1048576: true; the input reads as it did. -/
def lanePassesUptoRow : OpenClaim := { program := "ytpklblaenfhncaa", sum := "b2abbbf43e9bc8d2fbf6ae7afb6034a208a5aafc01bef5eb3e6dd87a4dd83bc4", func := "reticule/reticulelaw14.LanePasses", spec := "lanePasses", unfollowed := true, recurses := true, apart := false, narrowed := true }
def LanePassesUptoSaid : Prop := lanePassesUptoRow.holds Try.pinned (OpenSpec.upto lanePassesSpec)

/-- 'reticulelaw14.LaneThrough', WHERE WHAT IT READS IS OF BULK AT MOST 1048576: true; the input reads as it did. -/
def laneThroughUptoRow : OpenClaim := { program := "ytpklblaenfhncaa", sum := "b2abbbf43e9bc8d2fbf6ae7afb6034a208a5aafc01bef5eb3e6dd87a4dd83bc4", func := "reticule/reticulelaw14.LaneThrough", spec := "laneThrough", unfollowed := true, recurses := true, apart := false, narrowed := true }
def LaneThroughUptoSaid : Prop := laneThroughUptoRow.holds Try.pinned (OpenSpec.upto laneThroughSpec)

/-- 'reticulelaw14.LaneTwo', WHERE WHAT IT READS IS OF BULK AT MOST 1048576: true; the input reads as it did. -/
def laneTwoUptoRow : OpenClaim := { program := "ytpklblaenfhncaa", sum := "b2abbbf43e9bc8d2fbf6ae7afb6034a208a5aafc01bef5eb3e6dd87a4dd83bc4", func := "reticule/reticulelaw14.LaneTwo", spec := "laneTwo", unfollowed := true, recurses := true, apart := false, narrowed := true }
def LaneTwoUptoSaid : Prop := laneTwoUptoRow.holds Try.pinned (OpenSpec.upto laneTwoSpec)

/-- 'reticulelaw14.LaneNil', WHERE WHAT IT READS IS OF BULK AT MOST 1048576: true; the input reads as it did. -/
def laneNilUptoRow : OpenClaim := { program := "ytpklblaenfhncaa", sum := "b2abbbf43e9bc8d2fbf6ae7afb6034a208a5aafc01bef5eb3e6dd87a4dd83bc4", func := "reticule/reticulelaw14.LaneNil", spec := "laneNil", unfollowed := true, recurses := true, apart := false, narrowed := true }
def LaneNilUptoSaid : Prop := laneNilUptoRow.holds Try.pinned (OpenSpec.upto laneNilSpec)

/-- 'reticulelaw15.RouterGates', WHERE WHAT IT READS IS OF BULK AT MOST 1048576: true; the input reads as it did. -/
def routerGatesUptoRow : OpenClaim := { program := "ytpklblaenfhncaa", sum := "b2abbbf43e9bc8d2fbf6ae7afb6034a208a5aafc01bef5eb3e6dd87a4dd83bc4", func := "reticule/reticulelaw15.RouterGates", spec := "routerGates", unfollowed := true, recurses := true, apart := false, narrowed := true }
def RouterGatesUptoSaid : Prop := routerGatesUptoRow.holds Try.pinned (OpenSpec.upto routerGatesSpec)

/-- 'reticulelaw15.RouterTurns', WHERE WHAT IT READS IS OF BULK AT MOST 1048576: true; the input reads as it did. -/
def routerTurnsUptoRow : OpenClaim := { program := "ytpklblaenfhncaa", sum := "b2abbbf43e9bc8d2fbf6ae7afb6034a208a5aafc01bef5eb3e6dd87a4dd83bc4", func := "reticule/reticulelaw15.RouterTurns", spec := "routerTurns", unfollowed := true, recurses := true, apart := false, narrowed := true }
def RouterTurnsUptoSaid : Prop := routerTurnsUptoRow.holds Try.pinned (OpenSpec.upto routerTurnsSpec)

end Rows
end Go.Proofs.Ytpklblaenfhncaa
