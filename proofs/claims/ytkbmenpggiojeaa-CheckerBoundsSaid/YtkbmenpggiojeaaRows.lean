/-
  No cell of these rows narrows 'for every input' (looked for: loops, veiled, ifaces, maps, wideKeys, modest, calm, conditions, laid).
  DERIVED. THE GIVEN ROWS OF THIS SEAT. 6 by the template 'for every input the law returns true; each argument reads behind the call as it read before'; 0 by the template 'total and deterministic' (their statements: YtkbmenpggiojeaaTotals.lean).
  GIVEN WITH THE SEED: the statements are not yours to turn. If you find one false, say at which input.
  Laid BY PROGRAM, IN A SANDBOX (cutbox-rows.mjs): the forced cells as the released guide's own fill.sh prints them over the translation d442aed2fb7da5ee… (all of the seat's roots in one cut). By AI agents, Wed Nov 11 2026. No macro, syntax, notation, axiom, sorry.
-/
import Derived.Test.YtkbmenpggiojeaaChecked
import GoSem.Claim
import GoSem.ClaimJoined
import GoSem.ClaimMapViews
import Derived.JoinedTies
import Derived.KernelRfl
namespace Go.Proofs.Ytkbmenpggiojeaa
/- THE CELL 'sum', in the pinned program and in every row, IS THE sha256 OF THE DUMP (.gsa) THAT YtkbmenpggiojeaaProg.lean LOADS. Nothing in Lean hashes anything: it is a label: what it is worth is what the hold of that sum in a sandbox is worth. -/
noncomputable def Try.pinned : Pinned := { name := "ytkbmenpggiojeaa", sum := "d442aed2fb7da5ee223406e3d1ca891cf12ee7fc295d25eb8e05218f36f06fe3", checked := Try.checked }
namespace Rows
def none {H : Type} : Left H := { results := [], args := [] }

/-- 'overseerlaw58.CheckerBounds': WHATEVER THE INPUT: true; the input reads as it did. -/
def checkerBoundsSpec : ChangeSpec := { name := "checkerBounds", fn := fun _ => fun
  | [d1, d2, d3] => { results := [.lit (.bool true)], args := [d1, d2, d3] }
  | _ => none }
def checkerBoundsRow : OpenClaim := { program := "ytkbmenpggiojeaa", sum := "d442aed2fb7da5ee223406e3d1ca891cf12ee7fc295d25eb8e05218f36f06fe3", func := "overseer/overseerlaw58.CheckerBounds", spec := "checkerBounds", unfollowed := true, recurses := true, plainKeys := false, apart := false }
def CheckerBoundsSaid : Prop := checkerBoundsRow.holds Try.pinned (OpenSpec.ofChange checkerBoundsSpec)

/-- ITS FALSE NEIGHBOUR: 'it returns false'. Refute it at one input. -/
def checkerBoundsWrong : ChangeSpec := { name := "checkerBounds", fn := fun _ => fun
  | [d1, d2, d3] => { results := [.lit (.bool false)], args := [d1, d2, d3] }
  | _ => none }
def CheckerBoundsWrongFalsely : Prop := checkerBoundsRow.holds Try.pinned (OpenSpec.ofChange checkerBoundsWrong)

/-- 'overseerlaw58.CheckerNeither': WHATEVER THE INPUT: true; the input reads as it did. -/
def checkerNeitherSpec : ChangeSpec := { name := "checkerNeither", fn := fun _ => fun
  | [d1, d2] => { results := [.lit (.bool true)], args := [d1, d2] }
  | _ => none }
def checkerNeitherRow : OpenClaim := { program := "ytkbmenpggiojeaa", sum := "d442aed2fb7da5ee223406e3d1ca891cf12ee7fc295d25eb8e05218f36f06fe3", func := "overseer/overseerlaw58.CheckerNeither", spec := "checkerNeither", unfollowed := true, recurses := true, plainKeys := false, apart := false }
def CheckerNeitherSaid : Prop := checkerNeitherRow.holds Try.pinned (OpenSpec.ofChange checkerNeitherSpec)

/-- ITS FALSE NEIGHBOUR: 'it returns false'. Refute it at one input. -/
def checkerNeitherWrong : ChangeSpec := { name := "checkerNeither", fn := fun _ => fun
  | [d1, d2] => { results := [.lit (.bool false)], args := [d1, d2] }
  | _ => none }
def CheckerNeitherWrongFalsely : Prop := checkerNeitherRow.holds Try.pinned (OpenSpec.ofChange checkerNeitherWrong)

/-- 'overseerlaw58.CheckerLassos': WHATEVER THE INPUT: true; the input reads as it did. -/
def checkerLassosSpec : ChangeSpec := { name := "checkerLassos", fn := fun _ => fun
  | [d1, d2, d3] => { results := [.lit (.bool true)], args := [d1, d2, d3] }
  | _ => none }
def checkerLassosRow : OpenClaim := { program := "ytkbmenpggiojeaa", sum := "d442aed2fb7da5ee223406e3d1ca891cf12ee7fc295d25eb8e05218f36f06fe3", func := "overseer/overseerlaw58.CheckerLassos", spec := "checkerLassos", unfollowed := true, recurses := true, plainKeys := false, apart := false }
def CheckerLassosSaid : Prop := checkerLassosRow.holds Try.pinned (OpenSpec.ofChange checkerLassosSpec)

/-- ITS FALSE NEIGHBOUR: 'it returns false'. Refute it at one input. -/
def checkerLassosWrong : ChangeSpec := { name := "checkerLassos", fn := fun _ => fun
  | [d1, d2, d3] => { results := [.lit (.bool false)], args := [d1, d2, d3] }
  | _ => none }
def CheckerLassosWrongFalsely : Prop := checkerLassosRow.holds Try.pinned (OpenSpec.ofChange checkerLassosWrong)

/-- 'overseerlaw58.CheckerFlows': WHATEVER THE INPUT: true; the input reads as it did. -/
def checkerFlowsSpec : ChangeSpec := { name := "checkerFlows", fn := fun _ => fun
  | [d1, d2, d3] => { results := [.lit (.bool true)], args := [d1, d2, d3] }
  | _ => none }
def checkerFlowsRow : OpenClaim := { program := "ytkbmenpggiojeaa", sum := "d442aed2fb7da5ee223406e3d1ca891cf12ee7fc295d25eb8e05218f36f06fe3", func := "overseer/overseerlaw58.CheckerFlows", spec := "checkerFlows", unfollowed := true, recurses := true, plainKeys := false, apart := false }
def CheckerFlowsSaid : Prop := checkerFlowsRow.holds Try.pinned (OpenSpec.ofChange checkerFlowsSpec)

/-- ITS FALSE NEIGHBOUR: 'it returns false'. Refute it at one input. -/
def checkerFlowsWrong : ChangeSpec := { name := "checkerFlows", fn := fun _ => fun
  | [d1, d2, d3] => { results := [.lit (.bool false)], args := [d1, d2, d3] }
  | _ => none }
def CheckerFlowsWrongFalsely : Prop := checkerFlowsRow.holds Try.pinned (OpenSpec.ofChange checkerFlowsWrong)

/-- 'overseerlaw58.CheckerAutomata': WHATEVER THE INPUT: true; the input reads as it did. -/
def checkerAutomataSpec : ChangeSpec := { name := "checkerAutomata", fn := fun _ => fun
  | [d1, d2, d3] => { results := [.lit (.bool true)], args := [d1, d2, d3] }
  | _ => none }
def checkerAutomataRow : OpenClaim := { program := "ytkbmenpggiojeaa", sum := "d442aed2fb7da5ee223406e3d1ca891cf12ee7fc295d25eb8e05218f36f06fe3", func := "overseer/overseerlaw58.CheckerAutomata", spec := "checkerAutomata", unfollowed := true, recurses := true, plainKeys := false, apart := false }
def CheckerAutomataSaid : Prop := checkerAutomataRow.holds Try.pinned (OpenSpec.ofChange checkerAutomataSpec)

/-- ITS FALSE NEIGHBOUR: 'it returns false'. Refute it at one input. -/
def checkerAutomataWrong : ChangeSpec := { name := "checkerAutomata", fn := fun _ => fun
  | [d1, d2, d3] => { results := [.lit (.bool false)], args := [d1, d2, d3] }
  | _ => none }
def CheckerAutomataWrongFalsely : Prop := checkerAutomataRow.holds Try.pinned (OpenSpec.ofChange checkerAutomataWrong)

/-- 'overseerlaw58.CheckerRefuses': WHATEVER THE INPUT: true; the input reads as it did. -/
def checkerRefusesSpec : ChangeSpec := { name := "checkerRefuses", fn := fun _ => fun
  | [d1, d2] => { results := [.lit (.bool true)], args := [d1, d2] }
  | _ => none }
def checkerRefusesRow : OpenClaim := { program := "ytkbmenpggiojeaa", sum := "d442aed2fb7da5ee223406e3d1ca891cf12ee7fc295d25eb8e05218f36f06fe3", func := "overseer/overseerlaw58.CheckerRefuses", spec := "checkerRefuses", unfollowed := true, recurses := true, plainKeys := false, apart := false }
def CheckerRefusesSaid : Prop := checkerRefusesRow.holds Try.pinned (OpenSpec.ofChange checkerRefusesSpec)

/-- ITS FALSE NEIGHBOUR: 'it returns false'. Refute it at one input. -/
def checkerRefusesWrong : ChangeSpec := { name := "checkerRefuses", fn := fun _ => fun
  | [d1, d2] => { results := [.lit (.bool false)], args := [d1, d2] }
  | _ => none }
def CheckerRefusesWrongFalsely : Prop := checkerRefusesRow.holds Try.pinned (OpenSpec.ofChange checkerRefusesWrong)

/- THE SECOND FORM. 'bulk': how many values and letters a reading holds, each counted each time it is reached (what is shared counts as often as it is met; a slice's spare places count too). A statement '..UptoSaid' is the law's where the arguments, and the package variables that the reading takes, are together of bulk at most 1048576: NARROWER than '..Said'. Prove '..Said' where nothing that the law and all that it calls make is longer than what came in: it says more and counts as full. Else prove '..UptoSaid'. A law counts once. -/
mutual
def uptoBulk {H : Type} : DataW H → Nat
  | .lit (.string bytes) => bytes.length + 1
  | .lit _ => 1
  | .nil => 1
  | .ptr d => uptoBulk d + 1
  | .slice elems spare => uptoBulkAll elems + uptoBulkAll spare + 1
  | .agg parts => uptoBulkAll parts + 1
  | .iface _ d => uptoBulk d + 1
  | .map entries => uptoBulkEntries entries + 1
  | .held _ => 1
def uptoBulkAll {H : Type} : List (DataW H) → Nat
  | [] => 0
  | d :: r => uptoBulk d + uptoBulkAll r
def uptoBulkEntries {H : Type} : List (Lit × DataW H) → Nat
  | [] => 0
  | x :: r => uptoBulkEntry x + uptoBulkEntries r
def uptoBulkEntry {H : Type} : Lit × DataW H → Nat
  | (.string bytes, d) => bytes.length + uptoBulk d + 1
  | (_, d) => uptoBulk d + 1
 end
def uptoSmall : (H : Type) → List (DataW H) → Bool := fun _ ds => decide (uptoBulkAll ds ≤ 1048576)
def OpenSpec.upto (s : _root_.Go.ChangeSpec) : _root_.Go.OpenSpec := { _root_.Go.OpenSpec.ofChange s with cond := some uptoSmall }

/-- 'overseerlaw58.CheckerBounds', WHERE WHAT IT READS IS OF BULK AT MOST 1048576: true; the input reads as it did. -/
def checkerBoundsUptoRow : OpenClaim := { program := "ytkbmenpggiojeaa", sum := "d442aed2fb7da5ee223406e3d1ca891cf12ee7fc295d25eb8e05218f36f06fe3", func := "overseer/overseerlaw58.CheckerBounds", spec := "checkerBounds", unfollowed := true, recurses := true, plainKeys := false, apart := false, narrowed := true }
def CheckerBoundsUptoSaid : Prop := checkerBoundsUptoRow.holds Try.pinned (OpenSpec.upto checkerBoundsSpec)

/-- 'overseerlaw58.CheckerNeither', WHERE WHAT IT READS IS OF BULK AT MOST 1048576: true; the input reads as it did. -/
def checkerNeitherUptoRow : OpenClaim := { program := "ytkbmenpggiojeaa", sum := "d442aed2fb7da5ee223406e3d1ca891cf12ee7fc295d25eb8e05218f36f06fe3", func := "overseer/overseerlaw58.CheckerNeither", spec := "checkerNeither", unfollowed := true, recurses := true, plainKeys := false, apart := false, narrowed := true }
def CheckerNeitherUptoSaid : Prop := checkerNeitherUptoRow.holds Try.pinned (OpenSpec.upto checkerNeitherSpec)

/-- 'overseerlaw58.CheckerLassos', WHERE WHAT IT READS IS OF BULK AT MOST 1048576: true; the input reads as it did. -/
def checkerLassosUptoRow : OpenClaim := { program := "ytkbmenpggiojeaa", sum := "d442aed2fb7da5ee223406e3d1ca891cf12ee7fc295d25eb8e05218f36f06fe3", func := "overseer/overseerlaw58.CheckerLassos", spec := "checkerLassos", unfollowed := true, recurses := true, plainKeys := false, apart := false, narrowed := true }
def CheckerLassosUptoSaid : Prop := checkerLassosUptoRow.holds Try.pinned (OpenSpec.upto checkerLassosSpec)

/-- 'overseerlaw58.CheckerFlows', WHERE WHAT IT READS IS OF BULK AT MOST 1048576: true; the input reads as it did. -/
def checkerFlowsUptoRow : OpenClaim := { program := "ytkbmenpggiojeaa", sum := "d442aed2fb7da5ee223406e3d1ca891cf12ee7fc295d25eb8e05218f36f06fe3", func := "overseer/overseerlaw58.CheckerFlows", spec := "checkerFlows", unfollowed := true, recurses := true, plainKeys := false, apart := false, narrowed := true }
def CheckerFlowsUptoSaid : Prop := checkerFlowsUptoRow.holds Try.pinned (OpenSpec.upto checkerFlowsSpec)

/-- 'overseerlaw58.CheckerAutomata', WHERE WHAT IT READS IS OF BULK AT MOST 1048576: true; the input reads as it did. -/
def checkerAutomataUptoRow : OpenClaim := { program := "ytkbmenpggiojeaa", sum := "d442aed2fb7da5ee223406e3d1ca891cf12ee7fc295d25eb8e05218f36f06fe3", func := "overseer/overseerlaw58.CheckerAutomata", spec := "checkerAutomata", unfollowed := true, recurses := true, plainKeys := false, apart := false, narrowed := true }
def CheckerAutomataUptoSaid : Prop := checkerAutomataUptoRow.holds Try.pinned (OpenSpec.upto checkerAutomataSpec)

/-- 'overseerlaw58.CheckerRefuses', WHERE WHAT IT READS IS OF BULK AT MOST 1048576: true; the input reads as it did. -/
def checkerRefusesUptoRow : OpenClaim := { program := "ytkbmenpggiojeaa", sum := "d442aed2fb7da5ee223406e3d1ca891cf12ee7fc295d25eb8e05218f36f06fe3", func := "overseer/overseerlaw58.CheckerRefuses", spec := "checkerRefuses", unfollowed := true, recurses := true, plainKeys := false, apart := false, narrowed := true }
def CheckerRefusesUptoSaid : Prop := checkerRefusesUptoRow.holds Try.pinned (OpenSpec.upto checkerRefusesSpec)

end Rows
end Go.Proofs.Ytkbmenpggiojeaa
