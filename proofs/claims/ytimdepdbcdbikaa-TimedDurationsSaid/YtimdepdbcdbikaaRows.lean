/-
  No cell of these rows narrows 'for every input' (looked for: loops, veiled, ifaces, maps, wideKeys, modest, calm, conditions, laid).
  DERIVED. THE GIVEN ROWS OF THIS SEAT. 5 by the template 'for every input the law returns true; each argument reads behind the call as it read before'; 0 by the template 'total and deterministic' (their statements: YtimdepdbcdbikaaTotals.lean).
  GIVEN WITH THE SEED: the statements are not yours to turn. If you find one false, say at which input.
  Laid BY PROGRAM, IN A SANDBOX (cutbox-rows.mjs): the forced cells as the released guide's own fill.sh prints them over the translation 70d85792318988b8… (all of the seat's roots in one cut). By AI agents, Wed Nov 11 2026. No macro, syntax, notation, axiom, sorry.
-/
import Derived.Test.YtimdepdbcdbikaaChecked
import GoSem.Claim
import GoSem.ClaimJoined
import GoSem.ClaimMapViews
import Derived.JoinedTies
import Derived.KernelRfl
namespace Go.Proofs.Ytimdepdbcdbikaa
/- THE CELL 'sum', in the pinned program and in every row, IS THE sha256 OF THE DUMP (.gsa) THAT YtimdepdbcdbikaaProg.lean LOADS. Nothing in Lean hashes anything: it is a label: what it is worth is what the hold of that sum in a sandbox is worth. -/
noncomputable def Try.pinned : Pinned := { name := "ytimdepdbcdbikaa", sum := "70d85792318988b8f858ac07219cdf4fd35476b32a59f21c5d850ec28e9dc643", checked := Try.checked }
namespace Rows
def none {H : Type} : Left H := { results := [], args := [] }

/-- 'overseerlaw44.TimedLoops': WHATEVER THE INPUT: true; the input reads as it did. -/
def timedLoopsSpec : ChangeSpec := { name := "timedLoops", fn := fun _ => fun
  | [d] => { results := [.lit (.bool true)], args := [d] }
  | _ => none }
def timedLoopsRow : OpenClaim := { program := "ytimdepdbcdbikaa", sum := "70d85792318988b8f858ac07219cdf4fd35476b32a59f21c5d850ec28e9dc643", func := "overseer/overseerlaw44.TimedLoops", spec := "timedLoops", unfollowed := true, recurses := true, plainKeys := false, apart := false }
def TimedLoopsSaid : Prop := timedLoopsRow.holds Try.pinned (OpenSpec.ofChange timedLoopsSpec)

/-- ITS FALSE NEIGHBOUR: 'it returns false'. Refute it at one input. -/
def timedLoopsWrong : ChangeSpec := { name := "timedLoops", fn := fun _ => fun
  | [d] => { results := [.lit (.bool false)], args := [d] }
  | _ => none }
def TimedLoopsWrongFalsely : Prop := timedLoopsRow.holds Try.pinned (OpenSpec.ofChange timedLoopsWrong)

/-- 'overseerlaw44.TimedDurations': WHATEVER THE INPUT: true; the input reads as it did. -/
def timedDurationsSpec : ChangeSpec := { name := "timedDurations", fn := fun _ => fun
  | [d1, d2] => { results := [.lit (.bool true)], args := [d1, d2] }
  | _ => none }
def timedDurationsRow : OpenClaim := { program := "ytimdepdbcdbikaa", sum := "70d85792318988b8f858ac07219cdf4fd35476b32a59f21c5d850ec28e9dc643", func := "overseer/overseerlaw44.TimedDurations", spec := "timedDurations", unfollowed := true, recurses := true, plainKeys := false, apart := false }
def TimedDurationsSaid : Prop := timedDurationsRow.holds Try.pinned (OpenSpec.ofChange timedDurationsSpec)

/-- ITS FALSE NEIGHBOUR: 'it returns false'. Refute it at one input. -/
def timedDurationsWrong : ChangeSpec := { name := "timedDurations", fn := fun _ => fun
  | [d1, d2] => { results := [.lit (.bool false)], args := [d1, d2] }
  | _ => none }
def TimedDurationsWrongFalsely : Prop := timedDurationsRow.holds Try.pinned (OpenSpec.ofChange timedDurationsWrong)

/-- 'overseerlaw44.TimedBuilds': WHATEVER THE INPUT: true; the input reads as it did. -/
def timedBuildsSpec : ChangeSpec := { name := "timedBuilds", fn := fun _ => fun
  | [d] => { results := [.lit (.bool true)], args := [d] }
  | _ => none }
def timedBuildsRow : OpenClaim := { program := "ytimdepdbcdbikaa", sum := "70d85792318988b8f858ac07219cdf4fd35476b32a59f21c5d850ec28e9dc643", func := "overseer/overseerlaw44.TimedBuilds", spec := "timedBuilds", unfollowed := true, recurses := true, plainKeys := false, apart := false }
def TimedBuildsSaid : Prop := timedBuildsRow.holds Try.pinned (OpenSpec.ofChange timedBuildsSpec)

/-- ITS FALSE NEIGHBOUR: 'it returns false'. Refute it at one input. -/
def timedBuildsWrong : ChangeSpec := { name := "timedBuilds", fn := fun _ => fun
  | [d] => { results := [.lit (.bool false)], args := [d] }
  | _ => none }
def TimedBuildsWrongFalsely : Prop := timedBuildsRow.holds Try.pinned (OpenSpec.ofChange timedBuildsWrong)

/-- 'overseerlaw44.TimedBounds': WHATEVER THE INPUT: true; the input reads as it did. -/
def timedBoundsSpec : ChangeSpec := { name := "timedBounds", fn := fun _ => fun
  | [d1, d2] => { results := [.lit (.bool true)], args := [d1, d2] }
  | _ => none }
def timedBoundsRow : OpenClaim := { program := "ytimdepdbcdbikaa", sum := "70d85792318988b8f858ac07219cdf4fd35476b32a59f21c5d850ec28e9dc643", func := "overseer/overseerlaw44.TimedBounds", spec := "timedBounds", unfollowed := true, recurses := true, plainKeys := false, apart := false }
def TimedBoundsSaid : Prop := timedBoundsRow.holds Try.pinned (OpenSpec.ofChange timedBoundsSpec)

/-- ITS FALSE NEIGHBOUR: 'it returns false'. Refute it at one input. -/
def timedBoundsWrong : ChangeSpec := { name := "timedBounds", fn := fun _ => fun
  | [d1, d2] => { results := [.lit (.bool false)], args := [d1, d2] }
  | _ => none }
def TimedBoundsWrongFalsely : Prop := timedBoundsRow.holds Try.pinned (OpenSpec.ofChange timedBoundsWrong)

/-- 'overseerlaw44.TimedSteps': WHATEVER THE INPUT: true; the input reads as it did. -/
def timedStepsSpec : ChangeSpec := { name := "timedSteps", fn := fun _ => fun
  | [d1, d2, d3] => { results := [.lit (.bool true)], args := [d1, d2, d3] }
  | _ => none }
def timedStepsRow : OpenClaim := { program := "ytimdepdbcdbikaa", sum := "70d85792318988b8f858ac07219cdf4fd35476b32a59f21c5d850ec28e9dc643", func := "overseer/overseerlaw44.TimedSteps", spec := "timedSteps", unfollowed := true, recurses := true, plainKeys := false, apart := false }
def TimedStepsSaid : Prop := timedStepsRow.holds Try.pinned (OpenSpec.ofChange timedStepsSpec)

/-- ITS FALSE NEIGHBOUR: 'it returns false'. Refute it at one input. -/
def timedStepsWrong : ChangeSpec := { name := "timedSteps", fn := fun _ => fun
  | [d1, d2, d3] => { results := [.lit (.bool false)], args := [d1, d2, d3] }
  | _ => none }
def TimedStepsWrongFalsely : Prop := timedStepsRow.holds Try.pinned (OpenSpec.ofChange timedStepsWrong)

/- THE SECOND FORM. 'bulk': how many values and letters a reading holds, each counted each time it is reached (what is shared counts as often as it is met; a slice's spare places count too). A statement '..UptoSaid' is the law's where the arguments, and the package variables that the reading takes, are together of bulk at most 1048576: NARROWER than '..Said'. Prove '..Said' where nothing that the law and all that it calls make is longer than what came in: it says more and counts as full. Else prove '..UptoSaid'. A law counts once. -/
mutual
def uptoBulk {H : Type} : DataW H → Nat
  | .lit (.string bytes) => bytes.length + 1
  | .lit _ => 1
  | .nil => 1
  | .ptr d => uptoBulk d + 1
  | .slice elems spare => uptoBulkAll elems + uptoBulkAll spare + 1
  | .agg parts => uptoBulkAll parts + 1
  | .iface _ d => uptoBulk d + 1
  | .map entries => uptoBulkEntries entries + 1
  | .held _ => 1
def uptoBulkAll {H : Type} : List (DataW H) → Nat
  | [] => 0
  | d :: r => uptoBulk d + uptoBulkAll r
def uptoBulkEntries {H : Type} : List (Lit × DataW H) → Nat
  | [] => 0
  | x :: r => uptoBulkEntry x + uptoBulkEntries r
def uptoBulkEntry {H : Type} : Lit × DataW H → Nat
  | (.string bytes, d) => bytes.length + uptoBulk d + 1
  | (_, d) => uptoBulk d + 1
 end
def uptoSmall : (H : Type) → List (DataW H) → Bool := fun _ ds => decide (uptoBulkAll ds ≤ 1048576)
def OpenSpec.upto (s : _root_.Go.ChangeSpec) : _root_.Go.OpenSpec := { _root_.Go.OpenSpec.ofChange s with cond := some uptoSmall }

/-- 'overseerlaw44.TimedLoops', WHERE WHAT IT READS IS OF BULK AT MOST 1048576: true; the input reads as it did. -/
def timedLoopsUptoRow : OpenClaim := { program := "ytimdepdbcdbikaa", sum := "70d85792318988b8f858ac07219cdf4fd35476b32a59f21c5d850ec28e9dc643", func := "overseer/overseerlaw44.TimedLoops", spec := "timedLoops", unfollowed := true, recurses := true, plainKeys := false, apart := false, narrowed := true }
def TimedLoopsUptoSaid : Prop := timedLoopsUptoRow.holds Try.pinned (OpenSpec.upto timedLoopsSpec)

/-- 'overseerlaw44.TimedDurations', WHERE WHAT IT READS IS OF BULK AT MOST 1048576: true; the input reads as it did. -/
def timedDurationsUptoRow : OpenClaim := { program := "ytimdepdbcdbikaa", sum := "70d85792318988b8f858ac07219cdf4fd35476b32a59f21c5d850ec28e9dc643", func := "overseer/overseerlaw44.TimedDurations", spec := "timedDurations", unfollowed := true, recurses := true, plainKeys := false, apart := false, narrowed := true }
def TimedDurationsUptoSaid : Prop := timedDurationsUptoRow.holds Try.pinned (OpenSpec.upto timedDurationsSpec)

/-- 'overseerlaw44.TimedBuilds', WHERE WHAT IT READS IS OF BULK AT MOST 1048576: true; the input reads as it did. -/
def timedBuildsUptoRow : OpenClaim := { program := "ytimdepdbcdbikaa", sum := "70d85792318988b8f858ac07219cdf4fd35476b32a59f21c5d850ec28e9dc643", func := "overseer/overseerlaw44.TimedBuilds", spec := "timedBuilds", unfollowed := true, recurses := true, plainKeys := false, apart := false, narrowed := true }
def TimedBuildsUptoSaid : Prop := timedBuildsUptoRow.holds Try.pinned (OpenSpec.upto timedBuildsSpec)

/-- 'overseerlaw44.TimedBounds', WHERE WHAT IT READS IS OF BULK AT MOST 1048576: true; the input reads as it did. -/
def timedBoundsUptoRow : OpenClaim := { program := "ytimdepdbcdbikaa", sum := "70d85792318988b8f858ac07219cdf4fd35476b32a59f21c5d850ec28e9dc643", func := "overseer/overseerlaw44.TimedBounds", spec := "timedBounds", unfollowed := true, recurses := true, plainKeys := false, apart := false, narrowed := true }
def TimedBoundsUptoSaid : Prop := timedBoundsUptoRow.holds Try.pinned (OpenSpec.upto timedBoundsSpec)

/-- 'overseerlaw44.TimedSteps', WHERE WHAT IT READS IS OF BULK AT MOST 1048576: true; the input reads as it did. -/
def timedStepsUptoRow : OpenClaim := { program := "ytimdepdbcdbikaa", sum := "70d85792318988b8f858ac07219cdf4fd35476b32a59f21c5d850ec28e9dc643", func := "overseer/overseerlaw44.TimedSteps", spec := "timedSteps", unfollowed := true, recurses := true, plainKeys := false, apart := false, narrowed := true }
def TimedStepsUptoSaid : Prop := timedStepsUptoRow.holds Try.pinned (OpenSpec.upto timedStepsSpec)

end Rows
end Go.Proofs.Ytimdepdbcdbikaa
