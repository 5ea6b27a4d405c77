/-
  No cell of these rows narrows 'for every input' (looked for: loops, veiled, ifaces, maps, wideKeys, modest, calm, conditions, laid).
  DERIVED. THE GIVEN ROWS OF THIS SEAT. 2 by the template 'for every input the law returns true; each argument reads behind the call as it read before'; 0 by the template 'total and deterministic' (their statements: YtccfcaejlohahaaTotals.lean).
  GIVEN WITH THE SEED: the statements are not yours to turn. If you find one false, say at which input.
  Laid BY PROGRAM, IN A SANDBOX (cutbox-rows.mjs): the forced cells as the released guide's own fill.sh prints them over the translation 6bb472cf5571c6ee… (all of the seat's roots in one cut). By AI agents, Wed Nov 11 2026. No macro, syntax, notation, axiom, sorry.
-/
import Derived.Test.YtccfcaejlohahaaChecked
import GoSem.Claim
import GoSem.ClaimJoined
import GoSem.ClaimMapViews
import Derived.JoinedTies
import Derived.KernelRfl
namespace Go.Proofs.Ytccfcaejlohahaa
/- THE CELL 'sum', in the pinned program and in every row, IS THE sha256 OF THE DUMP (.gsa) THAT YtccfcaejlohahaaProg.lean LOADS. Nothing in Lean hashes anything: it is a label: what it is worth is what the hold of that sum in a sandbox is worth. -/
noncomputable def Try.pinned : Pinned := { name := "ytccfcaejlohahaa", sum := "6bb472cf5571c6eecdbfb9b01cd6d4eb95bb066cb9d7b62bfe40513a7811b1f7", checked := Try.checked }
namespace Rows
def none {H : Type} : Left H := { results := [], args := [] }

/-- 'overseerlaw58.CheckerKept': WHATEVER THE INPUT: true; the input reads as it did. -/
def checkerKeptSpec : ChangeSpec := { name := "checkerKept", fn := fun _ => fun
  | [d1, d2] => { results := [.lit (.bool true)], args := [d1, d2] }
  | _ => none }
def checkerKeptRow : OpenClaim := { program := "ytccfcaejlohahaa", sum := "6bb472cf5571c6eecdbfb9b01cd6d4eb95bb066cb9d7b62bfe40513a7811b1f7", func := "overseer/overseerlaw58.CheckerKept", spec := "checkerKept", unfollowed := true, recurses := true, plainKeys := false, apart := false }
def CheckerKeptSaid : Prop := checkerKeptRow.holds Try.pinned (OpenSpec.ofChange checkerKeptSpec)

/-- ITS FALSE NEIGHBOUR: 'it returns false'. Refute it at one input. -/
def checkerKeptWrong : ChangeSpec := { name := "checkerKept", fn := fun _ => fun
  | [d1, d2] => { results := [.lit (.bool false)], args := [d1, d2] }
  | _ => none }
def CheckerKeptWrongFalsely : Prop := checkerKeptRow.holds Try.pinned (OpenSpec.ofChange checkerKeptWrong)

/-- 'overseerlaw58.CheckerSupervisors': WHATEVER THE INPUT: true; the input reads as it did. -/
def checkerSupervisorsSpec : ChangeSpec := { name := "checkerSupervisors", fn := fun _ => fun
  | [d1, d2] => { results := [.lit (.bool true)], args := [d1, d2] }
  | _ => none }
def checkerSupervisorsRow : OpenClaim := { program := "ytccfcaejlohahaa", sum := "6bb472cf5571c6eecdbfb9b01cd6d4eb95bb066cb9d7b62bfe40513a7811b1f7", func := "overseer/overseerlaw58.CheckerSupervisors", spec := "checkerSupervisors", unfollowed := true, recurses := true, plainKeys := false, apart := false }
def CheckerSupervisorsSaid : Prop := checkerSupervisorsRow.holds Try.pinned (OpenSpec.ofChange checkerSupervisorsSpec)

/-- ITS FALSE NEIGHBOUR: 'it returns false'. Refute it at one input. -/
def checkerSupervisorsWrong : ChangeSpec := { name := "checkerSupervisors", fn := fun _ => fun
  | [d1, d2] => { results := [.lit (.bool false)], args := [d1, d2] }
  | _ => none }
def CheckerSupervisorsWrongFalsely : Prop := checkerSupervisorsRow.holds Try.pinned (OpenSpec.ofChange checkerSupervisorsWrong)

/- THE SECOND FORM. 'bulk': how many values and letters a reading holds, each counted each time it is reached (what is shared counts as often as it is met; a slice's spare places count too). A statement '..UptoSaid' is the law's where the arguments, and the package variables that the reading takes, are together of bulk at most 1048576: NARROWER than '..Said'. Prove '..Said' where nothing that the law and all that it calls make is longer than what came in: it says more and counts as full. Else prove '..UptoSaid'. A law counts once. -/
mutual
def uptoBulk {H : Type} : DataW H → Nat
  | .lit (.string bytes) => bytes.length + 1
  | .lit _ => 1
  | .nil => 1
  | .ptr d => uptoBulk d + 1
  | .slice elems spare => uptoBulkAll elems + uptoBulkAll spare + 1
  | .agg parts => uptoBulkAll parts + 1
  | .iface _ d => uptoBulk d + 1
  | .map entries => uptoBulkEntries entries + 1
  | .held _ => 1
def uptoBulkAll {H : Type} : List (DataW H) → Nat
  | [] => 0
  | d :: r => uptoBulk d + uptoBulkAll r
def uptoBulkEntries {H : Type} : List (Lit × DataW H) → Nat
  | [] => 0
  | x :: r => uptoBulkEntry x + uptoBulkEntries r
def uptoBulkEntry {H : Type} : Lit × DataW H → Nat
  | (.string bytes, d) => bytes.length + uptoBulk d + 1
  | (_, d) => uptoBulk d + 1
 end
def uptoSmall : (H : Type) → List (DataW H) → Bool := fun _ ds => decide (uptoBulkAll ds ≤ 1048576)
def OpenSpec.upto (s : _root_.Go.ChangeSpec) : _root_.Go.OpenSpec := { _root_.Go.OpenSpec.ofChange s with cond := some uptoSmall }

/-- 'overseerlaw58.CheckerKept', WHERE WHAT IT READS IS OF BULK AT MOST 1048576: true; the input reads as it did. -/
def checkerKeptUptoRow : OpenClaim := { program := "ytccfcaejlohahaa", sum := "6bb472cf5571c6eecdbfb9b01cd6d4eb95bb066cb9d7b62bfe40513a7811b1f7", func := "overseer/overseerlaw58.CheckerKept", spec := "checkerKept", unfollowed := true, recurses := true, plainKeys := false, apart := false, narrowed := true }
def CheckerKeptUptoSaid : Prop := checkerKeptUptoRow.holds Try.pinned (OpenSpec.upto checkerKeptSpec)

/-- 'overseerlaw58.CheckerSupervisors', WHERE WHAT IT READS IS OF BULK AT MOST 1048576: true; the input reads as it did. -/
def checkerSupervisorsUptoRow : OpenClaim := { program := "ytccfcaejlohahaa", sum := "6bb472cf5571c6eecdbfb9b01cd6d4eb95bb066cb9d7b62bfe40513a7811b1f7", func := "overseer/overseerlaw58.CheckerSupervisors", spec := "checkerSupervisors", unfollowed := true, recurses := true, plainKeys := false, apart := false, narrowed := true }
def CheckerSupervisorsUptoSaid : Prop := checkerSupervisorsUptoRow.holds Try.pinned (OpenSpec.upto checkerSupervisorsSpec)

end Rows
end Go.Proofs.Ytccfcaejlohahaa
