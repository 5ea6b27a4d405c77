/-
  No cell of these rows narrows 'for every input' (looked for: loops, veiled, ifaces, maps, wideKeys, modest, calm, conditions, laid).
  DERIVED. THE GIVEN ROWS OF THIS SEAT. 8 by the template 'for every input the law returns true; each argument reads behind the call as it read before'; 0 by the template 'total and deterministic' (their statements: YtjjifefanjnghaaTotals.lean).
  GIVEN WITH THE SEED: the statements are not yours to turn. If you find one false, say at which input.
  Laid BY PROGRAM, IN A SANDBOX (cutbox-rows.mjs): the forced cells as the released guide's own fill.sh prints them over the translation 2137a6157ca5ad29… (all of the seat's roots in one cut). By AI agents, Wed Nov 11 2026. No macro, syntax, notation, axiom, sorry.
-/
import Derived.Test.YtjjifefanjnghaaChecked
import GoSem.Claim
import GoSem.ClaimJoined
import GoSem.ClaimMapViews
import Derived.JoinedTies
import Derived.KernelRfl
namespace Go.Proofs.Ytjjifefanjnghaa
/- THE CELL 'sum', in the pinned program and in every row, IS THE sha256 OF THE DUMP (.gsa) THAT YtjjifefanjnghaaProg.lean LOADS. Nothing in Lean hashes anything: it is a label: what it is worth is what the hold of that sum in a sandbox is worth. -/
noncomputable def Try.pinned : Pinned := { name := "ytjjifefanjnghaa", sum := "2137a6157ca5ad2980aa63b20b978dc4168c794c0a8be50a813d44be35070a60", checked := Try.checked }
namespace Rows
def none {H : Type} : Left H := { results := [], args := [] }

/-- 'overseerlaw08.MinimalRefuses': WHATEVER THE INPUT: true; the input reads as it did. -/
def minimalRefusesSpec : ChangeSpec := { name := "minimalRefuses", fn := fun _ => fun
  | [d1, d2, d3] => { results := [.lit (.bool true)], args := [d1, d2, d3] }
  | _ => none }
def minimalRefusesRow : OpenClaim := { program := "ytjjifefanjnghaa", sum := "2137a6157ca5ad2980aa63b20b978dc4168c794c0a8be50a813d44be35070a60", func := "overseer/overseerlaw08.MinimalRefuses", spec := "minimalRefuses", unfollowed := true, recurses := true, plainKeys := false, apart := false }
def MinimalRefusesSaid : Prop := minimalRefusesRow.holds Try.pinned (OpenSpec.ofChange minimalRefusesSpec)

/-- ITS FALSE NEIGHBOUR: 'it returns false'. Refute it at one input. -/
def minimalRefusesWrong : ChangeSpec := { name := "minimalRefuses", fn := fun _ => fun
  | [d1, d2, d3] => { results := [.lit (.bool false)], args := [d1, d2, d3] }
  | _ => none }
def MinimalRefusesWrongFalsely : Prop := minimalRefusesRow.holds Try.pinned (OpenSpec.ofChange minimalRefusesWrong)

/-- 'overseerlaw08.MinimalDistinguishes': WHATEVER THE INPUT: true; the input reads as it did. -/
def minimalDistinguishesSpec : ChangeSpec := { name := "minimalDistinguishes", fn := fun _ => fun
  | [d1, d2, d3] => { results := [.lit (.bool true)], args := [d1, d2, d3] }
  | _ => none }
def minimalDistinguishesRow : OpenClaim := { program := "ytjjifefanjnghaa", sum := "2137a6157ca5ad2980aa63b20b978dc4168c794c0a8be50a813d44be35070a60", func := "overseer/overseerlaw08.MinimalDistinguishes", spec := "minimalDistinguishes", unfollowed := true, recurses := true, plainKeys := false, apart := false }
def MinimalDistinguishesSaid : Prop := minimalDistinguishesRow.holds Try.pinned (OpenSpec.ofChange minimalDistinguishesSpec)

/-- ITS FALSE NEIGHBOUR: 'it returns false'. Refute it at one input. -/
def minimalDistinguishesWrong : ChangeSpec := { name := "minimalDistinguishes", fn := fun _ => fun
  | [d1, d2, d3] => { results := [.lit (.bool false)], args := [d1, d2, d3] }
  | _ => none }
def MinimalDistinguishesWrongFalsely : Prop := minimalDistinguishesRow.holds Try.pinned (OpenSpec.ofChange minimalDistinguishesWrong)

/-- 'overseerlaw08.MinimalMerges': WHATEVER THE INPUT: true; the input reads as it did. -/
def minimalMergesSpec : ChangeSpec := { name := "minimalMerges", fn := fun _ => fun
  | [d1, d2] => { results := [.lit (.bool true)], args := [d1, d2] }
  | _ => none }
def minimalMergesRow : OpenClaim := { program := "ytjjifefanjnghaa", sum := "2137a6157ca5ad2980aa63b20b978dc4168c794c0a8be50a813d44be35070a60", func := "overseer/overseerlaw08.MinimalMerges", spec := "minimalMerges", unfollowed := true, recurses := true, plainKeys := false, apart := false }
def MinimalMergesSaid : Prop := minimalMergesRow.holds Try.pinned (OpenSpec.ofChange minimalMergesSpec)

/-- ITS FALSE NEIGHBOUR: 'it returns false'. Refute it at one input. -/
def minimalMergesWrong : ChangeSpec := { name := "minimalMerges", fn := fun _ => fun
  | [d1, d2] => { results := [.lit (.bool false)], args := [d1, d2] }
  | _ => none }
def MinimalMergesWrongFalsely : Prop := minimalMergesRow.holds Try.pinned (OpenSpec.ofChange minimalMergesWrong)

/-- 'overseerlaw08.MinimalWords': WHATEVER THE INPUT: true; the input reads as it did. -/
def minimalWordsSpec : ChangeSpec := { name := "minimalWords", fn := fun _ => fun
  | [d1, d2, d3] => { results := [.lit (.bool true)], args := [d1, d2, d3] }
  | _ => none }
def minimalWordsRow : OpenClaim := { program := "ytjjifefanjnghaa", sum := "2137a6157ca5ad2980aa63b20b978dc4168c794c0a8be50a813d44be35070a60", func := "overseer/overseerlaw08.MinimalWords", spec := "minimalWords", unfollowed := true, recurses := true, plainKeys := false, apart := false }
def MinimalWordsSaid : Prop := minimalWordsRow.holds Try.pinned (OpenSpec.ofChange minimalWordsSpec)

/-- ITS FALSE NEIGHBOUR: 'it returns false'. Refute it at one input. -/
def minimalWordsWrong : ChangeSpec := { name := "minimalWords", fn := fun _ => fun
  | [d1, d2, d3] => { results := [.lit (.bool false)], args := [d1, d2, d3] }
  | _ => none }
def MinimalWordsWrongFalsely : Prop := minimalWordsRow.holds Try.pinned (OpenSpec.ofChange minimalWordsWrong)

/-- 'overseerlaw08.MinimalEquivalent': WHATEVER THE INPUT: true; the input reads as it did. -/
def minimalEquivalentSpec : ChangeSpec := { name := "minimalEquivalent", fn := fun _ => fun
  | [d1, d2, d3] => { results := [.lit (.bool true)], args := [d1, d2, d3] }
  | _ => none }
def minimalEquivalentRow : OpenClaim := { program := "ytjjifefanjnghaa", sum := "2137a6157ca5ad2980aa63b20b978dc4168c794c0a8be50a813d44be35070a60", func := "overseer/overseerlaw08.MinimalEquivalent", spec := "minimalEquivalent", unfollowed := true, recurses := true, plainKeys := false, apart := false }
def MinimalEquivalentSaid : Prop := minimalEquivalentRow.holds Try.pinned (OpenSpec.ofChange minimalEquivalentSpec)

/-- ITS FALSE NEIGHBOUR: 'it returns false'. Refute it at one input. -/
def minimalEquivalentWrong : ChangeSpec := { name := "minimalEquivalent", fn := fun _ => fun
  | [d1, d2, d3] => { results := [.lit (.bool false)], args := [d1, d2, d3] }
  | _ => none }
def MinimalEquivalentWrongFalsely : Prop := minimalEquivalentRow.holds Try.pinned (OpenSpec.ofChange minimalEquivalentWrong)

/-- 'overseerlaw08.MinimalUnique': WHATEVER THE INPUT: true; the input reads as it did. -/
def minimalUniqueSpec : ChangeSpec := { name := "minimalUnique", fn := fun _ => fun
  | [d1, d2, d3] => { results := [.lit (.bool true)], args := [d1, d2, d3] }
  | _ => none }
def minimalUniqueRow : OpenClaim := { program := "ytjjifefanjnghaa", sum := "2137a6157ca5ad2980aa63b20b978dc4168c794c0a8be50a813d44be35070a60", func := "overseer/overseerlaw08.MinimalUnique", spec := "minimalUnique", unfollowed := true, recurses := true, plainKeys := false, apart := false }
def MinimalUniqueSaid : Prop := minimalUniqueRow.holds Try.pinned (OpenSpec.ofChange minimalUniqueSpec)

/-- ITS FALSE NEIGHBOUR: 'it returns false'. Refute it at one input. -/
def minimalUniqueWrong : ChangeSpec := { name := "minimalUnique", fn := fun _ => fun
  | [d1, d2, d3] => { results := [.lit (.bool false)], args := [d1, d2, d3] }
  | _ => none }
def MinimalUniqueWrongFalsely : Prop := minimalUniqueRow.holds Try.pinned (OpenSpec.ofChange minimalUniqueWrong)

/-- 'overseerlaw08.MinimalClasses': WHATEVER THE INPUT: true; the input reads as it did. -/
def minimalClassesSpec : ChangeSpec := { name := "minimalClasses", fn := fun _ => fun
  | [d] => { results := [.lit (.bool true)], args := [d] }
  | _ => none }
def minimalClassesRow : OpenClaim := { program := "ytjjifefanjnghaa", sum := "2137a6157ca5ad2980aa63b20b978dc4168c794c0a8be50a813d44be35070a60", func := "overseer/overseerlaw08.MinimalClasses", spec := "minimalClasses", unfollowed := true, recurses := true, plainKeys := false, apart := false }
def MinimalClassesSaid : Prop := minimalClassesRow.holds Try.pinned (OpenSpec.ofChange minimalClassesSpec)

/-- ITS FALSE NEIGHBOUR: 'it returns false'. Refute it at one input. -/
def minimalClassesWrong : ChangeSpec := { name := "minimalClasses", fn := fun _ => fun
  | [d] => { results := [.lit (.bool false)], args := [d] }
  | _ => none }
def MinimalClassesWrongFalsely : Prop := minimalClassesRow.holds Try.pinned (OpenSpec.ofChange minimalClassesWrong)

/-- 'overseerlaw08.MinimalLeast': WHATEVER THE INPUT: true; the input reads as it did. -/
def minimalLeastSpec : ChangeSpec := { name := "minimalLeast", fn := fun _ => fun
  | [d] => { results := [.lit (.bool true)], args := [d] }
  | _ => none }
def minimalLeastRow : OpenClaim := { program := "ytjjifefanjnghaa", sum := "2137a6157ca5ad2980aa63b20b978dc4168c794c0a8be50a813d44be35070a60", func := "overseer/overseerlaw08.MinimalLeast", spec := "minimalLeast", unfollowed := true, recurses := true, plainKeys := false, apart := false }
def MinimalLeastSaid : Prop := minimalLeastRow.holds Try.pinned (OpenSpec.ofChange minimalLeastSpec)

/-- ITS FALSE NEIGHBOUR: 'it returns false'. Refute it at one input. -/
def minimalLeastWrong : ChangeSpec := { name := "minimalLeast", fn := fun _ => fun
  | [d] => { results := [.lit (.bool false)], args := [d] }
  | _ => none }
def MinimalLeastWrongFalsely : Prop := minimalLeastRow.holds Try.pinned (OpenSpec.ofChange minimalLeastWrong)

/- THE SECOND FORM. 'bulk': how many values and letters a reading holds, each counted each time it is reached (what is shared counts as often as it is met; a slice's spare places count too). A statement '..UptoSaid' is the law's where the arguments, and the package variables that the reading takes, are together of bulk at most 1048576: NARROWER than '..Said'. Prove '..Said' where nothing that the law and all that it calls make is longer than what came in: it says more and counts as full. Else prove '..UptoSaid'. A law counts once. -/
mutual
def uptoBulk {H : Type} : DataW H → Nat
  | .lit (.string bytes) => bytes.length + 1
  | .lit _ => 1
  | .nil => 1
  | .ptr d => uptoBulk d + 1
  | .slice elems spare => uptoBulkAll elems + uptoBulkAll spare + 1
  | .agg parts => uptoBulkAll parts + 1
  | .iface _ d => uptoBulk d + 1
  | .map entries => uptoBulkEntries entries + 1
  | .held _ => 1
def uptoBulkAll {H : Type} : List (DataW H) → Nat
  | [] => 0
  | d :: r => uptoBulk d + uptoBulkAll r
def uptoBulkEntries {H : Type} : List (Lit × DataW H) → Nat
  | [] => 0
  | x :: r => uptoBulkEntry x + uptoBulkEntries r
def uptoBulkEntry {H : Type} : Lit × DataW H → Nat
  | (.string bytes, d) => bytes.length + uptoBulk d + 1
  | (_, d) => uptoBulk d + 1
 end
def uptoSmall : (H : Type) → List (DataW H) → Bool := fun _ ds => decide (uptoBulkAll ds ≤ 1048576)
def OpenSpec.upto (s : _root_.Go.ChangeSpec) : _root_.Go.OpenSpec := { _root_.Go.OpenSpec.ofChange s with cond := some uptoSmall }

/-- 'overseerlaw08.MinimalRefuses', WHERE WHAT IT READS IS OF BULK AT MOST 1048576: true; the input reads as it did. -/
def minimalRefusesUptoRow : OpenClaim := { program := "ytjjifefanjnghaa", sum := "2137a6157ca5ad2980aa63b20b978dc4168c794c0a8be50a813d44be35070a60", func := "overseer/overseerlaw08.MinimalRefuses", spec := "minimalRefuses", unfollowed := true, recurses := true, plainKeys := false, apart := false, narrowed := true }
def MinimalRefusesUptoSaid : Prop := minimalRefusesUptoRow.holds Try.pinned (OpenSpec.upto minimalRefusesSpec)

/-- 'overseerlaw08.MinimalDistinguishes', WHERE WHAT IT READS IS OF BULK AT MOST 1048576: true; the input reads as it did. -/
def minimalDistinguishesUptoRow : OpenClaim := { program := "ytjjifefanjnghaa", sum := "2137a6157ca5ad2980aa63b20b978dc4168c794c0a8be50a813d44be35070a60", func := "overseer/overseerlaw08.MinimalDistinguishes", spec := "minimalDistinguishes", unfollowed := true, recurses := true, plainKeys := false, apart := false, narrowed := true }
def MinimalDistinguishesUptoSaid : Prop := minimalDistinguishesUptoRow.holds Try.pinned (OpenSpec.upto minimalDistinguishesSpec)

/-- 'overseerlaw08.MinimalMerges', WHERE WHAT IT READS IS OF BULK AT MOST 1048576: true; the input reads as it did. -/
def minimalMergesUptoRow : OpenClaim := { program := "ytjjifefanjnghaa", sum := "2137a6157ca5ad2980aa63b20b978dc4168c794c0a8be50a813d44be35070a60", func := "overseer/overseerlaw08.MinimalMerges", spec := "minimalMerges", unfollowed := true, recurses := true, plainKeys := false, apart := false, narrowed := true }
def MinimalMergesUptoSaid : Prop := minimalMergesUptoRow.holds Try.pinned (OpenSpec.upto minimalMergesSpec)

/-- 'overseerlaw08.MinimalWords', WHERE WHAT IT READS IS OF BULK AT MOST 1048576: true; the input reads as it did. -/
def minimalWordsUptoRow : OpenClaim := { program := "ytjjifefanjnghaa", sum := "2137a6157ca5ad2980aa63b20b978dc4168c794c0a8be50a813d44be35070a60", func := "overseer/overseerlaw08.MinimalWords", spec := "minimalWords", unfollowed := true, recurses := true, plainKeys := false, apart := false, narrowed := true }
def MinimalWordsUptoSaid : Prop := minimalWordsUptoRow.holds Try.pinned (OpenSpec.upto minimalWordsSpec)

/-- 'overseerlaw08.MinimalEquivalent', WHERE WHAT IT READS IS OF BULK AT MOST 1048576: true; the input reads as it did. -/
def minimalEquivalentUptoRow : OpenClaim := { program := "ytjjifefanjnghaa", sum := "2137a6157ca5ad2980aa63b20b978dc4168c794c0a8be50a813d44be35070a60", func := "overseer/overseerlaw08.MinimalEquivalent", spec := "minimalEquivalent", unfollowed := true, recurses := true, plainKeys := false, apart := false, narrowed := true }
def MinimalEquivalentUptoSaid : Prop := minimalEquivalentUptoRow.holds Try.pinned (OpenSpec.upto minimalEquivalentSpec)

/-- 'overseerlaw08.MinimalUnique', WHERE WHAT IT READS IS OF BULK AT MOST 1048576: true; the input reads as it did. -/
def minimalUniqueUptoRow : OpenClaim := { program := "ytjjifefanjnghaa", sum := "2137a6157ca5ad2980aa63b20b978dc4168c794c0a8be50a813d44be35070a60", func := "overseer/overseerlaw08.MinimalUnique", spec := "minimalUnique", unfollowed := true, recurses := true, plainKeys := false, apart := false, narrowed := true }
def MinimalUniqueUptoSaid : Prop := minimalUniqueUptoRow.holds Try.pinned (OpenSpec.upto minimalUniqueSpec)

/-- 'overseerlaw08.MinimalClasses', WHERE WHAT IT READS IS OF BULK AT MOST 1048576: true; the input reads as it did. -/
def minimalClassesUptoRow : OpenClaim := { program := "ytjjifefanjnghaa", sum := "2137a6157ca5ad2980aa63b20b978dc4168c794c0a8be50a813d44be35070a60", func := "overseer/overseerlaw08.MinimalClasses", spec := "minimalClasses", unfollowed := true, recurses := true, plainKeys := false, apart := false, narrowed := true }
def MinimalClassesUptoSaid : Prop := minimalClassesUptoRow.holds Try.pinned (OpenSpec.upto minimalClassesSpec)

/-- 'overseerlaw08.MinimalLeast', WHERE WHAT IT READS IS OF BULK AT MOST 1048576: true; the input reads as it did. -/
def minimalLeastUptoRow : OpenClaim := { program := "ytjjifefanjnghaa", sum := "2137a6157ca5ad2980aa63b20b978dc4168c794c0a8be50a813d44be35070a60", func := "overseer/overseerlaw08.MinimalLeast", spec := "minimalLeast", unfollowed := true, recurses := true, plainKeys := false, apart := false, narrowed := true }
def MinimalLeastUptoSaid : Prop := minimalLeastUptoRow.holds Try.pinned (OpenSpec.upto minimalLeastSpec)

end Rows
end Go.Proofs.Ytjjifefanjnghaa
