/-
  NARROWER THAN 'FOR EVERY INPUT', by the rows' own cells (each row's printed sentence says how): LanguageIncludes: laid · LanguageCounts: laid · LanguageMany: laid · LanguageComplements: laid · LanguageLimits: laid · LanguageCombines: laid · LanguageWords: laid · LanguageEquals: laid · LanguageLeast: laid · LanguageLaws: laid.
  DERIVED. THE GIVEN ROWS OF THIS SEAT. 10 by the template 'for every input the law returns true; each argument reads behind the call as it read before'; 0 by the template 'total and deterministic' (their statements: YtkifgffhoenaoaaDoorTotals.lean).
  GIVEN WITH THE SEED: the statements are not yours to turn. If you find one false, say at which input.
  Laid BY PROGRAM, IN A SANDBOX (cutbox-rows.mjs): the forced cells as the released guide's own fill.sh prints them over the translation a3a98b9664e36dbc… (all of the seat's roots in one cut). By AI agents, Wed Nov 11 2026. No macro, syntax, notation, axiom, sorry.
-/
import Derived.Test.YtkifgffhoenaoaaDoorChecked
import GoSem.Claim
import GoSem.ClaimJoined
import GoSem.ClaimMapViews
import Derived.JoinedTies
import Derived.KernelRfl
namespace Go.Proofs.YtkifgffhoenaoaaDoor
/- THE CELL 'sum', in the pinned program and in every row, IS THE sha256 OF THE DUMP (.gsa) THAT YtkifgffhoenaoaaDoorProg.lean LOADS. Nothing in Lean hashes anything: it is a label: what it is worth is what the hold of that sum in a sandbox is worth. -/
noncomputable def Tryd.pinned : Pinned := { name := "ytkifgffhoenaoaadoor", sum := "a3a98b9664e36dbc913552f9a24e7a29b8347a3c4cf10fed5f091a42c8871a1e", checked := Tryd.checked }
namespace Rows
def none {H : Type} : Left H := { results := [], args := [] }

/- WHAT THE LISTED PACKAGE-LEVEL VARIABLES READ AS WHEN THE CALL BEGINS. Each datum BY PROGRAM (the guide's laid-datum.mjs) off the statement by which the dump's own 'gosem.cut.vars' lays the variable. In a bare row this is a premise. The card (YtkifgffhoenaoaaDoorCards.lean) ties it to the program's text. -/
def laid_math_bits_deBruijn32tab {H : Type} : DataW H := .agg [.lit (.int .u8 0), .lit (.int .u8 1), .lit (.int .u8 28), .lit (.int .u8 2), .lit (.int .u8 29), .lit (.int .u8 14), .lit (.int .u8 24), .lit (.int .u8 3), .lit (.int .u8 30), .lit (.int .u8 22), .lit (.int .u8 20), .lit (.int .u8 15), .lit (.int .u8 25), .lit (.int .u8 17), .lit (.int .u8 4), .lit (.int .u8 8), .lit (.int .u8 31), .lit (.int .u8 27), .lit (.int .u8 13), .lit (.int .u8 23), .lit (.int .u8 21), .lit (.int .u8 19), .lit (.int .u8 16), .lit (.int .u8 7), .lit (.int .u8 26), .lit (.int .u8 12), .lit (.int .u8 18), .lit (.int .u8 6), .lit (.int .u8 11), .lit (.int .u8 5), .lit (.int .u8 10), .lit (.int .u8 9)]
def laid_math_bits_deBruijn64tab {H : Type} : DataW H := .agg [.lit (.int .u8 0), .lit (.int .u8 1), .lit (.int .u8 56), .lit (.int .u8 2), .lit (.int .u8 57), .lit (.int .u8 49), .lit (.int .u8 28), .lit (.int .u8 3), .lit (.int .u8 61), .lit (.int .u8 58), .lit (.int .u8 42), .lit (.int .u8 50), .lit (.int .u8 38), .lit (.int .u8 29), .lit (.int .u8 17), .lit (.int .u8 4), .lit (.int .u8 62), .lit (.int .u8 47), .lit (.int .u8 59), .lit (.int .u8 36), .lit (.int .u8 45), .lit (.int .u8 43), .lit (.int .u8 51), .lit (.int .u8 22), .lit (.int .u8 53), .lit (.int .u8 39), .lit (.int .u8 33), .lit (.int .u8 30), .lit (.int .u8 24), .lit (.int .u8 18), .lit (.int .u8 12), .lit (.int .u8 5), .lit (.int .u8 63), .lit (.int .u8 55), .lit (.int .u8 48), .lit (.int .u8 27), .lit (.int .u8 60), .lit (.int .u8 41), .lit (.int .u8 37), .lit (.int .u8 16), .lit (.int .u8 46), .lit (.int .u8 35), .lit (.int .u8 44), .lit (.int .u8 21), .lit (.int .u8 52), .lit (.int .u8 32), .lit (.int .u8 23), .lit (.int .u8 11), .lit (.int .u8 54), .lit (.int .u8 26), .lit (.int .u8 40), .lit (.int .u8 15), .lit (.int .u8 34), .lit (.int .u8 20), .lit (.int .u8 31), .lit (.int .u8 10), .lit (.int .u8 25), .lit (.int .u8 14), .lit (.int .u8 19), .lit (.int .u8 9), .lit (.int .u8 13), .lit (.int .u8 8), .lit (.int .u8 7), .lit (.int .u8 6)]
def laid_internal_strconv_uint64pow10 {H : Type} : DataW H := .agg [.lit (.int .u64 1), .lit (.int .u64 10), .lit (.int .u64 100), .lit (.int .u64 1000), .lit (.int .u64 10000), .lit (.int .u64 100000), .lit (.int .u64 1000000), .lit (.int .u64 10000000), .lit (.int .u64 100000000), .lit (.int .u64 1000000000), .lit (.int .u64 10000000000), .lit (.int .u64 100000000000), .lit (.int .u64 1000000000000), .lit (.int .u64 10000000000000), .lit (.int .u64 100000000000000), .lit (.int .u64 1000000000000000), .lit (.int .u64 10000000000000000), .lit (.int .u64 100000000000000000), .lit (.int .u64 1000000000000000000), .lit (.int .u64 10000000000000000000)]

/-- 'overseerlaw09.LanguageIncludes': WHATEVER THE INPUT: true; the input reads as it did. -/
def languageIncludesSpec : ChangeSpec := { name := "languageIncludes", fn := fun _ => fun
  | [d] => { results := [.lit (.bool true)], args := [d] }
  | _ => none }
def languageIncludesRow : OpenClaim := { program := "ytkifgffhoenaoaadoor", sum := "a3a98b9664e36dbc913552f9a24e7a29b8347a3c4cf10fed5f091a42c8871a1e", func := "overseer/overseerlaw09.LanguageIncludes", spec := "languageIncludes", unfollowed := true, recurses := true, named := ["internal/strconv.uint64pow10", "math/bits.deBruijn32tab", "math/bits.deBruijn64tab"], plainKeys := false, apart := false, laid := [("math/bits.deBruijn32tab", laid_math_bits_deBruijn32tab), ("math/bits.deBruijn64tab", laid_math_bits_deBruijn64tab), ("internal/strconv.uint64pow10", laid_internal_strconv_uint64pow10)] }
def LanguageIncludesSaid : Prop := languageIncludesRow.holds Tryd.pinned (OpenSpec.ofChange languageIncludesSpec)

/-- ITS FALSE NEIGHBOUR: 'it returns false'. Refute it at one input. -/
def languageIncludesWrong : ChangeSpec := { name := "languageIncludes", fn := fun _ => fun
  | [d] => { results := [.lit (.bool false)], args := [d] }
  | _ => none }
def LanguageIncludesWrongFalsely : Prop := languageIncludesRow.holds Tryd.pinned (OpenSpec.ofChange languageIncludesWrong)

/-- 'overseerlaw09.LanguageCounts': WHATEVER THE INPUT: true; the input reads as it did. -/
def languageCountsSpec : ChangeSpec := { name := "languageCounts", fn := fun _ => fun
  | [d1, d2] => { results := [.lit (.bool true)], args := [d1, d2] }
  | _ => none }
def languageCountsRow : OpenClaim := { program := "ytkifgffhoenaoaadoor", sum := "a3a98b9664e36dbc913552f9a24e7a29b8347a3c4cf10fed5f091a42c8871a1e", func := "overseer/overseerlaw09.LanguageCounts", spec := "languageCounts", unfollowed := true, recurses := true, named := ["internal/strconv.uint64pow10", "math/bits.deBruijn32tab", "math/bits.deBruijn64tab"], plainKeys := false, apart := false, laid := [("math/bits.deBruijn32tab", laid_math_bits_deBruijn32tab), ("math/bits.deBruijn64tab", laid_math_bits_deBruijn64tab), ("internal/strconv.uint64pow10", laid_internal_strconv_uint64pow10)] }
def LanguageCountsSaid : Prop := languageCountsRow.holds Tryd.pinned (OpenSpec.ofChange languageCountsSpec)

/-- ITS FALSE NEIGHBOUR: 'it returns false'. Refute it at one input. -/
def languageCountsWrong : ChangeSpec := { name := "languageCounts", fn := fun _ => fun
  | [d1, d2] => { results := [.lit (.bool false)], args := [d1, d2] }
  | _ => none }
def LanguageCountsWrongFalsely : Prop := languageCountsRow.holds Tryd.pinned (OpenSpec.ofChange languageCountsWrong)

/-- 'overseerlaw09.LanguageMany': WHATEVER THE INPUT: true; the input reads as it did. -/
def languageManySpec : ChangeSpec := { name := "languageMany", fn := fun _ => fun
  | [d1, d2] => { results := [.lit (.bool true)], args := [d1, d2] }
  | _ => none }
def languageManyRow : OpenClaim := { program := "ytkifgffhoenaoaadoor", sum := "a3a98b9664e36dbc913552f9a24e7a29b8347a3c4cf10fed5f091a42c8871a1e", func := "overseer/overseerlaw09.LanguageMany", spec := "languageMany", unfollowed := true, recurses := true, named := ["internal/strconv.uint64pow10", "math/bits.deBruijn32tab", "math/bits.deBruijn64tab"], plainKeys := false, apart := false, laid := [("math/bits.deBruijn32tab", laid_math_bits_deBruijn32tab), ("math/bits.deBruijn64tab", laid_math_bits_deBruijn64tab), ("internal/strconv.uint64pow10", laid_internal_strconv_uint64pow10)] }
def LanguageManySaid : Prop := languageManyRow.holds Tryd.pinned (OpenSpec.ofChange languageManySpec)

/-- ITS FALSE NEIGHBOUR: 'it returns false'. Refute it at one input. -/
def languageManyWrong : ChangeSpec := { name := "languageMany", fn := fun _ => fun
  | [d1, d2] => { results := [.lit (.bool false)], args := [d1, d2] }
  | _ => none }
def LanguageManyWrongFalsely : Prop := languageManyRow.holds Tryd.pinned (OpenSpec.ofChange languageManyWrong)

/-- 'overseerlaw09.LanguageComplements': WHATEVER THE INPUT: true; the input reads as it did. -/
def languageComplementsSpec : ChangeSpec := { name := "languageComplements", fn := fun _ => fun
  | [d1, d2] => { results := [.lit (.bool true)], args := [d1, d2] }
  | _ => none }
def languageComplementsRow : OpenClaim := { program := "ytkifgffhoenaoaadoor", sum := "a3a98b9664e36dbc913552f9a24e7a29b8347a3c4cf10fed5f091a42c8871a1e", func := "overseer/overseerlaw09.LanguageComplements", spec := "languageComplements", unfollowed := true, recurses := true, named := ["internal/strconv.uint64pow10", "math/bits.deBruijn32tab", "math/bits.deBruijn64tab"], plainKeys := false, apart := false, laid := [("math/bits.deBruijn32tab", laid_math_bits_deBruijn32tab), ("math/bits.deBruijn64tab", laid_math_bits_deBruijn64tab), ("internal/strconv.uint64pow10", laid_internal_strconv_uint64pow10)] }
def LanguageComplementsSaid : Prop := languageComplementsRow.holds Tryd.pinned (OpenSpec.ofChange languageComplementsSpec)

/-- ITS FALSE NEIGHBOUR: 'it returns false'. Refute it at one input. -/
def languageComplementsWrong : ChangeSpec := { name := "languageComplements", fn := fun _ => fun
  | [d1, d2] => { results := [.lit (.bool false)], args := [d1, d2] }
  | _ => none }
def LanguageComplementsWrongFalsely : Prop := languageComplementsRow.holds Tryd.pinned (OpenSpec.ofChange languageComplementsWrong)

/-- 'overseerlaw09.LanguageLimits': WHATEVER THE INPUT: true; the input reads as it did. -/
def languageLimitsSpec : ChangeSpec := { name := "languageLimits", fn := fun _ => fun
  | [d] => { results := [.lit (.bool true)], args := [d] }
  | _ => none }
def languageLimitsRow : OpenClaim := { program := "ytkifgffhoenaoaadoor", sum := "a3a98b9664e36dbc913552f9a24e7a29b8347a3c4cf10fed5f091a42c8871a1e", func := "overseer/overseerlaw09.LanguageLimits", spec := "languageLimits", unfollowed := true, recurses := true, named := ["internal/strconv.uint64pow10", "math/bits.deBruijn32tab", "math/bits.deBruijn64tab"], plainKeys := false, apart := false, laid := [("math/bits.deBruijn32tab", laid_math_bits_deBruijn32tab), ("math/bits.deBruijn64tab", laid_math_bits_deBruijn64tab), ("internal/strconv.uint64pow10", laid_internal_strconv_uint64pow10)] }
def LanguageLimitsSaid : Prop := languageLimitsRow.holds Tryd.pinned (OpenSpec.ofChange languageLimitsSpec)

/-- ITS FALSE NEIGHBOUR: 'it returns false'. Refute it at one input. -/
def languageLimitsWrong : ChangeSpec := { name := "languageLimits", fn := fun _ => fun
  | [d] => { results := [.lit (.bool false)], args := [d] }
  | _ => none }
def LanguageLimitsWrongFalsely : Prop := languageLimitsRow.holds Tryd.pinned (OpenSpec.ofChange languageLimitsWrong)

/-- 'overseerlaw09.LanguageCombines': WHATEVER THE INPUT: true; the input reads as it did. -/
def languageCombinesSpec : ChangeSpec := { name := "languageCombines", fn := fun _ => fun
  | [d] => { results := [.lit (.bool true)], args := [d] }
  | _ => none }
def languageCombinesRow : OpenClaim := { program := "ytkifgffhoenaoaadoor", sum := "a3a98b9664e36dbc913552f9a24e7a29b8347a3c4cf10fed5f091a42c8871a1e", func := "overseer/overseerlaw09.LanguageCombines", spec := "languageCombines", unfollowed := true, recurses := true, named := ["internal/strconv.uint64pow10", "math/bits.deBruijn32tab", "math/bits.deBruijn64tab"], plainKeys := false, apart := false, laid := [("math/bits.deBruijn32tab", laid_math_bits_deBruijn32tab), ("math/bits.deBruijn64tab", laid_math_bits_deBruijn64tab), ("internal/strconv.uint64pow10", laid_internal_strconv_uint64pow10)] }
def LanguageCombinesSaid : Prop := languageCombinesRow.holds Tryd.pinned (OpenSpec.ofChange languageCombinesSpec)

/-- ITS FALSE NEIGHBOUR: 'it returns false'. Refute it at one input. -/
def languageCombinesWrong : ChangeSpec := { name := "languageCombines", fn := fun _ => fun
  | [d] => { results := [.lit (.bool false)], args := [d] }
  | _ => none }
def LanguageCombinesWrongFalsely : Prop := languageCombinesRow.holds Tryd.pinned (OpenSpec.ofChange languageCombinesWrong)

/-- 'overseerlaw09.LanguageWords': WHATEVER THE INPUT: true; the input reads as it did. -/
def languageWordsSpec : ChangeSpec := { name := "languageWords", fn := fun _ => fun
  | [d1, d2] => { results := [.lit (.bool true)], args := [d1, d2] }
  | _ => none }
def languageWordsRow : OpenClaim := { program := "ytkifgffhoenaoaadoor", sum := "a3a98b9664e36dbc913552f9a24e7a29b8347a3c4cf10fed5f091a42c8871a1e", func := "overseer/overseerlaw09.LanguageWords", spec := "languageWords", unfollowed := true, recurses := true, named := ["internal/strconv.uint64pow10", "math/bits.deBruijn32tab", "math/bits.deBruijn64tab"], plainKeys := false, apart := false, laid := [("math/bits.deBruijn32tab", laid_math_bits_deBruijn32tab), ("math/bits.deBruijn64tab", laid_math_bits_deBruijn64tab), ("internal/strconv.uint64pow10", laid_internal_strconv_uint64pow10)] }
def LanguageWordsSaid : Prop := languageWordsRow.holds Tryd.pinned (OpenSpec.ofChange languageWordsSpec)

/-- ITS FALSE NEIGHBOUR: 'it returns false'. Refute it at one input. -/
def languageWordsWrong : ChangeSpec := { name := "languageWords", fn := fun _ => fun
  | [d1, d2] => { results := [.lit (.bool false)], args := [d1, d2] }
  | _ => none }
def LanguageWordsWrongFalsely : Prop := languageWordsRow.holds Tryd.pinned (OpenSpec.ofChange languageWordsWrong)

/-- 'overseerlaw09.LanguageEquals': WHATEVER THE INPUT: true; the input reads as it did. -/
def languageEqualsSpec : ChangeSpec := { name := "languageEquals", fn := fun _ => fun
  | [d] => { results := [.lit (.bool true)], args := [d] }
  | _ => none }
def languageEqualsRow : OpenClaim := { program := "ytkifgffhoenaoaadoor", sum := "a3a98b9664e36dbc913552f9a24e7a29b8347a3c4cf10fed5f091a42c8871a1e", func := "overseer/overseerlaw09.LanguageEquals", spec := "languageEquals", unfollowed := true, recurses := true, named := ["internal/strconv.uint64pow10", "math/bits.deBruijn32tab", "math/bits.deBruijn64tab"], plainKeys := false, apart := false, laid := [("math/bits.deBruijn32tab", laid_math_bits_deBruijn32tab), ("math/bits.deBruijn64tab", laid_math_bits_deBruijn64tab), ("internal/strconv.uint64pow10", laid_internal_strconv_uint64pow10)] }
def LanguageEqualsSaid : Prop := languageEqualsRow.holds Tryd.pinned (OpenSpec.ofChange languageEqualsSpec)

/-- ITS FALSE NEIGHBOUR: 'it returns false'. Refute it at one input. -/
def languageEqualsWrong : ChangeSpec := { name := "languageEquals", fn := fun _ => fun
  | [d] => { results := [.lit (.bool false)], args := [d] }
  | _ => none }
def LanguageEqualsWrongFalsely : Prop := languageEqualsRow.holds Tryd.pinned (OpenSpec.ofChange languageEqualsWrong)

/-- 'overseerlaw09.LanguageLeast': WHATEVER THE INPUT: true; the input reads as it did. -/
def languageLeastSpec : ChangeSpec := { name := "languageLeast", fn := fun _ => fun
  | [d1, d2] => { results := [.lit (.bool true)], args := [d1, d2] }
  | _ => none }
def languageLeastRow : OpenClaim := { program := "ytkifgffhoenaoaadoor", sum := "a3a98b9664e36dbc913552f9a24e7a29b8347a3c4cf10fed5f091a42c8871a1e", func := "overseer/overseerlaw09.LanguageLeast", spec := "languageLeast", unfollowed := true, recurses := true, named := ["internal/strconv.uint64pow10", "math/bits.deBruijn32tab", "math/bits.deBruijn64tab"], plainKeys := false, apart := false, laid := [("math/bits.deBruijn32tab", laid_math_bits_deBruijn32tab), ("math/bits.deBruijn64tab", laid_math_bits_deBruijn64tab), ("internal/strconv.uint64pow10", laid_internal_strconv_uint64pow10)] }
def LanguageLeastSaid : Prop := languageLeastRow.holds Tryd.pinned (OpenSpec.ofChange languageLeastSpec)

/-- ITS FALSE NEIGHBOUR: 'it returns false'. Refute it at one input. -/
def languageLeastWrong : ChangeSpec := { name := "languageLeast", fn := fun _ => fun
  | [d1, d2] => { results := [.lit (.bool false)], args := [d1, d2] }
  | _ => none }
def LanguageLeastWrongFalsely : Prop := languageLeastRow.holds Tryd.pinned (OpenSpec.ofChange languageLeastWrong)

/-- 'overseerlaw09.LanguageLaws': WHATEVER THE INPUT: true; the input reads as it did. -/
def languageLawsSpec : ChangeSpec := { name := "languageLaws", fn := fun _ => fun
  | [d] => { results := [.lit (.bool true)], args := [d] }
  | _ => none }
def languageLawsRow : OpenClaim := { program := "ytkifgffhoenaoaadoor", sum := "a3a98b9664e36dbc913552f9a24e7a29b8347a3c4cf10fed5f091a42c8871a1e", func := "overseer/overseerlaw09.LanguageLaws", spec := "languageLaws", unfollowed := true, recurses := true, named := ["internal/strconv.uint64pow10", "math/bits.deBruijn32tab", "math/bits.deBruijn64tab"], plainKeys := false, apart := false, laid := [("math/bits.deBruijn32tab", laid_math_bits_deBruijn32tab), ("math/bits.deBruijn64tab", laid_math_bits_deBruijn64tab), ("internal/strconv.uint64pow10", laid_internal_strconv_uint64pow10)] }
def LanguageLawsSaid : Prop := languageLawsRow.holds Tryd.pinned (OpenSpec.ofChange languageLawsSpec)

/-- ITS FALSE NEIGHBOUR: 'it returns false'. Refute it at one input. -/
def languageLawsWrong : ChangeSpec := { name := "languageLaws", fn := fun _ => fun
  | [d] => { results := [.lit (.bool false)], args := [d] }
  | _ => none }
def LanguageLawsWrongFalsely : Prop := languageLawsRow.holds Tryd.pinned (OpenSpec.ofChange languageLawsWrong)

/- THE SECOND FORM. 'bulk': how many values and letters a reading holds, each counted each time it is reached (what is shared counts as often as it is met; a slice's spare places count too). A statement '..UptoSaid' is the law's where the arguments, and the package variables that the reading takes, are together of bulk at most 1048576: NARROWER than '..Said'. Prove '..Said' where nothing that the law and all that it calls make is longer than what came in: it says more and counts as full. Else prove '..UptoSaid'. A law counts once. -/
mutual
def uptoBulk {H : Type} : DataW H → Nat
  | .lit (.string bytes) => bytes.length + 1
  | .lit _ => 1
  | .nil => 1
  | .ptr d => uptoBulk d + 1
  | .slice elems spare => uptoBulkAll elems + uptoBulkAll spare + 1
  | .agg parts => uptoBulkAll parts + 1
  | .iface _ d => uptoBulk d + 1
  | .map entries => uptoBulkEntries entries + 1
  | .held _ => 1
def uptoBulkAll {H : Type} : List (DataW H) → Nat
  | [] => 0
  | d :: r => uptoBulk d + uptoBulkAll r
def uptoBulkEntries {H : Type} : List (Lit × DataW H) → Nat
  | [] => 0
  | x :: r => uptoBulkEntry x + uptoBulkEntries r
def uptoBulkEntry {H : Type} : Lit × DataW H → Nat
  | (.string bytes, d) => bytes.length + uptoBulk d + 1
  | (_, d) => uptoBulk d + 1
 end
def uptoSmall : (H : Type) → List (DataW H) → Bool := fun _ ds => decide (uptoBulkAll ds ≤ 1048576)
def OpenSpec.upto (s : _root_.Go.ChangeSpec) : _root_.Go.OpenSpec := { _root_.Go.OpenSpec.ofChange s with cond := some uptoSmall }

/-- 'overseerlaw09.LanguageIncludes', WHERE WHAT IT READS IS OF BULK AT MOST 1048576: true; the input reads as it did. -/
def languageIncludesUptoRow : OpenClaim := { program := "ytkifgffhoenaoaadoor", sum := "a3a98b9664e36dbc913552f9a24e7a29b8347a3c4cf10fed5f091a42c8871a1e", func := "overseer/overseerlaw09.LanguageIncludes", spec := "languageIncludes", unfollowed := true, recurses := true, named := ["internal/strconv.uint64pow10", "math/bits.deBruijn32tab", "math/bits.deBruijn64tab"], plainKeys := false, apart := false, laid := [("math/bits.deBruijn32tab", laid_math_bits_deBruijn32tab), ("math/bits.deBruijn64tab", laid_math_bits_deBruijn64tab), ("internal/strconv.uint64pow10", laid_internal_strconv_uint64pow10)], narrowed := true }
def LanguageIncludesUptoSaid : Prop := languageIncludesUptoRow.holds Tryd.pinned (OpenSpec.upto languageIncludesSpec)

/-- 'overseerlaw09.LanguageCounts', WHERE WHAT IT READS IS OF BULK AT MOST 1048576: true; the input reads as it did. -/
def languageCountsUptoRow : OpenClaim := { program := "ytkifgffhoenaoaadoor", sum := "a3a98b9664e36dbc913552f9a24e7a29b8347a3c4cf10fed5f091a42c8871a1e", func := "overseer/overseerlaw09.LanguageCounts", spec := "languageCounts", unfollowed := true, recurses := true, named := ["internal/strconv.uint64pow10", "math/bits.deBruijn32tab", "math/bits.deBruijn64tab"], plainKeys := false, apart := false, laid := [("math/bits.deBruijn32tab", laid_math_bits_deBruijn32tab), ("math/bits.deBruijn64tab", laid_math_bits_deBruijn64tab), ("internal/strconv.uint64pow10", laid_internal_strconv_uint64pow10)], narrowed := true }
def LanguageCountsUptoSaid : Prop := languageCountsUptoRow.holds Tryd.pinned (OpenSpec.upto languageCountsSpec)

/-- 'overseerlaw09.LanguageMany', WHERE WHAT IT READS IS OF BULK AT MOST 1048576: true; the input reads as it did. -/
def languageManyUptoRow : OpenClaim := { program := "ytkifgffhoenaoaadoor", sum := "a3a98b9664e36dbc913552f9a24e7a29b8347a3c4cf10fed5f091a42c8871a1e", func := "overseer/overseerlaw09.LanguageMany", spec := "languageMany", unfollowed := true, recurses := true, named := ["internal/strconv.uint64pow10", "math/bits.deBruijn32tab", "math/bits.deBruijn64tab"], plainKeys := false, apart := false, laid := [("math/bits.deBruijn32tab", laid_math_bits_deBruijn32tab), ("math/bits.deBruijn64tab", laid_math_bits_deBruijn64tab), ("internal/strconv.uint64pow10", laid_internal_strconv_uint64pow10)], narrowed := true }
def LanguageManyUptoSaid : Prop := languageManyUptoRow.holds Tryd.pinned (OpenSpec.upto languageManySpec)

/-- 'overseerlaw09.LanguageComplements', WHERE WHAT IT READS IS OF BULK AT MOST 1048576: true; the input reads as it did. -/
def languageComplementsUptoRow : OpenClaim := { program := "ytkifgffhoenaoaadoor", sum := "a3a98b9664e36dbc913552f9a24e7a29b8347a3c4cf10fed5f091a42c8871a1e", func := "overseer/overseerlaw09.LanguageComplements", spec := "languageComplements", unfollowed := true, recurses := true, named := ["internal/strconv.uint64pow10", "math/bits.deBruijn32tab", "math/bits.deBruijn64tab"], plainKeys := false, apart := false, laid := [("math/bits.deBruijn32tab", laid_math_bits_deBruijn32tab), ("math/bits.deBruijn64tab", laid_math_bits_deBruijn64tab), ("internal/strconv.uint64pow10", laid_internal_strconv_uint64pow10)], narrowed := true }
def LanguageComplementsUptoSaid : Prop := languageComplementsUptoRow.holds Tryd.pinned (OpenSpec.upto languageComplementsSpec)

/-- 'overseerlaw09.LanguageLimits', WHERE WHAT IT READS IS OF BULK AT MOST 1048576: true; the input reads as it did. -/
def languageLimitsUptoRow : OpenClaim := { program := "ytkifgffhoenaoaadoor", sum := "a3a98b9664e36dbc913552f9a24e7a29b8347a3c4cf10fed5f091a42c8871a1e", func := "overseer/overseerlaw09.LanguageLimits", spec := "languageLimits", unfollowed := true, recurses := true, named := ["internal/strconv.uint64pow10", "math/bits.deBruijn32tab", "math/bits.deBruijn64tab"], plainKeys := false, apart := false, laid := [("math/bits.deBruijn32tab", laid_math_bits_deBruijn32tab), ("math/bits.deBruijn64tab", laid_math_bits_deBruijn64tab), ("internal/strconv.uint64pow10", laid_internal_strconv_uint64pow10)], narrowed := true }
def LanguageLimitsUptoSaid : Prop := languageLimitsUptoRow.holds Tryd.pinned (OpenSpec.upto languageLimitsSpec)

/-- 'overseerlaw09.LanguageCombines', WHERE WHAT IT READS IS OF BULK AT MOST 1048576: true; the input reads as it did. -/
def languageCombinesUptoRow : OpenClaim := { program := "ytkifgffhoenaoaadoor", sum := "a3a98b9664e36dbc913552f9a24e7a29b8347a3c4cf10fed5f091a42c8871a1e", func := "overseer/overseerlaw09.LanguageCombines", spec := "languageCombines", unfollowed := true, recurses := true, named := ["internal/strconv.uint64pow10", "math/bits.deBruijn32tab", "math/bits.deBruijn64tab"], plainKeys := false, apart := false, laid := [("math/bits.deBruijn32tab", laid_math_bits_deBruijn32tab), ("math/bits.deBruijn64tab", laid_math_bits_deBruijn64tab), ("internal/strconv.uint64pow10", laid_internal_strconv_uint64pow10)], narrowed := true }
def LanguageCombinesUptoSaid : Prop := languageCombinesUptoRow.holds Tryd.pinned (OpenSpec.upto languageCombinesSpec)

/-- 'overseerlaw09.LanguageWords', WHERE WHAT IT READS IS OF BULK AT MOST 1048576: true; the input reads as it did. -/
def languageWordsUptoRow : OpenClaim := { program := "ytkifgffhoenaoaadoor", sum := "a3a98b9664e36dbc913552f9a24e7a29b8347a3c4cf10fed5f091a42c8871a1e", func := "overseer/overseerlaw09.LanguageWords", spec := "languageWords", unfollowed := true, recurses := true, named := ["internal/strconv.uint64pow10", "math/bits.deBruijn32tab", "math/bits.deBruijn64tab"], plainKeys := false, apart := false, laid := [("math/bits.deBruijn32tab", laid_math_bits_deBruijn32tab), ("math/bits.deBruijn64tab", laid_math_bits_deBruijn64tab), ("internal/strconv.uint64pow10", laid_internal_strconv_uint64pow10)], narrowed := true }
def LanguageWordsUptoSaid : Prop := languageWordsUptoRow.holds Tryd.pinned (OpenSpec.upto languageWordsSpec)

/-- 'overseerlaw09.LanguageEquals', WHERE WHAT IT READS IS OF BULK AT MOST 1048576: true; the input reads as it did. -/
def languageEqualsUptoRow : OpenClaim := { program := "ytkifgffhoenaoaadoor", sum := "a3a98b9664e36dbc913552f9a24e7a29b8347a3c4cf10fed5f091a42c8871a1e", func := "overseer/overseerlaw09.LanguageEquals", spec := "languageEquals", unfollowed := true, recurses := true, named := ["internal/strconv.uint64pow10", "math/bits.deBruijn32tab", "math/bits.deBruijn64tab"], plainKeys := false, apart := false, laid := [("math/bits.deBruijn32tab", laid_math_bits_deBruijn32tab), ("math/bits.deBruijn64tab", laid_math_bits_deBruijn64tab), ("internal/strconv.uint64pow10", laid_internal_strconv_uint64pow10)], narrowed := true }
def LanguageEqualsUptoSaid : Prop := languageEqualsUptoRow.holds Tryd.pinned (OpenSpec.upto languageEqualsSpec)

/-- 'overseerlaw09.LanguageLeast', WHERE WHAT IT READS IS OF BULK AT MOST 1048576: true; the input reads as it did. -/
def languageLeastUptoRow : OpenClaim := { program := "ytkifgffhoenaoaadoor", sum := "a3a98b9664e36dbc913552f9a24e7a29b8347a3c4cf10fed5f091a42c8871a1e", func := "overseer/overseerlaw09.LanguageLeast", spec := "languageLeast", unfollowed := true, recurses := true, named := ["internal/strconv.uint64pow10", "math/bits.deBruijn32tab", "math/bits.deBruijn64tab"], plainKeys := false, apart := false, laid := [("math/bits.deBruijn32tab", laid_math_bits_deBruijn32tab), ("math/bits.deBruijn64tab", laid_math_bits_deBruijn64tab), ("internal/strconv.uint64pow10", laid_internal_strconv_uint64pow10)], narrowed := true }
def LanguageLeastUptoSaid : Prop := languageLeastUptoRow.holds Tryd.pinned (OpenSpec.upto languageLeastSpec)

/-- 'overseerlaw09.LanguageLaws', WHERE WHAT IT READS IS OF BULK AT MOST 1048576: true; the input reads as it did. -/
def languageLawsUptoRow : OpenClaim := { program := "ytkifgffhoenaoaadoor", sum := "a3a98b9664e36dbc913552f9a24e7a29b8347a3c4cf10fed5f091a42c8871a1e", func := "overseer/overseerlaw09.LanguageLaws", spec := "languageLaws", unfollowed := true, recurses := true, named := ["internal/strconv.uint64pow10", "math/bits.deBruijn32tab", "math/bits.deBruijn64tab"], plainKeys := false, apart := false, laid := [("math/bits.deBruijn32tab", laid_math_bits_deBruijn32tab), ("math/bits.deBruijn64tab", laid_math_bits_deBruijn64tab), ("internal/strconv.uint64pow10", laid_internal_strconv_uint64pow10)], narrowed := true }
def LanguageLawsUptoSaid : Prop := languageLawsUptoRow.holds Tryd.pinned (OpenSpec.upto languageLawsSpec)

end Rows
end Go.Proofs.YtkifgffhoenaoaaDoor
