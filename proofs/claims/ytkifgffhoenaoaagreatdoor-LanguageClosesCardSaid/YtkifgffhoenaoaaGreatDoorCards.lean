/-
  DERIVED. GIVEN WITH THE SEED: THE CARDS: each row of YtkifgffhoenaoaaGreatDoorRows.lean that lists a variable, with what it lists TIED to the program's text (the seventh form; the later family's looks); each row that meets fmt, with fmt's text TOLD by the authors' own Lean function (tested against real Go, not proved from fmt's source: count such statements apart). THE CARD IS WHAT COUNTS. Prove the row's statement (the work); the ties are given (YtkifgffhoenaoaaGreatDoorTie.lean); close each card by the builder's one call (the guide's Derived/Test/ToyasCard.lean, 'card_holds'). Laid BY PROGRAM, IN A SANDBOX (cutbox-door.mjs). By AI agents, Wed Nov 11 2026. No macro, syntax, notation, axiom, sorry.
-/
import Derived.Test.YtkifgffhoenaoaaGreatDoorRows
import GoSem.ClaimSeven
namespace Go.Proofs.YtkifgffhoenaoaaGreatDoor
namespace Rows

/-- THE TIED CARD OF 'overseerlaw09.LanguageCloses'. -/
def languageClosesCard : Claim7 := { stood := { row := languageClosesRow, standIns := [], harness := (true, "9d653896950fe90c22090020123736e5517437b3e449dafbac02120fe723e773"), looks := false }, kinds := [], alts := [], laidByText := true, laidKinds := [.data, .data, .data], laidTests := true, laidLooks := .later }
def LanguageClosesCardSaid : Prop := Claim7.holds Tryz.pinned (.plain (OpenSpec.ofChange languageClosesSpec)) languageClosesCard

/-- THE TIED CARD OF 'overseerlaw09.LanguageConcats'. -/
def languageConcatsCard : Claim7 := { stood := { row := languageConcatsRow, standIns := [], harness := (true, "9d653896950fe90c22090020123736e5517437b3e449dafbac02120fe723e773"), looks := false }, kinds := [], alts := [], laidByText := true, laidKinds := [.data, .data, .data], laidTests := true, laidLooks := .later }
def LanguageConcatsCardSaid : Prop := Claim7.holds Tryz.pinned (.plain (OpenSpec.ofChange languageConcatsSpec)) languageConcatsCard

/-- THE TIED CARD OF 'overseerlaw09.LanguageRefuses'. -/
def languageRefusesCard : Claim7 := { stood := { row := languageRefusesRow, standIns := [], harness := (true, "9d653896950fe90c22090020123736e5517437b3e449dafbac02120fe723e773"), looks := false }, kinds := [], alts := [], laidByText := true, laidKinds := [.data, .data, .data], laidTests := true, laidLooks := .later }
def LanguageRefusesCardSaid : Prop := Claim7.holds Tryz.pinned (.plain (OpenSpec.ofChange languageRefusesSpec)) languageRefusesCard

/-- THE SECOND FORM's CARD OF 'overseerlaw09.LanguageCloses'. -/
def languageClosesUptoCard : Claim7 := { stood := { row := languageClosesUptoRow, standIns := [], harness := (true, "9d653896950fe90c22090020123736e5517437b3e449dafbac02120fe723e773"), looks := false }, kinds := [], alts := [], laidByText := true, laidKinds := [.data, .data, .data], laidTests := true, laidLooks := .later }
def LanguageClosesUptoCardSaid : Prop := Claim7.holds Tryz.pinned (.plain (OpenSpec.upto languageClosesSpec)) languageClosesUptoCard

/-- THE SECOND FORM's CARD OF 'overseerlaw09.LanguageConcats'. -/
def languageConcatsUptoCard : Claim7 := { stood := { row := languageConcatsUptoRow, standIns := [], harness := (true, "9d653896950fe90c22090020123736e5517437b3e449dafbac02120fe723e773"), looks := false }, kinds := [], alts := [], laidByText := true, laidKinds := [.data, .data, .data], laidTests := true, laidLooks := .later }
def LanguageConcatsUptoCardSaid : Prop := Claim7.holds Tryz.pinned (.plain (OpenSpec.upto languageConcatsSpec)) languageConcatsUptoCard

/-- THE SECOND FORM's CARD OF 'overseerlaw09.LanguageRefuses'. -/
def languageRefusesUptoCard : Claim7 := { stood := { row := languageRefusesUptoRow, standIns := [], harness := (true, "9d653896950fe90c22090020123736e5517437b3e449dafbac02120fe723e773"), looks := false }, kinds := [], alts := [], laidByText := true, laidKinds := [.data, .data, .data], laidTests := true, laidLooks := .later }
def LanguageRefusesUptoCardSaid : Prop := Claim7.holds Tryz.pinned (.plain (OpenSpec.upto languageRefusesSpec)) languageRefusesUptoCard
end Rows
end Go.Proofs.YtkifgffhoenaoaaGreatDoor
