/-
  DERIVED. GIVEN WITH THE SEED: THE CARDS: each row of YtkifgffhoenaoaaDoorRows.lean that lists a variable, with what it lists TIED to the program's text (the seventh form; the later family's looks); each row that meets fmt, with fmt's text TOLD by the authors' own Lean function (tested against real Go, not proved from fmt's source: count such statements apart). THE CARD IS WHAT COUNTS. Prove the row's statement (the work); the ties are given (YtkifgffhoenaoaaDoorTie.lean); close each card by the builder's one call (the guide's Derived/Test/ToyasCard.lean, 'card_holds'). Laid BY PROGRAM, IN A SANDBOX (cutbox-door.mjs). By AI agents, Wed Nov 11 2026. No macro, syntax, notation, axiom, sorry.
-/
import Derived.Test.YtkifgffhoenaoaaDoorRows
import GoSem.ClaimSeven
namespace Go.Proofs.YtkifgffhoenaoaaDoor
namespace Rows

/-- THE TIED CARD OF 'overseerlaw09.LanguageIncludes'. -/
def languageIncludesCard : Claim7 := { stood := { row := languageIncludesRow, standIns := [], harness := (true, "03af7c720d5750fda7159380be1ad02baf2e470d77c49a4e47bb5453ea90fbf7"), looks := false }, kinds := [], alts := [], laidByText := true, laidKinds := [.data, .data, .data], laidTests := true, laidLooks := .later }
def LanguageIncludesCardSaid : Prop := Claim7.holds Tryd.pinned (.plain (OpenSpec.ofChange languageIncludesSpec)) languageIncludesCard

/-- THE TIED CARD OF 'overseerlaw09.LanguageCounts'. -/
def languageCountsCard : Claim7 := { stood := { row := languageCountsRow, standIns := [], harness := (true, "03af7c720d5750fda7159380be1ad02baf2e470d77c49a4e47bb5453ea90fbf7"), looks := false }, kinds := [], alts := [], laidByText := true, laidKinds := [.data, .data, .data], laidTests := true, laidLooks := .later }
def LanguageCountsCardSaid : Prop := Claim7.holds Tryd.pinned (.plain (OpenSpec.ofChange languageCountsSpec)) languageCountsCard

/-- THE TIED CARD OF 'overseerlaw09.LanguageMany'. -/
def languageManyCard : Claim7 := { stood := { row := languageManyRow, standIns := [], harness := (true, "03af7c720d5750fda7159380be1ad02baf2e470d77c49a4e47bb5453ea90fbf7"), looks := false }, kinds := [], alts := [], laidByText := true, laidKinds := [.data, .data, .data], laidTests := true, laidLooks := .later }
def LanguageManyCardSaid : Prop := Claim7.holds Tryd.pinned (.plain (OpenSpec.ofChange languageManySpec)) languageManyCard

/-- THE TIED CARD OF 'overseerlaw09.LanguageComplements'. -/
def languageComplementsCard : Claim7 := { stood := { row := languageComplementsRow, standIns := [], harness := (true, "03af7c720d5750fda7159380be1ad02baf2e470d77c49a4e47bb5453ea90fbf7"), looks := false }, kinds := [], alts := [], laidByText := true, laidKinds := [.data, .data, .data], laidTests := true, laidLooks := .later }
def LanguageComplementsCardSaid : Prop := Claim7.holds Tryd.pinned (.plain (OpenSpec.ofChange languageComplementsSpec)) languageComplementsCard

/-- THE TIED CARD OF 'overseerlaw09.LanguageLimits'. -/
def languageLimitsCard : Claim7 := { stood := { row := languageLimitsRow, standIns := [], harness := (true, "03af7c720d5750fda7159380be1ad02baf2e470d77c49a4e47bb5453ea90fbf7"), looks := false }, kinds := [], alts := [], laidByText := true, laidKinds := [.data, .data, .data], laidTests := true, laidLooks := .later }
def LanguageLimitsCardSaid : Prop := Claim7.holds Tryd.pinned (.plain (OpenSpec.ofChange languageLimitsSpec)) languageLimitsCard

/-- THE TIED CARD OF 'overseerlaw09.LanguageCombines'. -/
def languageCombinesCard : Claim7 := { stood := { row := languageCombinesRow, standIns := [], harness := (true, "03af7c720d5750fda7159380be1ad02baf2e470d77c49a4e47bb5453ea90fbf7"), looks := false }, kinds := [], alts := [], laidByText := true, laidKinds := [.data, .data, .data], laidTests := true, laidLooks := .later }
def LanguageCombinesCardSaid : Prop := Claim7.holds Tryd.pinned (.plain (OpenSpec.ofChange languageCombinesSpec)) languageCombinesCard

/-- THE TIED CARD OF 'overseerlaw09.LanguageWords'. -/
def languageWordsCard : Claim7 := { stood := { row := languageWordsRow, standIns := [], harness := (true, "03af7c720d5750fda7159380be1ad02baf2e470d77c49a4e47bb5453ea90fbf7"), looks := false }, kinds := [], alts := [], laidByText := true, laidKinds := [.data, .data, .data], laidTests := true, laidLooks := .later }
def LanguageWordsCardSaid : Prop := Claim7.holds Tryd.pinned (.plain (OpenSpec.ofChange languageWordsSpec)) languageWordsCard

/-- THE TIED CARD OF 'overseerlaw09.LanguageEquals'. -/
def languageEqualsCard : Claim7 := { stood := { row := languageEqualsRow, standIns := [], harness := (true, "03af7c720d5750fda7159380be1ad02baf2e470d77c49a4e47bb5453ea90fbf7"), looks := false }, kinds := [], alts := [], laidByText := true, laidKinds := [.data, .data, .data], laidTests := true, laidLooks := .later }
def LanguageEqualsCardSaid : Prop := Claim7.holds Tryd.pinned (.plain (OpenSpec.ofChange languageEqualsSpec)) languageEqualsCard

/-- THE TIED CARD OF 'overseerlaw09.LanguageLeast'. -/
def languageLeastCard : Claim7 := { stood := { row := languageLeastRow, standIns := [], harness := (true, "03af7c720d5750fda7159380be1ad02baf2e470d77c49a4e47bb5453ea90fbf7"), looks := false }, kinds := [], alts := [], laidByText := true, laidKinds := [.data, .data, .data], laidTests := true, laidLooks := .later }
def LanguageLeastCardSaid : Prop := Claim7.holds Tryd.pinned (.plain (OpenSpec.ofChange languageLeastSpec)) languageLeastCard

/-- THE TIED CARD OF 'overseerlaw09.LanguageLaws'. -/
def languageLawsCard : Claim7 := { stood := { row := languageLawsRow, standIns := [], harness := (true, "03af7c720d5750fda7159380be1ad02baf2e470d77c49a4e47bb5453ea90fbf7"), looks := false }, kinds := [], alts := [], laidByText := true, laidKinds := [.data, .data, .data], laidTests := true, laidLooks := .later }
def LanguageLawsCardSaid : Prop := Claim7.holds Tryd.pinned (.plain (OpenSpec.ofChange languageLawsSpec)) languageLawsCard

/-- THE SECOND FORM's CARD OF 'overseerlaw09.LanguageIncludes'. -/
def languageIncludesUptoCard : Claim7 := { stood := { row := languageIncludesUptoRow, standIns := [], harness := (true, "03af7c720d5750fda7159380be1ad02baf2e470d77c49a4e47bb5453ea90fbf7"), looks := false }, kinds := [], alts := [], laidByText := true, laidKinds := [.data, .data, .data], laidTests := true, laidLooks := .later }
def LanguageIncludesUptoCardSaid : Prop := Claim7.holds Tryd.pinned (.plain (OpenSpec.upto languageIncludesSpec)) languageIncludesUptoCard

/-- THE SECOND FORM's CARD OF 'overseerlaw09.LanguageCounts'. -/
def languageCountsUptoCard : Claim7 := { stood := { row := languageCountsUptoRow, standIns := [], harness := (true, "03af7c720d5750fda7159380be1ad02baf2e470d77c49a4e47bb5453ea90fbf7"), looks := false }, kinds := [], alts := [], laidByText := true, laidKinds := [.data, .data, .data], laidTests := true, laidLooks := .later }
def LanguageCountsUptoCardSaid : Prop := Claim7.holds Tryd.pinned (.plain (OpenSpec.upto languageCountsSpec)) languageCountsUptoCard

/-- THE SECOND FORM's CARD OF 'overseerlaw09.LanguageMany'. -/
def languageManyUptoCard : Claim7 := { stood := { row := languageManyUptoRow, standIns := [], harness := (true, "03af7c720d5750fda7159380be1ad02baf2e470d77c49a4e47bb5453ea90fbf7"), looks := false }, kinds := [], alts := [], laidByText := true, laidKinds := [.data, .data, .data], laidTests := true, laidLooks := .later }
def LanguageManyUptoCardSaid : Prop := Claim7.holds Tryd.pinned (.plain (OpenSpec.upto languageManySpec)) languageManyUptoCard

/-- THE SECOND FORM's CARD OF 'overseerlaw09.LanguageComplements'. -/
def languageComplementsUptoCard : Claim7 := { stood := { row := languageComplementsUptoRow, standIns := [], harness := (true, "03af7c720d5750fda7159380be1ad02baf2e470d77c49a4e47bb5453ea90fbf7"), looks := false }, kinds := [], alts := [], laidByText := true, laidKinds := [.data, .data, .data], laidTests := true, laidLooks := .later }
def LanguageComplementsUptoCardSaid : Prop := Claim7.holds Tryd.pinned (.plain (OpenSpec.upto languageComplementsSpec)) languageComplementsUptoCard

/-- THE SECOND FORM's CARD OF 'overseerlaw09.LanguageLimits'. -/
def languageLimitsUptoCard : Claim7 := { stood := { row := languageLimitsUptoRow, standIns := [], harness := (true, "03af7c720d5750fda7159380be1ad02baf2e470d77c49a4e47bb5453ea90fbf7"), looks := false }, kinds := [], alts := [], laidByText := true, laidKinds := [.data, .data, .data], laidTests := true, laidLooks := .later }
def LanguageLimitsUptoCardSaid : Prop := Claim7.holds Tryd.pinned (.plain (OpenSpec.upto languageLimitsSpec)) languageLimitsUptoCard

/-- THE SECOND FORM's CARD OF 'overseerlaw09.LanguageCombines'. -/
def languageCombinesUptoCard : Claim7 := { stood := { row := languageCombinesUptoRow, standIns := [], harness := (true, "03af7c720d5750fda7159380be1ad02baf2e470d77c49a4e47bb5453ea90fbf7"), looks := false }, kinds := [], alts := [], laidByText := true, laidKinds := [.data, .data, .data], laidTests := true, laidLooks := .later }
def LanguageCombinesUptoCardSaid : Prop := Claim7.holds Tryd.pinned (.plain (OpenSpec.upto languageCombinesSpec)) languageCombinesUptoCard

/-- THE SECOND FORM's CARD OF 'overseerlaw09.LanguageWords'. -/
def languageWordsUptoCard : Claim7 := { stood := { row := languageWordsUptoRow, standIns := [], harness := (true, "03af7c720d5750fda7159380be1ad02baf2e470d77c49a4e47bb5453ea90fbf7"), looks := false }, kinds := [], alts := [], laidByText := true, laidKinds := [.data, .data, .data], laidTests := true, laidLooks := .later }
def LanguageWordsUptoCardSaid : Prop := Claim7.holds Tryd.pinned (.plain (OpenSpec.upto languageWordsSpec)) languageWordsUptoCard

/-- THE SECOND FORM's CARD OF 'overseerlaw09.LanguageEquals'. -/
def languageEqualsUptoCard : Claim7 := { stood := { row := languageEqualsUptoRow, standIns := [], harness := (true, "03af7c720d5750fda7159380be1ad02baf2e470d77c49a4e47bb5453ea90fbf7"), looks := false }, kinds := [], alts := [], laidByText := true, laidKinds := [.data, .data, .data], laidTests := true, laidLooks := .later }
def LanguageEqualsUptoCardSaid : Prop := Claim7.holds Tryd.pinned (.plain (OpenSpec.upto languageEqualsSpec)) languageEqualsUptoCard

/-- THE SECOND FORM's CARD OF 'overseerlaw09.LanguageLeast'. -/
def languageLeastUptoCard : Claim7 := { stood := { row := languageLeastUptoRow, standIns := [], harness := (true, "03af7c720d5750fda7159380be1ad02baf2e470d77c49a4e47bb5453ea90fbf7"), looks := false }, kinds := [], alts := [], laidByText := true, laidKinds := [.data, .data, .data], laidTests := true, laidLooks := .later }
def LanguageLeastUptoCardSaid : Prop := Claim7.holds Tryd.pinned (.plain (OpenSpec.upto languageLeastSpec)) languageLeastUptoCard

/-- THE SECOND FORM's CARD OF 'overseerlaw09.LanguageLaws'. -/
def languageLawsUptoCard : Claim7 := { stood := { row := languageLawsUptoRow, standIns := [], harness := (true, "03af7c720d5750fda7159380be1ad02baf2e470d77c49a4e47bb5453ea90fbf7"), looks := false }, kinds := [], alts := [], laidByText := true, laidKinds := [.data, .data, .data], laidTests := true, laidLooks := .later }
def LanguageLawsUptoCardSaid : Prop := Claim7.holds Tryd.pinned (.plain (OpenSpec.upto languageLawsSpec)) languageLawsUptoCard
end Rows
end Go.Proofs.YtkifgffhoenaoaaDoor
