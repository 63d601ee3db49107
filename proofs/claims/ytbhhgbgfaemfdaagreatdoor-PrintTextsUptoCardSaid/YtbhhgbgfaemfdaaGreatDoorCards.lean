/-
  DERIVED. GIVEN WITH THE SEED: THE CARDS: each row of YtbhhgbgfaemfdaaGreatDoorRows.lean that lists a variable, with what it lists TIED to the program's text (the seventh form; the later family's looks); each row that meets fmt, with fmt's text TOLD by the authors' own Lean function (tested against real Go, not proved from fmt's source: count such statements apart). THE CARD IS WHAT COUNTS. Prove the row's statement (the work); the ties are given (YtbhhgbgfaemfdaaGreatDoorTie.lean); close each card by the builder's one call (the guide's Derived/Test/ToyasCard.lean, 'card_holds'). Laid BY PROGRAM, IN A SANDBOX (cutbox-door.mjs). By AI agents, Wed Nov 11 2026. No macro, syntax, notation, axiom, sorry.
-/
import Derived.Test.YtbhhgbgfaemfdaaGreatDoorRows
import GoSem.ClaimSeven
namespace Go.Proofs.YtbhhgbgfaemfdaaGreatDoor
namespace Rows

/-- THE TIED CARD OF 'cribblelaw11.SchemeSplits'. -/
def schemeSplitsCard : Claim7 := { stood := { row := schemeSplitsRow, standIns := [], harness := (true, "b4c3e9fadf620177839b1c55c38e443ef875ff731a851f9594a9dc7a0ddfff1d"), looks := true }, kinds := [], alts := [], laidByText := true, laidKinds := [.data, .pinned], laidTests := true, laidLooks := .later }
def SchemeSplitsCardSaid : Prop := Claim7.holds Tryz.pinned (.plain (OpenSpec.ofChange schemeSplitsSpec)) schemeSplitsCard

/-- THE TIED CARD OF 'cribblelaw11.SchemeFilters'. -/
def schemeFiltersCard : Claim7 := { stood := { row := schemeFiltersRow, standIns := [], harness := (true, "b4c3e9fadf620177839b1c55c38e443ef875ff731a851f9594a9dc7a0ddfff1d"), looks := true }, kinds := [], alts := [], laidByText := true, laidKinds := [.data, .pinned], laidTests := true, laidLooks := .later }
def SchemeFiltersCardSaid : Prop := Claim7.holds Tryz.pinned (.plain (OpenSpec.ofChange schemeFiltersSpec)) schemeFiltersCard

/-- THE TIED CARD OF 'cribblelaw11.SchemeSafe'. -/
def schemeSafeCard : Claim7 := { stood := { row := schemeSafeRow, standIns := [], harness := (true, "b4c3e9fadf620177839b1c55c38e443ef875ff731a851f9594a9dc7a0ddfff1d"), looks := true }, kinds := [], alts := [], laidByText := true, laidKinds := [.data, .pinned], laidTests := true, laidLooks := .later }
def SchemeSafeCardSaid : Prop := Claim7.holds Tryz.pinned (.plain (OpenSpec.ofChange schemeSafeSpec)) schemeSafeCard

/-- THE TIED CARD OF 'cribblelaw11.SchemeHides'. -/
def schemeHidesCard : Claim7 := { stood := { row := schemeHidesRow, standIns := [], harness := (true, "b4c3e9fadf620177839b1c55c38e443ef875ff731a851f9594a9dc7a0ddfff1d"), looks := true }, kinds := [], alts := [], laidByText := true, laidKinds := [.data, .pinned], laidTests := true, laidLooks := .later }
def SchemeHidesCardSaid : Prop := Claim7.holds Tryz.pinned (.plain (OpenSpec.ofChange schemeHidesSpec)) schemeHidesCard

/-- THE TIED CARD OF 'cribblelaw11.SchemeJoins'. -/
def schemeJoinsCard : Claim7 := { stood := { row := schemeJoinsRow, standIns := [], harness := (true, "b4c3e9fadf620177839b1c55c38e443ef875ff731a851f9594a9dc7a0ddfff1d"), looks := true }, kinds := [], alts := [], laidByText := true, laidKinds := [.data, .pinned], laidTests := true, laidLooks := .later }
def SchemeJoinsCardSaid : Prop := Claim7.holds Tryz.pinned (.plain (OpenSpec.ofChange schemeJoinsSpec)) schemeJoinsCard

/-- THE TIED CARD OF 'cribblelaw09.PrintTexts'. -/
def printTextsCard : Claim7 := { stood := { row := printTextsRow, standIns := [], harness := (true, "b4c3e9fadf620177839b1c55c38e443ef875ff731a851f9594a9dc7a0ddfff1d"), looks := true }, kinds := [], alts := [], laidByText := true, laidKinds := [.data, .data, .data], laidTests := true, laidLooks := .later }
def PrintTextsCardSaid : Prop := Claim7.holds Tryz.pinned (.plain (OpenSpec.ofChange printTextsSpec)) printTextsCard

/-- THE TIED CARD OF 'cribblelaw09.PrintBack'. -/
def printBackCard : Claim7 := { stood := { row := printBackRow, standIns := [], harness := (true, "b4c3e9fadf620177839b1c55c38e443ef875ff731a851f9594a9dc7a0ddfff1d"), looks := true }, kinds := [], alts := [], laidByText := true, laidKinds := [.data, .data, .data], laidTests := true, laidLooks := .later }
def PrintBackCardSaid : Prop := Claim7.holds Tryz.pinned (.plain (OpenSpec.ofChange printBackSpec)) printBackCard

/-- THE TIED CARD OF 'cribblelaw09.PrintChain'. -/
def printChainCard : Claim7 := { stood := { row := printChainRow, standIns := [], harness := (true, "b4c3e9fadf620177839b1c55c38e443ef875ff731a851f9594a9dc7a0ddfff1d"), looks := true }, kinds := [], alts := [], laidByText := true, laidKinds := [.data, .data, .data], laidTests := true, laidLooks := .later }
def PrintChainCardSaid : Prop := Claim7.holds Tryz.pinned (.plain (OpenSpec.ofChange printChainSpec)) printChainCard

/-- THE TIED CARD OF 'cribblelaw09.PrintBoths'. -/
def printBothsCard : Claim7 := { stood := { row := printBothsRow, standIns := [], harness := (true, "b4c3e9fadf620177839b1c55c38e443ef875ff731a851f9594a9dc7a0ddfff1d"), looks := true }, kinds := [], alts := [], laidByText := true, laidKinds := [.data, .data, .data], laidTests := true, laidLooks := .later }
def PrintBothsCardSaid : Prop := Claim7.holds Tryz.pinned (.plain (OpenSpec.ofChange printBothsSpec)) printBothsCard

/-- THE TIED CARD OF 'cribblelaw09.PrintWithin'. -/
def printWithinCard : Claim7 := { stood := { row := printWithinRow, standIns := [], harness := (true, "b4c3e9fadf620177839b1c55c38e443ef875ff731a851f9594a9dc7a0ddfff1d"), looks := true }, kinds := [], alts := [], laidByText := true, laidKinds := [.data, .data, .data], laidTests := true, laidLooks := .later }
def PrintWithinCardSaid : Prop := Claim7.holds Tryz.pinned (.plain (OpenSpec.ofChange printWithinSpec)) printWithinCard

/-- THE TIED CARD OF 'cribblelaw09.PrintBoth'. -/
def printBothCard : Claim7 := { stood := { row := printBothRow, standIns := [], harness := (true, "b4c3e9fadf620177839b1c55c38e443ef875ff731a851f9594a9dc7a0ddfff1d"), looks := true }, kinds := [], alts := [], laidByText := true, laidKinds := [.data, .data, .data], laidTests := true, laidLooks := .later }
def PrintBothCardSaid : Prop := Claim7.holds Tryz.pinned (.plain (OpenSpec.ofChange printBothSpec)) printBothCard

/-- THE SECOND FORM's CARD OF 'cribblelaw11.SchemeSplits'. -/
def schemeSplitsUptoCard : Claim7 := { stood := { row := schemeSplitsUptoRow, standIns := [], harness := (true, "b4c3e9fadf620177839b1c55c38e443ef875ff731a851f9594a9dc7a0ddfff1d"), looks := true }, kinds := [], alts := [], laidByText := true, laidKinds := [.data, .pinned], laidTests := true, laidLooks := .later }
def SchemeSplitsUptoCardSaid : Prop := Claim7.holds Tryz.pinned (.plain (OpenSpec.upto schemeSplitsSpec)) schemeSplitsUptoCard

/-- THE SECOND FORM's CARD OF 'cribblelaw11.SchemeFilters'. -/
def schemeFiltersUptoCard : Claim7 := { stood := { row := schemeFiltersUptoRow, standIns := [], harness := (true, "b4c3e9fadf620177839b1c55c38e443ef875ff731a851f9594a9dc7a0ddfff1d"), looks := true }, kinds := [], alts := [], laidByText := true, laidKinds := [.data, .pinned], laidTests := true, laidLooks := .later }
def SchemeFiltersUptoCardSaid : Prop := Claim7.holds Tryz.pinned (.plain (OpenSpec.upto schemeFiltersSpec)) schemeFiltersUptoCard

/-- THE SECOND FORM's CARD OF 'cribblelaw11.SchemeSafe'. -/
def schemeSafeUptoCard : Claim7 := { stood := { row := schemeSafeUptoRow, standIns := [], harness := (true, "b4c3e9fadf620177839b1c55c38e443ef875ff731a851f9594a9dc7a0ddfff1d"), looks := true }, kinds := [], alts := [], laidByText := true, laidKinds := [.data, .pinned], laidTests := true, laidLooks := .later }
def SchemeSafeUptoCardSaid : Prop := Claim7.holds Tryz.pinned (.plain (OpenSpec.upto schemeSafeSpec)) schemeSafeUptoCard

/-- THE SECOND FORM's CARD OF 'cribblelaw11.SchemeHides'. -/
def schemeHidesUptoCard : Claim7 := { stood := { row := schemeHidesUptoRow, standIns := [], harness := (true, "b4c3e9fadf620177839b1c55c38e443ef875ff731a851f9594a9dc7a0ddfff1d"), looks := true }, kinds := [], alts := [], laidByText := true, laidKinds := [.data, .pinned], laidTests := true, laidLooks := .later }
def SchemeHidesUptoCardSaid : Prop := Claim7.holds Tryz.pinned (.plain (OpenSpec.upto schemeHidesSpec)) schemeHidesUptoCard

/-- THE SECOND FORM's CARD OF 'cribblelaw11.SchemeJoins'. -/
def schemeJoinsUptoCard : Claim7 := { stood := { row := schemeJoinsUptoRow, standIns := [], harness := (true, "b4c3e9fadf620177839b1c55c38e443ef875ff731a851f9594a9dc7a0ddfff1d"), looks := true }, kinds := [], alts := [], laidByText := true, laidKinds := [.data, .pinned], laidTests := true, laidLooks := .later }
def SchemeJoinsUptoCardSaid : Prop := Claim7.holds Tryz.pinned (.plain (OpenSpec.upto schemeJoinsSpec)) schemeJoinsUptoCard

/-- THE SECOND FORM's CARD OF 'cribblelaw09.PrintTexts'. -/
def printTextsUptoCard : Claim7 := { stood := { row := printTextsUptoRow, standIns := [], harness := (true, "b4c3e9fadf620177839b1c55c38e443ef875ff731a851f9594a9dc7a0ddfff1d"), looks := true }, kinds := [], alts := [], laidByText := true, laidKinds := [.data, .data, .data], laidTests := true, laidLooks := .later }
def PrintTextsUptoCardSaid : Prop := Claim7.holds Tryz.pinned (.plain (OpenSpec.upto printTextsSpec)) printTextsUptoCard

/-- THE SECOND FORM's CARD OF 'cribblelaw09.PrintBack'. -/
def printBackUptoCard : Claim7 := { stood := { row := printBackUptoRow, standIns := [], harness := (true, "b4c3e9fadf620177839b1c55c38e443ef875ff731a851f9594a9dc7a0ddfff1d"), looks := true }, kinds := [], alts := [], laidByText := true, laidKinds := [.data, .data, .data], laidTests := true, laidLooks := .later }
def PrintBackUptoCardSaid : Prop := Claim7.holds Tryz.pinned (.plain (OpenSpec.upto printBackSpec)) printBackUptoCard

/-- THE SECOND FORM's CARD OF 'cribblelaw09.PrintChain'. -/
def printChainUptoCard : Claim7 := { stood := { row := printChainUptoRow, standIns := [], harness := (true, "b4c3e9fadf620177839b1c55c38e443ef875ff731a851f9594a9dc7a0ddfff1d"), looks := true }, kinds := [], alts := [], laidByText := true, laidKinds := [.data, .data, .data], laidTests := true, laidLooks := .later }
def PrintChainUptoCardSaid : Prop := Claim7.holds Tryz.pinned (.plain (OpenSpec.upto printChainSpec)) printChainUptoCard

/-- THE SECOND FORM's CARD OF 'cribblelaw09.PrintBoths'. -/
def printBothsUptoCard : Claim7 := { stood := { row := printBothsUptoRow, standIns := [], harness := (true, "b4c3e9fadf620177839b1c55c38e443ef875ff731a851f9594a9dc7a0ddfff1d"), looks := true }, kinds := [], alts := [], laidByText := true, laidKinds := [.data, .data, .data], laidTests := true, laidLooks := .later }
def PrintBothsUptoCardSaid : Prop := Claim7.holds Tryz.pinned (.plain (OpenSpec.upto printBothsSpec)) printBothsUptoCard

/-- THE SECOND FORM's CARD OF 'cribblelaw09.PrintWithin'. -/
def printWithinUptoCard : Claim7 := { stood := { row := printWithinUptoRow, standIns := [], harness := (true, "b4c3e9fadf620177839b1c55c38e443ef875ff731a851f9594a9dc7a0ddfff1d"), looks := true }, kinds := [], alts := [], laidByText := true, laidKinds := [.data, .data, .data], laidTests := true, laidLooks := .later }
def PrintWithinUptoCardSaid : Prop := Claim7.holds Tryz.pinned (.plain (OpenSpec.upto printWithinSpec)) printWithinUptoCard

/-- THE SECOND FORM's CARD OF 'cribblelaw09.PrintBoth'. -/
def printBothUptoCard : Claim7 := { stood := { row := printBothUptoRow, standIns := [], harness := (true, "b4c3e9fadf620177839b1c55c38e443ef875ff731a851f9594a9dc7a0ddfff1d"), looks := true }, kinds := [], alts := [], laidByText := true, laidKinds := [.data, .data, .data], laidTests := true, laidLooks := .later }
def PrintBothUptoCardSaid : Prop := Claim7.holds Tryz.pinned (.plain (OpenSpec.upto printBothSpec)) printBothUptoCard
end Rows
end Go.Proofs.YtbhhgbgfaemfdaaGreatDoor
