/-
  DERIVED. GIVEN WITH THE SEED: THE CARDS: each row of YtjaebdjlgohapaaGreatDoorRows.lean that lists a variable, with what it lists TIED to the program's text (the seventh form; the later family's looks); each row that meets fmt, with fmt's text TOLD by the authors' own Lean function (tested against real Go, not proved from fmt's source: count such statements apart). THE CARD IS WHAT COUNTS. Prove the row's statement (the work); the ties are given (YtjaebdjlgohapaaGreatDoorTie.lean); close each card by the builder's one call (the guide's Derived/Test/ToyasCard.lean, 'card_holds'). Laid BY PROGRAM, IN A SANDBOX (cutbox-door.mjs). By AI agents, Wed Nov 11 2026. No macro, syntax, notation, axiom, sorry.
-/
import Derived.Test.YtjaebdjlgohapaaGreatDoorRows
import GoSem.ClaimSeven
namespace Go.Proofs.YtjaebdjlgohapaaGreatDoor
namespace Rows

/-- THE TIED CARD OF 'cribblelaw13.CsstokScans'. -/
def csstokScansCard : Claim7 := { stood := { row := csstokScansRow, standIns := [], harness := (true, "357b050acc1e7ec3bf69fe126bc75fac2a60d6465a4a3574a7b6abb7876a7602"), looks := false }, kinds := [], alts := [], laidByText := true, laidKinds := [.data, .data, .data, .data, .pinned], laidTests := true, laidLooks := .later }
def CsstokScansCardSaid : Prop := Claim7.holds Tryz.pinned (.plain (OpenSpec.ofChange csstokScansSpec)) csstokScansCard

/-- THE TIED CARD OF 'cribblelaw13.CsstokTexts'. -/
def csstokTextsCard : Claim7 := { stood := { row := csstokTextsRow, standIns := [], harness := (true, "357b050acc1e7ec3bf69fe126bc75fac2a60d6465a4a3574a7b6abb7876a7602"), looks := false }, kinds := [], alts := [], laidByText := true, laidKinds := [.data, .data, .data, .data, .pinned], laidTests := true, laidLooks := .later }
def CsstokTextsCardSaid : Prop := Claim7.holds Tryz.pinned (.plain (OpenSpec.ofChange csstokTextsSpec)) csstokTextsCard

/-- THE SECOND FORM's CARD OF 'cribblelaw13.CsstokScans'. -/
def csstokScansUptoCard : Claim7 := { stood := { row := csstokScansUptoRow, standIns := [], harness := (true, "357b050acc1e7ec3bf69fe126bc75fac2a60d6465a4a3574a7b6abb7876a7602"), looks := false }, kinds := [], alts := [], laidByText := true, laidKinds := [.data, .data, .data, .data, .pinned], laidTests := true, laidLooks := .later }
def CsstokScansUptoCardSaid : Prop := Claim7.holds Tryz.pinned (.plain (OpenSpec.upto csstokScansSpec)) csstokScansUptoCard

/-- THE SECOND FORM's CARD OF 'cribblelaw13.CsstokTexts'. -/
def csstokTextsUptoCard : Claim7 := { stood := { row := csstokTextsUptoRow, standIns := [], harness := (true, "357b050acc1e7ec3bf69fe126bc75fac2a60d6465a4a3574a7b6abb7876a7602"), looks := false }, kinds := [], alts := [], laidByText := true, laidKinds := [.data, .data, .data, .data, .pinned], laidTests := true, laidLooks := .later }
def CsstokTextsUptoCardSaid : Prop := Claim7.holds Tryz.pinned (.plain (OpenSpec.upto csstokTextsSpec)) csstokTextsUptoCard
end Rows
end Go.Proofs.YtjaebdjlgohapaaGreatDoor
