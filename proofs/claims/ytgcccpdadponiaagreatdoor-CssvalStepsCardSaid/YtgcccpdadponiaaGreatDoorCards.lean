/-
  DERIVED. GIVEN WITH THE SEED: THE CARDS: each row of YtgcccpdadponiaaGreatDoorRows.lean that lists a variable, with what it lists TIED to the program's text (the seventh form; the later family's looks); each row that meets fmt, with fmt's text TOLD by the authors' own Lean function (tested against real Go, not proved from fmt's source: count such statements apart). THE CARD IS WHAT COUNTS. Prove the row's statement (the work); the ties are given (YtgcccpdadponiaaGreatDoorTie.lean); close each card by the builder's one call (the guide's Derived/Test/ToyasCard.lean, 'card_holds'). Laid BY PROGRAM, IN A SANDBOX (cutbox-door.mjs). By AI agents, Wed Nov 11 2026. No macro, syntax, notation, axiom, sorry.
-/
import Derived.Test.YtgcccpdadponiaaGreatDoorRows
import GoSem.ClaimSeven
namespace Go.Proofs.YtgcccpdadponiaaGreatDoor
namespace Rows

/-- THE TIED CARD OF 'cribblelaw16.CssvalValues'. -/
def cssvalValuesCard : Claim7 := { stood := { row := cssvalValuesRow, standIns := [], harness := (true, "d95e6494e8b623ae92cfa6b1d719695f176e31658f6bc4e9f968e2e197c528da"), looks := false }, kinds := [], alts := [], laidByText := true, laidKinds := [.data, .data, .data, .data, .pinned], laidTests := true, laidLooks := .later }
def CssvalValuesCardSaid : Prop := Claim7.holds Tryz.pinned (.plain (OpenSpec.ofChange cssvalValuesSpec)) cssvalValuesCard

/-- THE TIED CARD OF 'cribblelaw16.CssvalSteps'. -/
def cssvalStepsCard : Claim7 := { stood := { row := cssvalStepsRow, standIns := [], harness := (true, "d95e6494e8b623ae92cfa6b1d719695f176e31658f6bc4e9f968e2e197c528da"), looks := false }, kinds := [], alts := [], laidByText := true, laidKinds := [.data, .data, .data, .data, .pinned], laidTests := true, laidLooks := .later }
def CssvalStepsCardSaid : Prop := Claim7.holds Tryz.pinned (.plain (OpenSpec.ofChange cssvalStepsSpec)) cssvalStepsCard

/-- THE TIED CARD OF 'cribblelaw16.CssvalBack'. -/
def cssvalBackCard : Claim7 := { stood := { row := cssvalBackRow, standIns := [], harness := (true, "d95e6494e8b623ae92cfa6b1d719695f176e31658f6bc4e9f968e2e197c528da"), looks := false }, kinds := [], alts := [], laidByText := true, laidKinds := [.data, .data, .data, .data, .pinned], laidTests := true, laidLooks := .later }
def CssvalBackCardSaid : Prop := Claim7.holds Tryz.pinned (.plain (OpenSpec.ofChange cssvalBackSpec)) cssvalBackCard

/-- THE TIED CARD OF 'cribblelaw16.CssvalNames'. -/
def cssvalNamesCard : Claim7 := { stood := { row := cssvalNamesRow, standIns := [], harness := (true, "d95e6494e8b623ae92cfa6b1d719695f176e31658f6bc4e9f968e2e197c528da"), looks := false }, kinds := [], alts := [], laidByText := true, laidKinds := [.data, .data, .data, .data, .pinned], laidTests := true, laidLooks := .later }
def CssvalNamesCardSaid : Prop := Claim7.holds Tryz.pinned (.plain (OpenSpec.ofChange cssvalNamesSpec)) cssvalNamesCard

/-- THE TIED CARD OF 'cribblelaw16.CssvalMoves'. -/
def cssvalMovesCard : Claim7 := { stood := { row := cssvalMovesRow, standIns := [], harness := (true, "d95e6494e8b623ae92cfa6b1d719695f176e31658f6bc4e9f968e2e197c528da"), looks := false }, kinds := [], alts := [], laidByText := true, laidKinds := [.data, .data, .data, .data, .pinned], laidTests := true, laidLooks := .later }
def CssvalMovesCardSaid : Prop := Claim7.holds Tryz.pinned (.plain (OpenSpec.ofChange cssvalMovesSpec)) cssvalMovesCard

/-- THE TIED CARD OF 'cribblelaw16.CssvalStays'. -/
def cssvalStaysCard : Claim7 := { stood := { row := cssvalStaysRow, standIns := [], harness := (true, "d95e6494e8b623ae92cfa6b1d719695f176e31658f6bc4e9f968e2e197c528da"), looks := false }, kinds := [], alts := [], laidByText := true, laidKinds := [.data, .data, .data, .data, .pinned], laidTests := true, laidLooks := .later }
def CssvalStaysCardSaid : Prop := Claim7.holds Tryz.pinned (.plain (OpenSpec.ofChange cssvalStaysSpec)) cssvalStaysCard

/-- THE SECOND FORM's CARD OF 'cribblelaw16.CssvalValues'. -/
def cssvalValuesUptoCard : Claim7 := { stood := { row := cssvalValuesUptoRow, standIns := [], harness := (true, "d95e6494e8b623ae92cfa6b1d719695f176e31658f6bc4e9f968e2e197c528da"), looks := false }, kinds := [], alts := [], laidByText := true, laidKinds := [.data, .data, .data, .data, .pinned], laidTests := true, laidLooks := .later }
def CssvalValuesUptoCardSaid : Prop := Claim7.holds Tryz.pinned (.plain (OpenSpec.upto cssvalValuesSpec)) cssvalValuesUptoCard

/-- THE SECOND FORM's CARD OF 'cribblelaw16.CssvalSteps'. -/
def cssvalStepsUptoCard : Claim7 := { stood := { row := cssvalStepsUptoRow, standIns := [], harness := (true, "d95e6494e8b623ae92cfa6b1d719695f176e31658f6bc4e9f968e2e197c528da"), looks := false }, kinds := [], alts := [], laidByText := true, laidKinds := [.data, .data, .data, .data, .pinned], laidTests := true, laidLooks := .later }
def CssvalStepsUptoCardSaid : Prop := Claim7.holds Tryz.pinned (.plain (OpenSpec.upto cssvalStepsSpec)) cssvalStepsUptoCard

/-- THE SECOND FORM's CARD OF 'cribblelaw16.CssvalBack'. -/
def cssvalBackUptoCard : Claim7 := { stood := { row := cssvalBackUptoRow, standIns := [], harness := (true, "d95e6494e8b623ae92cfa6b1d719695f176e31658f6bc4e9f968e2e197c528da"), looks := false }, kinds := [], alts := [], laidByText := true, laidKinds := [.data, .data, .data, .data, .pinned], laidTests := true, laidLooks := .later }
def CssvalBackUptoCardSaid : Prop := Claim7.holds Tryz.pinned (.plain (OpenSpec.upto cssvalBackSpec)) cssvalBackUptoCard

/-- THE SECOND FORM's CARD OF 'cribblelaw16.CssvalNames'. -/
def cssvalNamesUptoCard : Claim7 := { stood := { row := cssvalNamesUptoRow, standIns := [], harness := (true, "d95e6494e8b623ae92cfa6b1d719695f176e31658f6bc4e9f968e2e197c528da"), looks := false }, kinds := [], alts := [], laidByText := true, laidKinds := [.data, .data, .data, .data, .pinned], laidTests := true, laidLooks := .later }
def CssvalNamesUptoCardSaid : Prop := Claim7.holds Tryz.pinned (.plain (OpenSpec.upto cssvalNamesSpec)) cssvalNamesUptoCard

/-- THE SECOND FORM's CARD OF 'cribblelaw16.CssvalMoves'. -/
def cssvalMovesUptoCard : Claim7 := { stood := { row := cssvalMovesUptoRow, standIns := [], harness := (true, "d95e6494e8b623ae92cfa6b1d719695f176e31658f6bc4e9f968e2e197c528da"), looks := false }, kinds := [], alts := [], laidByText := true, laidKinds := [.data, .data, .data, .data, .pinned], laidTests := true, laidLooks := .later }
def CssvalMovesUptoCardSaid : Prop := Claim7.holds Tryz.pinned (.plain (OpenSpec.upto cssvalMovesSpec)) cssvalMovesUptoCard

/-- THE SECOND FORM's CARD OF 'cribblelaw16.CssvalStays'. -/
def cssvalStaysUptoCard : Claim7 := { stood := { row := cssvalStaysUptoRow, standIns := [], harness := (true, "d95e6494e8b623ae92cfa6b1d719695f176e31658f6bc4e9f968e2e197c528da"), looks := false }, kinds := [], alts := [], laidByText := true, laidKinds := [.data, .data, .data, .data, .pinned], laidTests := true, laidLooks := .later }
def CssvalStaysUptoCardSaid : Prop := Claim7.holds Tryz.pinned (.plain (OpenSpec.upto cssvalStaysSpec)) cssvalStaysUptoCard
end Rows
end Go.Proofs.YtgcccpdadponiaaGreatDoor
