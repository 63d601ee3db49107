/-
  DERIVED. GIVEN WITH THE SEED: THE CARDS: each row of YtjaebdjlgohapaaDoorRows.lean that lists a variable, with what it lists TIED to the program's text (the seventh form; the later family's looks); each row that meets fmt, with fmt's text TOLD by the authors' own Lean function (tested against real Go, not proved from fmt's source: count such statements apart). THE CARD IS WHAT COUNTS. Prove the row's statement (the work); the ties are given (YtjaebdjlgohapaaDoorTie.lean); close each card by the builder's one call (the guide's Derived/Test/ToyasCard.lean, 'card_holds'). Laid BY PROGRAM, IN A SANDBOX (cutbox-door.mjs). By AI agents, Wed Nov 11 2026. No macro, syntax, notation, axiom, sorry.
-/
import Derived.Test.YtjaebdjlgohapaaDoorRows
import GoSem.ClaimSeven
namespace Go.Proofs.YtjaebdjlgohapaaDoor
namespace Rows

/-- THE TIED CARD OF 'cribblelaw13.CsstokBack'. -/
def csstokBackCard : Claim7 := { stood := { row := csstokBackRow, standIns := [], harness := (true, "ed39e092848cc8ef7996757d4e4a4482cec05a859023c6efd27a7d46375c9477"), looks := false }, kinds := [], alts := [], laidByText := true, laidKinds := [.data, .data, .data, .data, .pinned], laidTests := true, laidLooks := .later }
def CsstokBackCardSaid : Prop := Claim7.holds Tryd.pinned (.plain (OpenSpec.ofChange csstokBackSpec)) csstokBackCard

/-- THE TIED CARD OF 'cribblelaw13.CsstokSpaces'. -/
def csstokSpacesCard : Claim7 := { stood := { row := csstokSpacesRow, standIns := [], harness := (true, "ed39e092848cc8ef7996757d4e4a4482cec05a859023c6efd27a7d46375c9477"), looks := false }, kinds := [], alts := [], laidByText := true, laidKinds := [.data, .data, .data, .data, .pinned], laidTests := true, laidLooks := .later }
def CsstokSpacesCardSaid : Prop := Claim7.holds Tryd.pinned (.plain (OpenSpec.ofChange csstokSpacesSpec)) csstokSpacesCard

/-- THE TIED CARD OF 'cribblelaw13.CsstokNumbers'. -/
def csstokNumbersCard : Claim7 := { stood := { row := csstokNumbersRow, standIns := [], harness := (true, "ed39e092848cc8ef7996757d4e4a4482cec05a859023c6efd27a7d46375c9477"), looks := false }, kinds := [], alts := [], laidByText := true, laidKinds := [.data, .data, .data, .data, .pinned], laidTests := true, laidLooks := .later }
def CsstokNumbersCardSaid : Prop := Claim7.holds Tryd.pinned (.plain (OpenSpec.ofChange csstokNumbersSpec)) csstokNumbersCard

/-- THE TIED CARD OF 'cribblelaw13.CsstokJoins'. -/
def csstokJoinsCard : Claim7 := { stood := { row := csstokJoinsRow, standIns := [], harness := (true, "ed39e092848cc8ef7996757d4e4a4482cec05a859023c6efd27a7d46375c9477"), looks := false }, kinds := [], alts := [], laidByText := true, laidKinds := [.data, .data, .data, .data, .pinned], laidTests := true, laidLooks := .later }
def CsstokJoinsCardSaid : Prop := Claim7.holds Tryd.pinned (.plain (OpenSpec.ofChange csstokJoinsSpec)) csstokJoinsCard

/-- THE SECOND FORM's CARD OF 'cribblelaw13.CsstokBack'. -/
def csstokBackUptoCard : Claim7 := { stood := { row := csstokBackUptoRow, standIns := [], harness := (true, "ed39e092848cc8ef7996757d4e4a4482cec05a859023c6efd27a7d46375c9477"), looks := false }, kinds := [], alts := [], laidByText := true, laidKinds := [.data, .data, .data, .data, .pinned], laidTests := true, laidLooks := .later }
def CsstokBackUptoCardSaid : Prop := Claim7.holds Tryd.pinned (.plain (OpenSpec.upto csstokBackSpec)) csstokBackUptoCard

/-- THE SECOND FORM's CARD OF 'cribblelaw13.CsstokSpaces'. -/
def csstokSpacesUptoCard : Claim7 := { stood := { row := csstokSpacesUptoRow, standIns := [], harness := (true, "ed39e092848cc8ef7996757d4e4a4482cec05a859023c6efd27a7d46375c9477"), looks := false }, kinds := [], alts := [], laidByText := true, laidKinds := [.data, .data, .data, .data, .pinned], laidTests := true, laidLooks := .later }
def CsstokSpacesUptoCardSaid : Prop := Claim7.holds Tryd.pinned (.plain (OpenSpec.upto csstokSpacesSpec)) csstokSpacesUptoCard

/-- THE SECOND FORM's CARD OF 'cribblelaw13.CsstokNumbers'. -/
def csstokNumbersUptoCard : Claim7 := { stood := { row := csstokNumbersUptoRow, standIns := [], harness := (true, "ed39e092848cc8ef7996757d4e4a4482cec05a859023c6efd27a7d46375c9477"), looks := false }, kinds := [], alts := [], laidByText := true, laidKinds := [.data, .data, .data, .data, .pinned], laidTests := true, laidLooks := .later }
def CsstokNumbersUptoCardSaid : Prop := Claim7.holds Tryd.pinned (.plain (OpenSpec.upto csstokNumbersSpec)) csstokNumbersUptoCard

/-- THE SECOND FORM's CARD OF 'cribblelaw13.CsstokJoins'. -/
def csstokJoinsUptoCard : Claim7 := { stood := { row := csstokJoinsUptoRow, standIns := [], harness := (true, "ed39e092848cc8ef7996757d4e4a4482cec05a859023c6efd27a7d46375c9477"), looks := false }, kinds := [], alts := [], laidByText := true, laidKinds := [.data, .data, .data, .data, .pinned], laidTests := true, laidLooks := .later }
def CsstokJoinsUptoCardSaid : Prop := Claim7.holds Tryd.pinned (.plain (OpenSpec.upto csstokJoinsSpec)) csstokJoinsUptoCard
end Rows
end Go.Proofs.YtjaebdjlgohapaaDoor
