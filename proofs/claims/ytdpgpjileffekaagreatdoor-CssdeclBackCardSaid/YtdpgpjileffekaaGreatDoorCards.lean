/-
  DERIVED. GIVEN WITH THE SEED: THE CARDS: each row of YtdpgpjileffekaaGreatDoorRows.lean that lists a variable, with what it lists TIED to the program's text (the seventh form; the later family's looks); each row that meets fmt, with fmt's text TOLD by the authors' own Lean function (tested against real Go, not proved from fmt's source: count such statements apart). THE CARD IS WHAT COUNTS. Prove the row's statement (the work); the ties are given (YtdpgpjileffekaaGreatDoorTie.lean); close each card by the builder's one call (the guide's Derived/Test/ToyasCard.lean, 'card_holds'). Laid BY PROGRAM, IN A SANDBOX (cutbox-door.mjs). By AI agents, Wed Nov 11 2026. No macro, syntax, notation, axiom, sorry.
-/
import Derived.Test.YtdpgpjileffekaaGreatDoorRows
import GoSem.ClaimSeven
namespace Go.Proofs.YtdpgpjileffekaaGreatDoor
namespace Rows

/-- THE TIED CARD OF 'cribblelaw14.CssdeclParses'. -/
def cssdeclParsesCard : Claim7 := { stood := { row := cssdeclParsesRow, standIns := [], harness := (true, "1ab9c0d2e309b2bf64a941b51def8ef697023096a1763cc5e7e49e905c1f3db3"), looks := false }, kinds := [], alts := [], laidByText := true, laidKinds := [.data, .data, .data, .data, .pinned], laidTests := true, laidLooks := .later }
def CssdeclParsesCardSaid : Prop := Claim7.holds Tryz.pinned (.plain (OpenSpec.ofChange cssdeclParsesSpec)) cssdeclParsesCard

/-- THE TIED CARD OF 'cribblelaw14.CssdeclTexts'. -/
def cssdeclTextsCard : Claim7 := { stood := { row := cssdeclTextsRow, standIns := [], harness := (true, "1ab9c0d2e309b2bf64a941b51def8ef697023096a1763cc5e7e49e905c1f3db3"), looks := false }, kinds := [], alts := [], laidByText := true, laidKinds := [.data, .data, .data, .data, .pinned], laidTests := true, laidLooks := .later }
def CssdeclTextsCardSaid : Prop := Claim7.holds Tryz.pinned (.plain (OpenSpec.ofChange cssdeclTextsSpec)) cssdeclTextsCard

/-- THE TIED CARD OF 'cribblelaw14.CssdeclBack'. -/
def cssdeclBackCard : Claim7 := { stood := { row := cssdeclBackRow, standIns := [], harness := (true, "1ab9c0d2e309b2bf64a941b51def8ef697023096a1763cc5e7e49e905c1f3db3"), looks := false }, kinds := [], alts := [], laidByText := true, laidKinds := [.data, .data, .data, .data, .pinned], laidTests := true, laidLooks := .later }
def CssdeclBackCardSaid : Prop := Claim7.holds Tryz.pinned (.plain (OpenSpec.ofChange cssdeclBackSpec)) cssdeclBackCard

/-- THE TIED CARD OF 'cribblelaw14.CssdeclJoins'. -/
def cssdeclJoinsCard : Claim7 := { stood := { row := cssdeclJoinsRow, standIns := [], harness := (true, "1ab9c0d2e309b2bf64a941b51def8ef697023096a1763cc5e7e49e905c1f3db3"), looks := false }, kinds := [], alts := [], laidByText := true, laidKinds := [.data, .data, .data, .data, .pinned], laidTests := true, laidLooks := .later }
def CssdeclJoinsCardSaid : Prop := Claim7.holds Tryz.pinned (.plain (OpenSpec.ofChange cssdeclJoinsSpec)) cssdeclJoinsCard

/-- THE TIED CARD OF 'cribblelaw14.CssdeclEven'. -/
def cssdeclEvenCard : Claim7 := { stood := { row := cssdeclEvenRow, standIns := [], harness := (true, "1ab9c0d2e309b2bf64a941b51def8ef697023096a1763cc5e7e49e905c1f3db3"), looks := false }, kinds := [], alts := [], laidByText := true, laidKinds := [.data, .data, .data, .data, .pinned], laidTests := true, laidLooks := .later }
def CssdeclEvenCardSaid : Prop := Claim7.holds Tryz.pinned (.plain (OpenSpec.ofChange cssdeclEvenSpec)) cssdeclEvenCard

/-- THE SECOND FORM's CARD OF 'cribblelaw14.CssdeclParses'. -/
def cssdeclParsesUptoCard : Claim7 := { stood := { row := cssdeclParsesUptoRow, standIns := [], harness := (true, "1ab9c0d2e309b2bf64a941b51def8ef697023096a1763cc5e7e49e905c1f3db3"), looks := false }, kinds := [], alts := [], laidByText := true, laidKinds := [.data, .data, .data, .data, .pinned], laidTests := true, laidLooks := .later }
def CssdeclParsesUptoCardSaid : Prop := Claim7.holds Tryz.pinned (.plain (OpenSpec.upto cssdeclParsesSpec)) cssdeclParsesUptoCard

/-- THE SECOND FORM's CARD OF 'cribblelaw14.CssdeclTexts'. -/
def cssdeclTextsUptoCard : Claim7 := { stood := { row := cssdeclTextsUptoRow, standIns := [], harness := (true, "1ab9c0d2e309b2bf64a941b51def8ef697023096a1763cc5e7e49e905c1f3db3"), looks := false }, kinds := [], alts := [], laidByText := true, laidKinds := [.data, .data, .data, .data, .pinned], laidTests := true, laidLooks := .later }
def CssdeclTextsUptoCardSaid : Prop := Claim7.holds Tryz.pinned (.plain (OpenSpec.upto cssdeclTextsSpec)) cssdeclTextsUptoCard

/-- THE SECOND FORM's CARD OF 'cribblelaw14.CssdeclBack'. -/
def cssdeclBackUptoCard : Claim7 := { stood := { row := cssdeclBackUptoRow, standIns := [], harness := (true, "1ab9c0d2e309b2bf64a941b51def8ef697023096a1763cc5e7e49e905c1f3db3"), looks := false }, kinds := [], alts := [], laidByText := true, laidKinds := [.data, .data, .data, .data, .pinned], laidTests := true, laidLooks := .later }
def CssdeclBackUptoCardSaid : Prop := Claim7.holds Tryz.pinned (.plain (OpenSpec.upto cssdeclBackSpec)) cssdeclBackUptoCard

/-- THE SECOND FORM's CARD OF 'cribblelaw14.CssdeclJoins'. -/
def cssdeclJoinsUptoCard : Claim7 := { stood := { row := cssdeclJoinsUptoRow, standIns := [], harness := (true, "1ab9c0d2e309b2bf64a941b51def8ef697023096a1763cc5e7e49e905c1f3db3"), looks := false }, kinds := [], alts := [], laidByText := true, laidKinds := [.data, .data, .data, .data, .pinned], laidTests := true, laidLooks := .later }
def CssdeclJoinsUptoCardSaid : Prop := Claim7.holds Tryz.pinned (.plain (OpenSpec.upto cssdeclJoinsSpec)) cssdeclJoinsUptoCard

/-- THE SECOND FORM's CARD OF 'cribblelaw14.CssdeclEven'. -/
def cssdeclEvenUptoCard : Claim7 := { stood := { row := cssdeclEvenUptoRow, standIns := [], harness := (true, "1ab9c0d2e309b2bf64a941b51def8ef697023096a1763cc5e7e49e905c1f3db3"), looks := false }, kinds := [], alts := [], laidByText := true, laidKinds := [.data, .data, .data, .data, .pinned], laidTests := true, laidLooks := .later }
def CssdeclEvenUptoCardSaid : Prop := Claim7.holds Tryz.pinned (.plain (OpenSpec.upto cssdeclEvenSpec)) cssdeclEvenUptoCard
end Rows
end Go.Proofs.YtdpgpjileffekaaGreatDoor
