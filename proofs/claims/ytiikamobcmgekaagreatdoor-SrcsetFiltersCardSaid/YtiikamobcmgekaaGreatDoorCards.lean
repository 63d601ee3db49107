/-
  DERIVED. GIVEN WITH THE SEED: THE CARDS: each row of YtiikamobcmgekaaGreatDoorRows.lean that lists a variable, with what it lists TIED to the program's text (the seventh form; the later family's looks); each row that meets fmt, with fmt's text TOLD by the authors' own Lean function (tested against real Go, not proved from fmt's source: count such statements apart). THE CARD IS WHAT COUNTS. Prove the row's statement (the work); the ties are given (YtiikamobcmgekaaGreatDoorTie.lean); close each card by the builder's one call (the guide's Derived/Test/ToyasCard.lean, 'card_holds'). Laid BY PROGRAM, IN A SANDBOX (cutbox-door.mjs). By AI agents, Wed Nov 11 2026. No macro, syntax, notation, axiom, sorry.
-/
import Derived.Test.YtiikamobcmgekaaGreatDoorRows
import GoSem.ClaimSeven
namespace Go.Proofs.YtiikamobcmgekaaGreatDoor
namespace Rows

/-- THE TIED CARD OF 'cribblelaw12.SrcsetFilters'. -/
def srcsetFiltersCard : Claim7 := { stood := { row := srcsetFiltersRow, standIns := [], harness := (true, "85ddd291fe6127cd83c52f694d4696db0a1d68d6155c765c9144cf3de9ea72b4"), looks := true }, kinds := [], alts := [], laidByText := true, laidKinds := [.data, .pinned], laidTests := true, laidLooks := .later }
def SrcsetFiltersCardSaid : Prop := Claim7.holds Tryz.pinned (.plain (OpenSpec.ofChange srcsetFiltersSpec)) srcsetFiltersCard

/-- THE TIED CARD OF 'cribblelaw12.SrcsetSafe'. -/
def srcsetSafeCard : Claim7 := { stood := { row := srcsetSafeRow, standIns := [], harness := (true, "85ddd291fe6127cd83c52f694d4696db0a1d68d6155c765c9144cf3de9ea72b4"), looks := true }, kinds := [], alts := [], laidByText := true, laidKinds := [.data, .pinned], laidTests := true, laidLooks := .later }
def SrcsetSafeCardSaid : Prop := Claim7.holds Tryz.pinned (.plain (OpenSpec.ofChange srcsetSafeSpec)) srcsetSafeCard

/-- THE TIED CARD OF 'cribblelaw17.CssfilterSafe'. -/
def cssfilterSafeCard : Claim7 := { stood := { row := cssfilterSafeRow, standIns := [], harness := (true, "85ddd291fe6127cd83c52f694d4696db0a1d68d6155c765c9144cf3de9ea72b4"), looks := true }, kinds := [], alts := [], laidByText := true, laidKinds := [.data, .data, .data, .data, .pinned], laidTests := true, laidLooks := .later }
def CssfilterSafeCardSaid : Prop := Claim7.holds Tryz.pinned (.plain (OpenSpec.ofChange cssfilterSafeSpec)) cssfilterSafeCard

/-- THE TIED CARD OF 'cribblelaw17.CssfilterBetween'. -/
def cssfilterBetweenCard : Claim7 := { stood := { row := cssfilterBetweenRow, standIns := [], harness := (true, "85ddd291fe6127cd83c52f694d4696db0a1d68d6155c765c9144cf3de9ea72b4"), looks := true }, kinds := [], alts := [], laidByText := true, laidKinds := [.data, .data, .data, .data, .pinned], laidTests := true, laidLooks := .later }
def CssfilterBetweenCardSaid : Prop := Claim7.holds Tryz.pinned (.plain (OpenSpec.ofChange cssfilterBetweenSpec)) cssfilterBetweenCard

/-- THE SECOND FORM's CARD OF 'cribblelaw12.SrcsetFilters'. -/
def srcsetFiltersUptoCard : Claim7 := { stood := { row := srcsetFiltersUptoRow, standIns := [], harness := (true, "85ddd291fe6127cd83c52f694d4696db0a1d68d6155c765c9144cf3de9ea72b4"), looks := true }, kinds := [], alts := [], laidByText := true, laidKinds := [.data, .pinned], laidTests := true, laidLooks := .later }
def SrcsetFiltersUptoCardSaid : Prop := Claim7.holds Tryz.pinned (.plain (OpenSpec.upto srcsetFiltersSpec)) srcsetFiltersUptoCard

/-- THE SECOND FORM's CARD OF 'cribblelaw12.SrcsetSafe'. -/
def srcsetSafeUptoCard : Claim7 := { stood := { row := srcsetSafeUptoRow, standIns := [], harness := (true, "85ddd291fe6127cd83c52f694d4696db0a1d68d6155c765c9144cf3de9ea72b4"), looks := true }, kinds := [], alts := [], laidByText := true, laidKinds := [.data, .pinned], laidTests := true, laidLooks := .later }
def SrcsetSafeUptoCardSaid : Prop := Claim7.holds Tryz.pinned (.plain (OpenSpec.upto srcsetSafeSpec)) srcsetSafeUptoCard

/-- THE SECOND FORM's CARD OF 'cribblelaw17.CssfilterSafe'. -/
def cssfilterSafeUptoCard : Claim7 := { stood := { row := cssfilterSafeUptoRow, standIns := [], harness := (true, "85ddd291fe6127cd83c52f694d4696db0a1d68d6155c765c9144cf3de9ea72b4"), looks := true }, kinds := [], alts := [], laidByText := true, laidKinds := [.data, .data, .data, .data, .pinned], laidTests := true, laidLooks := .later }
def CssfilterSafeUptoCardSaid : Prop := Claim7.holds Tryz.pinned (.plain (OpenSpec.upto cssfilterSafeSpec)) cssfilterSafeUptoCard

/-- THE SECOND FORM's CARD OF 'cribblelaw17.CssfilterBetween'. -/
def cssfilterBetweenUptoCard : Claim7 := { stood := { row := cssfilterBetweenUptoRow, standIns := [], harness := (true, "85ddd291fe6127cd83c52f694d4696db0a1d68d6155c765c9144cf3de9ea72b4"), looks := true }, kinds := [], alts := [], laidByText := true, laidKinds := [.data, .data, .data, .data, .pinned], laidTests := true, laidLooks := .later }
def CssfilterBetweenUptoCardSaid : Prop := Claim7.holds Tryz.pinned (.plain (OpenSpec.upto cssfilterBetweenSpec)) cssfilterBetweenUptoCard
end Rows
end Go.Proofs.YtiikamobcmgekaaGreatDoor
