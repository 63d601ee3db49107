/-
  DERIVED. GIVEN WITH THE SEED: THE CARDS: each row of YtgoioaobknjmcaaDoorRows.lean that lists a variable, with what it lists TIED to the program's text (the seventh form; the later family's looks); each row that meets fmt, with fmt's text TOLD by the authors' own Lean function (tested against real Go, not proved from fmt's source: count such statements apart). THE CARD IS WHAT COUNTS. Prove the row's statement (the work); the ties are given (YtgoioaobknjmcaaDoorTie.lean); close each card by the builder's one call (the guide's Derived/Test/ToyasCard.lean, 'card_holds'). Laid BY PROGRAM, IN A SANDBOX (cutbox-door.mjs). By AI agents, Wed Nov 11 2026. No macro, syntax, notation, axiom, sorry.
-/
import Derived.Test.YtgoioaobknjmcaaDoorRows
import GoSem.ClaimSeven
namespace Go.Proofs.YtgoioaobknjmcaaDoor
namespace Rows

/-- THE TIED CARD OF 'cribblelaw12.SrcsetParses'. -/
def srcsetParsesCard : Claim7 := { stood := { row := srcsetParsesRow, standIns := [], harness := (true, "c629c037c4b68fbdc808a966e82cb20e6d96cca67963e6e5c759b98ac5fc1c53"), looks := false }, kinds := [], alts := [], laidByText := true, laidKinds := [.data, .pinned], laidTests := true, laidLooks := .later }
def SrcsetParsesCardSaid : Prop := Claim7.holds Tryd.pinned (.plain (OpenSpec.ofChange srcsetParsesSpec)) srcsetParsesCard

/-- THE TIED CARD OF 'cribblelaw12.SrcsetTexts'. -/
def srcsetTextsCard : Claim7 := { stood := { row := srcsetTextsRow, standIns := [], harness := (true, "c629c037c4b68fbdc808a966e82cb20e6d96cca67963e6e5c759b98ac5fc1c53"), looks := false }, kinds := [], alts := [], laidByText := true, laidKinds := [.data, .pinned], laidTests := true, laidLooks := .later }
def SrcsetTextsCardSaid : Prop := Claim7.holds Tryd.pinned (.plain (OpenSpec.ofChange srcsetTextsSpec)) srcsetTextsCard

/-- THE TIED CARD OF 'cribblelaw12.SrcsetBack'. -/
def srcsetBackCard : Claim7 := { stood := { row := srcsetBackRow, standIns := [], harness := (true, "c629c037c4b68fbdc808a966e82cb20e6d96cca67963e6e5c759b98ac5fc1c53"), looks := false }, kinds := [], alts := [], laidByText := true, laidKinds := [.data, .pinned], laidTests := true, laidLooks := .later }
def SrcsetBackCardSaid : Prop := Claim7.holds Tryd.pinned (.plain (OpenSpec.ofChange srcsetBackSpec)) srcsetBackCard

/-- THE TIED CARD OF 'cribblelaw12.SrcsetCommas'. -/
def srcsetCommasCard : Claim7 := { stood := { row := srcsetCommasRow, standIns := [], harness := (true, "c629c037c4b68fbdc808a966e82cb20e6d96cca67963e6e5c759b98ac5fc1c53"), looks := false }, kinds := [], alts := [], laidByText := true, laidKinds := [.data, .pinned], laidTests := true, laidLooks := .later }
def SrcsetCommasCardSaid : Prop := Claim7.holds Tryd.pinned (.plain (OpenSpec.ofChange srcsetCommasSpec)) srcsetCommasCard

/-- THE SECOND FORM's CARD OF 'cribblelaw12.SrcsetParses'. -/
def srcsetParsesUptoCard : Claim7 := { stood := { row := srcsetParsesUptoRow, standIns := [], harness := (true, "c629c037c4b68fbdc808a966e82cb20e6d96cca67963e6e5c759b98ac5fc1c53"), looks := false }, kinds := [], alts := [], laidByText := true, laidKinds := [.data, .pinned], laidTests := true, laidLooks := .later }
def SrcsetParsesUptoCardSaid : Prop := Claim7.holds Tryd.pinned (.plain (OpenSpec.upto srcsetParsesSpec)) srcsetParsesUptoCard

/-- THE SECOND FORM's CARD OF 'cribblelaw12.SrcsetTexts'. -/
def srcsetTextsUptoCard : Claim7 := { stood := { row := srcsetTextsUptoRow, standIns := [], harness := (true, "c629c037c4b68fbdc808a966e82cb20e6d96cca67963e6e5c759b98ac5fc1c53"), looks := false }, kinds := [], alts := [], laidByText := true, laidKinds := [.data, .pinned], laidTests := true, laidLooks := .later }
def SrcsetTextsUptoCardSaid : Prop := Claim7.holds Tryd.pinned (.plain (OpenSpec.upto srcsetTextsSpec)) srcsetTextsUptoCard

/-- THE SECOND FORM's CARD OF 'cribblelaw12.SrcsetBack'. -/
def srcsetBackUptoCard : Claim7 := { stood := { row := srcsetBackUptoRow, standIns := [], harness := (true, "c629c037c4b68fbdc808a966e82cb20e6d96cca67963e6e5c759b98ac5fc1c53"), looks := false }, kinds := [], alts := [], laidByText := true, laidKinds := [.data, .pinned], laidTests := true, laidLooks := .later }
def SrcsetBackUptoCardSaid : Prop := Claim7.holds Tryd.pinned (.plain (OpenSpec.upto srcsetBackSpec)) srcsetBackUptoCard

/-- THE SECOND FORM's CARD OF 'cribblelaw12.SrcsetCommas'. -/
def srcsetCommasUptoCard : Claim7 := { stood := { row := srcsetCommasUptoRow, standIns := [], harness := (true, "c629c037c4b68fbdc808a966e82cb20e6d96cca67963e6e5c759b98ac5fc1c53"), looks := false }, kinds := [], alts := [], laidByText := true, laidKinds := [.data, .pinned], laidTests := true, laidLooks := .later }
def SrcsetCommasUptoCardSaid : Prop := Claim7.holds Tryd.pinned (.plain (OpenSpec.upto srcsetCommasSpec)) srcsetCommasUptoCard
end Rows
end Go.Proofs.YtgoioaobknjmcaaDoor
