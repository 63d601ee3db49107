/-
  DERIVED. GIVEN WITH THE SEED: THE CARDS: each row of YtccjfanpjojbnaaGreatDoorRows.lean that lists a variable, with what it lists TIED to the program's text (the seventh form; the later family's looks); each row that meets fmt, with fmt's text TOLD by the authors' own Lean function (tested against real Go, not proved from fmt's source: count such statements apart). THE CARD IS WHAT COUNTS. Prove the row's statement (the work); the ties are given (YtccjfanpjojbnaaGreatDoorTie.lean); close each card by the builder's one call (the guide's Derived/Test/ToyasCard.lean, 'card_holds'). Laid BY PROGRAM, IN A SANDBOX (cutbox-door.mjs). By AI agents, Wed Nov 11 2026. No macro, syntax, notation, axiom, sorry.
-/
import Derived.Test.YtccjfanpjojbnaaGreatDoorRows
import GoSem.ClaimSeven
namespace Go.Proofs.YtccjfanpjojbnaaGreatDoor
namespace Rows

/-- THE TIED CARD OF 'cribblelaw19.AttrsKept'. -/
def attrsKeptCard : Claim7 := { stood := { row := attrsKeptRow, standIns := [], harness := (true, "ae4d9f312d977b4f547f4c98144b6906d57a0991a44a07dc0f846a27aa5d0cb6"), looks := true }, kinds := [], alts := [], laidByText := true, laidKinds := [.data, .data, .data, .data, .pinned], laidTests := true, laidLooks := .later }
def AttrsKeptCardSaid : Prop := Claim7.holds Tryz.pinned (.plain (OpenSpec.ofChange attrsKeptSpec)) attrsKeptCard

/-- THE TIED CARD OF 'cribblelaw19.AttrsJoins'. -/
def attrsJoinsCard : Claim7 := { stood := { row := attrsJoinsRow, standIns := [], harness := (true, "ae4d9f312d977b4f547f4c98144b6906d57a0991a44a07dc0f846a27aa5d0cb6"), looks := true }, kinds := [], alts := [], laidByText := true, laidKinds := [.data, .data, .data, .data, .pinned], laidTests := true, laidLooks := .later }
def AttrsJoinsCardSaid : Prop := Claim7.holds Tryz.pinned (.plain (OpenSpec.ofChange attrsJoinsSpec)) attrsJoinsCard

/-- THE TIED CARD OF 'cribblelaw19.AttrsSafe'. -/
def attrsSafeCard : Claim7 := { stood := { row := attrsSafeRow, standIns := [], harness := (true, "ae4d9f312d977b4f547f4c98144b6906d57a0991a44a07dc0f846a27aa5d0cb6"), looks := true }, kinds := [], alts := [], laidByText := true, laidKinds := [.data, .data, .data, .data, .pinned], laidTests := true, laidLooks := .later }
def AttrsSafeCardSaid : Prop := Claim7.holds Tryz.pinned (.plain (OpenSpec.ofChange attrsSafeSpec)) attrsSafeCard

/-- THE SECOND FORM's CARD OF 'cribblelaw19.AttrsKept'. -/
def attrsKeptUptoCard : Claim7 := { stood := { row := attrsKeptUptoRow, standIns := [], harness := (true, "ae4d9f312d977b4f547f4c98144b6906d57a0991a44a07dc0f846a27aa5d0cb6"), looks := true }, kinds := [], alts := [], laidByText := true, laidKinds := [.data, .data, .data, .data, .pinned], laidTests := true, laidLooks := .later }
def AttrsKeptUptoCardSaid : Prop := Claim7.holds Tryz.pinned (.plain (OpenSpec.upto attrsKeptSpec)) attrsKeptUptoCard

/-- THE SECOND FORM's CARD OF 'cribblelaw19.AttrsJoins'. -/
def attrsJoinsUptoCard : Claim7 := { stood := { row := attrsJoinsUptoRow, standIns := [], harness := (true, "ae4d9f312d977b4f547f4c98144b6906d57a0991a44a07dc0f846a27aa5d0cb6"), looks := true }, kinds := [], alts := [], laidByText := true, laidKinds := [.data, .data, .data, .data, .pinned], laidTests := true, laidLooks := .later }
def AttrsJoinsUptoCardSaid : Prop := Claim7.holds Tryz.pinned (.plain (OpenSpec.upto attrsJoinsSpec)) attrsJoinsUptoCard

/-- THE SECOND FORM's CARD OF 'cribblelaw19.AttrsSafe'. -/
def attrsSafeUptoCard : Claim7 := { stood := { row := attrsSafeUptoRow, standIns := [], harness := (true, "ae4d9f312d977b4f547f4c98144b6906d57a0991a44a07dc0f846a27aa5d0cb6"), looks := true }, kinds := [], alts := [], laidByText := true, laidKinds := [.data, .data, .data, .data, .pinned], laidTests := true, laidLooks := .later }
def AttrsSafeUptoCardSaid : Prop := Claim7.holds Tryz.pinned (.plain (OpenSpec.upto attrsSafeSpec)) attrsSafeUptoCard
end Rows
end Go.Proofs.YtccjfanpjojbnaaGreatDoor
