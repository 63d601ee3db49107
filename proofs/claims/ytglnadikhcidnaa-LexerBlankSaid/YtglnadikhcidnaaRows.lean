/-
  No cell of these rows narrows 'for every input' (looked for: loops, veiled, ifaces, maps, wideKeys, modest, calm, conditions, laid).
  DERIVED. THE GIVEN ROWS OF THIS SEAT. 6 by the template 'for every input the law returns true; each argument reads behind the call as it read before'; 0 by the template 'total and deterministic' (their statements: YtglnadikhcidnaaTotals.lean).
  GIVEN WITH THE SEED: the statements are not yours to turn. If you find one false, say at which input.
  Laid BY PROGRAM, IN A SANDBOX (cutbox-rows.mjs): the forced cells as the released guide's own fill.sh prints them over the translation e2406ee93a5d9cd1… (all of the seat's roots in one cut). By AI agents, Wed Nov 11 2026. No macro, syntax, notation, axiom, sorry.
-/
import Derived.Test.YtglnadikhcidnaaChecked
import GoSem.Claim
import GoSem.ClaimJoined
import GoSem.ClaimMapViews
import Derived.JoinedTies
import Derived.KernelRfl
namespace Go.Proofs.Ytglnadikhcidnaa
/- THE CELL 'sum', in the pinned program and in every row, IS THE sha256 OF THE DUMP (.gsa) THAT YtglnadikhcidnaaProg.lean LOADS. Nothing in Lean hashes anything: it is a label: what it is worth is what the hold of that sum in a sandbox is worth. -/
noncomputable def Try.pinned : Pinned := { name := "ytglnadikhcidnaa", sum := "e2406ee93a5d9cd18339bb5384655b1dc79ec30a99465fe7a0426dc917d2703b", checked := Try.checked }
namespace Rows
def none {H : Type} : Left H := { results := [], args := [] }

/-- 'cribblelaw07.LexerScans': WHATEVER THE INPUT: true; the input reads as it did. -/
def lexerScansSpec : ChangeSpec := { name := "lexerScans", fn := fun _ => fun
  | [d] => { results := [.lit (.bool true)], args := [d] }
  | _ => none }
def lexerScansRow : OpenClaim := { program := "ytglnadikhcidnaa", sum := "e2406ee93a5d9cd18339bb5384655b1dc79ec30a99465fe7a0426dc917d2703b", func := "cribble/cribblelaw07.LexerScans", spec := "lexerScans", inPlace := ["internal/bytealg.IndexByteString"], unfollowed := true, recurses := true, apart := false }
def LexerScansSaid : Prop := lexerScansRow.holds Try.pinned (OpenSpec.ofChange lexerScansSpec)

/-- ITS FALSE NEIGHBOUR: 'it returns false'. Refute it at one input. -/
def lexerScansWrong : ChangeSpec := { name := "lexerScans", fn := fun _ => fun
  | [d] => { results := [.lit (.bool false)], args := [d] }
  | _ => none }
def LexerScansWrongFalsely : Prop := lexerScansRow.holds Try.pinned (OpenSpec.ofChange lexerScansWrong)

/-- 'cribblelaw07.LexerPlaces': WHATEVER THE INPUT: true; the input reads as it did. -/
def lexerPlacesSpec : ChangeSpec := { name := "lexerPlaces", fn := fun _ => fun
  | [d] => { results := [.lit (.bool true)], args := [d] }
  | _ => none }
def lexerPlacesRow : OpenClaim := { program := "ytglnadikhcidnaa", sum := "e2406ee93a5d9cd18339bb5384655b1dc79ec30a99465fe7a0426dc917d2703b", func := "cribble/cribblelaw07.LexerPlaces", spec := "lexerPlaces", inPlace := ["internal/bytealg.IndexByteString"], unfollowed := true, recurses := true, apart := false }
def LexerPlacesSaid : Prop := lexerPlacesRow.holds Try.pinned (OpenSpec.ofChange lexerPlacesSpec)

/-- ITS FALSE NEIGHBOUR: 'it returns false'. Refute it at one input. -/
def lexerPlacesWrong : ChangeSpec := { name := "lexerPlaces", fn := fun _ => fun
  | [d] => { results := [.lit (.bool false)], args := [d] }
  | _ => none }
def LexerPlacesWrongFalsely : Prop := lexerPlacesRow.holds Try.pinned (OpenSpec.ofChange lexerPlacesWrong)

/-- 'cribblelaw07.LexerQuotes': WHATEVER THE INPUT: true; the input reads as it did. -/
def lexerQuotesSpec : ChangeSpec := { name := "lexerQuotes", fn := fun _ => fun
  | [d] => { results := [.lit (.bool true)], args := [d] }
  | _ => none }
def lexerQuotesRow : OpenClaim := { program := "ytglnadikhcidnaa", sum := "e2406ee93a5d9cd18339bb5384655b1dc79ec30a99465fe7a0426dc917d2703b", func := "cribble/cribblelaw07.LexerQuotes", spec := "lexerQuotes", inPlace := ["internal/bytealg.IndexByteString"], unfollowed := true, recurses := true, apart := false }
def LexerQuotesSaid : Prop := lexerQuotesRow.holds Try.pinned (OpenSpec.ofChange lexerQuotesSpec)

/-- ITS FALSE NEIGHBOUR: 'it returns false'. Refute it at one input. -/
def lexerQuotesWrong : ChangeSpec := { name := "lexerQuotes", fn := fun _ => fun
  | [d] => { results := [.lit (.bool false)], args := [d] }
  | _ => none }
def LexerQuotesWrongFalsely : Prop := lexerQuotesRow.holds Try.pinned (OpenSpec.ofChange lexerQuotesWrong)

/-- 'cribblelaw07.LexerJoins': WHATEVER THE INPUT: true; the input reads as it did. -/
def lexerJoinsSpec : ChangeSpec := { name := "lexerJoins", fn := fun _ => fun
  | [d1, d2] => { results := [.lit (.bool true)], args := [d1, d2] }
  | _ => none }
def lexerJoinsRow : OpenClaim := { program := "ytglnadikhcidnaa", sum := "e2406ee93a5d9cd18339bb5384655b1dc79ec30a99465fe7a0426dc917d2703b", func := "cribble/cribblelaw07.LexerJoins", spec := "lexerJoins", inPlace := ["internal/bytealg.IndexByteString", "internal/abi.NoEscape", "internal/bytealg.MakeNoZero"], unfollowed := true, recurses := true, apart := false }
def LexerJoinsSaid : Prop := lexerJoinsRow.holds Try.pinned (OpenSpec.ofChange lexerJoinsSpec)

/-- ITS FALSE NEIGHBOUR: 'it returns false'. Refute it at one input. -/
def lexerJoinsWrong : ChangeSpec := { name := "lexerJoins", fn := fun _ => fun
  | [d1, d2] => { results := [.lit (.bool false)], args := [d1, d2] }
  | _ => none }
def LexerJoinsWrongFalsely : Prop := lexerJoinsRow.holds Try.pinned (OpenSpec.ofChange lexerJoinsWrong)

/-- 'cribblelaw07.LexerBack': WHATEVER THE INPUT: true; the input reads as it did. -/
def lexerBackSpec : ChangeSpec := { name := "lexerBack", fn := fun _ => fun
  | [d] => { results := [.lit (.bool true)], args := [d] }
  | _ => none }
def lexerBackRow : OpenClaim := { program := "ytglnadikhcidnaa", sum := "e2406ee93a5d9cd18339bb5384655b1dc79ec30a99465fe7a0426dc917d2703b", func := "cribble/cribblelaw07.LexerBack", spec := "lexerBack", inPlace := ["internal/bytealg.IndexByteString", "internal/abi.NoEscape", "internal/bytealg.MakeNoZero"], unfollowed := true, recurses := true, apart := false }
def LexerBackSaid : Prop := lexerBackRow.holds Try.pinned (OpenSpec.ofChange lexerBackSpec)

/-- ITS FALSE NEIGHBOUR: 'it returns false'. Refute it at one input. -/
def lexerBackWrong : ChangeSpec := { name := "lexerBack", fn := fun _ => fun
  | [d] => { results := [.lit (.bool false)], args := [d] }
  | _ => none }
def LexerBackWrongFalsely : Prop := lexerBackRow.holds Try.pinned (OpenSpec.ofChange lexerBackWrong)

/-- 'cribblelaw07.LexerBlank': WHATEVER THE INPUT: true; the input reads as it did. -/
def lexerBlankSpec : ChangeSpec := { name := "lexerBlank", fn := fun _ => fun
  | [d1, d2] => { results := [.lit (.bool true)], args := [d1, d2] }
  | _ => none }
def lexerBlankRow : OpenClaim := { program := "ytglnadikhcidnaa", sum := "e2406ee93a5d9cd18339bb5384655b1dc79ec30a99465fe7a0426dc917d2703b", func := "cribble/cribblelaw07.LexerBlank", spec := "lexerBlank", inPlace := ["internal/bytealg.IndexByteString", "internal/abi.NoEscape", "internal/bytealg.MakeNoZero"], unfollowed := true, recurses := true, apart := false }
def LexerBlankSaid : Prop := lexerBlankRow.holds Try.pinned (OpenSpec.ofChange lexerBlankSpec)

/-- ITS FALSE NEIGHBOUR: 'it returns false'. Refute it at one input. -/
def lexerBlankWrong : ChangeSpec := { name := "lexerBlank", fn := fun _ => fun
  | [d1, d2] => { results := [.lit (.bool false)], args := [d1, d2] }
  | _ => none }
def LexerBlankWrongFalsely : Prop := lexerBlankRow.holds Try.pinned (OpenSpec.ofChange lexerBlankWrong)

/- THE SECOND FORM. 'bulk': how many values and letters a reading holds, each counted each time it is reached (what is shared counts as often as it is met; a slice's spare places count too). A statement '..UptoSaid' is the law's where the arguments, and the package variables that the reading takes, are together of bulk at most 1048576: NARROWER than '..Said'. Prove '..Said' where nothing that the law and all that it calls make is longer than what came in: it says more and counts as full. Else prove '..UptoSaid'. A law counts once. -/
mutual
def uptoBulk {H : Type} : DataW H → Nat
  | .lit (.string bytes) => bytes.length + 1
  | .lit _ => 1
  | .nil => 1
  | .ptr d => uptoBulk d + 1
  | .slice elems spare => uptoBulkAll elems + uptoBulkAll spare + 1
  | .agg parts => uptoBulkAll parts + 1
  | .iface _ d => uptoBulk d + 1
  | .map entries => uptoBulkEntries entries + 1
  | .held _ => 1
def uptoBulkAll {H : Type} : List (DataW H) → Nat
  | [] => 0
  | d :: r => uptoBulk d + uptoBulkAll r
def uptoBulkEntries {H : Type} : List (Lit × DataW H) → Nat
  | [] => 0
  | x :: r => uptoBulkEntry x + uptoBulkEntries r
def uptoBulkEntry {H : Type} : Lit × DataW H → Nat
  | (.string bytes, d) => bytes.length + uptoBulk d + 1
  | (_, d) => uptoBulk d + 1
 end
def uptoSmall : (H : Type) → List (DataW H) → Bool := fun _ ds => decide (uptoBulkAll ds ≤ 1048576)
def OpenSpec.upto (s : _root_.Go.ChangeSpec) : _root_.Go.OpenSpec := { _root_.Go.OpenSpec.ofChange s with cond := some uptoSmall }

/-- 'cribblelaw07.LexerScans', WHERE WHAT IT READS IS OF BULK AT MOST 1048576: true; the input reads as it did. -/
def lexerScansUptoRow : OpenClaim := { program := "ytglnadikhcidnaa", sum := "e2406ee93a5d9cd18339bb5384655b1dc79ec30a99465fe7a0426dc917d2703b", func := "cribble/cribblelaw07.LexerScans", spec := "lexerScans", inPlace := ["internal/bytealg.IndexByteString"], unfollowed := true, recurses := true, apart := false, narrowed := true }
def LexerScansUptoSaid : Prop := lexerScansUptoRow.holds Try.pinned (OpenSpec.upto lexerScansSpec)

/-- 'cribblelaw07.LexerPlaces', WHERE WHAT IT READS IS OF BULK AT MOST 1048576: true; the input reads as it did. -/
def lexerPlacesUptoRow : OpenClaim := { program := "ytglnadikhcidnaa", sum := "e2406ee93a5d9cd18339bb5384655b1dc79ec30a99465fe7a0426dc917d2703b", func := "cribble/cribblelaw07.LexerPlaces", spec := "lexerPlaces", inPlace := ["internal/bytealg.IndexByteString"], unfollowed := true, recurses := true, apart := false, narrowed := true }
def LexerPlacesUptoSaid : Prop := lexerPlacesUptoRow.holds Try.pinned (OpenSpec.upto lexerPlacesSpec)

/-- 'cribblelaw07.LexerQuotes', WHERE WHAT IT READS IS OF BULK AT MOST 1048576: true; the input reads as it did. -/
def lexerQuotesUptoRow : OpenClaim := { program := "ytglnadikhcidnaa", sum := "e2406ee93a5d9cd18339bb5384655b1dc79ec30a99465fe7a0426dc917d2703b", func := "cribble/cribblelaw07.LexerQuotes", spec := "lexerQuotes", inPlace := ["internal/bytealg.IndexByteString"], unfollowed := true, recurses := true, apart := false, narrowed := true }
def LexerQuotesUptoSaid : Prop := lexerQuotesUptoRow.holds Try.pinned (OpenSpec.upto lexerQuotesSpec)

/-- 'cribblelaw07.LexerJoins', WHERE WHAT IT READS IS OF BULK AT MOST 1048576: true; the input reads as it did. -/
def lexerJoinsUptoRow : OpenClaim := { program := "ytglnadikhcidnaa", sum := "e2406ee93a5d9cd18339bb5384655b1dc79ec30a99465fe7a0426dc917d2703b", func := "cribble/cribblelaw07.LexerJoins", spec := "lexerJoins", inPlace := ["internal/bytealg.IndexByteString", "internal/abi.NoEscape", "internal/bytealg.MakeNoZero"], unfollowed := true, recurses := true, apart := false, narrowed := true }
def LexerJoinsUptoSaid : Prop := lexerJoinsUptoRow.holds Try.pinned (OpenSpec.upto lexerJoinsSpec)

/-- 'cribblelaw07.LexerBack', WHERE WHAT IT READS IS OF BULK AT MOST 1048576: true; the input reads as it did. -/
def lexerBackUptoRow : OpenClaim := { program := "ytglnadikhcidnaa", sum := "e2406ee93a5d9cd18339bb5384655b1dc79ec30a99465fe7a0426dc917d2703b", func := "cribble/cribblelaw07.LexerBack", spec := "lexerBack", inPlace := ["internal/bytealg.IndexByteString", "internal/abi.NoEscape", "internal/bytealg.MakeNoZero"], unfollowed := true, recurses := true, apart := false, narrowed := true }
def LexerBackUptoSaid : Prop := lexerBackUptoRow.holds Try.pinned (OpenSpec.upto lexerBackSpec)

/-- 'cribblelaw07.LexerBlank', WHERE WHAT IT READS IS OF BULK AT MOST 1048576: true; the input reads as it did. -/
def lexerBlankUptoRow : OpenClaim := { program := "ytglnadikhcidnaa", sum := "e2406ee93a5d9cd18339bb5384655b1dc79ec30a99465fe7a0426dc917d2703b", func := "cribble/cribblelaw07.LexerBlank", spec := "lexerBlank", inPlace := ["internal/bytealg.IndexByteString", "internal/abi.NoEscape", "internal/bytealg.MakeNoZero"], unfollowed := true, recurses := true, apart := false, narrowed := true }
def LexerBlankUptoSaid : Prop := lexerBlankUptoRow.holds Try.pinned (OpenSpec.upto lexerBlankSpec)

end Rows
end Go.Proofs.Ytglnadikhcidnaa
