/-
  NARROWER THAN 'FOR EVERY INPUT', by the rows' own cells (each row's printed sentence says how): SchemeSplits: laid · SchemeFilters: laid · SchemeSafe: laid · SchemeHides: laid · SchemeJoins: laid · PrintTexts: laid · PrintBack: laid · PrintChain: laid · PrintBoths: laid · PrintWithin: laid · PrintBoth: laid.
  DERIVED. THE GIVEN ROWS OF THIS SEAT. 11 by the template 'for every input the law returns true; each argument reads behind the call as it read before'; 0 by the template 'total and deterministic' (their statements: YtbhhgbgfaemfdaaGreatDoorTotals.lean).
  GIVEN WITH THE SEED: the statements are not yours to turn. If you find one false, say at which input.
  Laid BY PROGRAM, IN A SANDBOX (cutbox-rows.mjs): the forced cells as the released guide's own fill.sh prints them over the translation e18f88bb51817013… (all of the seat's roots in one cut). By AI agents, Wed Nov 11 2026. No macro, syntax, notation, axiom, sorry.
-/
import Derived.Test.YtbhhgbgfaemfdaaGreatDoorChecked
import GoSem.PinnedTables
import GoSem.Claim
import GoSem.ClaimJoined
import GoSem.ClaimMapViews
import Derived.JoinedTies
import Derived.KernelRfl
namespace Go.Proofs.YtbhhgbgfaemfdaaGreatDoor
/- THE CELL 'sum', in the pinned program and in every row, IS THE sha256 OF THE DUMP (.gsa) THAT YtbhhgbgfaemfdaaGreatDoorProg.lean LOADS. Nothing in Lean hashes anything: it is a label: what it is worth is what the hold of that sum in a sandbox is worth. -/
noncomputable def Tryz.pinned : Pinned := { name := "ytbhhgbgfaemfdaagreatdoor", sum := "e18f88bb51817013585459b9ce2d7e19c55b6ef564453012dea680b78d6f977e", checked := Tryz.checked }
namespace Rows
def none {H : Type} : Left H := { results := [], args := [] }

/- WHAT THE LISTED PACKAGE-LEVEL VARIABLES READ AS WHEN THE CALL BEGINS. Each datum BY PROGRAM (the guide's laid-datum.mjs) off the statement by which the dump's own 'gosem.cut.vars' lays the variable. In a bare row this is a premise. The card (YtbhhgbgfaemfdaaGreatDoorCards.lean) ties it to the program's text. -/
def laid_unicode_utf8_acceptRanges {H : Type} : DataW H := .agg [.agg [.lit (.int .u8 128), .lit (.int .u8 191)], .agg [.lit (.int .u8 160), .lit (.int .u8 191)], .agg [.lit (.int .u8 128), .lit (.int .u8 159)], .agg [.lit (.int .u8 144), .lit (.int .u8 191)], .agg [.lit (.int .u8 128), .lit (.int .u8 143)], .agg [.lit (.int .u8 0), .lit (.int .u8 0)], .agg [.lit (.int .u8 0), .lit (.int .u8 0)], .agg [.lit (.int .u8 0), .lit (.int .u8 0)], .agg [.lit (.int .u8 0), .lit (.int .u8 0)], .agg [.lit (.int .u8 0), .lit (.int .u8 0)], .agg [.lit (.int .u8 0), .lit (.int .u8 0)], .agg [.lit (.int .u8 0), .lit (.int .u8 0)], .agg [.lit (.int .u8 0), .lit (.int .u8 0)], .agg [.lit (.int .u8 0), .lit (.int .u8 0)], .agg [.lit (.int .u8 0), .lit (.int .u8 0)], .agg [.lit (.int .u8 0), .lit (.int .u8 0)]]
/-- One of Go's own tables, pinned by name: the form's constant. -/
def laid_unicode_utf8_first : DataW Unit := Go.Pinned.utf8First
def laid_math_bits_deBruijn32tab {H : Type} : DataW H := .agg [.lit (.int .u8 0), .lit (.int .u8 1), .lit (.int .u8 28), .lit (.int .u8 2), .lit (.int .u8 29), .lit (.int .u8 14), .lit (.int .u8 24), .lit (.int .u8 3), .lit (.int .u8 30), .lit (.int .u8 22), .lit (.int .u8 20), .lit (.int .u8 15), .lit (.int .u8 25), .lit (.int .u8 17), .lit (.int .u8 4), .lit (.int .u8 8), .lit (.int .u8 31), .lit (.int .u8 27), .lit (.int .u8 13), .lit (.int .u8 23), .lit (.int .u8 21), .lit (.int .u8 19), .lit (.int .u8 16), .lit (.int .u8 7), .lit (.int .u8 26), .lit (.int .u8 12), .lit (.int .u8 18), .lit (.int .u8 6), .lit (.int .u8 11), .lit (.int .u8 5), .lit (.int .u8 10), .lit (.int .u8 9)]
def laid_math_bits_deBruijn64tab {H : Type} : DataW H := .agg [.lit (.int .u8 0), .lit (.int .u8 1), .lit (.int .u8 56), .lit (.int .u8 2), .lit (.int .u8 57), .lit (.int .u8 49), .lit (.int .u8 28), .lit (.int .u8 3), .lit (.int .u8 61), .lit (.int .u8 58), .lit (.int .u8 42), .lit (.int .u8 50), .lit (.int .u8 38), .lit (.int .u8 29), .lit (.int .u8 17), .lit (.int .u8 4), .lit (.int .u8 62), .lit (.int .u8 47), .lit (.int .u8 59), .lit (.int .u8 36), .lit (.int .u8 45), .lit (.int .u8 43), .lit (.int .u8 51), .lit (.int .u8 22), .lit (.int .u8 53), .lit (.int .u8 39), .lit (.int .u8 33), .lit (.int .u8 30), .lit (.int .u8 24), .lit (.int .u8 18), .lit (.int .u8 12), .lit (.int .u8 5), .lit (.int .u8 63), .lit (.int .u8 55), .lit (.int .u8 48), .lit (.int .u8 27), .lit (.int .u8 60), .lit (.int .u8 41), .lit (.int .u8 37), .lit (.int .u8 16), .lit (.int .u8 46), .lit (.int .u8 35), .lit (.int .u8 44), .lit (.int .u8 21), .lit (.int .u8 52), .lit (.int .u8 32), .lit (.int .u8 23), .lit (.int .u8 11), .lit (.int .u8 54), .lit (.int .u8 26), .lit (.int .u8 40), .lit (.int .u8 15), .lit (.int .u8 34), .lit (.int .u8 20), .lit (.int .u8 31), .lit (.int .u8 10), .lit (.int .u8 25), .lit (.int .u8 14), .lit (.int .u8 19), .lit (.int .u8 9), .lit (.int .u8 13), .lit (.int .u8 8), .lit (.int .u8 7), .lit (.int .u8 6)]
def laid_internal_strconv_uint64pow10 {H : Type} : DataW H := .agg [.lit (.int .u64 1), .lit (.int .u64 10), .lit (.int .u64 100), .lit (.int .u64 1000), .lit (.int .u64 10000), .lit (.int .u64 100000), .lit (.int .u64 1000000), .lit (.int .u64 10000000), .lit (.int .u64 100000000), .lit (.int .u64 1000000000), .lit (.int .u64 10000000000), .lit (.int .u64 100000000000), .lit (.int .u64 1000000000000), .lit (.int .u64 10000000000000), .lit (.int .u64 100000000000000), .lit (.int .u64 1000000000000000), .lit (.int .u64 10000000000000000), .lit (.int .u64 100000000000000000), .lit (.int .u64 1000000000000000000), .lit (.int .u64 10000000000000000000)]

/-- 'cribblelaw11.SchemeSplits': WHATEVER THE INPUT: true; the input reads as it did. -/
def schemeSplitsSpec : ChangeSpec := { name := "schemeSplits", fn := fun _ => fun
  | [d] => { results := [.lit (.bool true)], args := [d] }
  | _ => none }
def schemeSplitsRow : OpenClaim := { program := "ytbhhgbgfaemfdaagreatdoor", sum := "e18f88bb51817013585459b9ce2d7e19c55b6ef564453012dea680b78d6f977e", func := "cribble/cribblelaw11.SchemeSplits", spec := "schemeSplits", inPlace := ["internal/bytealg.IndexByteString"], unfollowed := true, recurses := true, named := ["unicode/utf8.first", "unicode/utf8.acceptRanges"], plainKeys := false, apart := false, laid := [("unicode/utf8.acceptRanges", laid_unicode_utf8_acceptRanges), ("unicode/utf8.first", laid_unicode_utf8_first)] }
def SchemeSplitsSaid : Prop := schemeSplitsRow.holds Tryz.pinned (OpenSpec.ofChange schemeSplitsSpec)

/-- ITS FALSE NEIGHBOUR: 'it returns false'. Refute it at one input. -/
def schemeSplitsWrong : ChangeSpec := { name := "schemeSplits", fn := fun _ => fun
  | [d] => { results := [.lit (.bool false)], args := [d] }
  | _ => none }
def SchemeSplitsWrongFalsely : Prop := schemeSplitsRow.holds Tryz.pinned (OpenSpec.ofChange schemeSplitsWrong)

/-- 'cribblelaw11.SchemeFilters': WHATEVER THE INPUT: true; the input reads as it did. -/
def schemeFiltersSpec : ChangeSpec := { name := "schemeFilters", fn := fun _ => fun
  | [d1, d2] => { results := [.lit (.bool true)], args := [d1, d2] }
  | _ => none }
def schemeFiltersRow : OpenClaim := { program := "ytbhhgbgfaemfdaagreatdoor", sum := "e18f88bb51817013585459b9ce2d7e19c55b6ef564453012dea680b78d6f977e", func := "cribble/cribblelaw11.SchemeFilters", spec := "schemeFilters", inPlace := ["internal/bytealg.IndexByteString"], unfollowed := true, recurses := true, named := ["unicode/utf8.first", "unicode/utf8.acceptRanges"], plainKeys := false, apart := false, laid := [("unicode/utf8.acceptRanges", laid_unicode_utf8_acceptRanges), ("unicode/utf8.first", laid_unicode_utf8_first)] }
def SchemeFiltersSaid : Prop := schemeFiltersRow.holds Tryz.pinned (OpenSpec.ofChange schemeFiltersSpec)

/-- ITS FALSE NEIGHBOUR: 'it returns false'. Refute it at one input. -/
def schemeFiltersWrong : ChangeSpec := { name := "schemeFilters", fn := fun _ => fun
  | [d1, d2] => { results := [.lit (.bool false)], args := [d1, d2] }
  | _ => none }
def SchemeFiltersWrongFalsely : Prop := schemeFiltersRow.holds Tryz.pinned (OpenSpec.ofChange schemeFiltersWrong)

/-- 'cribblelaw11.SchemeSafe': WHATEVER THE INPUT: true; the input reads as it did. -/
def schemeSafeSpec : ChangeSpec := { name := "schemeSafe", fn := fun _ => fun
  | [d1, d2] => { results := [.lit (.bool true)], args := [d1, d2] }
  | _ => none }
def schemeSafeRow : OpenClaim := { program := "ytbhhgbgfaemfdaagreatdoor", sum := "e18f88bb51817013585459b9ce2d7e19c55b6ef564453012dea680b78d6f977e", func := "cribble/cribblelaw11.SchemeSafe", spec := "schemeSafe", inPlace := ["internal/bytealg.IndexByteString"], unfollowed := true, recurses := true, named := ["unicode/utf8.first", "unicode/utf8.acceptRanges"], plainKeys := false, apart := false, laid := [("unicode/utf8.acceptRanges", laid_unicode_utf8_acceptRanges), ("unicode/utf8.first", laid_unicode_utf8_first)] }
def SchemeSafeSaid : Prop := schemeSafeRow.holds Tryz.pinned (OpenSpec.ofChange schemeSafeSpec)

/-- ITS FALSE NEIGHBOUR: 'it returns false'. Refute it at one input. -/
def schemeSafeWrong : ChangeSpec := { name := "schemeSafe", fn := fun _ => fun
  | [d1, d2] => { results := [.lit (.bool false)], args := [d1, d2] }
  | _ => none }
def SchemeSafeWrongFalsely : Prop := schemeSafeRow.holds Tryz.pinned (OpenSpec.ofChange schemeSafeWrong)

/-- 'cribblelaw11.SchemeHides': WHATEVER THE INPUT: true; the input reads as it did. -/
def schemeHidesSpec : ChangeSpec := { name := "schemeHides", fn := fun _ => fun
  | [d1, d2, d3] => { results := [.lit (.bool true)], args := [d1, d2, d3] }
  | _ => none }
def schemeHidesRow : OpenClaim := { program := "ytbhhgbgfaemfdaagreatdoor", sum := "e18f88bb51817013585459b9ce2d7e19c55b6ef564453012dea680b78d6f977e", func := "cribble/cribblelaw11.SchemeHides", spec := "schemeHides", inPlace := ["internal/bytealg.IndexByteString"], unfollowed := true, recurses := true, named := ["unicode/utf8.first", "unicode/utf8.acceptRanges"], plainKeys := false, apart := false, laid := [("unicode/utf8.acceptRanges", laid_unicode_utf8_acceptRanges), ("unicode/utf8.first", laid_unicode_utf8_first)] }
def SchemeHidesSaid : Prop := schemeHidesRow.holds Tryz.pinned (OpenSpec.ofChange schemeHidesSpec)

/-- ITS FALSE NEIGHBOUR: 'it returns false'. Refute it at one input. -/
def schemeHidesWrong : ChangeSpec := { name := "schemeHides", fn := fun _ => fun
  | [d1, d2, d3] => { results := [.lit (.bool false)], args := [d1, d2, d3] }
  | _ => none }
def SchemeHidesWrongFalsely : Prop := schemeHidesRow.holds Tryz.pinned (OpenSpec.ofChange schemeHidesWrong)

/-- 'cribblelaw11.SchemeJoins': WHATEVER THE INPUT: true; the input reads as it did. -/
def schemeJoinsSpec : ChangeSpec := { name := "schemeJoins", fn := fun _ => fun
  | [d1, d2, d3] => { results := [.lit (.bool true)], args := [d1, d2, d3] }
  | _ => none }
def schemeJoinsRow : OpenClaim := { program := "ytbhhgbgfaemfdaagreatdoor", sum := "e18f88bb51817013585459b9ce2d7e19c55b6ef564453012dea680b78d6f977e", func := "cribble/cribblelaw11.SchemeJoins", spec := "schemeJoins", inPlace := ["internal/bytealg.IndexByteString"], unfollowed := true, recurses := true, named := ["unicode/utf8.first", "unicode/utf8.acceptRanges"], plainKeys := false, apart := false, laid := [("unicode/utf8.acceptRanges", laid_unicode_utf8_acceptRanges), ("unicode/utf8.first", laid_unicode_utf8_first)] }
def SchemeJoinsSaid : Prop := schemeJoinsRow.holds Tryz.pinned (OpenSpec.ofChange schemeJoinsSpec)

/-- ITS FALSE NEIGHBOUR: 'it returns false'. Refute it at one input. -/
def schemeJoinsWrong : ChangeSpec := { name := "schemeJoins", fn := fun _ => fun
  | [d1, d2, d3] => { results := [.lit (.bool false)], args := [d1, d2, d3] }
  | _ => none }
def SchemeJoinsWrongFalsely : Prop := schemeJoinsRow.holds Tryz.pinned (OpenSpec.ofChange schemeJoinsWrong)

/-- 'cribblelaw09.PrintTexts': WHATEVER THE INPUT: true; the input reads as it did. -/
def printTextsSpec : ChangeSpec := { name := "printTexts", fn := fun _ => fun
  | [d] => { results := [.lit (.bool true)], args := [d] }
  | _ => none }
def printTextsRow : OpenClaim := { program := "ytbhhgbgfaemfdaagreatdoor", sum := "e18f88bb51817013585459b9ce2d7e19c55b6ef564453012dea680b78d6f977e", func := "cribble/cribblelaw09.PrintTexts", spec := "printTexts", inPlace := ["internal/bytealg.IndexByteString", "internal/abi.NoEscape", "internal/bytealg.MakeNoZero"], unfollowed := true, recurses := true, named := ["internal/strconv.uint64pow10", "math/bits.deBruijn32tab", "math/bits.deBruijn64tab"], plainKeys := false, apart := false, laid := [("math/bits.deBruijn32tab", laid_math_bits_deBruijn32tab), ("math/bits.deBruijn64tab", laid_math_bits_deBruijn64tab), ("internal/strconv.uint64pow10", laid_internal_strconv_uint64pow10)] }
def PrintTextsSaid : Prop := printTextsRow.holds Tryz.pinned (OpenSpec.ofChange printTextsSpec)

/-- ITS FALSE NEIGHBOUR: 'it returns false'. Refute it at one input. -/
def printTextsWrong : ChangeSpec := { name := "printTexts", fn := fun _ => fun
  | [d] => { results := [.lit (.bool false)], args := [d] }
  | _ => none }
def PrintTextsWrongFalsely : Prop := printTextsRow.holds Tryz.pinned (OpenSpec.ofChange printTextsWrong)

/-- 'cribblelaw09.PrintBack': WHATEVER THE INPUT: true; the input reads as it did. -/
def printBackSpec : ChangeSpec := { name := "printBack", fn := fun _ => fun
  | [d1, d2] => { results := [.lit (.bool true)], args := [d1, d2] }
  | _ => none }
def printBackRow : OpenClaim := { program := "ytbhhgbgfaemfdaagreatdoor", sum := "e18f88bb51817013585459b9ce2d7e19c55b6ef564453012dea680b78d6f977e", func := "cribble/cribblelaw09.PrintBack", spec := "printBack", inPlace := ["internal/bytealg.IndexByteString", "internal/abi.NoEscape", "internal/bytealg.MakeNoZero"], unfollowed := true, recurses := true, named := ["internal/strconv.uint64pow10", "math/bits.deBruijn32tab", "math/bits.deBruijn64tab"], plainKeys := false, apart := false, laid := [("math/bits.deBruijn32tab", laid_math_bits_deBruijn32tab), ("math/bits.deBruijn64tab", laid_math_bits_deBruijn64tab), ("internal/strconv.uint64pow10", laid_internal_strconv_uint64pow10)] }
def PrintBackSaid : Prop := printBackRow.holds Tryz.pinned (OpenSpec.ofChange printBackSpec)

/-- ITS FALSE NEIGHBOUR: 'it returns false'. Refute it at one input. -/
def printBackWrong : ChangeSpec := { name := "printBack", fn := fun _ => fun
  | [d1, d2] => { results := [.lit (.bool false)], args := [d1, d2] }
  | _ => none }
def PrintBackWrongFalsely : Prop := printBackRow.holds Tryz.pinned (OpenSpec.ofChange printBackWrong)

/-- 'cribblelaw09.PrintChain': WHATEVER THE INPUT: true; the input reads as it did. -/
def printChainSpec : ChangeSpec := { name := "printChain", fn := fun _ => fun
  | [d1, d2, d3] => { results := [.lit (.bool true)], args := [d1, d2, d3] }
  | _ => none }
def printChainRow : OpenClaim := { program := "ytbhhgbgfaemfdaagreatdoor", sum := "e18f88bb51817013585459b9ce2d7e19c55b6ef564453012dea680b78d6f977e", func := "cribble/cribblelaw09.PrintChain", spec := "printChain", inPlace := ["internal/bytealg.IndexByteString", "internal/abi.NoEscape", "internal/bytealg.MakeNoZero"], unfollowed := true, recurses := true, named := ["internal/strconv.uint64pow10", "math/bits.deBruijn32tab", "math/bits.deBruijn64tab"], plainKeys := false, apart := false, laid := [("math/bits.deBruijn32tab", laid_math_bits_deBruijn32tab), ("math/bits.deBruijn64tab", laid_math_bits_deBruijn64tab), ("internal/strconv.uint64pow10", laid_internal_strconv_uint64pow10)] }
def PrintChainSaid : Prop := printChainRow.holds Tryz.pinned (OpenSpec.ofChange printChainSpec)

/-- ITS FALSE NEIGHBOUR: 'it returns false'. Refute it at one input. -/
def printChainWrong : ChangeSpec := { name := "printChain", fn := fun _ => fun
  | [d1, d2, d3] => { results := [.lit (.bool false)], args := [d1, d2, d3] }
  | _ => none }
def PrintChainWrongFalsely : Prop := printChainRow.holds Tryz.pinned (OpenSpec.ofChange printChainWrong)

/-- 'cribblelaw09.PrintBoths': WHATEVER THE INPUT: true; the input reads as it did. -/
def printBothsSpec : ChangeSpec := { name := "printBoths", fn := fun _ => fun
  | [d1, d2] => { results := [.lit (.bool true)], args := [d1, d2] }
  | _ => none }
def printBothsRow : OpenClaim := { program := "ytbhhgbgfaemfdaagreatdoor", sum := "e18f88bb51817013585459b9ce2d7e19c55b6ef564453012dea680b78d6f977e", func := "cribble/cribblelaw09.PrintBoths", spec := "printBoths", inPlace := ["internal/bytealg.IndexByteString", "internal/abi.NoEscape", "internal/bytealg.MakeNoZero"], unfollowed := true, recurses := true, named := ["internal/strconv.uint64pow10", "math/bits.deBruijn32tab", "math/bits.deBruijn64tab"], plainKeys := false, apart := false, laid := [("math/bits.deBruijn32tab", laid_math_bits_deBruijn32tab), ("math/bits.deBruijn64tab", laid_math_bits_deBruijn64tab), ("internal/strconv.uint64pow10", laid_internal_strconv_uint64pow10)] }
def PrintBothsSaid : Prop := printBothsRow.holds Tryz.pinned (OpenSpec.ofChange printBothsSpec)

/-- ITS FALSE NEIGHBOUR: 'it returns false'. Refute it at one input. -/
def printBothsWrong : ChangeSpec := { name := "printBoths", fn := fun _ => fun
  | [d1, d2] => { results := [.lit (.bool false)], args := [d1, d2] }
  | _ => none }
def PrintBothsWrongFalsely : Prop := printBothsRow.holds Tryz.pinned (OpenSpec.ofChange printBothsWrong)

/-- 'cribblelaw09.PrintWithin': WHATEVER THE INPUT: true; the input reads as it did. -/
def printWithinSpec : ChangeSpec := { name := "printWithin", fn := fun _ => fun
  | [d1, d2] => { results := [.lit (.bool true)], args := [d1, d2] }
  | _ => none }
def printWithinRow : OpenClaim := { program := "ytbhhgbgfaemfdaagreatdoor", sum := "e18f88bb51817013585459b9ce2d7e19c55b6ef564453012dea680b78d6f977e", func := "cribble/cribblelaw09.PrintWithin", spec := "printWithin", inPlace := ["internal/bytealg.IndexByteString", "internal/abi.NoEscape", "internal/bytealg.MakeNoZero"], unfollowed := true, recurses := true, named := ["internal/strconv.uint64pow10", "math/bits.deBruijn32tab", "math/bits.deBruijn64tab"], plainKeys := false, apart := false, laid := [("math/bits.deBruijn32tab", laid_math_bits_deBruijn32tab), ("math/bits.deBruijn64tab", laid_math_bits_deBruijn64tab), ("internal/strconv.uint64pow10", laid_internal_strconv_uint64pow10)] }
def PrintWithinSaid : Prop := printWithinRow.holds Tryz.pinned (OpenSpec.ofChange printWithinSpec)

/-- ITS FALSE NEIGHBOUR: 'it returns false'. Refute it at one input. -/
def printWithinWrong : ChangeSpec := { name := "printWithin", fn := fun _ => fun
  | [d1, d2] => { results := [.lit (.bool false)], args := [d1, d2] }
  | _ => none }
def PrintWithinWrongFalsely : Prop := printWithinRow.holds Tryz.pinned (OpenSpec.ofChange printWithinWrong)

/-- 'cribblelaw09.PrintBoth': WHATEVER THE INPUT: true; the input reads as it did. -/
def printBothSpec : ChangeSpec := { name := "printBoth", fn := fun _ => fun
  | [d1, d2] => { results := [.lit (.bool true)], args := [d1, d2] }
  | _ => none }
def printBothRow : OpenClaim := { program := "ytbhhgbgfaemfdaagreatdoor", sum := "e18f88bb51817013585459b9ce2d7e19c55b6ef564453012dea680b78d6f977e", func := "cribble/cribblelaw09.PrintBoth", spec := "printBoth", inPlace := ["internal/bytealg.IndexByteString", "internal/abi.NoEscape", "internal/bytealg.MakeNoZero"], unfollowed := true, recurses := true, named := ["internal/strconv.uint64pow10", "math/bits.deBruijn32tab", "math/bits.deBruijn64tab"], plainKeys := false, apart := false, laid := [("math/bits.deBruijn32tab", laid_math_bits_deBruijn32tab), ("math/bits.deBruijn64tab", laid_math_bits_deBruijn64tab), ("internal/strconv.uint64pow10", laid_internal_strconv_uint64pow10)] }
def PrintBothSaid : Prop := printBothRow.holds Tryz.pinned (OpenSpec.ofChange printBothSpec)

/-- ITS FALSE NEIGHBOUR: 'it returns false'. Refute it at one input. -/
def printBothWrong : ChangeSpec := { name := "printBoth", fn := fun _ => fun
  | [d1, d2] => { results := [.lit (.bool false)], args := [d1, d2] }
  | _ => none }
def PrintBothWrongFalsely : Prop := printBothRow.holds Tryz.pinned (OpenSpec.ofChange printBothWrong)

/- THE SECOND FORM. 'bulk': how many values and letters a reading holds, each counted each time it is reached (what is shared counts as often as it is met; a slice's spare places count too). A statement '..UptoSaid' is the law's where the arguments, and the package variables that the reading takes, are together of bulk at most 1048576: NARROWER than '..Said'. Prove '..Said' where nothing that the law and all that it calls make is longer than what came in: it says more and counts as full. Else prove '..UptoSaid'. A law counts once. -/
mutual
def uptoBulk {H : Type} : DataW H → Nat
  | .lit (.string bytes) => bytes.length + 1
  | .lit _ => 1
  | .nil => 1
  | .ptr d => uptoBulk d + 1
  | .slice elems spare => uptoBulkAll elems + uptoBulkAll spare + 1
  | .agg parts => uptoBulkAll parts + 1
  | .iface _ d => uptoBulk d + 1
  | .map entries => uptoBulkEntries entries + 1
  | .held _ => 1
def uptoBulkAll {H : Type} : List (DataW H) → Nat
  | [] => 0
  | d :: r => uptoBulk d + uptoBulkAll r
def uptoBulkEntries {H : Type} : List (Lit × DataW H) → Nat
  | [] => 0
  | x :: r => uptoBulkEntry x + uptoBulkEntries r
def uptoBulkEntry {H : Type} : Lit × DataW H → Nat
  | (.string bytes, d) => bytes.length + uptoBulk d + 1
  | (_, d) => uptoBulk d + 1
 end
def uptoSmall : (H : Type) → List (DataW H) → Bool := fun _ ds => decide (uptoBulkAll ds ≤ 1048576)
def OpenSpec.upto (s : _root_.Go.ChangeSpec) : _root_.Go.OpenSpec := { _root_.Go.OpenSpec.ofChange s with cond := some uptoSmall }

/-- 'cribblelaw11.SchemeSplits', WHERE WHAT IT READS IS OF BULK AT MOST 1048576: true; the input reads as it did. -/
def schemeSplitsUptoRow : OpenClaim := { program := "ytbhhgbgfaemfdaagreatdoor", sum := "e18f88bb51817013585459b9ce2d7e19c55b6ef564453012dea680b78d6f977e", func := "cribble/cribblelaw11.SchemeSplits", spec := "schemeSplits", inPlace := ["internal/bytealg.IndexByteString"], unfollowed := true, recurses := true, named := ["unicode/utf8.first", "unicode/utf8.acceptRanges"], plainKeys := false, apart := false, laid := [("unicode/utf8.acceptRanges", laid_unicode_utf8_acceptRanges), ("unicode/utf8.first", laid_unicode_utf8_first)], narrowed := true }
def SchemeSplitsUptoSaid : Prop := schemeSplitsUptoRow.holds Tryz.pinned (OpenSpec.upto schemeSplitsSpec)

/-- 'cribblelaw11.SchemeFilters', WHERE WHAT IT READS IS OF BULK AT MOST 1048576: true; the input reads as it did. -/
def schemeFiltersUptoRow : OpenClaim := { program := "ytbhhgbgfaemfdaagreatdoor", sum := "e18f88bb51817013585459b9ce2d7e19c55b6ef564453012dea680b78d6f977e", func := "cribble/cribblelaw11.SchemeFilters", spec := "schemeFilters", inPlace := ["internal/bytealg.IndexByteString"], unfollowed := true, recurses := true, named := ["unicode/utf8.first", "unicode/utf8.acceptRanges"], plainKeys := false, apart := false, laid := [("unicode/utf8.acceptRanges", laid_unicode_utf8_acceptRanges), ("unicode/utf8.first", laid_unicode_utf8_first)], narrowed := true }
def SchemeFiltersUptoSaid : Prop := schemeFiltersUptoRow.holds Tryz.pinned (OpenSpec.upto schemeFiltersSpec)

/-- 'cribblelaw11.SchemeSafe', WHERE WHAT IT READS IS OF BULK AT MOST 1048576: true; the input reads as it did. -/
def schemeSafeUptoRow : OpenClaim := { program := "ytbhhgbgfaemfdaagreatdoor", sum := "e18f88bb51817013585459b9ce2d7e19c55b6ef564453012dea680b78d6f977e", func := "cribble/cribblelaw11.SchemeSafe", spec := "schemeSafe", inPlace := ["internal/bytealg.IndexByteString"], unfollowed := true, recurses := true, named := ["unicode/utf8.first", "unicode/utf8.acceptRanges"], plainKeys := false, apart := false, laid := [("unicode/utf8.acceptRanges", laid_unicode_utf8_acceptRanges), ("unicode/utf8.first", laid_unicode_utf8_first)], narrowed := true }
def SchemeSafeUptoSaid : Prop := schemeSafeUptoRow.holds Tryz.pinned (OpenSpec.upto schemeSafeSpec)

/-- 'cribblelaw11.SchemeHides', WHERE WHAT IT READS IS OF BULK AT MOST 1048576: true; the input reads as it did. -/
def schemeHidesUptoRow : OpenClaim := { program := "ytbhhgbgfaemfdaagreatdoor", sum := "e18f88bb51817013585459b9ce2d7e19c55b6ef564453012dea680b78d6f977e", func := "cribble/cribblelaw11.SchemeHides", spec := "schemeHides", inPlace := ["internal/bytealg.IndexByteString"], unfollowed := true, recurses := true, named := ["unicode/utf8.first", "unicode/utf8.acceptRanges"], plainKeys := false, apart := false, laid := [("unicode/utf8.acceptRanges", laid_unicode_utf8_acceptRanges), ("unicode/utf8.first", laid_unicode_utf8_first)], narrowed := true }
def SchemeHidesUptoSaid : Prop := schemeHidesUptoRow.holds Tryz.pinned (OpenSpec.upto schemeHidesSpec)

/-- 'cribblelaw11.SchemeJoins', WHERE WHAT IT READS IS OF BULK AT MOST 1048576: true; the input reads as it did. -/
def schemeJoinsUptoRow : OpenClaim := { program := "ytbhhgbgfaemfdaagreatdoor", sum := "e18f88bb51817013585459b9ce2d7e19c55b6ef564453012dea680b78d6f977e", func := "cribble/cribblelaw11.SchemeJoins", spec := "schemeJoins", inPlace := ["internal/bytealg.IndexByteString"], unfollowed := true, recurses := true, named := ["unicode/utf8.first", "unicode/utf8.acceptRanges"], plainKeys := false, apart := false, laid := [("unicode/utf8.acceptRanges", laid_unicode_utf8_acceptRanges), ("unicode/utf8.first", laid_unicode_utf8_first)], narrowed := true }
def SchemeJoinsUptoSaid : Prop := schemeJoinsUptoRow.holds Tryz.pinned (OpenSpec.upto schemeJoinsSpec)

/-- 'cribblelaw09.PrintTexts', WHERE WHAT IT READS IS OF BULK AT MOST 1048576: true; the input reads as it did. -/
def printTextsUptoRow : OpenClaim := { program := "ytbhhgbgfaemfdaagreatdoor", sum := "e18f88bb51817013585459b9ce2d7e19c55b6ef564453012dea680b78d6f977e", func := "cribble/cribblelaw09.PrintTexts", spec := "printTexts", inPlace := ["internal/bytealg.IndexByteString", "internal/abi.NoEscape", "internal/bytealg.MakeNoZero"], unfollowed := true, recurses := true, named := ["internal/strconv.uint64pow10", "math/bits.deBruijn32tab", "math/bits.deBruijn64tab"], plainKeys := false, apart := false, laid := [("math/bits.deBruijn32tab", laid_math_bits_deBruijn32tab), ("math/bits.deBruijn64tab", laid_math_bits_deBruijn64tab), ("internal/strconv.uint64pow10", laid_internal_strconv_uint64pow10)], narrowed := true }
def PrintTextsUptoSaid : Prop := printTextsUptoRow.holds Tryz.pinned (OpenSpec.upto printTextsSpec)

/-- 'cribblelaw09.PrintBack', WHERE WHAT IT READS IS OF BULK AT MOST 1048576: true; the input reads as it did. -/
def printBackUptoRow : OpenClaim := { program := "ytbhhgbgfaemfdaagreatdoor", sum := "e18f88bb51817013585459b9ce2d7e19c55b6ef564453012dea680b78d6f977e", func := "cribble/cribblelaw09.PrintBack", spec := "printBack", inPlace := ["internal/bytealg.IndexByteString", "internal/abi.NoEscape", "internal/bytealg.MakeNoZero"], unfollowed := true, recurses := true, named := ["internal/strconv.uint64pow10", "math/bits.deBruijn32tab", "math/bits.deBruijn64tab"], plainKeys := false, apart := false, laid := [("math/bits.deBruijn32tab", laid_math_bits_deBruijn32tab), ("math/bits.deBruijn64tab", laid_math_bits_deBruijn64tab), ("internal/strconv.uint64pow10", laid_internal_strconv_uint64pow10)], narrowed := true }
def PrintBackUptoSaid : Prop := printBackUptoRow.holds Tryz.pinned (OpenSpec.upto printBackSpec)

/-- 'cribblelaw09.PrintChain', WHERE WHAT IT READS IS OF BULK AT MOST 1048576: true; the input reads as it did. -/
def printChainUptoRow : OpenClaim := { program := "ytbhhgbgfaemfdaagreatdoor", sum := "e18f88bb51817013585459b9ce2d7e19c55b6ef564453012dea680b78d6f977e", func := "cribble/cribblelaw09.PrintChain", spec := "printChain", inPlace := ["internal/bytealg.IndexByteString", "internal/abi.NoEscape", "internal/bytealg.MakeNoZero"], unfollowed := true, recurses := true, named := ["internal/strconv.uint64pow10", "math/bits.deBruijn32tab", "math/bits.deBruijn64tab"], plainKeys := false, apart := false, laid := [("math/bits.deBruijn32tab", laid_math_bits_deBruijn32tab), ("math/bits.deBruijn64tab", laid_math_bits_deBruijn64tab), ("internal/strconv.uint64pow10", laid_internal_strconv_uint64pow10)], narrowed := true }
def PrintChainUptoSaid : Prop := printChainUptoRow.holds Tryz.pinned (OpenSpec.upto printChainSpec)

/-- 'cribblelaw09.PrintBoths', WHERE WHAT IT READS IS OF BULK AT MOST 1048576: true; the input reads as it did. -/
def printBothsUptoRow : OpenClaim := { program := "ytbhhgbgfaemfdaagreatdoor", sum := "e18f88bb51817013585459b9ce2d7e19c55b6ef564453012dea680b78d6f977e", func := "cribble/cribblelaw09.PrintBoths", spec := "printBoths", inPlace := ["internal/bytealg.IndexByteString", "internal/abi.NoEscape", "internal/bytealg.MakeNoZero"], unfollowed := true, recurses := true, named := ["internal/strconv.uint64pow10", "math/bits.deBruijn32tab", "math/bits.deBruijn64tab"], plainKeys := false, apart := false, laid := [("math/bits.deBruijn32tab", laid_math_bits_deBruijn32tab), ("math/bits.deBruijn64tab", laid_math_bits_deBruijn64tab), ("internal/strconv.uint64pow10", laid_internal_strconv_uint64pow10)], narrowed := true }
def PrintBothsUptoSaid : Prop := printBothsUptoRow.holds Tryz.pinned (OpenSpec.upto printBothsSpec)

/-- 'cribblelaw09.PrintWithin', WHERE WHAT IT READS IS OF BULK AT MOST 1048576: true; the input reads as it did. -/
def printWithinUptoRow : OpenClaim := { program := "ytbhhgbgfaemfdaagreatdoor", sum := "e18f88bb51817013585459b9ce2d7e19c55b6ef564453012dea680b78d6f977e", func := "cribble/cribblelaw09.PrintWithin", spec := "printWithin", inPlace := ["internal/bytealg.IndexByteString", "internal/abi.NoEscape", "internal/bytealg.MakeNoZero"], unfollowed := true, recurses := true, named := ["internal/strconv.uint64pow10", "math/bits.deBruijn32tab", "math/bits.deBruijn64tab"], plainKeys := false, apart := false, laid := [("math/bits.deBruijn32tab", laid_math_bits_deBruijn32tab), ("math/bits.deBruijn64tab", laid_math_bits_deBruijn64tab), ("internal/strconv.uint64pow10", laid_internal_strconv_uint64pow10)], narrowed := true }
def PrintWithinUptoSaid : Prop := printWithinUptoRow.holds Tryz.pinned (OpenSpec.upto printWithinSpec)

/-- 'cribblelaw09.PrintBoth', WHERE WHAT IT READS IS OF BULK AT MOST 1048576: true; the input reads as it did. -/
def printBothUptoRow : OpenClaim := { program := "ytbhhgbgfaemfdaagreatdoor", sum := "e18f88bb51817013585459b9ce2d7e19c55b6ef564453012dea680b78d6f977e", func := "cribble/cribblelaw09.PrintBoth", spec := "printBoth", inPlace := ["internal/bytealg.IndexByteString", "internal/abi.NoEscape", "internal/bytealg.MakeNoZero"], unfollowed := true, recurses := true, named := ["internal/strconv.uint64pow10", "math/bits.deBruijn32tab", "math/bits.deBruijn64tab"], plainKeys := false, apart := false, laid := [("math/bits.deBruijn32tab", laid_math_bits_deBruijn32tab), ("math/bits.deBruijn64tab", laid_math_bits_deBruijn64tab), ("internal/strconv.uint64pow10", laid_internal_strconv_uint64pow10)], narrowed := true }
def PrintBothUptoSaid : Prop := printBothUptoRow.holds Tryz.pinned (OpenSpec.upto printBothSpec)

end Rows
end Go.Proofs.YtbhhgbgfaemfdaaGreatDoor
