/-
  No cell of these rows narrows 'for every input' (looked for: loops, veiled, ifaces, maps, wideKeys, modest, calm, conditions, laid).
  DERIVED. THE GIVEN ROWS OF THIS SEAT. 5 by the template 'for every input the law returns true; each argument reads behind the call as it read before'; 0 by the template 'total and deterministic' (their statements: YtbhhgbgfaemfdaaGreatTotals.lean).
  GIVEN WITH THE SEED: the statements are not yours to turn. If you find one false, say at which input.
  Laid BY PROGRAM, IN A SANDBOX (cutbox-rows.mjs): the forced cells as the released guide's own fill.sh prints them over the translation 321bc0e93deacb2e… (all of the seat's roots in one cut). By AI agents, Wed Nov 11 2026. No macro, syntax, notation, axiom, sorry.
-/
import Derived.Test.YtbhhgbgfaemfdaaGreatChecked
import GoSem.Claim
import GoSem.ClaimJoined
import GoSem.ClaimMapViews
import Derived.JoinedTies
import Derived.KernelRfl
namespace Go.Proofs.YtbhhgbgfaemfdaaGreat
/- THE CELL 'sum', in the pinned program and in every row, IS THE sha256 OF THE DUMP (.gsa) THAT YtbhhgbgfaemfdaaGreatProg.lean LOADS. Nothing in Lean hashes anything: it is a label: what it is worth is what the hold of that sum in a sandbox is worth. -/
noncomputable def Tryz.pinned : Pinned := { name := "ytbhhgbgfaemfdaagreat", sum := "321bc0e93deacb2e1197e23b4f70c1c3b5d5319c3d56e8c64e4ccdb509845494", checked := Tryz.checked }
namespace Rows
def none {H : Type} : Left H := { results := [], args := [] }

/-- 'cribblelaw10.CompileSafe': WHATEVER THE INPUT: true; the input reads as it did. -/
def compileSafeSpec : ChangeSpec := { name := "compileSafe", fn := fun _ => fun
  | [d1, d2, d3] => { results := [.lit (.bool true)], args := [d1, d2, d3] }
  | _ => none }
def compileSafeRow : OpenClaim := { program := "ytbhhgbgfaemfdaagreat", sum := "321bc0e93deacb2e1197e23b4f70c1c3b5d5319c3d56e8c64e4ccdb509845494", func := "cribble/cribblelaw10.CompileSafe", spec := "compileSafe", inPlace := ["internal/bytealg.IndexByteString"], unfollowed := true, recurses := true, plainKeys := false, apart := false }
def CompileSafeSaid : Prop := compileSafeRow.holds Tryz.pinned (OpenSpec.ofChange compileSafeSpec)

/-- ITS FALSE NEIGHBOUR: 'it returns false'. Refute it at one input. -/
def compileSafeWrong : ChangeSpec := { name := "compileSafe", fn := fun _ => fun
  | [d1, d2, d3] => { results := [.lit (.bool false)], args := [d1, d2, d3] }
  | _ => none }
def CompileSafeWrongFalsely : Prop := compileSafeRow.holds Tryz.pinned (OpenSpec.ofChange compileSafeWrong)

/-- 'cribblelaw10.CompileNews': WHATEVER THE INPUT: true; the input reads as it did. -/
def compileNewsSpec : ChangeSpec := { name := "compileNews", fn := fun _ => fun
  | [d1, d2, d3] => { results := [.lit (.bool true)], args := [d1, d2, d3] }
  | _ => none }
def compileNewsRow : OpenClaim := { program := "ytbhhgbgfaemfdaagreat", sum := "321bc0e93deacb2e1197e23b4f70c1c3b5d5319c3d56e8c64e4ccdb509845494", func := "cribble/cribblelaw10.CompileNews", spec := "compileNews", inPlace := ["internal/bytealg.IndexByteString"], unfollowed := true, recurses := true, plainKeys := false, apart := false }
def CompileNewsSaid : Prop := compileNewsRow.holds Tryz.pinned (OpenSpec.ofChange compileNewsSpec)

/-- ITS FALSE NEIGHBOUR: 'it returns false'. Refute it at one input. -/
def compileNewsWrong : ChangeSpec := { name := "compileNews", fn := fun _ => fun
  | [d1, d2, d3] => { results := [.lit (.bool false)], args := [d1, d2, d3] }
  | _ => none }
def CompileNewsWrongFalsely : Prop := compileNewsRow.holds Tryz.pinned (OpenSpec.ofChange compileNewsWrong)

/-- 'cribblelaw10.CompileParses': WHATEVER THE INPUT: true; the input reads as it did. -/
def compileParsesSpec : ChangeSpec := { name := "compileParses", fn := fun _ => fun
  | [d1, d2, d3] => { results := [.lit (.bool true)], args := [d1, d2, d3] }
  | _ => none }
def compileParsesRow : OpenClaim := { program := "ytbhhgbgfaemfdaagreat", sum := "321bc0e93deacb2e1197e23b4f70c1c3b5d5319c3d56e8c64e4ccdb509845494", func := "cribble/cribblelaw10.CompileParses", spec := "compileParses", inPlace := ["internal/bytealg.IndexByteString"], unfollowed := true, recurses := true, plainKeys := false, apart := false }
def CompileParsesSaid : Prop := compileParsesRow.holds Tryz.pinned (OpenSpec.ofChange compileParsesSpec)

/-- ITS FALSE NEIGHBOUR: 'it returns false'. Refute it at one input. -/
def compileParsesWrong : ChangeSpec := { name := "compileParses", fn := fun _ => fun
  | [d1, d2, d3] => { results := [.lit (.bool false)], args := [d1, d2, d3] }
  | _ => none }
def CompileParsesWrongFalsely : Prop := compileParsesRow.holds Tryz.pinned (OpenSpec.ofChange compileParsesWrong)

/-- 'cribblelaw10.CompileWords': WHATEVER THE INPUT: true; the input reads as it did. -/
def compileWordsSpec : ChangeSpec := { name := "compileWords", fn := fun _ => fun
  | [d] => { results := [.lit (.bool true)], args := [d] }
  | _ => none }
def compileWordsRow : OpenClaim := { program := "ytbhhgbgfaemfdaagreat", sum := "321bc0e93deacb2e1197e23b4f70c1c3b5d5319c3d56e8c64e4ccdb509845494", func := "cribble/cribblelaw10.CompileWords", spec := "compileWords", inPlace := ["internal/bytealg.IndexByteString"], unfollowed := true, recurses := true, plainKeys := false, apart := false }
def CompileWordsSaid : Prop := compileWordsRow.holds Tryz.pinned (OpenSpec.ofChange compileWordsSpec)

/-- ITS FALSE NEIGHBOUR: 'it returns false'. Refute it at one input. -/
def compileWordsWrong : ChangeSpec := { name := "compileWords", fn := fun _ => fun
  | [d] => { results := [.lit (.bool false)], args := [d] }
  | _ => none }
def CompileWordsWrongFalsely : Prop := compileWordsRow.holds Tryz.pinned (OpenSpec.ofChange compileWordsWrong)

/-- 'cribblelaw10.CompileWider': WHATEVER THE INPUT: true; the input reads as it did. -/
def compileWiderSpec : ChangeSpec := { name := "compileWider", fn := fun _ => fun
  | [d1, d2, d3] => { results := [.lit (.bool true)], args := [d1, d2, d3] }
  | _ => none }
def compileWiderRow : OpenClaim := { program := "ytbhhgbgfaemfdaagreat", sum := "321bc0e93deacb2e1197e23b4f70c1c3b5d5319c3d56e8c64e4ccdb509845494", func := "cribble/cribblelaw10.CompileWider", spec := "compileWider", inPlace := ["internal/bytealg.IndexByteString"], unfollowed := true, recurses := true, plainKeys := false, apart := false }
def CompileWiderSaid : Prop := compileWiderRow.holds Tryz.pinned (OpenSpec.ofChange compileWiderSpec)

/-- ITS FALSE NEIGHBOUR: 'it returns false'. Refute it at one input. -/
def compileWiderWrong : ChangeSpec := { name := "compileWider", fn := fun _ => fun
  | [d1, d2, d3] => { results := [.lit (.bool false)], args := [d1, d2, d3] }
  | _ => none }
def CompileWiderWrongFalsely : Prop := compileWiderRow.holds Tryz.pinned (OpenSpec.ofChange compileWiderWrong)

/- THE SECOND FORM. 'bulk': how many values and letters a reading holds, each counted each time it is reached (what is shared counts as often as it is met; a slice's spare places count too). A statement '..UptoSaid' is the law's where the arguments, and the package variables that the reading takes, are together of bulk at most 1048576: NARROWER than '..Said'. Prove '..Said' where nothing that the law and all that it calls make is longer than what came in: it says more and counts as full. Else prove '..UptoSaid'. A law counts once. -/
mutual
def uptoBulk {H : Type} : DataW H → Nat
  | .lit (.string bytes) => bytes.length + 1
  | .lit _ => 1
  | .nil => 1
  | .ptr d => uptoBulk d + 1
  | .slice elems spare => uptoBulkAll elems + uptoBulkAll spare + 1
  | .agg parts => uptoBulkAll parts + 1
  | .iface _ d => uptoBulk d + 1
  | .map entries => uptoBulkEntries entries + 1
  | .held _ => 1
def uptoBulkAll {H : Type} : List (DataW H) → Nat
  | [] => 0
  | d :: r => uptoBulk d + uptoBulkAll r
def uptoBulkEntries {H : Type} : List (Lit × DataW H) → Nat
  | [] => 0
  | x :: r => uptoBulkEntry x + uptoBulkEntries r
def uptoBulkEntry {H : Type} : Lit × DataW H → Nat
  | (.string bytes, d) => bytes.length + uptoBulk d + 1
  | (_, d) => uptoBulk d + 1
 end
def uptoSmall : (H : Type) → List (DataW H) → Bool := fun _ ds => decide (uptoBulkAll ds ≤ 1048576)
def OpenSpec.upto (s : _root_.Go.ChangeSpec) : _root_.Go.OpenSpec := { _root_.Go.OpenSpec.ofChange s with cond := some uptoSmall }

/-- 'cribblelaw10.CompileSafe', WHERE WHAT IT READS IS OF BULK AT MOST 1048576: true; the input reads as it did. -/
def compileSafeUptoRow : OpenClaim := { program := "ytbhhgbgfaemfdaagreat", sum := "321bc0e93deacb2e1197e23b4f70c1c3b5d5319c3d56e8c64e4ccdb509845494", func := "cribble/cribblelaw10.CompileSafe", spec := "compileSafe", inPlace := ["internal/bytealg.IndexByteString"], unfollowed := true, recurses := true, plainKeys := false, apart := false, narrowed := true }
def CompileSafeUptoSaid : Prop := compileSafeUptoRow.holds Tryz.pinned (OpenSpec.upto compileSafeSpec)

/-- 'cribblelaw10.CompileNews', WHERE WHAT IT READS IS OF BULK AT MOST 1048576: true; the input reads as it did. -/
def compileNewsUptoRow : OpenClaim := { program := "ytbhhgbgfaemfdaagreat", sum := "321bc0e93deacb2e1197e23b4f70c1c3b5d5319c3d56e8c64e4ccdb509845494", func := "cribble/cribblelaw10.CompileNews", spec := "compileNews", inPlace := ["internal/bytealg.IndexByteString"], unfollowed := true, recurses := true, plainKeys := false, apart := false, narrowed := true }
def CompileNewsUptoSaid : Prop := compileNewsUptoRow.holds Tryz.pinned (OpenSpec.upto compileNewsSpec)

/-- 'cribblelaw10.CompileParses', WHERE WHAT IT READS IS OF BULK AT MOST 1048576: true; the input reads as it did. -/
def compileParsesUptoRow : OpenClaim := { program := "ytbhhgbgfaemfdaagreat", sum := "321bc0e93deacb2e1197e23b4f70c1c3b5d5319c3d56e8c64e4ccdb509845494", func := "cribble/cribblelaw10.CompileParses", spec := "compileParses", inPlace := ["internal/bytealg.IndexByteString"], unfollowed := true, recurses := true, plainKeys := false, apart := false, narrowed := true }
def CompileParsesUptoSaid : Prop := compileParsesUptoRow.holds Tryz.pinned (OpenSpec.upto compileParsesSpec)

/-- 'cribblelaw10.CompileWords', WHERE WHAT IT READS IS OF BULK AT MOST 1048576: true; the input reads as it did. -/
def compileWordsUptoRow : OpenClaim := { program := "ytbhhgbgfaemfdaagreat", sum := "321bc0e93deacb2e1197e23b4f70c1c3b5d5319c3d56e8c64e4ccdb509845494", func := "cribble/cribblelaw10.CompileWords", spec := "compileWords", inPlace := ["internal/bytealg.IndexByteString"], unfollowed := true, recurses := true, plainKeys := false, apart := false, narrowed := true }
def CompileWordsUptoSaid : Prop := compileWordsUptoRow.holds Tryz.pinned (OpenSpec.upto compileWordsSpec)

/-- 'cribblelaw10.CompileWider', WHERE WHAT IT READS IS OF BULK AT MOST 1048576: true; the input reads as it did. -/
def compileWiderUptoRow : OpenClaim := { program := "ytbhhgbgfaemfdaagreat", sum := "321bc0e93deacb2e1197e23b4f70c1c3b5d5319c3d56e8c64e4ccdb509845494", func := "cribble/cribblelaw10.CompileWider", spec := "compileWider", inPlace := ["internal/bytealg.IndexByteString"], unfollowed := true, recurses := true, plainKeys := false, apart := false, narrowed := true }
def CompileWiderUptoSaid : Prop := compileWiderUptoRow.holds Tryz.pinned (OpenSpec.upto compileWiderSpec)

end Rows
end Go.Proofs.YtbhhgbgfaemfdaaGreat
