/-
  No cell of these rows narrows 'for every input' (looked for: loops, veiled, ifaces, maps, wideKeys, modest, calm, conditions, laid).
  DERIVED. THE GIVEN ROWS OF THIS SEAT. 7 by the template 'for every input the law returns true; each argument reads behind the call as it read before'; 0 by the template 'total and deterministic' (their statements: YtendepongefklaaTotals.lean).
  GIVEN WITH THE SEED: the statements are not yours to turn. If you find one false, say at which input.
  Laid BY PROGRAM, IN A SANDBOX (cutbox-rows.mjs): the forced cells as the released guide's own fill.sh prints them over the translation 085762c40368aed3… (all of the seat's roots in one cut). By AI agents, Wed Nov 11 2026. No macro, syntax, notation, axiom, sorry.
-/
import Derived.Test.YtendepongefklaaChecked
import GoSem.Claim
import GoSem.ClaimJoined
import GoSem.ClaimMapViews
import Derived.JoinedTies
import Derived.KernelRfl
namespace Go.Proofs.Ytendepongefklaa
/- THE CELL 'sum', in the pinned program and in every row, IS THE sha256 OF THE DUMP (.gsa) THAT YtendepongefklaaProg.lean LOADS. Nothing in Lean hashes anything: it is a label: what it is worth is what the hold of that sum in a sandbox is worth. -/
noncomputable def Try.pinned : Pinned := { name := "ytendepongefklaa", sum := "085762c40368aed32b79f9f4ab16c73d964473c58ffc07f0bb4c602e50abf72f", checked := Try.checked }
namespace Rows
def none {H : Type} : Left H := { results := [], args := [] }

/-- 'cribblelaw15.TurnRuns': WHATEVER THE INPUT: true; the input reads as it did. -/
def turnRunsSpec : ChangeSpec := { name := "turnRuns", fn := fun _ => fun
  | [d1, d2, d3] => { results := [.lit (.bool true)], args := [d1, d2, d3] }
  | _ => none }
def turnRunsRow : OpenClaim := { program := "ytendepongefklaa", sum := "085762c40368aed32b79f9f4ab16c73d964473c58ffc07f0bb4c602e50abf72f", func := "cribble/cribblelaw15.TurnRuns", spec := "turnRuns", apart := false }
def TurnRunsSaid : Prop := turnRunsRow.holds Try.pinned (OpenSpec.ofChange turnRunsSpec)

/-- ITS FALSE NEIGHBOUR: 'it returns false'. Refute it at one input. -/
def turnRunsWrong : ChangeSpec := { name := "turnRuns", fn := fun _ => fun
  | [d1, d2, d3] => { results := [.lit (.bool false)], args := [d1, d2, d3] }
  | _ => none }
def TurnRunsWrongFalsely : Prop := turnRunsRow.holds Try.pinned (OpenSpec.ofChange turnRunsWrong)

/-- 'cribblelaw15.TurnNeats': WHATEVER THE INPUT: true; the input reads as it did. -/
def turnNeatsSpec : ChangeSpec := { name := "turnNeats", fn := fun _ => fun
  | [d] => { results := [.lit (.bool true)], args := [d] }
  | _ => none }
def turnNeatsRow : OpenClaim := { program := "ytendepongefklaa", sum := "085762c40368aed32b79f9f4ab16c73d964473c58ffc07f0bb4c602e50abf72f", func := "cribble/cribblelaw15.TurnNeats", spec := "turnNeats", apart := false }
def TurnNeatsSaid : Prop := turnNeatsRow.holds Try.pinned (OpenSpec.ofChange turnNeatsSpec)

/-- ITS FALSE NEIGHBOUR: 'it returns false'. Refute it at one input. -/
def turnNeatsWrong : ChangeSpec := { name := "turnNeats", fn := fun _ => fun
  | [d] => { results := [.lit (.bool false)], args := [d] }
  | _ => none }
def TurnNeatsWrongFalsely : Prop := turnNeatsRow.holds Try.pinned (OpenSpec.ofChange turnNeatsWrong)

/-- 'cribblelaw15.TurnSame': WHATEVER THE INPUT: true; the input reads as it did. -/
def turnSameSpec : ChangeSpec := { name := "turnSame", fn := fun _ => fun
  | [d1, d2, d3] => { results := [.lit (.bool true)], args := [d1, d2, d3] }
  | _ => none }
def turnSameRow : OpenClaim := { program := "ytendepongefklaa", sum := "085762c40368aed32b79f9f4ab16c73d964473c58ffc07f0bb4c602e50abf72f", func := "cribble/cribblelaw15.TurnSame", spec := "turnSame", apart := false }
def TurnSameSaid : Prop := turnSameRow.holds Try.pinned (OpenSpec.ofChange turnSameSpec)

/-- ITS FALSE NEIGHBOUR: 'it returns false'. Refute it at one input. -/
def turnSameWrong : ChangeSpec := { name := "turnSame", fn := fun _ => fun
  | [d1, d2, d3] => { results := [.lit (.bool false)], args := [d1, d2, d3] }
  | _ => none }
def TurnSameWrongFalsely : Prop := turnSameRow.holds Try.pinned (OpenSpec.ofChange turnSameWrong)

/-- 'cribblelaw15.TurnApart': WHATEVER THE INPUT: true; the input reads as it did. -/
def turnApartSpec : ChangeSpec := { name := "turnApart", fn := fun _ => fun
  | [d1, d2] => { results := [.lit (.bool true)], args := [d1, d2] }
  | _ => none }
def turnApartRow : OpenClaim := { program := "ytendepongefklaa", sum := "085762c40368aed32b79f9f4ab16c73d964473c58ffc07f0bb4c602e50abf72f", func := "cribble/cribblelaw15.TurnApart", spec := "turnApart", apart := false }
def TurnApartSaid : Prop := turnApartRow.holds Try.pinned (OpenSpec.ofChange turnApartSpec)

/-- ITS FALSE NEIGHBOUR: 'it returns false'. Refute it at one input. -/
def turnApartWrong : ChangeSpec := { name := "turnApart", fn := fun _ => fun
  | [d1, d2] => { results := [.lit (.bool false)], args := [d1, d2] }
  | _ => none }
def TurnApartWrongFalsely : Prop := turnApartRow.holds Try.pinned (OpenSpec.ofChange turnApartWrong)

/-- 'cribblelaw15.TurnBack': WHATEVER THE INPUT: true; the input reads as it did. -/
def turnBackSpec : ChangeSpec := { name := "turnBack", fn := fun _ => fun
  | [d1, d2, d3] => { results := [.lit (.bool true)], args := [d1, d2, d3] }
  | _ => none }
def turnBackRow : OpenClaim := { program := "ytendepongefklaa", sum := "085762c40368aed32b79f9f4ab16c73d964473c58ffc07f0bb4c602e50abf72f", func := "cribble/cribblelaw15.TurnBack", spec := "turnBack", apart := false }
def TurnBackSaid : Prop := turnBackRow.holds Try.pinned (OpenSpec.ofChange turnBackSpec)

/-- ITS FALSE NEIGHBOUR: 'it returns false'. Refute it at one input. -/
def turnBackWrong : ChangeSpec := { name := "turnBack", fn := fun _ => fun
  | [d1, d2, d3] => { results := [.lit (.bool false)], args := [d1, d2, d3] }
  | _ => none }
def TurnBackWrongFalsely : Prop := turnBackRow.holds Try.pinned (OpenSpec.ofChange turnBackWrong)

/-- 'cribblelaw15.TurnJoins': WHATEVER THE INPUT: true; the input reads as it did. -/
def turnJoinsSpec : ChangeSpec := { name := "turnJoins", fn := fun _ => fun
  | [d1, d2, d3] => { results := [.lit (.bool true)], args := [d1, d2, d3] }
  | _ => none }
def turnJoinsRow : OpenClaim := { program := "ytendepongefklaa", sum := "085762c40368aed32b79f9f4ab16c73d964473c58ffc07f0bb4c602e50abf72f", func := "cribble/cribblelaw15.TurnJoins", spec := "turnJoins", apart := false }
def TurnJoinsSaid : Prop := turnJoinsRow.holds Try.pinned (OpenSpec.ofChange turnJoinsSpec)

/-- ITS FALSE NEIGHBOUR: 'it returns false'. Refute it at one input. -/
def turnJoinsWrong : ChangeSpec := { name := "turnJoins", fn := fun _ => fun
  | [d1, d2, d3] => { results := [.lit (.bool false)], args := [d1, d2, d3] }
  | _ => none }
def TurnJoinsWrongFalsely : Prop := turnJoinsRow.holds Try.pinned (OpenSpec.ofChange turnJoinsWrong)

/-- 'cribblelaw15.TurnFar': WHATEVER THE INPUT: true; the input reads as it did. -/
def turnFarSpec : ChangeSpec := { name := "turnFar", fn := fun _ => fun
  | [d1, d2, d3] => { results := [.lit (.bool true)], args := [d1, d2, d3] }
  | _ => none }
def turnFarRow : OpenClaim := { program := "ytendepongefklaa", sum := "085762c40368aed32b79f9f4ab16c73d964473c58ffc07f0bb4c602e50abf72f", func := "cribble/cribblelaw15.TurnFar", spec := "turnFar", apart := false }
def TurnFarSaid : Prop := turnFarRow.holds Try.pinned (OpenSpec.ofChange turnFarSpec)

/-- ITS FALSE NEIGHBOUR: 'it returns false'. Refute it at one input. -/
def turnFarWrong : ChangeSpec := { name := "turnFar", fn := fun _ => fun
  | [d1, d2, d3] => { results := [.lit (.bool false)], args := [d1, d2, d3] }
  | _ => none }
def TurnFarWrongFalsely : Prop := turnFarRow.holds Try.pinned (OpenSpec.ofChange turnFarWrong)

/- THE SECOND FORM. 'bulk': how many values and letters a reading holds, each counted each time it is reached (what is shared counts as often as it is met; a slice's spare places count too). A statement '..UptoSaid' is the law's where the arguments, and the package variables that the reading takes, are together of bulk at most 1048576: NARROWER than '..Said'. Prove '..Said' where nothing that the law and all that it calls make is longer than what came in: it says more and counts as full. Else prove '..UptoSaid'. A law counts once. -/
mutual
def uptoBulk {H : Type} : DataW H → Nat
  | .lit (.string bytes) => bytes.length + 1
  | .lit _ => 1
  | .nil => 1
  | .ptr d => uptoBulk d + 1
  | .slice elems spare => uptoBulkAll elems + uptoBulkAll spare + 1
  | .agg parts => uptoBulkAll parts + 1
  | .iface _ d => uptoBulk d + 1
  | .map entries => uptoBulkEntries entries + 1
  | .held _ => 1
def uptoBulkAll {H : Type} : List (DataW H) → Nat
  | [] => 0
  | d :: r => uptoBulk d + uptoBulkAll r
def uptoBulkEntries {H : Type} : List (Lit × DataW H) → Nat
  | [] => 0
  | x :: r => uptoBulkEntry x + uptoBulkEntries r
def uptoBulkEntry {H : Type} : Lit × DataW H → Nat
  | (.string bytes, d) => bytes.length + uptoBulk d + 1
  | (_, d) => uptoBulk d + 1
 end
def uptoSmall : (H : Type) → List (DataW H) → Bool := fun _ ds => decide (uptoBulkAll ds ≤ 1048576)
def OpenSpec.upto (s : _root_.Go.ChangeSpec) : _root_.Go.OpenSpec := { _root_.Go.OpenSpec.ofChange s with cond := some uptoSmall }

/-- 'cribblelaw15.TurnRuns', WHERE WHAT IT READS IS OF BULK AT MOST 1048576: true; the input reads as it did. -/
def turnRunsUptoRow : OpenClaim := { program := "ytendepongefklaa", sum := "085762c40368aed32b79f9f4ab16c73d964473c58ffc07f0bb4c602e50abf72f", func := "cribble/cribblelaw15.TurnRuns", spec := "turnRuns", apart := false, narrowed := true }
def TurnRunsUptoSaid : Prop := turnRunsUptoRow.holds Try.pinned (OpenSpec.upto turnRunsSpec)

/-- 'cribblelaw15.TurnNeats', WHERE WHAT IT READS IS OF BULK AT MOST 1048576: true; the input reads as it did. -/
def turnNeatsUptoRow : OpenClaim := { program := "ytendepongefklaa", sum := "085762c40368aed32b79f9f4ab16c73d964473c58ffc07f0bb4c602e50abf72f", func := "cribble/cribblelaw15.TurnNeats", spec := "turnNeats", apart := false, narrowed := true }
def TurnNeatsUptoSaid : Prop := turnNeatsUptoRow.holds Try.pinned (OpenSpec.upto turnNeatsSpec)

/-- 'cribblelaw15.TurnSame', WHERE WHAT IT READS IS OF BULK AT MOST 1048576: true; the input reads as it did. -/
def turnSameUptoRow : OpenClaim := { program := "ytendepongefklaa", sum := "085762c40368aed32b79f9f4ab16c73d964473c58ffc07f0bb4c602e50abf72f", func := "cribble/cribblelaw15.TurnSame", spec := "turnSame", apart := false, narrowed := true }
def TurnSameUptoSaid : Prop := turnSameUptoRow.holds Try.pinned (OpenSpec.upto turnSameSpec)

/-- 'cribblelaw15.TurnApart', WHERE WHAT IT READS IS OF BULK AT MOST 1048576: true; the input reads as it did. -/
def turnApartUptoRow : OpenClaim := { program := "ytendepongefklaa", sum := "085762c40368aed32b79f9f4ab16c73d964473c58ffc07f0bb4c602e50abf72f", func := "cribble/cribblelaw15.TurnApart", spec := "turnApart", apart := false, narrowed := true }
def TurnApartUptoSaid : Prop := turnApartUptoRow.holds Try.pinned (OpenSpec.upto turnApartSpec)

/-- 'cribblelaw15.TurnBack', WHERE WHAT IT READS IS OF BULK AT MOST 1048576: true; the input reads as it did. -/
def turnBackUptoRow : OpenClaim := { program := "ytendepongefklaa", sum := "085762c40368aed32b79f9f4ab16c73d964473c58ffc07f0bb4c602e50abf72f", func := "cribble/cribblelaw15.TurnBack", spec := "turnBack", apart := false, narrowed := true }
def TurnBackUptoSaid : Prop := turnBackUptoRow.holds Try.pinned (OpenSpec.upto turnBackSpec)

/-- 'cribblelaw15.TurnJoins', WHERE WHAT IT READS IS OF BULK AT MOST 1048576: true; the input reads as it did. -/
def turnJoinsUptoRow : OpenClaim := { program := "ytendepongefklaa", sum := "085762c40368aed32b79f9f4ab16c73d964473c58ffc07f0bb4c602e50abf72f", func := "cribble/cribblelaw15.TurnJoins", spec := "turnJoins", apart := false, narrowed := true }
def TurnJoinsUptoSaid : Prop := turnJoinsUptoRow.holds Try.pinned (OpenSpec.upto turnJoinsSpec)

/-- 'cribblelaw15.TurnFar', WHERE WHAT IT READS IS OF BULK AT MOST 1048576: true; the input reads as it did. -/
def turnFarUptoRow : OpenClaim := { program := "ytendepongefklaa", sum := "085762c40368aed32b79f9f4ab16c73d964473c58ffc07f0bb4c602e50abf72f", func := "cribble/cribblelaw15.TurnFar", spec := "turnFar", apart := false, narrowed := true }
def TurnFarUptoSaid : Prop := turnFarUptoRow.holds Try.pinned (OpenSpec.upto turnFarSpec)

end Rows
end Go.Proofs.Ytendepongefklaa
