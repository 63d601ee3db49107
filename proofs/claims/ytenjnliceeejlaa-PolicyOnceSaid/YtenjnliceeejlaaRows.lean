/-
  No cell of these rows narrows 'for every input' (looked for: loops, veiled, ifaces, maps, wideKeys, modest, calm, conditions, laid).
  DERIVED. THE GIVEN ROWS OF THIS SEAT. 4 by the template 'for every input the law returns true; each argument reads behind the call as it read before'; 0 by the template 'total and deterministic' (their statements: YtenjnliceeejlaaTotals.lean).
  GIVEN WITH THE SEED: the statements are not yours to turn. If you find one false, say at which input.
  Laid BY PROGRAM, IN A SANDBOX (cutbox-rows.mjs): the forced cells as the released guide's own fill.sh prints them over the translation bb2d68e988ac3a4e… (all of the seat's roots in one cut). By AI agents, Wed Nov 11 2026. No macro, syntax, notation, axiom, sorry.
-/
import Derived.Test.YtenjnliceeejlaaChecked
import GoSem.Claim
import GoSem.ClaimJoined
import GoSem.ClaimMapViews
import Derived.JoinedTies
import Derived.KernelRfl
namespace Go.Proofs.Ytenjnliceeejlaa
/- THE CELL 'sum', in the pinned program and in every row, IS THE sha256 OF THE DUMP (.gsa) THAT YtenjnliceeejlaaProg.lean LOADS. Nothing in Lean hashes anything: it is a label: what it is worth is what the hold of that sum in a sandbox is worth. -/
noncomputable def Try.pinned : Pinned := { name := "ytenjnliceeejlaa", sum := "bb2d68e988ac3a4e528aeab51d8abcbea59f029888b957189155d77a1c04342f", checked := Try.checked }
namespace Rows
def none {H : Type} : Left H := { results := [], args := [] }

/-- 'cribblelaw08.PolicyNeats': WHATEVER THE INPUT: true; the input reads as it did. -/
def policyNeatsSpec : ChangeSpec := { name := "policyNeats", fn := fun _ => fun
  | [d] => { results := [.lit (.bool true)], args := [d] }
  | _ => none }
def policyNeatsRow : OpenClaim := { program := "ytenjnliceeejlaa", sum := "bb2d68e988ac3a4e528aeab51d8abcbea59f029888b957189155d77a1c04342f", func := "cribble/cribblelaw08.PolicyNeats", spec := "policyNeats", inPlace := ["internal/bytealg.IndexByteString"], unfollowed := true, recurses := true, apart := false }
def PolicyNeatsSaid : Prop := policyNeatsRow.holds Try.pinned (OpenSpec.ofChange policyNeatsSpec)

/-- ITS FALSE NEIGHBOUR: 'it returns false'. Refute it at one input. -/
def policyNeatsWrong : ChangeSpec := { name := "policyNeats", fn := fun _ => fun
  | [d] => { results := [.lit (.bool false)], args := [d] }
  | _ => none }
def PolicyNeatsWrongFalsely : Prop := policyNeatsRow.holds Try.pinned (OpenSpec.ofChange policyNeatsWrong)

/-- 'cribblelaw08.PolicyRight': WHATEVER THE INPUT: true; the input reads as it did. -/
def policyRightSpec : ChangeSpec := { name := "policyRight", fn := fun _ => fun
  | [d1, d2] => { results := [.lit (.bool true)], args := [d1, d2] }
  | _ => none }
def policyRightRow : OpenClaim := { program := "ytenjnliceeejlaa", sum := "bb2d68e988ac3a4e528aeab51d8abcbea59f029888b957189155d77a1c04342f", func := "cribble/cribblelaw08.PolicyRight", spec := "policyRight", inPlace := ["internal/bytealg.IndexByteString"], unfollowed := true, recurses := true, apart := false }
def PolicyRightSaid : Prop := policyRightRow.holds Try.pinned (OpenSpec.ofChange policyRightSpec)

/-- ITS FALSE NEIGHBOUR: 'it returns false'. Refute it at one input. -/
def policyRightWrong : ChangeSpec := { name := "policyRight", fn := fun _ => fun
  | [d1, d2] => { results := [.lit (.bool false)], args := [d1, d2] }
  | _ => none }
def PolicyRightWrongFalsely : Prop := policyRightRow.holds Try.pinned (OpenSpec.ofChange policyRightWrong)

/-- 'cribblelaw08.PolicyTurned': WHATEVER THE INPUT: true; the input reads as it did. -/
def policyTurnedSpec : ChangeSpec := { name := "policyTurned", fn := fun _ => fun
  | [d1, d2] => { results := [.lit (.bool true)], args := [d1, d2] }
  | _ => none }
def policyTurnedRow : OpenClaim := { program := "ytenjnliceeejlaa", sum := "bb2d68e988ac3a4e528aeab51d8abcbea59f029888b957189155d77a1c04342f", func := "cribble/cribblelaw08.PolicyTurned", spec := "policyTurned", inPlace := ["internal/bytealg.IndexByteString"], unfollowed := true, recurses := true, apart := false }
def PolicyTurnedSaid : Prop := policyTurnedRow.holds Try.pinned (OpenSpec.ofChange policyTurnedSpec)

/-- ITS FALSE NEIGHBOUR: 'it returns false'. Refute it at one input. -/
def policyTurnedWrong : ChangeSpec := { name := "policyTurned", fn := fun _ => fun
  | [d1, d2] => { results := [.lit (.bool false)], args := [d1, d2] }
  | _ => none }
def PolicyTurnedWrongFalsely : Prop := policyTurnedRow.holds Try.pinned (OpenSpec.ofChange policyTurnedWrong)

/-- 'cribblelaw08.PolicyOnce': WHATEVER THE INPUT: true; the input reads as it did. -/
def policyOnceSpec : ChangeSpec := { name := "policyOnce", fn := fun _ => fun
  | [d1, d2] => { results := [.lit (.bool true)], args := [d1, d2] }
  | _ => none }
def policyOnceRow : OpenClaim := { program := "ytenjnliceeejlaa", sum := "bb2d68e988ac3a4e528aeab51d8abcbea59f029888b957189155d77a1c04342f", func := "cribble/cribblelaw08.PolicyOnce", spec := "policyOnce", inPlace := ["internal/bytealg.IndexByteString"], unfollowed := true, recurses := true, apart := false }
def PolicyOnceSaid : Prop := policyOnceRow.holds Try.pinned (OpenSpec.ofChange policyOnceSpec)

/-- ITS FALSE NEIGHBOUR: 'it returns false'. Refute it at one input. -/
def policyOnceWrong : ChangeSpec := { name := "policyOnce", fn := fun _ => fun
  | [d1, d2] => { results := [.lit (.bool false)], args := [d1, d2] }
  | _ => none }
def PolicyOnceWrongFalsely : Prop := policyOnceRow.holds Try.pinned (OpenSpec.ofChange policyOnceWrong)

/- THE SECOND FORM. 'bulk': how many values and letters a reading holds, each counted each time it is reached (what is shared counts as often as it is met; a slice's spare places count too). A statement '..UptoSaid' is the law's where the arguments, and the package variables that the reading takes, are together of bulk at most 1048576: NARROWER than '..Said'. Prove '..Said' where nothing that the law and all that it calls make is longer than what came in: it says more and counts as full. Else prove '..UptoSaid'. A law counts once. -/
mutual
def uptoBulk {H : Type} : DataW H → Nat
  | .lit (.string bytes) => bytes.length + 1
  | .lit _ => 1
  | .nil => 1
  | .ptr d => uptoBulk d + 1
  | .slice elems spare => uptoBulkAll elems + uptoBulkAll spare + 1
  | .agg parts => uptoBulkAll parts + 1
  | .iface _ d => uptoBulk d + 1
  | .map entries => uptoBulkEntries entries + 1
  | .held _ => 1
def uptoBulkAll {H : Type} : List (DataW H) → Nat
  | [] => 0
  | d :: r => uptoBulk d + uptoBulkAll r
def uptoBulkEntries {H : Type} : List (Lit × DataW H) → Nat
  | [] => 0
  | x :: r => uptoBulkEntry x + uptoBulkEntries r
def uptoBulkEntry {H : Type} : Lit × DataW H → Nat
  | (.string bytes, d) => bytes.length + uptoBulk d + 1
  | (_, d) => uptoBulk d + 1
 end
def uptoSmall : (H : Type) → List (DataW H) → Bool := fun _ ds => decide (uptoBulkAll ds ≤ 1048576)
def OpenSpec.upto (s : _root_.Go.ChangeSpec) : _root_.Go.OpenSpec := { _root_.Go.OpenSpec.ofChange s with cond := some uptoSmall }

/-- 'cribblelaw08.PolicyNeats', WHERE WHAT IT READS IS OF BULK AT MOST 1048576: true; the input reads as it did. -/
def policyNeatsUptoRow : OpenClaim := { program := "ytenjnliceeejlaa", sum := "bb2d68e988ac3a4e528aeab51d8abcbea59f029888b957189155d77a1c04342f", func := "cribble/cribblelaw08.PolicyNeats", spec := "policyNeats", inPlace := ["internal/bytealg.IndexByteString"], unfollowed := true, recurses := true, apart := false, narrowed := true }
def PolicyNeatsUptoSaid : Prop := policyNeatsUptoRow.holds Try.pinned (OpenSpec.upto policyNeatsSpec)

/-- 'cribblelaw08.PolicyRight', WHERE WHAT IT READS IS OF BULK AT MOST 1048576: true; the input reads as it did. -/
def policyRightUptoRow : OpenClaim := { program := "ytenjnliceeejlaa", sum := "bb2d68e988ac3a4e528aeab51d8abcbea59f029888b957189155d77a1c04342f", func := "cribble/cribblelaw08.PolicyRight", spec := "policyRight", inPlace := ["internal/bytealg.IndexByteString"], unfollowed := true, recurses := true, apart := false, narrowed := true }
def PolicyRightUptoSaid : Prop := policyRightUptoRow.holds Try.pinned (OpenSpec.upto policyRightSpec)

/-- 'cribblelaw08.PolicyTurned', WHERE WHAT IT READS IS OF BULK AT MOST 1048576: true; the input reads as it did. -/
def policyTurnedUptoRow : OpenClaim := { program := "ytenjnliceeejlaa", sum := "bb2d68e988ac3a4e528aeab51d8abcbea59f029888b957189155d77a1c04342f", func := "cribble/cribblelaw08.PolicyTurned", spec := "policyTurned", inPlace := ["internal/bytealg.IndexByteString"], unfollowed := true, recurses := true, apart := false, narrowed := true }
def PolicyTurnedUptoSaid : Prop := policyTurnedUptoRow.holds Try.pinned (OpenSpec.upto policyTurnedSpec)

/-- 'cribblelaw08.PolicyOnce', WHERE WHAT IT READS IS OF BULK AT MOST 1048576: true; the input reads as it did. -/
def policyOnceUptoRow : OpenClaim := { program := "ytenjnliceeejlaa", sum := "bb2d68e988ac3a4e528aeab51d8abcbea59f029888b957189155d77a1c04342f", func := "cribble/cribblelaw08.PolicyOnce", spec := "policyOnce", inPlace := ["internal/bytealg.IndexByteString"], unfollowed := true, recurses := true, apart := false, narrowed := true }
def PolicyOnceUptoSaid : Prop := policyOnceUptoRow.holds Try.pinned (OpenSpec.upto policyOnceSpec)

end Rows
end Go.Proofs.Ytenjnliceeejlaa
