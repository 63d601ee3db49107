/- How an argument that is a list of declarations is opened. -/
import Derived.Test.YtiikamobcmgekaaGreatDoorJCssR
import Derived.Test.YtiikamobcmgekaaGreatDoorJDecF
namespace Go.Proofs.YtiikamobcmgekaaGreatDoor
open Go.ChangeShapes Go.WideShapes Go.Deep
instance:Inhabited Dcl:=⟨⟨[],[],false⟩⟩
section
variable {H:Type} {enc:TypeId × Value->H} {w:World} {base:Nat} {spare:Nat->Bool} {held:Bool}
end
end Go.Proofs.YtiikamobcmgekaaGreatDoor

