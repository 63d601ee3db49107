/- Plain: a policy as text is parsed as that policy. No program in sight. -/
import Derived.Test.YtbhhgbgfaemfdaaGreatDoorPrnText
namespace Go.Proofs.YtbhhgbgfaemfdaaGreatDoor
def grpC (a:Alw):List St->List St
 | .nm k tag ws::ss=>if tag=a.tag then .nm zay a.tag (a.name::ws)::ss else .nm zay a.tag [a.name]:: .nm k tag ws::ss
 |ss=> .nm zay a.tag [a.name]::ss
theorem zon (a:Alw) (k tag:Bs) (ws:List Bs) (ss:List St):grpC a (.nm k tag ws::ss)=if tag=a.tag then .nm zay a.tag (a.name::ws)::ss else .nm zay a.tag [a.name]:: .nm k tag ws::ss:=rfl
def grpA:List Alw->List St
 |[]=>[]
 |a::l=>grpC a (grpA l)
end Go.Proofs.YtbhhgbgfaemfdaaGreatDoor

