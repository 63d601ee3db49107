/- Plain: statements as text: what is told of each is parsed as that. No program in sight. -/
import Derived.Test.YtbhhgbgfaemfdaaGreatDoorPolW
namespace Go.Proofs.YtbhhgbgfaemfdaaGreatDoor
def quoT (z:Bs):Bs:=(zdc z).getD []
def zwz:St->Bs
 | .nm k tag ws=>if k=zay then zay++(32::(tag++([58]++(sayW ws++[59,10]))))else k++(sayW ws++[59,10])
 | .sg k x y z=>if k=relT then relT++(32::(x++[59,10]))else if k=zbg then zbg++(32::(x++(32::(y++(32::(quoT z++[59,10]))))))else zbo++(32::(x++(32::(y++[59,10]))))
def zsj (ss:List St):Bs:=ss.flatMap zwz
end Go.Proofs.YtbhhgbgfaemfdaaGreatDoor

