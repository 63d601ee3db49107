/- Plain: two texts of policies, either way round, and each twice. No program in sight. -/
import Derived.Test.YtbhhgbgfaemfdaaGreatPolU
namespace Go.Proofs.YtbhhgbgfaemfdaaGreat
def St.cL (f:Bs):St->List Bs
 | .nm k _ ws=>if k=f then ws else []
 | .sg _ _ _ _=>[]
def St.cF:St->List Frc
 | .nm _ _ _=>[]
 | .sg k x y z=>if k=relT then []else if k=forceT then [⟨x,y,z⟩]else []
end Go.Proofs.YtbhhgbgfaemfdaaGreat

