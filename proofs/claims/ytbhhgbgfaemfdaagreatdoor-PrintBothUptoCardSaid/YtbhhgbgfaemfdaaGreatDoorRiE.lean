/- The walk of cribbleref08.Right. (written by gen_rright.py) -/
import Derived.BigRegion
import Derived.Test.YtbhhgbgfaemfdaaGreatDoorRiC
import Derived.Test.YtbhhgbgfaemfdaaGreatDoorRiD
import Derived.Test.YtbhhgbgfaemfdaaGreatDoorWN
namespace Go.Proofs.YtbhhgbgfaemfdaaGreatDoor
open Go.RowKit
attribute [local go_sem] Oper.semAt_some
theorem PolSm.neat {p:Pol} (h:PolSm p):PolSm (neatP p):=⟨Nat.le_trans (neat_len _ _) h.tags,Nat.le_trans (neat_len _ _) h.schemes,Nat.le_trans (neat_len _ _) h.css,Nat.le_trans (neat_len _ _) h.drops,Nat.le_trans (neat_len _ _) h.attrs,Nat.le_trans (neat_len _ _) h.forces⟩
def r3 (p:Pol):Bool:=p.attrs.all alwB&&(p.forces.all frcB&&decide (p=neatP p))
end Go.Proofs.YtbhhgbgfaemfdaaGreatDoor

