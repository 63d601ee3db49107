/- The walk of cribbleref08.Same. (written by gen_same.py) -/
import Derived.BigRegion
import Derived.Test.YtbhhgbgfaemfdaaGreatDoorRA
import Derived.Test.YtbhhgbgfaemfdaaGreatDoorWN
namespace Go.Proofs.YtbhhgbgfaemfdaaGreatDoor
open Go.RowKit
attribute [local go_sem] Oper.semAt_some
end Go.Proofs.YtbhhgbgfaemfdaaGreatDoor

