/- The reference's list, each thing once: api.Allow. -/
import Derived.BigRegion
import Derived.Test.YtbhhgbgfaemfdaaGreatDoorPA
import Derived.Test.YtbhhgbgfaemfdaaGreatDoorA3
namespace Go.Proofs.YtbhhgbgfaemfdaaGreatDoor
open Go.RowKit
attribute [local go_sem] Oper.semAt_some
end Go.Proofs.YtbhhgbgfaemfdaaGreatDoor

