/- The reference's list, each thing once: api.Force. -/
import Derived.BigRegion
import Derived.Test.YtbhhgbgfaemfdaaGreatPA
import Derived.Test.YtbhhgbgfaemfdaaGreatF3
namespace Go.Proofs.YtbhhgbgfaemfdaaGreat
open Go.RowKit
attribute [local go_sem] Oper.semAt_some
end Go.Proofs.YtbhhgbgfaemfdaaGreat

