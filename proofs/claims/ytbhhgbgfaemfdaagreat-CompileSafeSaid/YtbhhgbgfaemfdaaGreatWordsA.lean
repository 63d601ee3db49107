/- The reference's list, each thing once: api.Allow. -/
import Derived.BigRegion
import Derived.Test.YtbhhgbgfaemfdaaGreatPA
import Derived.Test.YtbhhgbgfaemfdaaGreatA3
namespace Go.Proofs.YtbhhgbgfaemfdaaGreat
open Go.RowKit
attribute [local go_sem] Oper.semAt_some
end Go.Proofs.YtbhhgbgfaemfdaaGreat

