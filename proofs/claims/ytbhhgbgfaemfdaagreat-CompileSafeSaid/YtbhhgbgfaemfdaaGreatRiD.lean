/- The walk of cribbleref08.Same. (written by gen_same.py) -/
import Derived.BigRegion
import Derived.Test.YtbhhgbgfaemfdaaGreatRA
import Derived.Test.YtbhhgbgfaemfdaaGreatWN
namespace Go.Proofs.YtbhhgbgfaemfdaaGreat
open Go.RowKit
attribute [local go_sem] Oper.semAt_some
end Go.Proofs.YtbhhgbgfaemfdaaGreat

