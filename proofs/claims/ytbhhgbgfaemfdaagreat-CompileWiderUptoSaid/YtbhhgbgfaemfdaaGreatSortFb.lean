/- Sorting in place: one behind the other. -/
import Derived.Test.YtbhhgbgfaemfdaaGreatSortFa
import Derived.Test.YtbhhgbgfaemfdaaGreatSortSb
namespace Go.Proofs.YtbhhgbgfaemfdaaGreat
set_option maxRecDepth 1000000
set_option maxHeartbeats 8000000
open Go.RowKit
open KF
open Go.Proofs.YtbhhgbgfaemfdaaGreat renaming Frc→Z0,RowF→Z1,ltF→Z2,swoF→Z3,forced_any→Z4,ltF_c→Z5
theorem insertionF_any (B g cap:Nat) (P S Q:List Frc) (w:World) (h:RowF w B g cap (P++S++Q)) (hn:(P++S++Q).length<=1000000000):
  Calls Tryz.prog 165 #[.slice (some ⟨g,0,none⟩) (P++S++Q).length cap,.int .i64 P.length,.int .i64 (P++S).length,(.func (.func 70) #[] #[])] w
   fun e w'=>e= .returned (.tuple #[])/\InsF w B g cap P S Q w':=unSortSb3
end Go.Proofs.YtbhhgbgfaemfdaaGreat

