/- Sorting in place: one behind the other. -/
import Derived.Test.YtbhhgbgfaemfdaaGreatSortAa
import Derived.Test.YtbhhgbgfaemfdaaGreatSortSb
namespace Go.Proofs.YtbhhgbgfaemfdaaGreat
set_option maxRecDepth 1000000
set_option maxHeartbeats 8000000
open Go.RowKit
open KA
open Go.Proofs.YtbhhgbgfaemfdaaGreat renaming Alw→Z0,RowA→Z1,ltA→Z2,swoA→Z3,allowed_any→Z4,ltA_c→Z5
theorem insertionA_any (B g cap:Nat) (P S Q:List Alw) (w:World) (h:RowA w B g cap (P++S++Q)) (hn:(P++S++Q).length<=1000000000):
  Calls Tryz.prog 163 #[.slice (some ⟨g,0,none⟩) (P++S++Q).length cap,.int .i64 P.length,.int .i64 (P++S).length,(.func (.func 67) #[] #[])] w
   fun e w'=>e= .returned (.tuple #[])/\InsA w B g cap P S Q w':=unSortSb3
end Go.Proofs.YtbhhgbgfaemfdaaGreat

