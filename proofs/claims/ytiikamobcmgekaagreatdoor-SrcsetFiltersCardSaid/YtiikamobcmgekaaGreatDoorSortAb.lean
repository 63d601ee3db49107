/- Sorting in place: one behind the other. -/
import Derived.Test.YtiikamobcmgekaaGreatDoorSortAa
import Derived.Test.YtiikamobcmgekaaGreatDoorSortSb
namespace Go.Proofs.YtiikamobcmgekaaGreatDoor
open Lib renaming hid→z2c
open List renaming length_append→z2h,length_cons→z2i,length_nil→z28
set_option maxRecDepth 1000000
set_option maxHeartbeats 8000000
open Go.RowKit
open KA
open Go.Proofs.YtiikamobcmgekaaGreatDoor renaming Alw→Z0,RowA→Z1,ltA→Z2,swoA→Z3,zeu→Z4,z0c→Z5
theorem zk2 (B g cap:Nat) (P S Q:List Alw) (w:World) (h:RowA w B g cap (P++S++Q)) (hn:(P++S++Q).length<=1000000000):
  Calls Tryz.prog 285 #[.slice (some ⟨g,0,none⟩) (P++S++Q).length cap,.int .i64 P.length,.int .i64 (P++S).length,(.func (.func 120) #[] #[])] w
   fun e w'=>e= .returned (.tuple #[])/\InsA w B g cap P S Q w':=zjh
end Go.Proofs.YtiikamobcmgekaaGreatDoor

