/- Sorting in place: one behind the other. -/
import Derived.Test.YtiikamobcmgekaaGreatDoorSortFa
import Derived.Test.YtiikamobcmgekaaGreatDoorSortSb
namespace Go.Proofs.YtiikamobcmgekaaGreatDoor
open Lib renaming hid→z2c
open List renaming length_append→z2h,length_cons→z2i,length_nil→z28
set_option maxRecDepth 1000000
set_option maxHeartbeats 8000000
open Go.RowKit
open KF
open Go.Proofs.YtiikamobcmgekaaGreatDoor renaming Frc→Z0,RowF→Z1,ltF→Z2,swoF→Z3,ze9→Z4,z0b→Z5
theorem zk1 (B g cap:Nat) (P S Q:List Frc) (w:World) (h:RowF w B g cap (P++S++Q)) (hn:(P++S++Q).length<=1000000000):
  Calls Tryz.prog 287 #[.slice (some ⟨g,0,none⟩) (P++S++Q).length cap,.int .i64 P.length,.int .i64 (P++S).length,(.func (.func 122) #[] #[])] w
   fun e w'=>e= .returned (.tuple #[])/\InsF w B g cap P S Q w':=zjh
end Go.Proofs.YtiikamobcmgekaaGreatDoor

