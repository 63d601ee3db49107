/- Sorting in place: two parts that are in order merged. -/
import Derived.Deep.DeepCutAuto
import Derived.Deep.CutBlock
import Derived.Test.YtiikamobcmgekaaGreatDoorSortAa
import Derived.Test.YtiikamobcmgekaaGreatDoorSortAc
import Derived.Test.YtiikamobcmgekaaGreatDoorSortAd
import Derived.Test.YtiikamobcmgekaaGreatDoorSortAe
import Derived.Test.YtiikamobcmgekaaGreatDoorSortSf
namespace Go.Proofs.YtiikamobcmgekaaGreatDoor
open Lib renaming hid→z2c
open List renaming append_assoc→z27,getElem?_append_left→z3a,getElem?_append_right→z2y,length_append→z2h,pairwise_append→z3f,take_append_drop→z3j
set_option maxRecDepth 1000000
set_option maxHeartbeats 16000000
open Go.RowKit
open KA
open Go.Proofs.YtiikamobcmgekaaGreatDoor renaming zq5→Za,zq2→Zb,ltA→Z2,RowA→Z1,zeu→Z4,z0c→Z5,swoA→Z3,mtailA→Zc
theorem zt5 (k:Nat): ∀(B g cap:Nat) (P A Bb Q:List Alw) (w:World),A.length+Bb.length<=k->0<A.length->0<Bb.length->RowA w B g cap (P++A++Bb++Q)->Up ltA A->Up ltA Bb->(P++A++Bb++Q).length<=1000000000->
  Calls Tryz.prog 286 #[.slice (some ⟨g,0,none⟩) (P++A++Bb++Q).length cap,.int .i64 P.length,.int .i64 (P++A).length,.int .i64 (P++A++Bb).length,(.func (.func 120) #[] #[])] w
   fun e w'=>e= .returned (.tuple #[])/\MrgA w B g cap P (A++Bb) Q w':=zjd
end Go.Proofs.YtiikamobcmgekaaGreatDoor

