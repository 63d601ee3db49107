/- Sorting in place: two parts that are in order merged. -/
import Derived.Deep.DeepCutAuto
import Derived.Deep.CutBlock
import Derived.Test.YtbhhgbgfaemfdaaGreatDoorSortAa
import Derived.Test.YtbhhgbgfaemfdaaGreatDoorSortAe
import Derived.Test.YtbhhgbgfaemfdaaGreatDoorSortSf
namespace Go.Proofs.YtbhhgbgfaemfdaaGreatDoor
open Lib renaming hid→z2g
open List renaming append_assoc→z2w,getElem?_append_left→z25,getElem?_append_right→z23,length_append→z2i,pairwise_append→z3f,take_append_drop→z3e
set_option maxRecDepth 1000000
set_option maxHeartbeats 16000000
open Go.RowKit
open KA
open Go.Proofs.YtbhhgbgfaemfdaaGreatDoor renaming zqf→Za,zqc→Zb,ltA→Z2,RowA→Z1,zgl→Z4,ltA_c→Z5,swoA→Z3,mtailA→Zc
theorem ztc (k:Nat): ∀(B g cap:Nat) (P A Bb Q:List Alw) (w:World),A.length+Bb.length<=k->0<A.length->0<Bb.length->RowA w B g cap (P++A++Bb++Q)->Up ltA A->Up ltA Bb->(P++A++Bb++Q).length<=1000000000->
  Calls Tryz.prog 216 #[.slice (some ⟨g,0,none⟩) (P++A++Bb++Q).length cap,.int .i64 P.length,.int .i64 (P++A).length,.int .i64 (P++A++Bb).length,(.func (.func 82) #[] #[])] w
   fun e w'=>e= .returned (.tuple #[])/\MrgA w B g cap P (A++Bb) Q w':=zi2
end Go.Proofs.YtbhhgbgfaemfdaaGreatDoor

