/- Sorting in place: two parts that are in order merged. -/
import Derived.Deep.DeepCutAuto
import Derived.Deep.CutBlock
import Derived.Test.YtiikamobcmgekaaGreatDoorSortFa
import Derived.Test.YtiikamobcmgekaaGreatDoorSortFc
import Derived.Test.YtiikamobcmgekaaGreatDoorSortFd
import Derived.Test.YtiikamobcmgekaaGreatDoorSortFe
import Derived.Test.YtiikamobcmgekaaGreatDoorSortSf
namespace Go.Proofs.YtiikamobcmgekaaGreatDoor
open Lib renaming hid→z2c
open List renaming append_assoc→z27,getElem?_append_left→z3a,getElem?_append_right→z2y,length_append→z2h,pairwise_append→z3f,take_append_drop→z3j
set_option maxRecDepth 1000000
set_option maxHeartbeats 16000000
open Go.RowKit
open KF
open Go.Proofs.YtiikamobcmgekaaGreatDoor renaming zq4→Za,zq1→Zb,ltF→Z2,RowF→Z1,ze9→Z4,z0b→Z5,swoF→Z3,mtailF→Zc
theorem zt4 (k:Nat): ∀(B g cap:Nat) (P A Bb Q:List Frc) (w:World),A.length+Bb.length<=k->0<A.length->0<Bb.length->RowF w B g cap (P++A++Bb++Q)->Up ltF A->Up ltF Bb->(P++A++Bb++Q).length<=1000000000->
  Calls Tryz.prog 288 #[.slice (some ⟨g,0,none⟩) (P++A++Bb++Q).length cap,.int .i64 P.length,.int .i64 (P++A).length,.int .i64 (P++A++Bb).length,(.func (.func 122) #[] #[])] w
   fun e w'=>e= .returned (.tuple #[])/\MrgF w B g cap P (A++Bb) Q w':=zjd
end Go.Proofs.YtiikamobcmgekaaGreatDoor

