/- Sorting in place: two parts that are in order merged. -/
import Derived.Deep.DeepCutAuto
import Derived.Deep.CutBlock
import Derived.Test.YtiikamobcmgekaaGreatDoorSortAa
import Derived.Test.YtiikamobcmgekaaGreatDoorSortAc
import Derived.Test.YtiikamobcmgekaaGreatDoorSortAe
import Derived.Test.YtiikamobcmgekaaGreatDoorSortSf
namespace Go.Proofs.YtiikamobcmgekaaGreatDoor
set_option maxRecDepth 1000000
set_option maxHeartbeats 16000000
open Go.RowKit
open KA
open Go.Proofs.YtiikamobcmgekaaGreatDoor renaming merge1A_any→Za,merge2A_any→Zb,ltA→Z2z,RowA→Z1,allowed_any→Z4z,ltA_c→Z5z,swoA→Z3z,mtailA→Zc
theorem mergeA_any (k:Nat): ∀(B g cap:Nat) (P A Bb Q:List Alw) (w:World),A.length+Bb.length<=k->0<A.length->0<Bb.length->RowA w B g cap (P++A++Bb++Q)->Up ltA A->Up ltA Bb->(P++A++Bb++Q).length<=1000000000->
  Calls Tryz.prog 286 #[.slice (some ⟨g,0,none⟩) (P++A++Bb++Q).length cap,.int .i64 P.length,.int .i64 (P++A).length,.int .i64 (P++A++Bb).length,(.func (.func 120) #[] #[])] w
   fun e w'=>e= .returned (.tuple #[])/\MrgA w B g cap P (A++Bb) Q w':=unSortSf7
end Go.Proofs.YtiikamobcmgekaaGreatDoor

