/- Sorting in place: two parts that are in order merged. -/
import Derived.Deep.DeepCutAuto
import Derived.Deep.CutBlock
import Derived.Test.YtiikamobcmgekaaGreatDoorSortFa
import Derived.Test.YtiikamobcmgekaaGreatDoorSortFc
import Derived.Test.YtiikamobcmgekaaGreatDoorSortFe
import Derived.Test.YtiikamobcmgekaaGreatDoorSortSf
namespace Go.Proofs.YtiikamobcmgekaaGreatDoor
set_option maxRecDepth 1000000
set_option maxHeartbeats 16000000
open Go.RowKit
open KF
open Go.Proofs.YtiikamobcmgekaaGreatDoor renaming merge1F_any→Za,merge2F_any→Zb,ltF→Z2z,RowF→Z1,forced_any→Z4z,ltF_c→Z5z,swoF→Z3z,mtailF→Zc
theorem mergeF_any (k:Nat): ∀(B g cap:Nat) (P A Bb Q:List Frc) (w:World),A.length+Bb.length<=k->0<A.length->0<Bb.length->RowF w B g cap (P++A++Bb++Q)->Up ltF A->Up ltF Bb->(P++A++Bb++Q).length<=1000000000->
  Calls Tryz.prog 288 #[.slice (some ⟨g,0,none⟩) (P++A++Bb++Q).length cap,.int .i64 P.length,.int .i64 (P++A).length,.int .i64 (P++A++Bb).length,(.func (.func 122) #[] #[])] w
   fun e w'=>e= .returned (.tuple #[])/\MrgF w B g cap P (A++Bb) Q w':=unSortSf7
end Go.Proofs.YtiikamobcmgekaaGreatDoor

