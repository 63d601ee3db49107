/- Sorting in place: one merged with what is in order. -/
import Derived.Test.YtiikamobcmgekaaGreatDoorSortAa
import Derived.Test.YtiikamobcmgekaaGreatDoorSortSc
namespace Go.Proofs.YtiikamobcmgekaaGreatDoor
set_option maxRecDepth 1000000
set_option maxHeartbeats 8000000
open Go.RowKit
open KA
open Go.Proofs.YtiikamobcmgekaaGreatDoor renaming Alw→Z0,RowA→Z1,ltA→Z2z,swoA→Z3z,allowed_any→Z4z,ltA_c→Z5z
theorem insertionA_any (B g cap:Nat) (P S Q:List Alw) (w:World) (h:RowA w B g cap (P++S++Q)) (hn:(P++S++Q).length<=1000000000):
  Calls Tryz.prog 285 #[.slice (some ⟨g,0,none⟩) (P++S++Q).length cap,.int .i64 P.length,.int .i64 (P++S).length,(.func (.func 120) #[] #[])] w
   fun e w'=>e= .returned (.tuple #[])/\InsA w B g cap P S Q w':=unSortSc3
theorem mid_assocA {α:Type} (P:List α) (x:α) (A B Q:List α):P++x::A++(B++Q)=P++x::(A++B)++Q:=by simp
open Go.Proofs.YtiikamobcmgekaaGreatDoor renaming mid_assocA→Z6
theorem merge1A_any (B g cap:Nat) (P:List Alw) (x:Alw) (S Q:List Alw) (w:World) (h:RowA w B g cap (P++x::S++Q)) (hS:0<S.length) (hU:Up ltA S) (hn:(P++x::S++Q).length<=1000000000):
  Calls Tryz.prog 286 #[.slice (some ⟨g,0,none⟩) (P++x::S++Q).length cap,.int .i64 P.length,.int .i64 (P.length+1:Nat),.int .i64 (P.length+1+S.length:Nat),(.func (.func 120) #[] #[])] w
   fun e w'=>e= .returned (.tuple #[])/\MrgA w B g cap P (x::S) Q w':=unSortSc4
end Go.Proofs.YtiikamobcmgekaaGreatDoor
