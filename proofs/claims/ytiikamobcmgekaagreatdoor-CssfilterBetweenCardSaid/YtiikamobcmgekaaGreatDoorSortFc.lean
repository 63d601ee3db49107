/- Sorting in place: one merged with what is in order. -/
import Derived.Test.YtiikamobcmgekaaGreatDoorSortFa
import Derived.Test.YtiikamobcmgekaaGreatDoorSortSc
namespace Go.Proofs.YtiikamobcmgekaaGreatDoor
set_option maxRecDepth 1000000
set_option maxHeartbeats 8000000
open Go.RowKit
open KF
open Go.Proofs.YtiikamobcmgekaaGreatDoor renaming Frc→Z0,RowF→Z1,ltF→Z2z,swoF→Z3z,forced_any→Z4z,ltF_c→Z5z
theorem insertionF_any (B g cap:Nat) (P S Q:List Frc) (w:World) (h:RowF w B g cap (P++S++Q)) (hn:(P++S++Q).length<=1000000000):
  Calls Tryz.prog 287 #[.slice (some ⟨g,0,none⟩) (P++S++Q).length cap,.int .i64 P.length,.int .i64 (P++S).length,(.func (.func 122) #[] #[])] w
   fun e w'=>e= .returned (.tuple #[])/\InsF w B g cap P S Q w':=unSortSc3
theorem mid_assocF {α:Type} (P:List α) (x:α) (A B Q:List α):P++x::A++(B++Q)=P++x::(A++B)++Q:=by simp
open Go.Proofs.YtiikamobcmgekaaGreatDoor renaming mid_assocF→Z6
theorem merge1F_any (B g cap:Nat) (P:List Frc) (x:Frc) (S Q:List Frc) (w:World) (h:RowF w B g cap (P++x::S++Q)) (hS:0<S.length) (hU:Up ltF S) (hn:(P++x::S++Q).length<=1000000000):
  Calls Tryz.prog 288 #[.slice (some ⟨g,0,none⟩) (P++x::S++Q).length cap,.int .i64 P.length,.int .i64 (P.length+1:Nat),.int .i64 (P.length+1+S.length:Nat),(.func (.func 122) #[] #[])] w
   fun e w'=>e= .returned (.tuple #[])/\MrgF w B g cap P (x::S) Q w':=unSortSc4
end Go.Proofs.YtiikamobcmgekaaGreatDoor
