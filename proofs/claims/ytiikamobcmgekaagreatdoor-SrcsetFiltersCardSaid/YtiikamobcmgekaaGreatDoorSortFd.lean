/- Sorting in place: what is in order merged with one. -/
import Derived.Test.YtiikamobcmgekaaGreatDoorSortFa
import Derived.Test.YtiikamobcmgekaaGreatDoorSortSd
namespace Go.Proofs.YtiikamobcmgekaaGreatDoor
open Lib renaming hid→z2c
open List renaming getElem?_append_left→z3a,getElem?_append_right→z2y,length_append→z2h,take_append_drop→z3j
set_option maxRecDepth 1000000
set_option maxHeartbeats 8000000
open Go.RowKit
open KF
open Go.Proofs.YtiikamobcmgekaaGreatDoor renaming ltF→Z2,RowF→Z1,ze9→Z4,z0b→Z5,swoF→Z3,Frc→Z0
theorem zun {α:Type} (P:List α) (A B:List α) (y:α) (Q:List α):P++A++(B++y::Q)=P++(A++B)++y::Q:=by simp
open Go.Proofs.YtiikamobcmgekaaGreatDoor renaming zun→Z7
theorem zq1 (B g cap:Nat) (P S:List Frc) (y:Frc) (Q:List Frc) (w:World) (h:RowF w B g cap (P++S++y::Q)) (hS:2<=S.length) (hU:Up ltF S) (hn:(P++S++y::Q).length<=1000000000):
  Calls Tryz.prog 288 #[.slice (some ⟨g,0,none⟩) (P++S++y::Q).length cap,.int .i64 P.length,.int .i64 (P.length+S.length:Nat),.int .i64 (P.length+S.length+1:Nat),(.func (.func 122) #[] #[])] w
   fun e w'=>e= .returned (.tuple #[])/\MrgF w B g cap P (S++[y]) Q w':=zjf
end Go.Proofs.YtiikamobcmgekaaGreatDoor

