/- Sorting in place: one merged with what is in order. -/
import Derived.Test.YtiikamobcmgekaaGreatDoorSortFa
import Derived.Test.YtiikamobcmgekaaGreatDoorSortSc
namespace Go.Proofs.YtiikamobcmgekaaGreatDoor
open Lib renaming hid→z2c
open List renaming getElem?_append_left→z3a,getElem?_append_right→z2y,length_append→z2h,take_append_drop→z3j
set_option maxRecDepth 1000000
set_option maxHeartbeats 8000000
open Go.RowKit
open KF
open Go.Proofs.YtiikamobcmgekaaGreatDoor renaming ltF→Z2,RowF→Z1,ze9→Z4,z0b→Z5,swoF→Z3,Frc→Z0
theorem zt1 {α:Type} (P:List α) (x:α) (A B Q:List α):P++x::A++(B++Q)=P++x::(A++B)++Q:=by simp
open Go.Proofs.YtiikamobcmgekaaGreatDoor renaming zt1→Z6
theorem zq4 (B g cap:Nat) (P:List Frc) (x:Frc) (S Q:List Frc) (w:World) (h:RowF w B g cap (P++x::S++Q)) (hS:0<S.length) (hU:Up ltF S) (hn:(P++x::S++Q).length<=1000000000):
  Calls Tryz.prog 288 #[.slice (some ⟨g,0,none⟩) (P++x::S++Q).length cap,.int .i64 P.length,.int .i64 (P.length+1:Nat),.int .i64 (P.length+1+S.length:Nat),(.func (.func 122) #[] #[])] w
   fun e w'=>e= .returned (.tuple #[])/\MrgF w B g cap P (x::S) Q w':=zjg
end Go.Proofs.YtiikamobcmgekaaGreatDoor

