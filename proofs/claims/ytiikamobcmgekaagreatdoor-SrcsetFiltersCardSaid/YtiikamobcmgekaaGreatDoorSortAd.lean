/- Sorting in place: what is in order merged with one. -/
import Derived.Test.YtiikamobcmgekaaGreatDoorSortAa
import Derived.Test.YtiikamobcmgekaaGreatDoorSortSd
namespace Go.Proofs.YtiikamobcmgekaaGreatDoor
open Lib renaming hid→z2c
open List renaming getElem?_append_left→z3a,getElem?_append_right→z2y,length_append→z2h,take_append_drop→z3j
set_option maxRecDepth 1000000
set_option maxHeartbeats 8000000
open Go.RowKit
open KA
open Go.Proofs.YtiikamobcmgekaaGreatDoor renaming ltA→Z2,RowA→Z1,zeu→Z4,z0c→Z5,swoA→Z3,Alw→Z0
theorem zuo {α:Type} (P:List α) (A B:List α) (y:α) (Q:List α):P++A++(B++y::Q)=P++(A++B)++y::Q:=by simp
open Go.Proofs.YtiikamobcmgekaaGreatDoor renaming zuo→Z7
theorem zq2 (B g cap:Nat) (P S:List Alw) (y:Alw) (Q:List Alw) (w:World) (h:RowA w B g cap (P++S++y::Q)) (hS:2<=S.length) (hU:Up ltA S) (hn:(P++S++y::Q).length<=1000000000):
  Calls Tryz.prog 286 #[.slice (some ⟨g,0,none⟩) (P++S++y::Q).length cap,.int .i64 P.length,.int .i64 (P.length+S.length:Nat),.int .i64 (P.length+S.length+1:Nat),(.func (.func 120) #[] #[])] w
   fun e w'=>e= .returned (.tuple #[])/\MrgA w B g cap P (S++[y]) Q w':=zjf
end Go.Proofs.YtiikamobcmgekaaGreatDoor

