import Derived.Test.YtccjfanpjojbnaaGreatDoorSortAa
import Derived.Test.YtccjfanpjojbnaaGreatDoorSortSc
namespace Go.Proofs.YtccjfanpjojbnaaGreatDoor
open Go.Ending renaming returned→aL
open Go.IntKind renaming i64→aC
open Lib renaming hid→aA
open List renaming append_assoc→cY,append_nil→bV,getElem?_append_left→nK,getElem?_append_right→lE,length_append→aZ,length_cons→aY,length_nil→dY,length_singleton→xl,take_append_drop→nJ
open Go.Value renaming int→aB
set_option maxRecDepth 1000000
set_option maxHeartbeats 8000000
open Go.RowKit
open KA
open YtccjfanpjojbnaaGreatDoor renaming aW→Z0,dK→Z1,cP→Z2z,yU→Z3z,GR→Z4z,MD→Z5z
theorem Jm (B g cap:Nat) (P S Q:List aW) (w:World) (h:dK w B g cap (P++S++Q)) (hn:(P++S++Q).length<=1000000000):
  Calls Tryz.prog 192 #[Value.slice (some ⟨g,0,none⟩) (P++S++Q).length cap,aB aC P.length,aB aC (P++S).length,(.func (.func 51) #[] #[])] w
   λe w'=>e=aL (Value.tuple #[])/\Tf w B g cap P S Q w':=IX
theorem Hd {α:Type} (P:List α) (x:α) (A B Q:List α):P++x::A++(B++Q)=P++x::(A++B)++Q:=by simp
open YtccjfanpjojbnaaGreatDoor renaming Hd→Z6
theorem Hn (B g cap:Nat) (P:List aW) (x:aW) (S Q:List aW) (w:World) (h:dK w B g cap (P++x::S++Q)) (hS:0<S.length) (hU:Up cP S) (hn:(P++x::S++Q).length<=1000000000):
  Calls Tryz.prog 193 #[Value.slice (some ⟨g,0,none⟩) (P++x::S++Q).length cap,aB aC P.length,aB aC (P.length+1:Nat),aB aC (P.length+1+S.length:Nat),(.func (.func 51) #[] #[])] w
   λe w'=>e=aL (Value.tuple #[])/\yL w B g cap P (x::S) Q w':=IW
