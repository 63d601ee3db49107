import Derived.Test.YtccjfanpjojbnaaGreatDoorSortFa
import Derived.Test.YtccjfanpjojbnaaGreatDoorSortSc
namespace Go.Proofs.YtccjfanpjojbnaaGreatDoor
open Go.Ending renaming returned→aL
open Go.IntKind renaming i64→aC
open Lib renaming hid→aA
open List renaming append_assoc→cY,append_nil→bV,getElem?_append_left→nK,getElem?_append_right→lE,length_append→aZ,length_cons→aY,length_nil→dY,length_singleton→xl,take_append_drop→nJ
open Go.Value renaming int→aB
set_option maxRecDepth 1000000
set_option maxHeartbeats 8000000
open Go.RowKit
open KF
open YtccjfanpjojbnaaGreatDoor renaming aS→Z0,dJ→Z1,cG→Z2z,vN→Z3z,FW→Z4z,MC→Z5z
theorem Jl (B g cap:Nat) (P S Q:List aS) (w:World) (h:dJ w B g cap (P++S++Q)) (hn:(P++S++Q).length<=1000000000):
  Calls Tryz.prog 194 #[Value.slice (some ⟨g,0,none⟩) (P++S++Q).length cap,aB aC P.length,aB aC (P++S).length,(.func (.func 53) #[] #[])] w
   λe w'=>e=aL (Value.tuple #[])/\Te w B g cap P S Q w':=IX
theorem Hc {α:Type} (P:List α) (x:α) (A B Q:List α):P++x::A++(B++Q)=P++x::(A++B)++Q:=by simp
open YtccjfanpjojbnaaGreatDoor renaming Hc→Z6
theorem Hm (B g cap:Nat) (P:List aS) (x:aS) (S Q:List aS) (w:World) (h:dJ w B g cap (P++x::S++Q)) (hS:0<S.length) (hU:Up cG S) (hn:(P++x::S++Q).length<=1000000000):
  Calls Tryz.prog 195 #[Value.slice (some ⟨g,0,none⟩) (P++x::S++Q).length cap,aB aC P.length,aB aC (P.length+1:Nat),aB aC (P.length+1+S.length:Nat),(.func (.func 53) #[] #[])] w
   λe w'=>e=aL (Value.tuple #[])/\yK w B g cap P (x::S) Q w':=IW
