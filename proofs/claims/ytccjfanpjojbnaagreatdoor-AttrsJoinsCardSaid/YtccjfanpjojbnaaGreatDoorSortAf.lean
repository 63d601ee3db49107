import Derived.Test.YtccjfanpjojbnaaGreatDoorSortAc
import Derived.Test.YtccjfanpjojbnaaGreatDoorSortAe
import Derived.Test.YtccjfanpjojbnaaGreatDoorSortSf
namespace Go.Proofs.YtccjfanpjojbnaaGreatDoor
open Go.Ending renaming returned→aL
open Go.IntKind renaming i64→aC
open Lib renaming hid→aA
open List renaming append_assoc→cY,eq_nil_of_length_eq_zero→gD,getElem?_append_left→nK,getElem?_append_right→lE,getElem?_eq_getElem→eV,getElem?_eq_some_iff→gV,length_append→aZ,pairwise_append→oJ,take_append_drop→nJ
open Tryz renaming prog→aE
open Go.Value renaming int→aB,slice→aF,tuple→aN
set_option maxRecDepth 1000000
set_option maxHeartbeats 16000000
open Go.RowKit
open KA
open YtccjfanpjojbnaaGreatDoor renaming Hn→Za,Hk→Zb,cP→Z2z,dK→Z1,GR→Z4z,MD→Z5z,yU→Z3z,Gj→Zc
theorem Hh (k:Nat): ∀(B g cap:Nat) (P A Bb Q:List aW) (w:World),A.length+Bb.length<=k->0<A.length->0<Bb.length->dK w B g cap (P++A++Bb++Q)->Up cP A->Up cP Bb->(P++A++Bb++Q).length<=1000000000->
  Calls aE 193 #[aF (some ⟨g,0,none⟩) (P++A++Bb++Q).length cap,aB aC P.length,aB aC (P++A).length,aB aC (P++A++Bb).length,(.func (.func 51) #[] #[])] w
   λe w'=>e=aL (aN #[])/\yL w B g cap P (A++Bb) Q w':=IT
