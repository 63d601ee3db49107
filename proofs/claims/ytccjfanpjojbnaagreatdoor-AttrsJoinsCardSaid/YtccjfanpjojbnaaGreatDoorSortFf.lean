import Derived.Test.YtccjfanpjojbnaaGreatDoorSortFc
import Derived.Test.YtccjfanpjojbnaaGreatDoorSortFe
import Derived.Test.YtccjfanpjojbnaaGreatDoorSortSf
namespace Go.Proofs.YtccjfanpjojbnaaGreatDoor
open Go.Ending renaming returned→aL
open Go.IntKind renaming i64→aC
open Lib renaming hid→aA
open List renaming append_assoc→cY,eq_nil_of_length_eq_zero→gD,getElem?_append_left→nK,getElem?_append_right→lE,getElem?_eq_getElem→eV,getElem?_eq_some_iff→gV,length_append→aZ,pairwise_append→oJ,take_append_drop→nJ
open Tryz renaming prog→aE
open Go.Value renaming int→aB,slice→aF,tuple→aN
set_option maxRecDepth 1000000
set_option maxHeartbeats 16000000
open Go.RowKit
open KF
open YtccjfanpjojbnaaGreatDoor renaming Hm→Za,Hj→Zb,cG→Z2z,dJ→Z1,FW→Z4z,MC→Z5z,vN→Z3z,Gi→Zc
theorem Hg (k:Nat): ∀(B g cap:Nat) (P A Bb Q:List aS) (w:World),A.length+Bb.length<=k->0<A.length->0<Bb.length->dJ w B g cap (P++A++Bb++Q)->Up cG A->Up cG Bb->(P++A++Bb++Q).length<=1000000000->
  Calls aE 195 #[aF (some ⟨g,0,none⟩) (P++A++Bb++Q).length cap,aB aC P.length,aB aC (P++A).length,aB aC (P++A++Bb).length,(.func (.func 53) #[] #[])] w
   λe w'=>e=aL (aN #[])/\yK w B g cap P (A++Bb) Q w':=IT
