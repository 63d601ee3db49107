import Derived.Test.YtccjfanpjojbnaaGreatDoorSortSa
namespace Go.Proofs.YtccjfanpjojbnaaGreatDoor
open Go.Ending renaming returned→aL
open Go.IntKind renaming i64→aC
open Lib renaming hid→aA
open List renaming append_assoc→cY,append_nil→bV,eq_nil_of_length_eq_zero→gD,length_append→aZ,take_append_drop→nJ
open Tryz renaming prog→aE
open Go.Value renaming int→aB,slice→aF
set_option maxRecDepth 1000000
set_option maxHeartbeats 4000000
open Go.RowKit
open KF
open YtccjfanpjojbnaaGreatDoor renaming aS→Z0
def dJ (W:World) (B g cap:Nat) (d:List aS):Prop:=W.ownsRow B 81 3 (aF (some ⟨g,0,none⟩) d.length cap) d.length (d.flatMap aS.cells)
open YtccjfanpjojbnaaGreatDoor renaming dJ→Z1
theorem dJ.cell {W:World} {B g cap:Nat} {d:List aS} (h:dJ W B g cap d) {i:Nat} {x:aS} (hi:d[i]? =some x):W.cell? ⟨g,i*3,none⟩=some (sv x.tag)/\W.cell? ⟨g,i*3+1,none⟩=some (sv x.name)/\W.cell? ⟨g,i*3+2,none⟩=some (sv x.value):=by
 obtain⟨hl,hx⟩:=List.getElem?_eq_some_iff.1 hi;have key: ∀j,j<3->W.cell? ⟨g,i*3+j,none⟩=(aS.cells x)[j]? :=λj hj=>by
  rw[World.ownsRow.cellAt h (i*3+j) om,wH aS.cells 3 (λ_=>rfl) d i hl j hj,hx]
 exact⟨key 0 om,key 1 om,key 2 om⟩
theorem dJ.frozen {W:World} {B g cap:Nat} {d:List aS} (h:dJ W B g cap d) (i:Nat):W.frozen? ⟨g,i,none⟩=false:=World.ownsRow.frozenAt h i
theorem dJ.set {W:World} {B g cap:Nat} {d:List aS} (h:dJ W B g cap d) (i:Nat) (hi:i<d.length) (x:aS):dJ (((W.setCell ⟨g,i*3,none⟩ (sv x.tag)).setCell ⟨g,i*3+1,none⟩ (sv x.name)).setCell ⟨g,i*3+2,none⟩ (sv x.value)) B g cap (d.set i x):=by
 have h0:=(World.ownsRow.stored h (i*3) (sv x.tag)).1;have h1:=(World.ownsRow.stored h0 (i*3+1) (sv x.name)).1;have h2:=(World.ownsRow.stored h1 (i*3+2) (sv x.value)).1;unfold dJ;rw[List.length_set,<-Ll aS.cells (λ_=>rfl) d i hi x rfl];exact h2
theorem dJ.turned {W W':World} {B g cap:Nat} {d:List aS} {pv:Nat->Prop} (h:dJ W B g cap d) (ht:aJ pv W W') (hp: ¬pv g):dJ W' B g cap d:=KP h ht hp
def Te (w:World) (B g cap:Nat) (P S Q:List aS) (w':World):Prop:=aJ (λk=>k=g) w w'/\ ∃S',dJ w' B g cap (P++S'++Q)/\Up cG S'/\bH cG S' S
def yK (w:World) (B g cap:Nat) (P S Q:List aS) (w':World):Prop:=aJ (λk=>k=g) w w'/\ ∃S',dJ w' B g cap (P++S'++Q)/\Up cG S'/\bH cG S' S
theorem Q5 (B g cap:Nat) (P U M V Q:List aS) (f:Value) (w:World) (h:dJ w B g cap (P++U++M++V++Q)) (hUV:U.length=V.length) (hn:(P++U++M++V++Q).length<=1000000000):
  Calls aE 242 #[aF (some ⟨g,0,none⟩) (P++U++M++V++Q).length cap,aB aC P.length,aB aC (P++U++M).length,aB aC U.length,f] w
   λe w'=>e=aL (Value.tuple #[])/\aJ (λk=>k=g) w w'/\dJ w' B g cap (P++V++M++U++Q):=IZ
theorem Ay (B g cap:Nat) (P U V Q:List aS) (f:Value) (w:World) (h:dJ w B g cap (P++U++V++Q)) (hU0:0<U.length) (hV0:0<V.length) (hn:(P++U++V++Q).length<=1000000000):
  Calls aE 225 #[aF (some ⟨g,0,none⟩) (P++U++V++Q).length cap,aB aC P.length,aB aC (P++U).length,aB aC (P++U++V).length,f] w
   λe w'=>e=aL (Value.tuple #[])/\aJ (λk=>k=g) w w'/\dJ w' B g cap (P++V++U++Q):=IY
