import Derived.Test.YtccjfanpjojbnaaGreatDoorSortSa
namespace Go.Proofs.YtccjfanpjojbnaaGreatDoor
open Go.Ending renaming returned→aL
open Go.IntKind renaming i64→aC
open Lib renaming hid→aA
open List renaming append_assoc→cY,append_nil→bV,eq_nil_of_length_eq_zero→gD,length_append→aZ,take_append_drop→nJ
open Tryz renaming prog→aE
open Go.Value renaming int→aB,slice→aF
set_option maxRecDepth 1000000
set_option maxHeartbeats 4000000
open Go.RowKit
open KA
open YtccjfanpjojbnaaGreatDoor renaming aW→Z0
def dK (W:World) (B g cap:Nat) (d:List aW):Prop:=W.ownsRow B 65 2 (aF (some ⟨g,0,none⟩) d.length cap) d.length (d.flatMap aW.cells)
open YtccjfanpjojbnaaGreatDoor renaming dK→Z1
theorem dK.cell {W:World} {B g cap:Nat} {d:List aW} (h:dK W B g cap d) {i:Nat} {x:aW} (hi:d[i]? =some x):W.cell? ⟨g,i*2,none⟩=some (sv x.tag)/\W.cell? ⟨g,i*2+1,none⟩=some (sv x.name):=by
 obtain⟨hl,hx⟩:=List.getElem?_eq_some_iff.1 hi;have key: ∀j,j<2->W.cell? ⟨g,i*2+j,none⟩=(aW.cells x)[j]? :=λj hj=>by
  rw[World.ownsRow.cellAt h (i*2+j) om,wH aW.cells 2 (λ_=>rfl) d i hl j hj,hx]
 exact⟨key 0 om,key 1 om⟩
theorem dK.frozen {W:World} {B g cap:Nat} {d:List aW} (h:dK W B g cap d) (i:Nat):W.frozen? ⟨g,i,none⟩=false:=World.ownsRow.frozenAt h i
theorem dK.set {W:World} {B g cap:Nat} {d:List aW} (h:dK W B g cap d) (i:Nat) (hi:i<d.length) (x:aW):dK ((W.setCell ⟨g,i*2,none⟩ (sv x.tag)).setCell ⟨g,i*2+1,none⟩ (sv x.name)) B g cap (d.set i x):=by
 have h0:=(World.ownsRow.stored h (i*2) (sv x.tag)).1;have h1:=(World.ownsRow.stored h0 (i*2+1) (sv x.name)).1;unfold dK;rw[List.length_set,<-Lm aW.cells (λ_=>rfl) d i hi x rfl];exact h1
theorem dK.turned {W W':World} {B g cap:Nat} {d:List aW} {pv:Nat->Prop} (h:dK W B g cap d) (ht:aJ pv W W') (hp: ¬pv g):dK W' B g cap d:=KP h ht hp
def Tf (w:World) (B g cap:Nat) (P S Q:List aW) (w':World):Prop:=aJ (λk=>k=g) w w'/\ ∃S',dK w' B g cap (P++S'++Q)/\Up cP S'/\bH cP S' S
def yL (w:World) (B g cap:Nat) (P S Q:List aW) (w':World):Prop:=aJ (λk=>k=g) w w'/\ ∃S',dK w' B g cap (P++S'++Q)/\Up cP S'/\bH cP S' S
theorem Q6 (B g cap:Nat) (P U M V Q:List aW) (f:Value) (w:World) (h:dK w B g cap (P++U++M++V++Q)) (hUV:U.length=V.length) (hn:(P++U++M++V++Q).length<=1000000000):
  Calls aE 241 #[aF (some ⟨g,0,none⟩) (P++U++M++V++Q).length cap,aB aC P.length,aB aC (P++U++M).length,aB aC U.length,f] w
   λe w'=>e=aL (Value.tuple #[])/\aJ (λk=>k=g) w w'/\dK w' B g cap (P++V++M++U++Q):=IZ
theorem Ba (B g cap:Nat) (P U V Q:List aW) (f:Value) (w:World) (h:dK w B g cap (P++U++V++Q)) (hU0:0<U.length) (hV0:0<V.length) (hn:(P++U++V++Q).length<=1000000000):
  Calls aE 224 #[aF (some ⟨g,0,none⟩) (P++U++V++Q).length cap,aB aC P.length,aB aC (P++U).length,aB aC (P++U++V).length,f] w
   λe w'=>e=aL (Value.tuple #[])/\aJ (λk=>k=g) w w'/\dK w' B g cap (P++V++U++Q):=IY
