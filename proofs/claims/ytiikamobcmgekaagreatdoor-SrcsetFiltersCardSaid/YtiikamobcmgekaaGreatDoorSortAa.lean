/- Sorting in place: parts change places. -/
import Derived.Test.YtiikamobcmgekaaGreatDoorPA
import Derived.Test.YtiikamobcmgekaaGreatDoorSortSa
namespace Go.Proofs.YtiikamobcmgekaaGreatDoor
open Lib renaming hid→z2c
open List renaming append_nil→z3r,length_append→z2h
set_option maxRecDepth 1000000
set_option maxHeartbeats 4000000
open Go.RowKit
open KA
open Go.Proofs.YtiikamobcmgekaaGreatDoor renaming Alw→Z0
def RowA (W:World) (B g cap:Nat) (d:List Alw):Prop:=W.ownsRow B 101 2 (.slice (some ⟨g,0,none⟩) d.length cap) d.length (d.flatMap Alw.cells)
open Go.Proofs.YtiikamobcmgekaaGreatDoor renaming RowA→Z1
theorem RowA.cell {W:World} {B g cap:Nat} {d:List Alw} (h:RowA W B g cap d) {i:Nat} {x:Alw} (hi:d[i]? =some x):W.cell? ⟨g,i*2,none⟩=some (sv x.tag)/\W.cell? ⟨g,i*2+1,none⟩=some (sv x.name):=by
 obtain⟨hl,hx⟩:=List.getElem?_eq_some_iff.1 hi;have key: ∀j,j<2->W.cell? ⟨g,i*2+j,none⟩=(Alw.cells x)[j]? :=fun j hj=>by
  rw[World.ownsRow.cellAt h (i*2+j) (by omega),zki Alw.cells 2 (fun _=>rfl) d i hl j hj,hx]
 exact⟨key 0 (by omega),key 1 (by omega)⟩
theorem RowA.frozen {W:World} {B g cap:Nat} {d:List Alw} (h:RowA W B g cap d) (i:Nat):W.frozen? ⟨g,i,none⟩=false:=World.ownsRow.frozenAt h i
theorem RowA.set {W:World} {B g cap:Nat} {d:List Alw} (h:RowA W B g cap d) (i:Nat) (hi:i<d.length) (x:Alw):RowA ((W.setCell ⟨g,i*2,none⟩ (sv x.tag)).setCell ⟨g,i*2+1,none⟩ (sv x.name)) B g cap (d.set i x):=by
 have h0:=(World.ownsRow.stored h (i*2) (sv x.tag)).1;have h1:=(World.ownsRow.stored h0 (i*2+1) (sv x.name)).1;unfold RowA;rw[List.length_set,<-zyb Alw.cells (fun _=>rfl) d i hi x rfl];exact h1
theorem RowA.turned {W W':World} {B g cap:Nat} {d:List Alw} {pv:Nat->Prop} (h:RowA W B g cap d) (ht:zab pv W W') (hp: ¬pv g):RowA W' B g cap d:=zh1 h ht hp
def InsA (w:World) (B g cap:Nat) (P S Q:List Alw) (w':World):Prop:=zab (fun k=>k=g) w w'/\ ∃S',RowA w' B g cap (P++S'++Q)/\Up ltA S'/\zax ltA S' S
def MrgA (w:World) (B g cap:Nat) (P S Q:List Alw) (w':World):Prop:=zab (fun k=>k=g) w w'/\ ∃S',RowA w' B g cap (P++S'++Q)/\Up ltA S'/\zax ltA S' S
theorem zkw (B g cap:Nat) (P U M V Q:List Alw) (f:Value) (w:World) (h:RowA w B g cap (P++U++M++V++Q)) (hUV:U.length=V.length) (hn:(P++U++M++V++Q).length<=1000000000):
  Calls Tryz.prog 313 #[.slice (some ⟨g,0,none⟩) (P++U++M++V++Q).length cap,.int .i64 P.length,.int .i64 (P++U++M).length,.int .i64 U.length,f] w
   fun e w'=>e= .returned (.tuple #[])/\zab (fun k=>k=g) w w'/\RowA w' B g cap (P++V++M++U++Q):=zjj
theorem zqd (B g cap:Nat) (P U V Q:List Alw) (f:Value) (w:World) (h:RowA w B g cap (P++U++V++Q)) (hU0:0<U.length) (hV0:0<V.length) (hn:(P++U++V++Q).length<=1000000000):
  Calls Tryz.prog 301 #[.slice (some ⟨g,0,none⟩) (P++U++V++Q).length cap,.int .i64 P.length,.int .i64 (P++U).length,.int .i64 (P++U++V).length,f] w
   fun e w'=>e= .returned (.tuple #[])/\zab (fun k=>k=g) w w'/\RowA w' B g cap (P++V++U++Q):=zji
end Go.Proofs.YtiikamobcmgekaaGreatDoor
