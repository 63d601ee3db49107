/- Sorting in place: parts change places. -/
import Derived.Test.YtiikamobcmgekaaGreatDoorPA
import Derived.Test.YtiikamobcmgekaaGreatDoorSortSa
namespace Go.Proofs.YtiikamobcmgekaaGreatDoor
open Lib renaming hid→z2c
open List renaming append_nil→z3r,length_append→z2h
set_option maxRecDepth 1000000
set_option maxHeartbeats 4000000
open Go.RowKit
open KF
open Go.Proofs.YtiikamobcmgekaaGreatDoor renaming Frc→Z0
def RowF (W:World) (B g cap:Nat) (d:List Frc):Prop:=W.ownsRow B 103 3 (.slice (some ⟨g,0,none⟩) d.length cap) d.length (d.flatMap Frc.cells)
open Go.Proofs.YtiikamobcmgekaaGreatDoor renaming RowF→Z1
theorem RowF.cell {W:World} {B g cap:Nat} {d:List Frc} (h:RowF W B g cap d) {i:Nat} {x:Frc} (hi:d[i]? =some x):W.cell? ⟨g,i*3,none⟩=some (sv x.tag)/\W.cell? ⟨g,i*3+1,none⟩=some (sv x.name)/\W.cell? ⟨g,i*3+2,none⟩=some (sv x.value):=by
 obtain⟨hl,hx⟩:=List.getElem?_eq_some_iff.1 hi;have key: ∀j,j<3->W.cell? ⟨g,i*3+j,none⟩=(Frc.cells x)[j]? :=fun j hj=>by
  rw[World.ownsRow.cellAt h (i*3+j) (by omega),zki Frc.cells 3 (fun _=>rfl) d i hl j hj,hx]
 exact⟨key 0 (by omega),key 1 (by omega),key 2 (by omega)⟩
theorem RowF.frozen {W:World} {B g cap:Nat} {d:List Frc} (h:RowF W B g cap d) (i:Nat):W.frozen? ⟨g,i,none⟩=false:=World.ownsRow.frozenAt h i
theorem RowF.set {W:World} {B g cap:Nat} {d:List Frc} (h:RowF W B g cap d) (i:Nat) (hi:i<d.length) (x:Frc):RowF (((W.setCell ⟨g,i*3,none⟩ (sv x.tag)).setCell ⟨g,i*3+1,none⟩ (sv x.name)).setCell ⟨g,i*3+2,none⟩ (sv x.value)) B g cap (d.set i x):=by
 have h0:=(World.ownsRow.stored h (i*3) (sv x.tag)).1;have h1:=(World.ownsRow.stored h0 (i*3+1) (sv x.name)).1;have h2:=(World.ownsRow.stored h1 (i*3+2) (sv x.value)).1;unfold RowF;rw[List.length_set,<-zya Frc.cells (fun _=>rfl) d i hi x rfl];exact h2
theorem RowF.turned {W W':World} {B g cap:Nat} {d:List Frc} {pv:Nat->Prop} (h:RowF W B g cap d) (ht:zab pv W W') (hp: ¬pv g):RowF W' B g cap d:=zh1 h ht hp
def InsF (w:World) (B g cap:Nat) (P S Q:List Frc) (w':World):Prop:=zab (fun k=>k=g) w w'/\ ∃S',RowF w' B g cap (P++S'++Q)/\Up ltF S'/\zax ltF S' S
def MrgF (w:World) (B g cap:Nat) (P S Q:List Frc) (w':World):Prop:=zab (fun k=>k=g) w w'/\ ∃S',RowF w' B g cap (P++S'++Q)/\Up ltF S'/\zax ltF S' S
theorem zkv (B g cap:Nat) (P U M V Q:List Frc) (f:Value) (w:World) (h:RowF w B g cap (P++U++M++V++Q)) (hUV:U.length=V.length) (hn:(P++U++M++V++Q).length<=1000000000):
  Calls Tryz.prog 314 #[.slice (some ⟨g,0,none⟩) (P++U++M++V++Q).length cap,.int .i64 P.length,.int .i64 (P++U++M).length,.int .i64 U.length,f] w
   fun e w'=>e= .returned (.tuple #[])/\zab (fun k=>k=g) w w'/\RowF w' B g cap (P++V++M++U++Q):=zjj
theorem zqc (B g cap:Nat) (P U V Q:List Frc) (f:Value) (w:World) (h:RowF w B g cap (P++U++V++Q)) (hU0:0<U.length) (hV0:0<V.length) (hn:(P++U++V++Q).length<=1000000000):
  Calls Tryz.prog 302 #[.slice (some ⟨g,0,none⟩) (P++U++V++Q).length cap,.int .i64 P.length,.int .i64 (P++U).length,.int .i64 (P++U++V).length,f] w
   fun e w'=>e= .returned (.tuple #[])/\zab (fun k=>k=g) w w'/\RowF w' B g cap (P++V++U++Q):=zji
end Go.Proofs.YtiikamobcmgekaaGreatDoor
