/- The walk of print.Both. (written by gen_both.py) -/
import Derived.BigRegion
import Derived.Test.YtbhhgbgfaemfdaaGreatDoorKitP
import Derived.Test.YtbhhgbgfaemfdaaGreatDoorPrwF
import Derived.Test.YtbhhgbgfaemfdaaGreatDoorRG
import Derived.Test.YtbhhgbgfaemfdaaGreatDoorPrnPlain
namespace Go.Proofs.YtbhhgbgfaemfdaaGreatDoor
open Lib renaming hid→z2g
open List renaming length_append→z2i,map_append→z4v
open Nat renaming lt_of_lt_of_le→z2h
set_option maxRecDepth 100000
set_option maxHeartbeats 16000000
open Go.RowKit
attribute [local go_sem] Oper.semAt_some
section
variable {P:Program} {ops:Array Oper} {md:Region.Mode} {Q:Exit->Act->World->Prop} {S:World->Prop} {n:Nat} {d:Nat->Nat} {G:Nat->Value->World->Prop} {a0:Act}
theorem znf {i:Nat} {o:Oper} (ho:ops[i]? =some o) (hd:o.dst=some (d i)) (h: ∀a W,zo6 S a0 n d a W->(∀k,Region.waitsFor md ops i k=true->G k (a.tmps.getD (d k) undef) W)->Region.wanted o (yielded ops a.tmps)=false/\G i undef W):zkd P md ops Q S a0 n d G i:=by
 intro a W hr hk K hK
 obtain⟨h1,h2⟩:=h a W hr hk
 unfold wpOp
 simp only[ho,h1,hd]
 exact hK undef W hr.here (Below.refl _ _) h2
theorem zk8 {i:Nat} {o:Oper} (v:Value) (ho:ops[i]? =some o) (hd:o.dst=some (d i)) (h: ∀a W,zo6 S a0 n d a W->(∀k,Region.waitsFor md ops i k=true->G k (a.tmps.getD (d k) undef) W)->Region.wanted o (yielded ops a.tmps)=true/\(execOp a.eval o).run P W= .ok (.value v) W/\G i v W):zkd P md ops Q S a0 n d G i:=by
 intro a W hr hk K hK
 obtain⟨h1,h2,h3⟩:=h a W hr hk
 unfold wpOp
 simp only[ho,h1,if_true]
 refine .inl ?_
 unfold Oper.wp
 rw[h2]
 have hk:=hK v W hr.here (Below.refl _ _) h3
 rw[<-hd]at hk
 exact hk
theorem zgn {ops:Array Oper} {o:Oper} {t:Array Value} {j k:Nat} {b c:Bool} (hg:o.guard=some (j,b)) (hj:(ops[j]?).bind (·.dst)=some k) (hv:t.getD k undef= .bool c):Region.wanted o (yielded ops t)=(c==b):=by
 have e:t[k]? =some (.bool c):=by
  rw[Array.getD_eq_getD_getElem?]at hv
  cases h:t[k]? with
  |none=>rw[h]at hv;simp[undef]at hv
  |some x=>rw[h]at hv;simp at hv;rw[hv]
 unfold Region.wanted yielded
 rw[hg]
 simp[hj,e]
end
theorem zlb {W:World} {B:Nat} {e:TypeId} {size:Nat} {v:Value} {n:Nat} {xs:List Value} (h:W.ownsRow B e size v n xs):Rx W (fun _=>False) v n size xs:=Rx.ofOwn h (fun _ _ hx=>hx)
def zdu (x y:Value) (v:Value) (V:World):Prop:= ∃b,v= .slice (some ⟨b,0,none⟩) 2 2/\V.cell? ⟨b,0,none⟩=some x/\V.cell? ⟨b,1,none⟩=some y
theorem zcw (x y:Value): ∀v W W',zdu x y v W->Below W.heap.size W W'->zdu x y v W':=fun _ W _ ⟨b,h1,h2,h3⟩ hb=>⟨b,h1,(hb.cell (p:=⟨b,0,none⟩) (World.block_lt_of_cell? W _ h2)).trans h2,(hb.cell (p:=⟨b,1,none⟩) (World.block_lt_of_cell? W _ h3)).trans h3⟩
def RxG (n size:Nat) (xs:List Value) (v:Value) (V:World):Prop:=Rx V (fun _=>False) v n size xs
theorem zdx (n size:Nat) (xs:List Value): ∀v W W',RxG n size xs v W->Below W.heap.size W W'->RxG n size xs v W':=fun _ _ _ h hb=>Rx.below h hb
theorem zmz (v u:Value) (p q:Pol) (w:World) (h:PolV w (fun _=>False) v p) (g:PolV w (fun _=>False) u q) (hs:zdi p) (gs:zdi q) (rs:zdi (rawB p q)):Calls Tryz.prog 36 #[v,u] w fun e w'=> ∃v',e= .returned v'/\Below w.heap.size w w'/\PolV w' (fun b=>b<w.heap.size) v' (zep p q):=by
 have hmx:Tryz.prog.follows .mixedOrders=true:=by kernel_rfl
 have HNt:=z2g (fun v' W (hv:PolV W (fun _=>False) v' (rawB p q))=>zrt v' (rawB p q) W hv rs)
 obtain⟨v0,v1,v2,v3,v4,v5,rfl,⟨A0,k0,rfl,z0,h0,y0⟩,⟨A1,k1,rfl,z1,h1,y1⟩,⟨A2,k2,rfl,z2,h2,y2⟩,⟨A3,k3,rfl,z3,h3,y3⟩,⟨A4,k4,rfl,z4,h4,y4⟩,⟨A5,k5,rfl,z5,h5,y5⟩⟩:=h
 obtain⟨u0,u1,u2,u3,u4,u5,rfl,⟨C0,j0,rfl,x0,g0,t0⟩,⟨C1,j1,rfl,x1,g1,t1⟩,⟨C2,j2,rfl,x2,g2,t2⟩,⟨C3,j3,rfl,x3,g3,t3⟩,⟨C4,j4,rfl,x4,g4,t4⟩,⟨C5,j5,rfl,x5,g5,t5⟩⟩:=g
 have HC0:=z2g (fun W b (hb:Below w.heap.size w W) e1 e2=>show Calls Tryz.prog 74 #[.slice (some ⟨b,0,none⟩) 2 2] W (fun e W'=> ∃v,e= .returned v/\Below W.heap.size W W'/\RxG (fN (rawB p q) 0) 1 (fC (rawB p q) 0) v W')from(ze8 b (.slice A0 (fN p 0) k0) (.slice C0 (fN q 0) j0) p.tags q.tags (fun _=>False) (fun _=>False) W e1 e2 (Rx.below (W':=W) ⟨A0,k0,rfl,z0,h0,y0⟩ hb) (Rx.below (W':=W) ⟨C0,j0,rfl,x0,g0,t0⟩ hb) hs.tags gs.tags).mono fun e W' ⟨v,e5,e6,e7⟩=>⟨v,e5,e7,by
  have e4:=zlb e6
  show Rx W' _ v (p.tags++q.tags).length 1 _
  rw[z2i]
  show Rx W' _ v _ 1 ((p.tags++q.tags).map sv)
  rw[z4v]
  exact e4⟩)
 have HC1:=z2g (fun W b (hb:Below w.heap.size w W) e1 e2=>show Calls Tryz.prog 74 #[.slice (some ⟨b,0,none⟩) 2 2] W (fun e W'=> ∃v,e= .returned v/\Below W.heap.size W W'/\RxG (fN (rawB p q) 1) 1 (fC (rawB p q) 1) v W')from(ze8 b (.slice A1 (fN p 1) k1) (.slice C1 (fN q 1) j1) p.schemes q.schemes (fun _=>False) (fun _=>False) W e1 e2 (Rx.below (W':=W) ⟨A1,k1,rfl,z1,h1,y1⟩ hb) (Rx.below (W':=W) ⟨C1,j1,rfl,x1,g1,t1⟩ hb) hs.schemes gs.schemes).mono fun e W' ⟨v,e5,e6,e7⟩=>⟨v,e5,e7,by
  have e4:=zlb e6
  show Rx W' _ v (p.schemes++q.schemes).length 1 _
  rw[z2i]
  show Rx W' _ v _ 1 ((p.schemes++q.schemes).map sv)
  rw[z4v]
  exact e4⟩)
 have HC2:=z2g (fun W b (hb:Below w.heap.size w W) e1 e2=>show Calls Tryz.prog 74 #[.slice (some ⟨b,0,none⟩) 2 2] W (fun e W'=> ∃v,e= .returned v/\Below W.heap.size W W'/\RxG (fN (rawB p q) 2) 1 (fC (rawB p q) 2) v W')from(ze8 b (.slice A2 (fN p 2) k2) (.slice C2 (fN q 2) j2) p.css q.css (fun _=>False) (fun _=>False) W e1 e2 (Rx.below (W':=W) ⟨A2,k2,rfl,z2,h2,y2⟩ hb) (Rx.below (W':=W) ⟨C2,j2,rfl,x2,g2,t2⟩ hb) hs.css gs.css).mono fun e W' ⟨v,e5,e6,e7⟩=>⟨v,e5,e7,by
  have e4:=zlb e6
  show Rx W' _ v (p.css++q.css).length 1 _
  rw[z2i]
  show Rx W' _ v _ 1 ((p.css++q.css).map sv)
  rw[z4v]
  exact e4⟩)
 have HC3:=z2g (fun W b (hb:Below w.heap.size w W) e1 e2=>show Calls Tryz.prog 74 #[.slice (some ⟨b,0,none⟩) 2 2] W (fun e W'=> ∃v,e= .returned v/\Below W.heap.size W W'/\RxG (fN (rawB p q) 3) 1 (fC (rawB p q) 3) v W')from(ze8 b (.slice A3 (fN p 3) k3) (.slice C3 (fN q 3) j3) p.drops q.drops (fun _=>False) (fun _=>False) W e1 e2 (Rx.below (W':=W) ⟨A3,k3,rfl,z3,h3,y3⟩ hb) (Rx.below (W':=W) ⟨C3,j3,rfl,x3,g3,t3⟩ hb) hs.drops gs.drops).mono fun e W' ⟨v,e5,e6,e7⟩=>⟨v,e5,e7,by
  have e4:=zlb e6
  show Rx W' _ v (p.drops++q.drops).length 1 _
  rw[z2i]
  show Rx W' _ v _ 1 ((p.drops++q.drops).map sv)
  rw[z4v]
  exact e4⟩)
 have HC4:=z2g (fun W b (hb:Below w.heap.size w W) e1 e2=>show Calls Tryz.prog 75 #[.slice (some ⟨b,0,none⟩) 2 2] W (fun e W'=> ∃v,e= .returned v/\Below W.heap.size W W'/\RxG (fN (rawB p q) 4) 2 (fC (rawB p q) 4) v W')from(zqv b (.slice A4 (fN p 4) k4) (.slice C4 (fN q 4) j4) p.attrs q.attrs (fun _=>False) (fun _=>False) W e1 e2 (Rx.below (W':=W) ⟨A4,k4,rfl,z4,h4,y4⟩ hb) (Rx.below (W':=W) ⟨C4,j4,rfl,x4,g4,t4⟩ hb) hs.attrs gs.attrs).mono fun e W' ⟨v,e5,e6,e7⟩=>⟨v,e5,e7,by
  have e4:=zlb e6
  show Rx W' _ v (p.attrs++q.attrs).length 2 _
  rw[z2i]
  show Rx W' _ v _ 2 ((p.attrs++q.attrs).flatMap Alw.cells)
  rw[List.flatMap_append]
  exact e4⟩)
 have HC5:=z2g (fun W b (hb:Below w.heap.size w W) e1 e2=>show Calls Tryz.prog 76 #[.slice (some ⟨b,0,none⟩) 2 2] W (fun e W'=> ∃v,e= .returned v/\Below W.heap.size W W'/\RxG (fN (rawB p q) 5) 3 (fC (rawB p q) 5) v W')from(zqu b (.slice A5 (fN p 5) k5) (.slice C5 (fN q 5) j5) p.forces q.forces (fun _=>False) (fun _=>False) W e1 e2 (Rx.below (W':=W) ⟨A5,k5,rfl,z5,h5,y5⟩ hb) (Rx.below (W':=W) ⟨C5,j5,rfl,x5,g5,t5⟩ hb) hs.forces gs.forces).mono fun e W' ⟨v,e5,e6,e7⟩=>⟨v,e5,e7,by
  have e4:=zlb e6
  show Rx W' _ v (p.forces++q.forces).length 3 _
  rw[z2i]
  show Rx W' _ v _ 3 ((p.forces++q.forces).flatMap Frc.cells)
  rw[List.flatMap_append]
  exact e4⟩)
 clear z0 z1 z2 z3 z4 z5 h0 h1 h2 h3 h4 h5 y0 y1 y2 y3 y4 y5 x0 x1 x2 x3 x4 x5 g0 g1 g2 g3 g4 g5 t0 t1 t2 t3 t4 t5 hs gs rs
 have HRaw:Hid ((rawB p q).rel=(p.rel||q.rel)/\(rawB p q).depth=max p.depth q.depth/\(rawB p q).name=max p.name q.name/\(rawB p q).value=max p.value q.value):=⟨rfl,rfl,rfl,rfl⟩
 have HBo:Hid (zep p q=zax (rawB p q)):=rfl
 go_enter Tryz.func36,Tryz.ntmps36
 go_upto_region 1 with fail
 refine zaf fun W0 hW0=> ?_
 obtain⟨B,hB⟩: ∃B,w.heap.size=B:=⟨_,rfl⟩
 have hb0:Below w.heap.size w W0:=by rw[hW0];exact bel
 have c0:W0.cell? ⟨B,0,none⟩=some (.slice A0 (fN p 0) k0):=by rw[hW0,<-hB];simp[go_sem]
 have d0:W0.cell? ⟨B+1,0,none⟩=some (.slice C0 (fN q 0) j0):=by rw[hW0,<-hB];simp[go_sem]
 have c1:W0.cell? ⟨B,1,none⟩=some (.slice A1 (fN p 1) k1):=by rw[hW0,<-hB];simp[go_sem]
 have d1:W0.cell? ⟨B+1,1,none⟩=some (.slice C1 (fN q 1) j1):=by rw[hW0,<-hB];simp[go_sem]
 have c2:W0.cell? ⟨B,2,none⟩=some (.slice A2 (fN p 2) k2):=by rw[hW0,<-hB];simp[go_sem]
 have d2:W0.cell? ⟨B+1,2,none⟩=some (.slice C2 (fN q 2) j2):=by rw[hW0,<-hB];simp[go_sem]
 have c3:W0.cell? ⟨B,3,none⟩=some (.slice A3 (fN p 3) k3):=by rw[hW0,<-hB];simp[go_sem]
 have d3:W0.cell? ⟨B+1,3,none⟩=some (.slice C3 (fN q 3) j3):=by rw[hW0,<-hB];simp[go_sem]
 have c4:W0.cell? ⟨B,4,none⟩=some (.slice A4 (fN p 4) k4):=by rw[hW0,<-hB];simp[go_sem]
 have d4:W0.cell? ⟨B+1,4,none⟩=some (.slice C4 (fN q 4) j4):=by rw[hW0,<-hB];simp[go_sem]
 have c5:W0.cell? ⟨B,5,none⟩=some (.slice A5 (fN p 5) k5):=by rw[hW0,<-hB];simp[go_sem]
 have d5:W0.cell? ⟨B+1,5,none⟩=some (.slice C5 (fN q 5) j5):=by rw[hW0,<-hB];simp[go_sem]
 have c6:W0.cell? ⟨B,6,none⟩=some (.bool p.rel):=by rw[hW0,<-hB];simp[go_sem]
 have d6:W0.cell? ⟨B+1,6,none⟩=some (.bool q.rel):=by rw[hW0,<-hB];simp[go_sem]
 have c7:W0.cell? ⟨B,7,none⟩=some (.int .i64 p.depth):=by rw[hW0,<-hB];simp[go_sem]
 have d7:W0.cell? ⟨B+1,7,none⟩=some (.int .i64 q.depth):=by rw[hW0,<-hB];simp[go_sem]
 have c8:W0.cell? ⟨B,8,none⟩=some (.int .i64 p.name):=by rw[hW0,<-hB];simp[go_sem]
 have d8:W0.cell? ⟨B+1,8,none⟩=some (.int .i64 q.name):=by rw[hW0,<-hB];simp[go_sem]
 have c9:W0.cell? ⟨B,9,none⟩=some (.int .i64 p.value):=by rw[hW0,<-hB];simp[go_sem]
 have d9:W0.cell? ⟨B+1,9,none⟩=some (.int .i64 q.value):=by rw[hW0,<-hB];simp[go_sem]
 have hbx:W0.heap[B+2]? =some (.cells #[.slice none 0 0,.slice none 0 0,.slice none 0 0,.slice none 0 0,.slice none 0 0,.slice none 0 0,.bool false,.int .i64 0,.int .i64 0,.int .i64 0] 43):=by rw[hW0,<-hB];exact zmo (by simp)
 have hBl:B<W0.heap.size:=World.block_lt_of_cell? W0 _ c0
 have hBl1:B+1<W0.heap.size:=World.block_lt_of_cell? W0 _ d0
 have HB0:=z2g hb0
 rw[hB]
 obtain⟨B2,hB2⟩: ∃B2,B+1+1=B2:=⟨_,rfl⟩
 rw[show B+2=B2 from hB2]at hbx
 have HBx:=z2g hbx
 have hBl2:B2<W0.heap.size:=(Array.getElem?_eq_some_iff.1 HBx.out).1
 have hwB:w.heap.size<=B2:=by omega
 rw[hB2]
 clear hW0 hb0 hbx hB2 hB
 generalize hr1:p.rel=r1 at*
 generalize hr2:q.rel=r2 at*
 clear hr1 hr2
 cases r1
 case false=>
  refine zem 57 [5,6,7,8,9,10,11,12,13,14,15,16,17,18,19,20,21,22,23,24,25,26,27,28,29,30,31,32,33,34,35,36,37,38,39,40,41,42,43,44,45,46,47,48,49,50,51,52,53,54,55,56,57,58,59,60,61] (fun V=>Below W0.heap.size W0 V) (gAt [isV (.pointer (some ⟨B,0,none⟩)),isV (.slice A0 (fN p 0) k0),isV (.pointer (some ⟨B+1,0,none⟩)),isV (.slice C0 (fN q 0) j0),zdu (.slice A0 (fN p 0) k0) (.slice C0 (fN q 0) j0),RxG (fN (rawB p q) 0) 1 (fC (rawB p q) 0),isV (.pointer (some ⟨B,1,none⟩)),isV (.slice A1 (fN p 1) k1),isV (.pointer (some ⟨B+1,1,none⟩)),isV (.slice C1 (fN q 1) j1),zdu (.slice A1 (fN p 1) k1) (.slice C1 (fN q 1) j1),RxG (fN (rawB p q) 1) 1 (fC (rawB p q) 1),isV (.pointer (some ⟨B,2,none⟩)),isV (.slice A2 (fN p 2) k2),isV (.pointer (some ⟨B+1,2,none⟩)),isV (.slice C2 (fN q 2) j2),zdu (.slice A2 (fN p 2) k2) (.slice C2 (fN q 2) j2),RxG (fN (rawB p q) 2) 1 (fC (rawB p q) 2),isV (.pointer (some ⟨B,3,none⟩)),isV (.slice A3 (fN p 3) k3),isV (.pointer (some ⟨B+1,3,none⟩)),isV (.slice C3 (fN q 3) j3),zdu (.slice A3 (fN p 3) k3) (.slice C3 (fN q 3) j3),RxG (fN (rawB p q) 3) 1 (fC (rawB p q) 3),isV (.pointer (some ⟨B,4,none⟩)),isV (.slice A4 (fN p 4) k4),isV (.pointer (some ⟨B+1,4,none⟩)),isV (.slice C4 (fN q 4) j4),zdu (.slice A4 (fN p 4) k4) (.slice C4 (fN q 4) j4),RxG (fN (rawB p q) 4) 2 (fC (rawB p q) 4),isV (.pointer (some ⟨B,5,none⟩)),isV (.slice A5 (fN p 5) k5),isV (.pointer (some ⟨B+1,5,none⟩)),isV (.slice C5 (fN q 5) j5),zdu (.slice A5 (fN p 5) k5) (.slice C5 (fN q 5) j5),RxG (fN (rawB p q) 5) 3 (fC (rawB p q) 5),isV (.pointer (some ⟨B,6,none⟩)),isV (.bool false),isV (.bool false),isV (.pointer (some ⟨B+1,6,none⟩)),isV (.bool r2),isV (.bool r2),isV (.pointer (some ⟨B,7,none⟩)),isV (.int .i64 p.depth),isV (.pointer (some ⟨B+1,7,none⟩)),isV (.int .i64 q.depth),isV (.int .i64 (max p.depth q.depth)),isV (.pointer (some ⟨B,8,none⟩)),isV (.int .i64 p.name),isV (.pointer (some ⟨B+1,8,none⟩)),isV (.int .i64 q.name),isV (.int .i64 (max p.name q.name)),isV (.pointer (some ⟨B,9,none⟩)),isV (.int .i64 p.value),isV (.pointer (some ⟨B+1,9,none⟩)),isV (.int .i64 q.value),isV (.int .i64 (max p.value q.value))]) hmx (by kernel_rfl) (by kernel_rfl) (by decide) (by kernel_rfl) (by rfl) rfl (by kernel_rfl) (by show Below _ _ _;exact bel) (fun i v W W' _ h hb=>ziu ?keeps i v W W' h hb) ⟨zah (.pointer (some ⟨B,0,none⟩)) rfl rfl rfl (fun a V hr hd=>⟨by have e1:=zae (k:=2) (v:= .pointer (some ⟨B,0,none⟩)) (hr.base 2 (by decide));simp[execOp,go_sem,e1],rfl⟩),zah (.slice A0 (fN p 0) k0) rfl rfl rfl (fun a V hr hd=>⟨by have e1:=zae (k:=5) (v:= .pointer (some ⟨B,0,none⟩)) (hd 0 (by kernel_rfl));have d:=(hr.here.cell (p:=⟨B,0,none⟩) hBl).trans c0;simp[execOp,go_sem,e1,d],rfl⟩),zah (.pointer (some ⟨B+1,0,none⟩)) rfl rfl rfl (fun a V hr hd=>⟨by have e1:=zae (k:=3) (v:= .pointer (some ⟨B+1,0,none⟩)) (hr.base 3 (by decide));simp[execOp,go_sem,e1],rfl⟩),zah (.slice C0 (fN q 0) j0) rfl rfl rfl (fun a V hr hd=>⟨by have e1:=zae (k:=7) (v:= .pointer (some ⟨B+1,0,none⟩)) (hd 2 (by kernel_rfl));have d:=(hr.here.cell (p:=⟨B+1,0,none⟩) hBl1).trans d0;simp[execOp,go_sem,e1,d],rfl⟩),zbh rfl rfl rfl (fun a V hr hd K hK=>by have e1:=zae (k:=6) (v:= .slice A0 (fN p 0) k0) (hd 1 (by kernel_rfl));have e2:=zae (k:=8) (v:= .slice C0 (fN q 0) j0) (hd 3 (by kernel_rfl));unfold Oper.wp;simp[execOp,go_sem,e1,e2];exact hK _ _ (hr.here.trans ((bel:Below V.heap.size V _).mono hr.here.size)) bel ⟨_,rfl,by simp[go_sem],by simp[go_sem]⟩),zbh rfl rfl rfl (fun a V hr hd K hK=>by obtain⟨b9,e0,e3,e4⟩:zdu _ _ _ _:=hd 4 (by kernel_rfl);have e1:=zae (k:=9) e0;unfold Oper.wp;simp[execOp,go_sem,e1];refine(HC0.out V b9 (HB0.out.trans (hr.here.mono HB0.out.size)) e3 e4).mono ?_;rintro e V1 ⟨v1,rfl,hb1,hx1⟩;exact hK _ _ (hr.here.trans (hb1.mono hr.here.size)) hb1 hx1),zah (.pointer (some ⟨B,1,none⟩)) rfl rfl rfl (fun a V hr hd=>⟨by have e1:=zae (k:=2) (v:= .pointer (some ⟨B,0,none⟩)) (hr.base 2 (by decide));simp[execOp,go_sem,e1],rfl⟩),zah (.slice A1 (fN p 1) k1) rfl rfl rfl (fun a V hr hd=>⟨by have e1:=zae (k:=11) (v:= .pointer (some ⟨B,1,none⟩)) (hd 6 (by kernel_rfl));have d:=(hr.here.cell (p:=⟨B,1,none⟩) hBl).trans c1;simp[execOp,go_sem,e1,d],rfl⟩),zah (.pointer (some ⟨B+1,1,none⟩)) rfl rfl rfl (fun a V hr hd=>⟨by have e1:=zae (k:=3) (v:= .pointer (some ⟨B+1,0,none⟩)) (hr.base 3 (by decide));simp[execOp,go_sem,e1],rfl⟩),zah (.slice C1 (fN q 1) j1) rfl rfl rfl (fun a V hr hd=>⟨by have e1:=zae (k:=13) (v:= .pointer (some ⟨B+1,1,none⟩)) (hd 8 (by kernel_rfl));have d:=(hr.here.cell (p:=⟨B+1,1,none⟩) hBl1).trans d1;simp[execOp,go_sem,e1,d],rfl⟩),zbh rfl rfl rfl (fun a V hr hd K hK=>by have e1:=zae (k:=12) (v:= .slice A1 (fN p 1) k1) (hd 7 (by kernel_rfl));have e2:=zae (k:=14) (v:= .slice C1 (fN q 1) j1) (hd 9 (by kernel_rfl));unfold Oper.wp;simp[execOp,go_sem,e1,e2];exact hK _ _ (hr.here.trans ((bel:Below V.heap.size V _).mono hr.here.size)) bel ⟨_,rfl,by simp[go_sem],by simp[go_sem]⟩),zbh rfl rfl rfl (fun a V hr hd K hK=>by obtain⟨b9,e0,e3,e4⟩:zdu _ _ _ _:=hd 10 (by kernel_rfl);have e1:=zae (k:=15) e0;unfold Oper.wp;simp[execOp,go_sem,e1];refine(HC1.out V b9 (HB0.out.trans (hr.here.mono HB0.out.size)) e3 e4).mono ?_;rintro e V1 ⟨v1,rfl,hb1,hx1⟩;exact hK _ _ (hr.here.trans (hb1.mono hr.here.size)) hb1 hx1),zah (.pointer (some ⟨B,2,none⟩)) rfl rfl rfl (fun a V hr hd=>⟨by have e1:=zae (k:=2) (v:= .pointer (some ⟨B,0,none⟩)) (hr.base 2 (by decide));simp[execOp,go_sem,e1],rfl⟩),zah (.slice A2 (fN p 2) k2) rfl rfl rfl (fun a V hr hd=>⟨by have e1:=zae (k:=17) (v:= .pointer (some ⟨B,2,none⟩)) (hd 12 (by kernel_rfl));have d:=(hr.here.cell (p:=⟨B,2,none⟩) hBl).trans c2;simp[execOp,go_sem,e1,d],rfl⟩),zah (.pointer (some ⟨B+1,2,none⟩)) rfl rfl rfl (fun a V hr hd=>⟨by have e1:=zae (k:=3) (v:= .pointer (some ⟨B+1,0,none⟩)) (hr.base 3 (by decide));simp[execOp,go_sem,e1],rfl⟩),zah (.slice C2 (fN q 2) j2) rfl rfl rfl (fun a V hr hd=>⟨by have e1:=zae (k:=19) (v:= .pointer (some ⟨B+1,2,none⟩)) (hd 14 (by kernel_rfl));have d:=(hr.here.cell (p:=⟨B+1,2,none⟩) hBl1).trans d2;simp[execOp,go_sem,e1,d],rfl⟩),zbh rfl rfl rfl (fun a V hr hd K hK=>by have e1:=zae (k:=18) (v:= .slice A2 (fN p 2) k2) (hd 13 (by kernel_rfl));have e2:=zae (k:=20) (v:= .slice C2 (fN q 2) j2) (hd 15 (by kernel_rfl));unfold Oper.wp;simp[execOp,go_sem,e1,e2];exact hK _ _ (hr.here.trans ((bel:Below V.heap.size V _).mono hr.here.size)) bel ⟨_,rfl,by simp[go_sem],by simp[go_sem]⟩),zbh rfl rfl rfl (fun a V hr hd K hK=>by obtain⟨b9,e0,e3,e4⟩:zdu _ _ _ _:=hd 16 (by kernel_rfl);have e1:=zae (k:=21) e0;unfold Oper.wp;simp[execOp,go_sem,e1];refine(HC2.out V b9 (HB0.out.trans (hr.here.mono HB0.out.size)) e3 e4).mono ?_;rintro e V1 ⟨v1,rfl,hb1,hx1⟩;exact hK _ _ (hr.here.trans (hb1.mono hr.here.size)) hb1 hx1),zah (.pointer (some ⟨B,3,none⟩)) rfl rfl rfl (fun a V hr hd=>⟨by have e1:=zae (k:=2) (v:= .pointer (some ⟨B,0,none⟩)) (hr.base 2 (by decide));simp[execOp,go_sem,e1],rfl⟩),zah (.slice A3 (fN p 3) k3) rfl rfl rfl (fun a V hr hd=>⟨by have e1:=zae (k:=23) (v:= .pointer (some ⟨B,3,none⟩)) (hd 18 (by kernel_rfl));have d:=(hr.here.cell (p:=⟨B,3,none⟩) hBl).trans c3;simp[execOp,go_sem,e1,d],rfl⟩),zah (.pointer (some ⟨B+1,3,none⟩)) rfl rfl rfl (fun a V hr hd=>⟨by have e1:=zae (k:=3) (v:= .pointer (some ⟨B+1,0,none⟩)) (hr.base 3 (by decide));simp[execOp,go_sem,e1],rfl⟩),zah (.slice C3 (fN q 3) j3) rfl rfl rfl (fun a V hr hd=>⟨by have e1:=zae (k:=25) (v:= .pointer (some ⟨B+1,3,none⟩)) (hd 20 (by kernel_rfl));have d:=(hr.here.cell (p:=⟨B+1,3,none⟩) hBl1).trans d3;simp[execOp,go_sem,e1,d],rfl⟩),zbh rfl rfl rfl (fun a V hr hd K hK=>by have e1:=zae (k:=24) (v:= .slice A3 (fN p 3) k3) (hd 19 (by kernel_rfl));have e2:=zae (k:=26) (v:= .slice C3 (fN q 3) j3) (hd 21 (by kernel_rfl));unfold Oper.wp;simp[execOp,go_sem,e1,e2];exact hK _ _ (hr.here.trans ((bel:Below V.heap.size V _).mono hr.here.size)) bel ⟨_,rfl,by simp[go_sem],by simp[go_sem]⟩),zbh rfl rfl rfl (fun a V hr hd K hK=>by obtain⟨b9,e0,e3,e4⟩:zdu _ _ _ _:=hd 22 (by kernel_rfl);have e1:=zae (k:=27) e0;unfold Oper.wp;simp[execOp,go_sem,e1];refine(HC3.out V b9 (HB0.out.trans (hr.here.mono HB0.out.size)) e3 e4).mono ?_;rintro e V1 ⟨v1,rfl,hb1,hx1⟩;exact hK _ _ (hr.here.trans (hb1.mono hr.here.size)) hb1 hx1),zah (.pointer (some ⟨B,4,none⟩)) rfl rfl rfl (fun a V hr hd=>⟨by have e1:=zae (k:=2) (v:= .pointer (some ⟨B,0,none⟩)) (hr.base 2 (by decide));simp[execOp,go_sem,e1],rfl⟩),zah (.slice A4 (fN p 4) k4) rfl rfl rfl (fun a V hr hd=>⟨by have e1:=zae (k:=29) (v:= .pointer (some ⟨B,4,none⟩)) (hd 24 (by kernel_rfl));have d:=(hr.here.cell (p:=⟨B,4,none⟩) hBl).trans c4;simp[execOp,go_sem,e1,d],rfl⟩),zah (.pointer (some ⟨B+1,4,none⟩)) rfl rfl rfl (fun a V hr hd=>⟨by have e1:=zae (k:=3) (v:= .pointer (some ⟨B+1,0,none⟩)) (hr.base 3 (by decide));simp[execOp,go_sem,e1],rfl⟩),zah (.slice C4 (fN q 4) j4) rfl rfl rfl (fun a V hr hd=>⟨by have e1:=zae (k:=31) (v:= .pointer (some ⟨B+1,4,none⟩)) (hd 26 (by kernel_rfl));have d:=(hr.here.cell (p:=⟨B+1,4,none⟩) hBl1).trans d4;simp[execOp,go_sem,e1,d],rfl⟩),zbh rfl rfl rfl (fun a V hr hd K hK=>by have e1:=zae (k:=30) (v:= .slice A4 (fN p 4) k4) (hd 25 (by kernel_rfl));have e2:=zae (k:=32) (v:= .slice C4 (fN q 4) j4) (hd 27 (by kernel_rfl));unfold Oper.wp;simp[execOp,go_sem,e1,e2];exact hK _ _ (hr.here.trans ((bel:Below V.heap.size V _).mono hr.here.size)) bel ⟨_,rfl,by simp[go_sem],by simp[go_sem]⟩),zbh rfl rfl rfl (fun a V hr hd K hK=>by obtain⟨b9,e0,e3,e4⟩:zdu _ _ _ _:=hd 28 (by kernel_rfl);have e1:=zae (k:=33) e0;unfold Oper.wp;simp[execOp,go_sem,e1];refine(HC4.out V b9 (HB0.out.trans (hr.here.mono HB0.out.size)) e3 e4).mono ?_;rintro e V1 ⟨v1,rfl,hb1,hx1⟩;exact hK _ _ (hr.here.trans (hb1.mono hr.here.size)) hb1 hx1),zah (.pointer (some ⟨B,5,none⟩)) rfl rfl rfl (fun a V hr hd=>⟨by have e1:=zae (k:=2) (v:= .pointer (some ⟨B,0,none⟩)) (hr.base 2 (by decide));simp[execOp,go_sem,e1],rfl⟩),zah (.slice A5 (fN p 5) k5) rfl rfl rfl (fun a V hr hd=>⟨by have e1:=zae (k:=35) (v:= .pointer (some ⟨B,5,none⟩)) (hd 30 (by kernel_rfl));have d:=(hr.here.cell (p:=⟨B,5,none⟩) hBl).trans c5;simp[execOp,go_sem,e1,d],rfl⟩),zah (.pointer (some ⟨B+1,5,none⟩)) rfl rfl rfl (fun a V hr hd=>⟨by have e1:=zae (k:=3) (v:= .pointer (some ⟨B+1,0,none⟩)) (hr.base 3 (by decide));simp[execOp,go_sem,e1],rfl⟩),zah (.slice C5 (fN q 5) j5) rfl rfl rfl (fun a V hr hd=>⟨by have e1:=zae (k:=37) (v:= .pointer (some ⟨B+1,5,none⟩)) (hd 32 (by kernel_rfl));have d:=(hr.here.cell (p:=⟨B+1,5,none⟩) hBl1).trans d5;simp[execOp,go_sem,e1,d],rfl⟩),zbh rfl rfl rfl (fun a V hr hd K hK=>by have e1:=zae (k:=36) (v:= .slice A5 (fN p 5) k5) (hd 31 (by kernel_rfl));have e2:=zae (k:=38) (v:= .slice C5 (fN q 5) j5) (hd 33 (by kernel_rfl));unfold Oper.wp;simp[execOp,go_sem,e1,e2];exact hK _ _ (hr.here.trans ((bel:Below V.heap.size V _).mono hr.here.size)) bel ⟨_,rfl,by simp[go_sem],by simp[go_sem]⟩),zbh rfl rfl rfl (fun a V hr hd K hK=>by obtain⟨b9,e0,e3,e4⟩:zdu _ _ _ _:=hd 34 (by kernel_rfl);have e1:=zae (k:=39) e0;unfold Oper.wp;simp[execOp,go_sem,e1];refine(HC5.out V b9 (HB0.out.trans (hr.here.mono HB0.out.size)) e3 e4).mono ?_;rintro e V1 ⟨v1,rfl,hb1,hx1⟩;exact hK _ _ (hr.here.trans (hb1.mono hr.here.size)) hb1 hx1),zah (.pointer (some ⟨B,6,none⟩)) rfl rfl rfl (fun a V hr hd=>⟨by have e1:=zae (k:=2) (v:= .pointer (some ⟨B,0,none⟩)) (hr.base 2 (by decide));simp[execOp,go_sem,e1],rfl⟩),zah (.bool false) rfl rfl rfl (fun a V hr hd=>⟨by have e1:=zae (k:=41) (v:= .pointer (some ⟨B,6,none⟩)) (hd 36 (by kernel_rfl));have d:=(hr.here.cell (p:=⟨B,6,none⟩) hBl).trans c6;simp[execOp,go_sem,e1,d],rfl⟩),zah (.bool false) rfl rfl rfl (fun a V hr hd=>⟨by have e1:=zae (k:=42) (v:= .bool false) (hd 37 (by kernel_rfl));simp[execOp,go_sem,e1],rfl⟩),zk8 (.pointer (some ⟨B+1,6,none⟩)) rfl rfl (fun a V hr hd=>⟨(zgn (j:=38) (k:=43) rfl rfl (show _=Value.bool false from hd 38 (by kernel_rfl))).trans rfl,by have e1:=zae (k:=3) (v:= .pointer (some ⟨B+1,0,none⟩)) (hr.base 3 (by decide));simp[execOp,go_sem,e1],rfl⟩),zk8 (.bool r2) rfl rfl (fun a V hr hd=>⟨(zgn (j:=38) (k:=43) rfl rfl (show _=Value.bool false from hd 38 (by kernel_rfl))).trans rfl,by have e1:=zae (k:=44) (v:= .pointer (some ⟨B+1,6,none⟩)) (hd 39 (by kernel_rfl));have d:=(hr.here.cell (p:=⟨B+1,6,none⟩) hBl1).trans d6;simp[execOp,go_sem,e1,d],rfl⟩),zah (.bool r2) rfl rfl rfl (fun a V hr hd=>⟨by have e1:=zae (k:=43) (v:= .bool false) (hd 38 (by kernel_rfl));have e2:=zae (k:=45) (v:= .bool r2) (hd 40 (by kernel_rfl));simp[execOp,go_sem,e1,e2],rfl⟩),zah (.pointer (some ⟨B,7,none⟩)) rfl rfl rfl (fun a V hr hd=>⟨by have e1:=zae (k:=2) (v:= .pointer (some ⟨B,0,none⟩)) (hr.base 2 (by decide));simp[execOp,go_sem,e1],rfl⟩),zah (.int .i64 p.depth) rfl rfl rfl (fun a V hr hd=>⟨by have e1:=zae (k:=47) (v:= .pointer (some ⟨B,7,none⟩)) (hd 42 (by kernel_rfl));have d:=(hr.here.cell (p:=⟨B,7,none⟩) hBl).trans c7;simp[execOp,go_sem,e1,d],rfl⟩),zah (.pointer (some ⟨B+1,7,none⟩)) rfl rfl rfl (fun a V hr hd=>⟨by have e1:=zae (k:=3) (v:= .pointer (some ⟨B+1,0,none⟩)) (hr.base 3 (by decide));simp[execOp,go_sem,e1],rfl⟩),zah (.int .i64 q.depth) rfl rfl rfl (fun a V hr hd=>⟨by have e1:=zae (k:=49) (v:= .pointer (some ⟨B+1,7,none⟩)) (hd 44 (by kernel_rfl));have d:=(hr.here.cell (p:=⟨B+1,7,none⟩) hBl1).trans d7;simp[execOp,go_sem,e1,d],rfl⟩),zah (.int .i64 (max p.depth q.depth)) rfl rfl rfl (fun a V hr hd=>⟨by have e1:=zae (k:=48) (v:= .int .i64 p.depth) (hd 43 (by kernel_rfl));have e2:=zae (k:=50) (v:= .int .i64 q.depth) (hd 45 (by kernel_rfl));simp[execOp,go_sem,e1,e2],rfl⟩),zah (.pointer (some ⟨B,8,none⟩)) rfl rfl rfl (fun a V hr hd=>⟨by have e1:=zae (k:=2) (v:= .pointer (some ⟨B,0,none⟩)) (hr.base 2 (by decide));simp[execOp,go_sem,e1],rfl⟩),zah (.int .i64 p.name) rfl rfl rfl (fun a V hr hd=>⟨by have e1:=zae (k:=52) (v:= .pointer (some ⟨B,8,none⟩)) (hd 47 (by kernel_rfl));have d:=(hr.here.cell (p:=⟨B,8,none⟩) hBl).trans c8;simp[execOp,go_sem,e1,d],rfl⟩),zah (.pointer (some ⟨B+1,8,none⟩)) rfl rfl rfl (fun a V hr hd=>⟨by have e1:=zae (k:=3) (v:= .pointer (some ⟨B+1,0,none⟩)) (hr.base 3 (by decide));simp[execOp,go_sem,e1],rfl⟩),zah (.int .i64 q.name) rfl rfl rfl (fun a V hr hd=>⟨by have e1:=zae (k:=54) (v:= .pointer (some ⟨B+1,8,none⟩)) (hd 49 (by kernel_rfl));have d:=(hr.here.cell (p:=⟨B+1,8,none⟩) hBl1).trans d8;simp[execOp,go_sem,e1,d],rfl⟩),zah (.int .i64 (max p.name q.name)) rfl rfl rfl (fun a V hr hd=>⟨by have e1:=zae (k:=53) (v:= .int .i64 p.name) (hd 48 (by kernel_rfl));have e2:=zae (k:=55) (v:= .int .i64 q.name) (hd 50 (by kernel_rfl));simp[execOp,go_sem,e1,e2],rfl⟩),zah (.pointer (some ⟨B,9,none⟩)) rfl rfl rfl (fun a V hr hd=>⟨by have e1:=zae (k:=2) (v:= .pointer (some ⟨B,0,none⟩)) (hr.base 2 (by decide));simp[execOp,go_sem,e1],rfl⟩),zah (.int .i64 p.value) rfl rfl rfl (fun a V hr hd=>⟨by have e1:=zae (k:=57) (v:= .pointer (some ⟨B,9,none⟩)) (hd 52 (by kernel_rfl));have d:=(hr.here.cell (p:=⟨B,9,none⟩) hBl).trans c9;simp[execOp,go_sem,e1,d],rfl⟩),zah (.pointer (some ⟨B+1,9,none⟩)) rfl rfl rfl (fun a V hr hd=>⟨by have e1:=zae (k:=3) (v:= .pointer (some ⟨B+1,0,none⟩)) (hr.base 3 (by decide));simp[execOp,go_sem,e1],rfl⟩),zah (.int .i64 q.value) rfl rfl rfl (fun a V hr hd=>⟨by have e1:=zae (k:=59) (v:= .pointer (some ⟨B+1,9,none⟩)) (hd 54 (by kernel_rfl));have d:=(hr.here.cell (p:=⟨B+1,9,none⟩) hBl1).trans d9;simp[execOp,go_sem,e1,d],rfl⟩),zah (.int .i64 (max p.value q.value)) rfl rfl rfl (fun a V hr hd=>⟨by have e1:=zae (k:=58) (v:= .int .i64 p.value) (hd 53 (by kernel_rfl));have e2:=zae (k:=60) (v:= .int .i64 q.value) (hd 55 (by kernel_rfl));simp[execOp,go_sem,e1,e2],rfl⟩),trivial⟩ ?fin
  case keeps=>exact⟨zag _,zag _,zag _,zag _,zcw _ _,zdx _ _ _,zag _,zag _,zag _,zag _,zcw _ _,zdx _ _ _,zag _,zag _,zag _,zag _,zcw _ _,zdx _ _ _,zag _,zag _,zag _,zag _,zcw _ _,zdx _ _ _,zag _,zag _,zag _,zag _,zcw _ _,zdx _ _ _,zag _,zag _,zag _,zag _,zcw _ _,zdx _ _ _,zag _,zag _,zag _,zag _,zag _,zag _,zag _,zag _,zag _,zag _,zag _,zag _,zag _,zag _,zag _,zag _,zag _,zag _,zag _,zag _,zag _,trivial⟩
  case fin=>
   intro v V hV hg
   have q0:RxG (fN (rawB p q) 0) 1 (fC (rawB p q) 0) (v 5) V:=hg 5 (by decide)
   have q1:RxG (fN (rawB p q) 1) 1 (fC (rawB p q) 1) (v 11) V:=hg 11 (by decide)
   have q2:RxG (fN (rawB p q) 2) 1 (fC (rawB p q) 2) (v 17) V:=hg 17 (by decide)
   have q3:RxG (fN (rawB p q) 3) 1 (fC (rawB p q) 3) (v 23) V:=hg 23 (by decide)
   have q4:RxG (fN (rawB p q) 4) 2 (fC (rawB p q) 4) (v 29) V:=hg 29 (by decide)
   have q5:RxG (fN (rawB p q) 5) 3 (fC (rawB p q) 5) (v 35) V:=hg 35 (by decide)
   have g6:v 41= .bool r2:=hg 41 (by decide)
   have g7:v 46= .int .i64 (max p.depth q.depth):=hg 46 (by decide)
   have g8:v 51= .int .i64 (max p.name q.name):=hg 51 (by decide)
   have g9:v 56= .int .i64 (max p.value q.value):=hg 56 (by decide)
   simp only[puts,List.range,List.range.loop,List.foldl_cons,List.foldl_nil,Act.put,List.getD_cons_zero,List.getD_cons_succ,List.setIfInBounds_toArray,List.set_cons_succ,List.set_cons_zero,g6,g7,g8,g9]
   clear hg g6 g7 g8 g9
   generalize v 5=s0 at*
   generalize v 11=s1 at*
   generalize v 17=s2 at*
   generalize v 23=s3 at*
   generalize v 29=s4 at*
   generalize v 35=s5 at*
   generalize v 0=y0
   generalize v 1=y1
   generalize v 2=y2
   generalize v 3=y3
   generalize v 4=y4
   generalize v 6=y6
   generalize v 7=y7
   generalize v 8=y8
   generalize v 9=y9
   generalize v 10=y10
   generalize v 12=y12
   generalize v 13=y13
   generalize v 14=y14
   generalize v 15=y15
   generalize v 16=y16
   generalize v 18=y18
   generalize v 19=y19
   generalize v 20=y20
   generalize v 21=y21
   generalize v 22=y22
   generalize v 24=y24
   generalize v 25=y25
   generalize v 26=y26
   generalize v 27=y27
   generalize v 28=y28
   generalize v 30=y30
   generalize v 31=y31
   generalize v 32=y32
   generalize v 33=y33
   generalize v 34=y34
   generalize v 36=y36
   generalize v 37=y37
   generalize v 38=y38
   generalize v 39=y39
   generalize v 40=y40
   generalize v 42=y42
   generalize v 43=y43
   generalize v 44=y44
   generalize v 45=y45
   generalize v 47=y47
   generalize v 48=y48
   generalize v 49=y49
   generalize v 50=y50
   generalize v 52=y52
   generalize v 53=y53
   generalize v 54=y54
   generalize v 55=y55
   obtain⟨D0,m0,rfl,w0⟩:=q0
   obtain⟨D1,m1,rfl,w1⟩:=q1
   obtain⟨D2,m2,rfl,w2⟩:=q2
   obtain⟨D3,m3,rfl,w3⟩:=q3
   obtain⟨D4,m4,rfl,w4⟩:=q4
   obtain⟨D5,m5,rfl,w5⟩:=q5
   dsimp only[List.drop]
   have hRw:=HRaw.out
   have HPv:Hid (PolV V (fun _=>False) (.agg #[.slice D0 (fN (rawB p q) 0) m0,.slice D1 (fN (rawB p q) 1) m1,.slice D2 (fN (rawB p q) 2) m2,.slice D3 (fN (rawB p q) 3) m3,.slice D4 (fN (rawB p q) 4) m4,.slice D5 (fN (rawB p q) 5) m5,.bool r2,.int .i64 (max p.depth q.depth),.int .i64 (max p.name q.name),.int .i64 (max p.value q.value)]) (rawB p q)):=⟨_,_,_,_,_,_,by rw[hRw.1,hRw.2.1,hRw.2.2.1,hRw.2.2.2];rfl,⟨D0,m0,rfl,w0⟩,⟨D1,m1,rfl,w1⟩,⟨D2,m2,rfl,w2⟩,⟨D3,m3,rfl,w3⟩,⟨D4,m4,rfl,w4⟩,⟨D5,m5,rfl,w5⟩⟩
   have HBt:=z2g (HB0.out.trans (hV.mono HB0.out.size))
   have HBy:Hid (V.heap[B2]? =_):=(hV.block B2 hBl2).trans HBx.out
   have hBl3:B2<V.heap.size:=z2h hBl2 hV.size
   clear hRw w0 w1 w2 w3 w4 w5 HC0 HC1 HC2 HC3 HC4 HC5 HRaw c0 c1 c2 c3 c4 c5 c6 c7 c8 c9 d0 d1 d2 d3 d4 d5 d6 d7 d8 d9
   go_wp2_with(go_at_call 39;(with_reducible refine(HNt.out _ _ HPv.out).mono ?_);rintro e W9 ⟨v9,rfl,hb9,hp9⟩;have HN9:=z2g hp9;obtain⟨n0,n1,n2,n3,n4,n5,rfl,⟨E0,o0,rfl,w0⟩,⟨E1,o1,rfl,w1⟩,⟨E2,o2,rfl,w2⟩,⟨E3,o3,rfl,w3⟩,⟨E4,o4,rfl,w4⟩,⟨E5,o5,rfl,w5⟩⟩:=hp9;have HB9:=z2g hb9;have HBz:Hid (W9.heap[B2]? =_):=(hb9.block B2 hBl3).trans HBy.out;have hBl9:B2<W9.heap.size:=z2h hBl3 hb9.size;have z0:W9.cell? ⟨B2,0,none⟩=some (.slice none 0 0):=(by simp[World.cell?,HBz.out]);have z1:W9.cell? ⟨B2,1,none⟩=some (.slice none 0 0):=(by simp[World.cell?,HBz.out]);have z2:W9.cell? ⟨B2,2,none⟩=some (.slice none 0 0):=(by simp[World.cell?,HBz.out]);have z3:W9.cell? ⟨B2,3,none⟩=some (.slice none 0 0):=(by simp[World.cell?,HBz.out]);have z4:W9.cell? ⟨B2,4,none⟩=some (.slice none 0 0):=(by simp[World.cell?,HBz.out]);have z5:W9.cell? ⟨B2,5,none⟩=some (.slice none 0 0):=(by simp[World.cell?,HBz.out]);have z6:W9.cell? ⟨B2,6,none⟩=some (.bool false):=(by simp[World.cell?,HBz.out]);have z7:W9.cell? ⟨B2,7,none⟩=some (.int .i64 0):=(by simp[World.cell?,HBz.out]);have z8:W9.cell? ⟨B2,8,none⟩=some (.int .i64 0):=(by simp[World.cell?,HBz.out]);have z9:W9.cell? ⟨B2,9,none⟩=some (.int .i64 0):=(by simp[World.cell?,HBz.out]);have f0:W9.frozen? ⟨B2,0,none⟩=false:=(by simp[World.frozen?,HBz.out]);have f1:W9.frozen? ⟨B2,1,none⟩=false:=(by simp[World.frozen?,HBz.out]);have f2:W9.frozen? ⟨B2,2,none⟩=false:=(by simp[World.frozen?,HBz.out]);have f3:W9.frozen? ⟨B2,3,none⟩=false:=(by simp[World.frozen?,HBz.out]);have f4:W9.frozen? ⟨B2,4,none⟩=false:=(by simp[World.frozen?,HBz.out]);have f5:W9.frozen? ⟨B2,5,none⟩=false:=(by simp[World.frozen?,HBz.out]);have f6:W9.frozen? ⟨B2,6,none⟩=false:=(by simp[World.frozen?,HBz.out]);have f7:W9.frozen? ⟨B2,7,none⟩=false:=(by simp[World.frozen?,HBz.out]);have f8:W9.frozen? ⟨B2,8,none⟩=false:=(by simp[World.frozen?,HBz.out]);have f9:W9.frozen? ⟨B2,9,none⟩=false:=(by simp[World.frozen?,HBz.out]);clear hb9 w0 w1 w2 w3 w4 w5)
   ((try simp only[Exit.inBlock,Exit.then]);refine bodyPost_ret (v:= .agg #[.slice E0 (fN (zax (rawB p q)) 0) o0,.slice E1 (fN (zax (rawB p q)) 1) o1,.slice E2 (fN (zax (rawB p q)) 2) o2,.slice E3 (fN (zax (rawB p q)) 3) o3,.slice E4 (fN (zax (rawB p q)) 4) o4,.slice E5 (fN (zax (rawB p q)) 5) o5,.bool (zax (rawB p q)).rel,.int .i64 (zax (rawB p q)).depth,.int .i64 (zax (rawB p q)).name,.int .i64 (zax (rawB p q)).value]) (by(first|rw[results_cell_tmp rfl]|rw[zcd rfl]);go_simp) rfl ?_)
   have hbW:Below w.heap.size w W9:=HBt.out.trans (HB9.out.mono HBt.out.size)
   refine⟨_,rfl,hbW.trans ((bel:Below w.heap.size W9 _)), ?_⟩
   rw[HBo.out]
   exact((HN9.out.mono (bad':=fun k=>k=B2\/k<w.heap.size) (fun b _ h=>h.elim (fun h=>h ▸ hBl3) (fun h=>z2h h HBt.out.size))).turned tur).mono (fun _ _ h=> .inr h)
 case true=>
  refine zem 57 [5,6,7,8,9,10,11,12,13,14,15,16,17,18,19,20,21,22,23,24,25,26,27,28,29,30,31,32,33,34,35,36,37,38,39,40,41,42,43,44,45,46,47,48,49,50,51,52,53,54,55,56,57,58,59,60,61] (fun V=>Below W0.heap.size W0 V) (gAt [isV (.pointer (some ⟨B,0,none⟩)),isV (.slice A0 (fN p 0) k0),isV (.pointer (some ⟨B+1,0,none⟩)),isV (.slice C0 (fN q 0) j0),zdu (.slice A0 (fN p 0) k0) (.slice C0 (fN q 0) j0),RxG (fN (rawB p q) 0) 1 (fC (rawB p q) 0),isV (.pointer (some ⟨B,1,none⟩)),isV (.slice A1 (fN p 1) k1),isV (.pointer (some ⟨B+1,1,none⟩)),isV (.slice C1 (fN q 1) j1),zdu (.slice A1 (fN p 1) k1) (.slice C1 (fN q 1) j1),RxG (fN (rawB p q) 1) 1 (fC (rawB p q) 1),isV (.pointer (some ⟨B,2,none⟩)),isV (.slice A2 (fN p 2) k2),isV (.pointer (some ⟨B+1,2,none⟩)),isV (.slice C2 (fN q 2) j2),zdu (.slice A2 (fN p 2) k2) (.slice C2 (fN q 2) j2),RxG (fN (rawB p q) 2) 1 (fC (rawB p q) 2),isV (.pointer (some ⟨B,3,none⟩)),isV (.slice A3 (fN p 3) k3),isV (.pointer (some ⟨B+1,3,none⟩)),isV (.slice C3 (fN q 3) j3),zdu (.slice A3 (fN p 3) k3) (.slice C3 (fN q 3) j3),RxG (fN (rawB p q) 3) 1 (fC (rawB p q) 3),isV (.pointer (some ⟨B,4,none⟩)),isV (.slice A4 (fN p 4) k4),isV (.pointer (some ⟨B+1,4,none⟩)),isV (.slice C4 (fN q 4) j4),zdu (.slice A4 (fN p 4) k4) (.slice C4 (fN q 4) j4),RxG (fN (rawB p q) 4) 2 (fC (rawB p q) 4),isV (.pointer (some ⟨B,5,none⟩)),isV (.slice A5 (fN p 5) k5),isV (.pointer (some ⟨B+1,5,none⟩)),isV (.slice C5 (fN q 5) j5),zdu (.slice A5 (fN p 5) k5) (.slice C5 (fN q 5) j5),RxG (fN (rawB p q) 5) 3 (fC (rawB p q) 5),isV (.pointer (some ⟨B,6,none⟩)),isV (.bool true),isV (.bool true),isV undef,isV undef,isV (.bool true),isV (.pointer (some ⟨B,7,none⟩)),isV (.int .i64 p.depth),isV (.pointer (some ⟨B+1,7,none⟩)),isV (.int .i64 q.depth),isV (.int .i64 (max p.depth q.depth)),isV (.pointer (some ⟨B,8,none⟩)),isV (.int .i64 p.name),isV (.pointer (some ⟨B+1,8,none⟩)),isV (.int .i64 q.name),isV (.int .i64 (max p.name q.name)),isV (.pointer (some ⟨B,9,none⟩)),isV (.int .i64 p.value),isV (.pointer (some ⟨B+1,9,none⟩)),isV (.int .i64 q.value),isV (.int .i64 (max p.value q.value))]) hmx (by kernel_rfl) (by kernel_rfl) (by decide) (by kernel_rfl) (by rfl) rfl (by kernel_rfl) (by show Below _ _ _;exact bel) (fun i v W W' _ h hb=>ziu ?keeps i v W W' h hb) ⟨zah (.pointer (some ⟨B,0,none⟩)) rfl rfl rfl (fun a V hr hd=>⟨by have e1:=zae (k:=2) (v:= .pointer (some ⟨B,0,none⟩)) (hr.base 2 (by decide));simp[execOp,go_sem,e1],rfl⟩),zah (.slice A0 (fN p 0) k0) rfl rfl rfl (fun a V hr hd=>⟨by have e1:=zae (k:=5) (v:= .pointer (some ⟨B,0,none⟩)) (hd 0 (by kernel_rfl));have d:=(hr.here.cell (p:=⟨B,0,none⟩) hBl).trans c0;simp[execOp,go_sem,e1,d],rfl⟩),zah (.pointer (some ⟨B+1,0,none⟩)) rfl rfl rfl (fun a V hr hd=>⟨by have e1:=zae (k:=3) (v:= .pointer (some ⟨B+1,0,none⟩)) (hr.base 3 (by decide));simp[execOp,go_sem,e1],rfl⟩),zah (.slice C0 (fN q 0) j0) rfl rfl rfl (fun a V hr hd=>⟨by have e1:=zae (k:=7) (v:= .pointer (some ⟨B+1,0,none⟩)) (hd 2 (by kernel_rfl));have d:=(hr.here.cell (p:=⟨B+1,0,none⟩) hBl1).trans d0;simp[execOp,go_sem,e1,d],rfl⟩),zbh rfl rfl rfl (fun a V hr hd K hK=>by have e1:=zae (k:=6) (v:= .slice A0 (fN p 0) k0) (hd 1 (by kernel_rfl));have e2:=zae (k:=8) (v:= .slice C0 (fN q 0) j0) (hd 3 (by kernel_rfl));unfold Oper.wp;simp[execOp,go_sem,e1,e2];exact hK _ _ (hr.here.trans ((bel:Below V.heap.size V _).mono hr.here.size)) bel ⟨_,rfl,by simp[go_sem],by simp[go_sem]⟩),zbh rfl rfl rfl (fun a V hr hd K hK=>by obtain⟨b9,e0,e3,e4⟩:zdu _ _ _ _:=hd 4 (by kernel_rfl);have e1:=zae (k:=9) e0;unfold Oper.wp;simp[execOp,go_sem,e1];refine(HC0.out V b9 (HB0.out.trans (hr.here.mono HB0.out.size)) e3 e4).mono ?_;rintro e V1 ⟨v1,rfl,hb1,hx1⟩;exact hK _ _ (hr.here.trans (hb1.mono hr.here.size)) hb1 hx1),zah (.pointer (some ⟨B,1,none⟩)) rfl rfl rfl (fun a V hr hd=>⟨by have e1:=zae (k:=2) (v:= .pointer (some ⟨B,0,none⟩)) (hr.base 2 (by decide));simp[execOp,go_sem,e1],rfl⟩),zah (.slice A1 (fN p 1) k1) rfl rfl rfl (fun a V hr hd=>⟨by have e1:=zae (k:=11) (v:= .pointer (some ⟨B,1,none⟩)) (hd 6 (by kernel_rfl));have d:=(hr.here.cell (p:=⟨B,1,none⟩) hBl).trans c1;simp[execOp,go_sem,e1,d],rfl⟩),zah (.pointer (some ⟨B+1,1,none⟩)) rfl rfl rfl (fun a V hr hd=>⟨by have e1:=zae (k:=3) (v:= .pointer (some ⟨B+1,0,none⟩)) (hr.base 3 (by decide));simp[execOp,go_sem,e1],rfl⟩),zah (.slice C1 (fN q 1) j1) rfl rfl rfl (fun a V hr hd=>⟨by have e1:=zae (k:=13) (v:= .pointer (some ⟨B+1,1,none⟩)) (hd 8 (by kernel_rfl));have d:=(hr.here.cell (p:=⟨B+1,1,none⟩) hBl1).trans d1;simp[execOp,go_sem,e1,d],rfl⟩),zbh rfl rfl rfl (fun a V hr hd K hK=>by have e1:=zae (k:=12) (v:= .slice A1 (fN p 1) k1) (hd 7 (by kernel_rfl));have e2:=zae (k:=14) (v:= .slice C1 (fN q 1) j1) (hd 9 (by kernel_rfl));unfold Oper.wp;simp[execOp,go_sem,e1,e2];exact hK _ _ (hr.here.trans ((bel:Below V.heap.size V _).mono hr.here.size)) bel ⟨_,rfl,by simp[go_sem],by simp[go_sem]⟩),zbh rfl rfl rfl (fun a V hr hd K hK=>by obtain⟨b9,e0,e3,e4⟩:zdu _ _ _ _:=hd 10 (by kernel_rfl);have e1:=zae (k:=15) e0;unfold Oper.wp;simp[execOp,go_sem,e1];refine(HC1.out V b9 (HB0.out.trans (hr.here.mono HB0.out.size)) e3 e4).mono ?_;rintro e V1 ⟨v1,rfl,hb1,hx1⟩;exact hK _ _ (hr.here.trans (hb1.mono hr.here.size)) hb1 hx1),zah (.pointer (some ⟨B,2,none⟩)) rfl rfl rfl (fun a V hr hd=>⟨by have e1:=zae (k:=2) (v:= .pointer (some ⟨B,0,none⟩)) (hr.base 2 (by decide));simp[execOp,go_sem,e1],rfl⟩),zah (.slice A2 (fN p 2) k2) rfl rfl rfl (fun a V hr hd=>⟨by have e1:=zae (k:=17) (v:= .pointer (some ⟨B,2,none⟩)) (hd 12 (by kernel_rfl));have d:=(hr.here.cell (p:=⟨B,2,none⟩) hBl).trans c2;simp[execOp,go_sem,e1,d],rfl⟩),zah (.pointer (some ⟨B+1,2,none⟩)) rfl rfl rfl (fun a V hr hd=>⟨by have e1:=zae (k:=3) (v:= .pointer (some ⟨B+1,0,none⟩)) (hr.base 3 (by decide));simp[execOp,go_sem,e1],rfl⟩),zah (.slice C2 (fN q 2) j2) rfl rfl rfl (fun a V hr hd=>⟨by have e1:=zae (k:=19) (v:= .pointer (some ⟨B+1,2,none⟩)) (hd 14 (by kernel_rfl));have d:=(hr.here.cell (p:=⟨B+1,2,none⟩) hBl1).trans d2;simp[execOp,go_sem,e1,d],rfl⟩),zbh rfl rfl rfl (fun a V hr hd K hK=>by have e1:=zae (k:=18) (v:= .slice A2 (fN p 2) k2) (hd 13 (by kernel_rfl));have e2:=zae (k:=20) (v:= .slice C2 (fN q 2) j2) (hd 15 (by kernel_rfl));unfold Oper.wp;simp[execOp,go_sem,e1,e2];exact hK _ _ (hr.here.trans ((bel:Below V.heap.size V _).mono hr.here.size)) bel ⟨_,rfl,by simp[go_sem],by simp[go_sem]⟩),zbh rfl rfl rfl (fun a V hr hd K hK=>by obtain⟨b9,e0,e3,e4⟩:zdu _ _ _ _:=hd 16 (by kernel_rfl);have e1:=zae (k:=21) e0;unfold Oper.wp;simp[execOp,go_sem,e1];refine(HC2.out V b9 (HB0.out.trans (hr.here.mono HB0.out.size)) e3 e4).mono ?_;rintro e V1 ⟨v1,rfl,hb1,hx1⟩;exact hK _ _ (hr.here.trans (hb1.mono hr.here.size)) hb1 hx1),zah (.pointer (some ⟨B,3,none⟩)) rfl rfl rfl (fun a V hr hd=>⟨by have e1:=zae (k:=2) (v:= .pointer (some ⟨B,0,none⟩)) (hr.base 2 (by decide));simp[execOp,go_sem,e1],rfl⟩),zah (.slice A3 (fN p 3) k3) rfl rfl rfl (fun a V hr hd=>⟨by have e1:=zae (k:=23) (v:= .pointer (some ⟨B,3,none⟩)) (hd 18 (by kernel_rfl));have d:=(hr.here.cell (p:=⟨B,3,none⟩) hBl).trans c3;simp[execOp,go_sem,e1,d],rfl⟩),zah (.pointer (some ⟨B+1,3,none⟩)) rfl rfl rfl (fun a V hr hd=>⟨by have e1:=zae (k:=3) (v:= .pointer (some ⟨B+1,0,none⟩)) (hr.base 3 (by decide));simp[execOp,go_sem,e1],rfl⟩),zah (.slice C3 (fN q 3) j3) rfl rfl rfl (fun a V hr hd=>⟨by have e1:=zae (k:=25) (v:= .pointer (some ⟨B+1,3,none⟩)) (hd 20 (by kernel_rfl));have d:=(hr.here.cell (p:=⟨B+1,3,none⟩) hBl1).trans d3;simp[execOp,go_sem,e1,d],rfl⟩),zbh rfl rfl rfl (fun a V hr hd K hK=>by have e1:=zae (k:=24) (v:= .slice A3 (fN p 3) k3) (hd 19 (by kernel_rfl));have e2:=zae (k:=26) (v:= .slice C3 (fN q 3) j3) (hd 21 (by kernel_rfl));unfold Oper.wp;simp[execOp,go_sem,e1,e2];exact hK _ _ (hr.here.trans ((bel:Below V.heap.size V _).mono hr.here.size)) bel ⟨_,rfl,by simp[go_sem],by simp[go_sem]⟩),zbh rfl rfl rfl (fun a V hr hd K hK=>by obtain⟨b9,e0,e3,e4⟩:zdu _ _ _ _:=hd 22 (by kernel_rfl);have e1:=zae (k:=27) e0;unfold Oper.wp;simp[execOp,go_sem,e1];refine(HC3.out V b9 (HB0.out.trans (hr.here.mono HB0.out.size)) e3 e4).mono ?_;rintro e V1 ⟨v1,rfl,hb1,hx1⟩;exact hK _ _ (hr.here.trans (hb1.mono hr.here.size)) hb1 hx1),zah (.pointer (some ⟨B,4,none⟩)) rfl rfl rfl (fun a V hr hd=>⟨by have e1:=zae (k:=2) (v:= .pointer (some ⟨B,0,none⟩)) (hr.base 2 (by decide));simp[execOp,go_sem,e1],rfl⟩),zah (.slice A4 (fN p 4) k4) rfl rfl rfl (fun a V hr hd=>⟨by have e1:=zae (k:=29) (v:= .pointer (some ⟨B,4,none⟩)) (hd 24 (by kernel_rfl));have d:=(hr.here.cell (p:=⟨B,4,none⟩) hBl).trans c4;simp[execOp,go_sem,e1,d],rfl⟩),zah (.pointer (some ⟨B+1,4,none⟩)) rfl rfl rfl (fun a V hr hd=>⟨by have e1:=zae (k:=3) (v:= .pointer (some ⟨B+1,0,none⟩)) (hr.base 3 (by decide));simp[execOp,go_sem,e1],rfl⟩),zah (.slice C4 (fN q 4) j4) rfl rfl rfl (fun a V hr hd=>⟨by have e1:=zae (k:=31) (v:= .pointer (some ⟨B+1,4,none⟩)) (hd 26 (by kernel_rfl));have d:=(hr.here.cell (p:=⟨B+1,4,none⟩) hBl1).trans d4;simp[execOp,go_sem,e1,d],rfl⟩),zbh rfl rfl rfl (fun a V hr hd K hK=>by have e1:=zae (k:=30) (v:= .slice A4 (fN p 4) k4) (hd 25 (by kernel_rfl));have e2:=zae (k:=32) (v:= .slice C4 (fN q 4) j4) (hd 27 (by kernel_rfl));unfold Oper.wp;simp[execOp,go_sem,e1,e2];exact hK _ _ (hr.here.trans ((bel:Below V.heap.size V _).mono hr.here.size)) bel ⟨_,rfl,by simp[go_sem],by simp[go_sem]⟩),zbh rfl rfl rfl (fun a V hr hd K hK=>by obtain⟨b9,e0,e3,e4⟩:zdu _ _ _ _:=hd 28 (by kernel_rfl);have e1:=zae (k:=33) e0;unfold Oper.wp;simp[execOp,go_sem,e1];refine(HC4.out V b9 (HB0.out.trans (hr.here.mono HB0.out.size)) e3 e4).mono ?_;rintro e V1 ⟨v1,rfl,hb1,hx1⟩;exact hK _ _ (hr.here.trans (hb1.mono hr.here.size)) hb1 hx1),zah (.pointer (some ⟨B,5,none⟩)) rfl rfl rfl (fun a V hr hd=>⟨by have e1:=zae (k:=2) (v:= .pointer (some ⟨B,0,none⟩)) (hr.base 2 (by decide));simp[execOp,go_sem,e1],rfl⟩),zah (.slice A5 (fN p 5) k5) rfl rfl rfl (fun a V hr hd=>⟨by have e1:=zae (k:=35) (v:= .pointer (some ⟨B,5,none⟩)) (hd 30 (by kernel_rfl));have d:=(hr.here.cell (p:=⟨B,5,none⟩) hBl).trans c5;simp[execOp,go_sem,e1,d],rfl⟩),zah (.pointer (some ⟨B+1,5,none⟩)) rfl rfl rfl (fun a V hr hd=>⟨by have e1:=zae (k:=3) (v:= .pointer (some ⟨B+1,0,none⟩)) (hr.base 3 (by decide));simp[execOp,go_sem,e1],rfl⟩),zah (.slice C5 (fN q 5) j5) rfl rfl rfl (fun a V hr hd=>⟨by have e1:=zae (k:=37) (v:= .pointer (some ⟨B+1,5,none⟩)) (hd 32 (by kernel_rfl));have d:=(hr.here.cell (p:=⟨B+1,5,none⟩) hBl1).trans d5;simp[execOp,go_sem,e1,d],rfl⟩),zbh rfl rfl rfl (fun a V hr hd K hK=>by have e1:=zae (k:=36) (v:= .slice A5 (fN p 5) k5) (hd 31 (by kernel_rfl));have e2:=zae (k:=38) (v:= .slice C5 (fN q 5) j5) (hd 33 (by kernel_rfl));unfold Oper.wp;simp[execOp,go_sem,e1,e2];exact hK _ _ (hr.here.trans ((bel:Below V.heap.size V _).mono hr.here.size)) bel ⟨_,rfl,by simp[go_sem],by simp[go_sem]⟩),zbh rfl rfl rfl (fun a V hr hd K hK=>by obtain⟨b9,e0,e3,e4⟩:zdu _ _ _ _:=hd 34 (by kernel_rfl);have e1:=zae (k:=39) e0;unfold Oper.wp;simp[execOp,go_sem,e1];refine(HC5.out V b9 (HB0.out.trans (hr.here.mono HB0.out.size)) e3 e4).mono ?_;rintro e V1 ⟨v1,rfl,hb1,hx1⟩;exact hK _ _ (hr.here.trans (hb1.mono hr.here.size)) hb1 hx1),zah (.pointer (some ⟨B,6,none⟩)) rfl rfl rfl (fun a V hr hd=>⟨by have e1:=zae (k:=2) (v:= .pointer (some ⟨B,0,none⟩)) (hr.base 2 (by decide));simp[execOp,go_sem,e1],rfl⟩),zah (.bool true) rfl rfl rfl (fun a V hr hd=>⟨by have e1:=zae (k:=41) (v:= .pointer (some ⟨B,6,none⟩)) (hd 36 (by kernel_rfl));have d:=(hr.here.cell (p:=⟨B,6,none⟩) hBl).trans c6;simp[execOp,go_sem,e1,d],rfl⟩),zah (.bool true) rfl rfl rfl (fun a V hr hd=>⟨by have e1:=zae (k:=42) (v:= .bool true) (hd 37 (by kernel_rfl));simp[execOp,go_sem,e1],rfl⟩),znf rfl rfl (fun a V hr hd=>⟨(zgn (j:=38) (k:=43) rfl rfl (show _=Value.bool true from hd 38 (by kernel_rfl))).trans rfl,rfl⟩),znf rfl rfl (fun a V hr hd=>⟨(zgn (j:=38) (k:=43) rfl rfl (show _=Value.bool true from hd 38 (by kernel_rfl))).trans rfl,rfl⟩),zah (.bool true) rfl rfl rfl (fun a V hr hd=>⟨by have e1:=zae (k:=43) (v:= .bool true) (hd 38 (by kernel_rfl));simp[execOp,go_sem,e1],rfl⟩),zah (.pointer (some ⟨B,7,none⟩)) rfl rfl rfl (fun a V hr hd=>⟨by have e1:=zae (k:=2) (v:= .pointer (some ⟨B,0,none⟩)) (hr.base 2 (by decide));simp[execOp,go_sem,e1],rfl⟩),zah (.int .i64 p.depth) rfl rfl rfl (fun a V hr hd=>⟨by have e1:=zae (k:=47) (v:= .pointer (some ⟨B,7,none⟩)) (hd 42 (by kernel_rfl));have d:=(hr.here.cell (p:=⟨B,7,none⟩) hBl).trans c7;simp[execOp,go_sem,e1,d],rfl⟩),zah (.pointer (some ⟨B+1,7,none⟩)) rfl rfl rfl (fun a V hr hd=>⟨by have e1:=zae (k:=3) (v:= .pointer (some ⟨B+1,0,none⟩)) (hr.base 3 (by decide));simp[execOp,go_sem,e1],rfl⟩),zah (.int .i64 q.depth) rfl rfl rfl (fun a V hr hd=>⟨by have e1:=zae (k:=49) (v:= .pointer (some ⟨B+1,7,none⟩)) (hd 44 (by kernel_rfl));have d:=(hr.here.cell (p:=⟨B+1,7,none⟩) hBl1).trans d7;simp[execOp,go_sem,e1,d],rfl⟩),zah (.int .i64 (max p.depth q.depth)) rfl rfl rfl (fun a V hr hd=>⟨by have e1:=zae (k:=48) (v:= .int .i64 p.depth) (hd 43 (by kernel_rfl));have e2:=zae (k:=50) (v:= .int .i64 q.depth) (hd 45 (by kernel_rfl));simp[execOp,go_sem,e1,e2],rfl⟩),zah (.pointer (some ⟨B,8,none⟩)) rfl rfl rfl (fun a V hr hd=>⟨by have e1:=zae (k:=2) (v:= .pointer (some ⟨B,0,none⟩)) (hr.base 2 (by decide));simp[execOp,go_sem,e1],rfl⟩),zah (.int .i64 p.name) rfl rfl rfl (fun a V hr hd=>⟨by have e1:=zae (k:=52) (v:= .pointer (some ⟨B,8,none⟩)) (hd 47 (by kernel_rfl));have d:=(hr.here.cell (p:=⟨B,8,none⟩) hBl).trans c8;simp[execOp,go_sem,e1,d],rfl⟩),zah (.pointer (some ⟨B+1,8,none⟩)) rfl rfl rfl (fun a V hr hd=>⟨by have e1:=zae (k:=3) (v:= .pointer (some ⟨B+1,0,none⟩)) (hr.base 3 (by decide));simp[execOp,go_sem,e1],rfl⟩),zah (.int .i64 q.name) rfl rfl rfl (fun a V hr hd=>⟨by have e1:=zae (k:=54) (v:= .pointer (some ⟨B+1,8,none⟩)) (hd 49 (by kernel_rfl));have d:=(hr.here.cell (p:=⟨B+1,8,none⟩) hBl1).trans d8;simp[execOp,go_sem,e1,d],rfl⟩),zah (.int .i64 (max p.name q.name)) rfl rfl rfl (fun a V hr hd=>⟨by have e1:=zae (k:=53) (v:= .int .i64 p.name) (hd 48 (by kernel_rfl));have e2:=zae (k:=55) (v:= .int .i64 q.name) (hd 50 (by kernel_rfl));simp[execOp,go_sem,e1,e2],rfl⟩),zah (.pointer (some ⟨B,9,none⟩)) rfl rfl rfl (fun a V hr hd=>⟨by have e1:=zae (k:=2) (v:= .pointer (some ⟨B,0,none⟩)) (hr.base 2 (by decide));simp[execOp,go_sem,e1],rfl⟩),zah (.int .i64 p.value) rfl rfl rfl (fun a V hr hd=>⟨by have e1:=zae (k:=57) (v:= .pointer (some ⟨B,9,none⟩)) (hd 52 (by kernel_rfl));have d:=(hr.here.cell (p:=⟨B,9,none⟩) hBl).trans c9;simp[execOp,go_sem,e1,d],rfl⟩),zah (.pointer (some ⟨B+1,9,none⟩)) rfl rfl rfl (fun a V hr hd=>⟨by have e1:=zae (k:=3) (v:= .pointer (some ⟨B+1,0,none⟩)) (hr.base 3 (by decide));simp[execOp,go_sem,e1],rfl⟩),zah (.int .i64 q.value) rfl rfl rfl (fun a V hr hd=>⟨by have e1:=zae (k:=59) (v:= .pointer (some ⟨B+1,9,none⟩)) (hd 54 (by kernel_rfl));have d:=(hr.here.cell (p:=⟨B+1,9,none⟩) hBl1).trans d9;simp[execOp,go_sem,e1,d],rfl⟩),zah (.int .i64 (max p.value q.value)) rfl rfl rfl (fun a V hr hd=>⟨by have e1:=zae (k:=58) (v:= .int .i64 p.value) (hd 53 (by kernel_rfl));have e2:=zae (k:=60) (v:= .int .i64 q.value) (hd 55 (by kernel_rfl));simp[execOp,go_sem,e1,e2],rfl⟩),trivial⟩ ?fin
  case keeps=>exact⟨zag _,zag _,zag _,zag _,zcw _ _,zdx _ _ _,zag _,zag _,zag _,zag _,zcw _ _,zdx _ _ _,zag _,zag _,zag _,zag _,zcw _ _,zdx _ _ _,zag _,zag _,zag _,zag _,zcw _ _,zdx _ _ _,zag _,zag _,zag _,zag _,zcw _ _,zdx _ _ _,zag _,zag _,zag _,zag _,zcw _ _,zdx _ _ _,zag _,zag _,zag _,zag _,zag _,zag _,zag _,zag _,zag _,zag _,zag _,zag _,zag _,zag _,zag _,zag _,zag _,zag _,zag _,zag _,zag _,trivial⟩
  case fin=>
   intro v V hV hg
   have q0:RxG (fN (rawB p q) 0) 1 (fC (rawB p q) 0) (v 5) V:=hg 5 (by decide)
   have q1:RxG (fN (rawB p q) 1) 1 (fC (rawB p q) 1) (v 11) V:=hg 11 (by decide)
   have q2:RxG (fN (rawB p q) 2) 1 (fC (rawB p q) 2) (v 17) V:=hg 17 (by decide)
   have q3:RxG (fN (rawB p q) 3) 1 (fC (rawB p q) 3) (v 23) V:=hg 23 (by decide)
   have q4:RxG (fN (rawB p q) 4) 2 (fC (rawB p q) 4) (v 29) V:=hg 29 (by decide)
   have q5:RxG (fN (rawB p q) 5) 3 (fC (rawB p q) 5) (v 35) V:=hg 35 (by decide)
   have g6:v 41= .bool true:=hg 41 (by decide)
   have g7:v 46= .int .i64 (max p.depth q.depth):=hg 46 (by decide)
   have g8:v 51= .int .i64 (max p.name q.name):=hg 51 (by decide)
   have g9:v 56= .int .i64 (max p.value q.value):=hg 56 (by decide)
   simp only[puts,List.range,List.range.loop,List.foldl_cons,List.foldl_nil,Act.put,List.getD_cons_zero,List.getD_cons_succ,List.setIfInBounds_toArray,List.set_cons_succ,List.set_cons_zero,g6,g7,g8,g9]
   clear hg g6 g7 g8 g9
   generalize v 5=s0 at*
   generalize v 11=s1 at*
   generalize v 17=s2 at*
   generalize v 23=s3 at*
   generalize v 29=s4 at*
   generalize v 35=s5 at*
   generalize v 0=y0
   generalize v 1=y1
   generalize v 2=y2
   generalize v 3=y3
   generalize v 4=y4
   generalize v 6=y6
   generalize v 7=y7
   generalize v 8=y8
   generalize v 9=y9
   generalize v 10=y10
   generalize v 12=y12
   generalize v 13=y13
   generalize v 14=y14
   generalize v 15=y15
   generalize v 16=y16
   generalize v 18=y18
   generalize v 19=y19
   generalize v 20=y20
   generalize v 21=y21
   generalize v 22=y22
   generalize v 24=y24
   generalize v 25=y25
   generalize v 26=y26
   generalize v 27=y27
   generalize v 28=y28
   generalize v 30=y30
   generalize v 31=y31
   generalize v 32=y32
   generalize v 33=y33
   generalize v 34=y34
   generalize v 36=y36
   generalize v 37=y37
   generalize v 38=y38
   generalize v 39=y39
   generalize v 40=y40
   generalize v 42=y42
   generalize v 43=y43
   generalize v 44=y44
   generalize v 45=y45
   generalize v 47=y47
   generalize v 48=y48
   generalize v 49=y49
   generalize v 50=y50
   generalize v 52=y52
   generalize v 53=y53
   generalize v 54=y54
   generalize v 55=y55
   obtain⟨D0,m0,rfl,w0⟩:=q0
   obtain⟨D1,m1,rfl,w1⟩:=q1
   obtain⟨D2,m2,rfl,w2⟩:=q2
   obtain⟨D3,m3,rfl,w3⟩:=q3
   obtain⟨D4,m4,rfl,w4⟩:=q4
   obtain⟨D5,m5,rfl,w5⟩:=q5
   dsimp only[List.drop]
   have hRw:=HRaw.out
   have HPv:Hid (PolV V (fun _=>False) (.agg #[.slice D0 (fN (rawB p q) 0) m0,.slice D1 (fN (rawB p q) 1) m1,.slice D2 (fN (rawB p q) 2) m2,.slice D3 (fN (rawB p q) 3) m3,.slice D4 (fN (rawB p q) 4) m4,.slice D5 (fN (rawB p q) 5) m5,.bool true,.int .i64 (max p.depth q.depth),.int .i64 (max p.name q.name),.int .i64 (max p.value q.value)]) (rawB p q)):=⟨_,_,_,_,_,_,by rw[hRw.1,hRw.2.1,hRw.2.2.1,hRw.2.2.2];rfl,⟨D0,m0,rfl,w0⟩,⟨D1,m1,rfl,w1⟩,⟨D2,m2,rfl,w2⟩,⟨D3,m3,rfl,w3⟩,⟨D4,m4,rfl,w4⟩,⟨D5,m5,rfl,w5⟩⟩
   have HBt:=z2g (HB0.out.trans (hV.mono HB0.out.size))
   have HBy:Hid (V.heap[B2]? =_):=(hV.block B2 hBl2).trans HBx.out
   have hBl3:B2<V.heap.size:=z2h hBl2 hV.size
   clear hRw w0 w1 w2 w3 w4 w5 HC0 HC1 HC2 HC3 HC4 HC5 HRaw c0 c1 c2 c3 c4 c5 c6 c7 c8 c9 d0 d1 d2 d3 d4 d5 d6 d7 d8 d9
   go_wp2_with(go_at_call 39;(with_reducible refine(HNt.out _ _ HPv.out).mono ?_);rintro e W9 ⟨v9,rfl,hb9,hp9⟩;have HN9:=z2g hp9;obtain⟨n0,n1,n2,n3,n4,n5,rfl,⟨E0,o0,rfl,w0⟩,⟨E1,o1,rfl,w1⟩,⟨E2,o2,rfl,w2⟩,⟨E3,o3,rfl,w3⟩,⟨E4,o4,rfl,w4⟩,⟨E5,o5,rfl,w5⟩⟩:=hp9;have HB9:=z2g hb9;have HBz:Hid (W9.heap[B2]? =_):=(hb9.block B2 hBl3).trans HBy.out;have hBl9:B2<W9.heap.size:=z2h hBl3 hb9.size;have z0:W9.cell? ⟨B2,0,none⟩=some (.slice none 0 0):=(by simp[World.cell?,HBz.out]);have z1:W9.cell? ⟨B2,1,none⟩=some (.slice none 0 0):=(by simp[World.cell?,HBz.out]);have z2:W9.cell? ⟨B2,2,none⟩=some (.slice none 0 0):=(by simp[World.cell?,HBz.out]);have z3:W9.cell? ⟨B2,3,none⟩=some (.slice none 0 0):=(by simp[World.cell?,HBz.out]);have z4:W9.cell? ⟨B2,4,none⟩=some (.slice none 0 0):=(by simp[World.cell?,HBz.out]);have z5:W9.cell? ⟨B2,5,none⟩=some (.slice none 0 0):=(by simp[World.cell?,HBz.out]);have z6:W9.cell? ⟨B2,6,none⟩=some (.bool false):=(by simp[World.cell?,HBz.out]);have z7:W9.cell? ⟨B2,7,none⟩=some (.int .i64 0):=(by simp[World.cell?,HBz.out]);have z8:W9.cell? ⟨B2,8,none⟩=some (.int .i64 0):=(by simp[World.cell?,HBz.out]);have z9:W9.cell? ⟨B2,9,none⟩=some (.int .i64 0):=(by simp[World.cell?,HBz.out]);have f0:W9.frozen? ⟨B2,0,none⟩=false:=(by simp[World.frozen?,HBz.out]);have f1:W9.frozen? ⟨B2,1,none⟩=false:=(by simp[World.frozen?,HBz.out]);have f2:W9.frozen? ⟨B2,2,none⟩=false:=(by simp[World.frozen?,HBz.out]);have f3:W9.frozen? ⟨B2,3,none⟩=false:=(by simp[World.frozen?,HBz.out]);have f4:W9.frozen? ⟨B2,4,none⟩=false:=(by simp[World.frozen?,HBz.out]);have f5:W9.frozen? ⟨B2,5,none⟩=false:=(by simp[World.frozen?,HBz.out]);have f6:W9.frozen? ⟨B2,6,none⟩=false:=(by simp[World.frozen?,HBz.out]);have f7:W9.frozen? ⟨B2,7,none⟩=false:=(by simp[World.frozen?,HBz.out]);have f8:W9.frozen? ⟨B2,8,none⟩=false:=(by simp[World.frozen?,HBz.out]);have f9:W9.frozen? ⟨B2,9,none⟩=false:=(by simp[World.frozen?,HBz.out]);clear hb9 w0 w1 w2 w3 w4 w5)
   ((try simp only[Exit.inBlock,Exit.then]);refine bodyPost_ret (v:= .agg #[.slice E0 (fN (zax (rawB p q)) 0) o0,.slice E1 (fN (zax (rawB p q)) 1) o1,.slice E2 (fN (zax (rawB p q)) 2) o2,.slice E3 (fN (zax (rawB p q)) 3) o3,.slice E4 (fN (zax (rawB p q)) 4) o4,.slice E5 (fN (zax (rawB p q)) 5) o5,.bool (zax (rawB p q)).rel,.int .i64 (zax (rawB p q)).depth,.int .i64 (zax (rawB p q)).name,.int .i64 (zax (rawB p q)).value]) (by(first|rw[results_cell_tmp rfl]|rw[zcd rfl]);go_simp) rfl ?_)
   have hbW:Below w.heap.size w W9:=HBt.out.trans (HB9.out.mono HBt.out.size)
   refine⟨_,rfl,hbW.trans ((bel:Below w.heap.size W9 _)), ?_⟩
   rw[HBo.out]
   exact((HN9.out.mono (bad':=fun k=>k=B2\/k<w.heap.size) (fun b _ h=>h.elim (fun h=>h ▸ hBl3) (fun h=>z2h h HBt.out.size))).turned tur).mono (fun _ _ h=> .inr h)
theorem both_any (v u:Value) (p q:Pol) (w:World) (h:PolV w (fun _=>False) v p) (g:PolV w (fun _=>False) u q) (hs:zdi p) (gs:zdi q) (rs:zdi (rawB p q)):Calls Tryz.prog 36 #[v,u] w fun e w'=> ∃v',e= .returned v'/\Below w.heap.size w w'/\PolV w' (fun _=>False) v' (zep p q):=
 (zmz v u p q w h g hs gs rs).mono fun _ _ ⟨v',h1,h2,h3⟩=>⟨v',h1,h2,h3.mono (fun _ _ h=>h.elim)⟩
end Go.Proofs.YtbhhgbgfaemfdaaGreatDoor

