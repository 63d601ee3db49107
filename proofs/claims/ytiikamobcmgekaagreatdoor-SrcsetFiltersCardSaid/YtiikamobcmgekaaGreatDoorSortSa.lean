/- Sorting in place: parts change places. -/
import Derived.Test.YtiikamobcmgekaaGreatDoorPA
namespace Go.Proofs.YtiikamobcmgekaaGreatDoor
open Lib renaming hid→z2c
open List renaming append_nil→z3r,length_append→z2h
set_option maxRecDepth 1000000
set_option maxHeartbeats 4000000
open Go.RowKit
open KS
open Go.Proofs.YtiikamobcmgekaaGreatDoor renaming Bs→Z0
def RowS (W:World) (B g cap:Nat) (d:List Bs):Prop:=W.ownsRow B 9 1 (.slice (some ⟨g,0,none⟩) d.length cap) d.length (d.map sv)
open Go.Proofs.YtiikamobcmgekaaGreatDoor renaming RowS→Z1
theorem RowS.cell {W:World} {B g cap:Nat} {d:List Bs} (h:RowS W B g cap d) {i:Nat} {x:Bs} (hi:d[i]? =some x):W.cell? ⟨g,i,none⟩=some (sv x):=by
 have hl:=(List.getElem?_eq_some_iff.1 hi).1;have:=World.ownsRow.cellAt h i (by omega);rw[this,List.getElem?_map,hi];rfl
theorem RowS.frozen {W:World} {B g cap:Nat} {d:List Bs} (h:RowS W B g cap d) (i:Nat):W.frozen? ⟨g,i,none⟩=false:=World.ownsRow.frozenAt h i
theorem RowS.set {W:World} {B g cap:Nat} {d:List Bs} (h:RowS W B g cap d) (i:Nat) (_hi:i<d.length) (x:Bs):RowS (W.setCell ⟨g,i,none⟩ (sv x)) B g cap (d.set i x):=by
 have:=(World.ownsRow.stored h i (sv x)).1;unfold RowS;rw[List.length_set,List.map_set];exact this
theorem RowS.turned {W W':World} {B g cap:Nat} {d:List Bs} {pv:Nat->Prop} (h:RowS W B g cap d) (ht:zab pv W W') (hp: ¬pv g):RowS W' B g cap d:=zh1 h ht hp
def InsS (w:World) (B g cap:Nat) (P S Q:List Bs) (w':World):Prop:=zab (fun k=>k=g) w w'/\ ∃S',RowS w' B g cap (P++S'++Q)/\Up ltB S'/\zax ltB S' S
def MrgS (w:World) (B g cap:Nat) (P S Q:List Bs) (w':World):Prop:=zab (fun k=>k=g) w w'/\ ∃S',RowS w' B g cap (P++S'++Q)/\Up ltB S'/\zax ltB S' S
theorem zjj {P:Prop} (h:P:=by
 have hmx:=mxd;obtain⟨T,hT⟩: ∃T,P++V++M++U++Q=T:=⟨_,rfl⟩;obtain⟨D,hD⟩: ∃D,P++U++M++V++Q=D:=⟨_,rfl⟩;obtain⟨a,ha⟩: ∃a,P.length=a:=⟨_,rfl⟩;obtain⟨b,hb⟩: ∃b,(P++U++M).length=b:=⟨_,rfl⟩;obtain⟨n,hn0⟩: ∃n,U.length=n:=⟨_,rfl⟩;have HD:=z2c hD;have HT:=z2c hT;have HV:Hid (V.length=n):=by show _=_;omega
 rw[hT,hD,ha,hb,hn0];rw[hD]at h hn;obtain⟨N,hN⟩: ∃N,D.length=N:=⟨_,rfl⟩;have HN:=z2c hN;have HR:=z2c h;rw[hN]at hn ⊢;have hbn:b+n<=N:=by rw[<-hN,<-hD,<-hb,<-hn0,hUV];simp only[z2h];omega
 have han:a+n<=b:=by rw[<-hb,<-ha,<-hn0];simp only[z2h];omega
 clear hT hD hN h hUV;have HA:=z2c ha;have HB:=z2c hb;have HU:=z2c hn0;clear ha hb hn0;first|go_enter Tryz.func312,Tryz.ntmps312|go_enter Tryz.func313,Tryz.ntmps313|go_enter Tryz.func314,Tryz.ntmps314
 go_wp2_with fail
 go_loopw [10] (fun i wr=> ∃(k:Nat) (P' U' M' V':List Z0),k<=n/\i= .int .i64 k/\Hid (zab (fun k=>k=g) w wr)/\Hid (Z1 wr B g cap (P'++U'++M'++V'++Q))/\Hid (P'.length=a+k/\(P'++U'++M').length=b+k/\U'.length=n-k/\V'.length=n-k/\(P'++U'++M'++V'++Q).length=N)/\Hid (P'++V'++M'++U'++Q=T)) (fun i _=>n-(intOf i).toNat)
 case atStart=>exact⟨0,P,U,M,V,by omega,rfl,zab.refl _ _,by show Z1 _ _ _ _ _;rw[HD.out];exact HR.out,⟨HA.out,HB.out,HU.out,HV.out,by rw[HD.out];exact HN.out⟩,HT.out⟩
 case round=>
  obtain⟨k,P',U',M',V',hk,rfl,HTu,HRo,HL,HTT⟩:=hrel;by_cases hlt:k<n
  ·obtain⟨l1,l2,l3,l4,l5⟩:=HL.out;obtain⟨u,U2,rfl⟩: ∃u U2,U'=u::U2:=by cases U' with|nil=>simp at l3;omega|cons u U2=>exact⟨u,U2,rfl⟩
   obtain⟨v,V2,rfl⟩: ∃u U2,V'=u::U2:=by cases V' with|nil=>simp at l4;omega|cons u U2=>exact⟨u,U2,rfl⟩
   have e1:P'++(u::U2)++M'++(v::V2)++Q=P'++u::(U2++M'++(v::V2)++Q):=by simp
   have e2:P'++(u::U2)++M'++(v::V2)++Q=(P'++(u::U2)++M')++v::(V2++Q):=by simp
   first
    |cases isS
     have c0:=HRo.out.cell (i:=a+k) (x:=u) (by rw[e1];exact za8 _ _ _ l1.symm)
     have z0:=HRo.out.cell (i:=b+k) (x:=v) (by rw[e2];exact za8 _ _ _ l2.symm)
     have f0:=HRo.out.frozen ((a+k))
     have g0:=HRo.out.frozen ((b+k))
     simp only[sv]at c0 z0
    |cases isA
     obtain⟨c0,c1⟩:=HRo.out.cell (i:=a+k) (x:=u) (by rw[e1];exact za8 _ _ _ l1.symm)
     obtain⟨z0,z1⟩:=HRo.out.cell (i:=b+k) (x:=v) (by rw[e2];exact za8 _ _ _ l2.symm)
     have f0:=HRo.out.frozen ((a+k)*2)
     have f1:=HRo.out.frozen ((a+k)*2+1)
     have g0:=HRo.out.frozen ((b+k)*2)
     have g1:=HRo.out.frozen ((b+k)*2+1)
     simp only[sv]at c0 c1 z0 z1
    |obtain⟨c0,c1,c2⟩:=HRo.out.cell (i:=a+k) (x:=u) (by rw[e1];exact za8 _ _ _ l1.symm)
     obtain⟨z0,z1,z2⟩:=HRo.out.cell (i:=b+k) (x:=v) (by rw[e2];exact za8 _ _ _ l2.symm)
     have f0:=HRo.out.frozen ((a+k)*3)
     have f1:=HRo.out.frozen ((a+k)*3+1)
     have f2:=HRo.out.frozen ((a+k)*3+2)
     have g0:=HRo.out.frozen ((b+k)*3)
     have g1:=HRo.out.frozen ((b+k)*3+1)
     have g2:=HRo.out.frozen ((b+k)*3+2)
     simp only[sv]at c0 c1 c2 z0 z1 z2
   have hne: ¬a+k=b+k:=by omega
   have hne2: ¬b+k=a+k:=by omega
   have i1:((a:Int)+k).toNat=a+k:=by omega
   have i2:((b:Int)+k).toNat=b+k:=by omega
   have j1:(0:Int)<=(a:Int)+k/\(a:Int)+k<N:=by omega
   have j2:(0:Int)<=(b:Int)+k/\(b:Int)+k<N:=by omega
   have HE1:=z2c e1;clear l1 l2 l3 l4 l5 e1 e2;go_wp2_with fail
   go_region;go_wp2_with fail
   go_roundw
   case rel=>
    obtain⟨l1,l2,l3,l4,l5⟩:=HL.out;refine⟨k+1,P'++[v],U2,M'++[u],V2,by omega,by go_num,(by show zab _ _ _;have ht:=HTu.out;exact tur), ?_, ?_, ?_⟩
    ·have h1:=(HRo.out.set (a+k) (by omega) v).set (b+k) (by rw[List.length_set];omega) u;have e3:((P'++(u::U2)++M'++(v::V2)++Q).set (a+k) v).set (b+k) u=P'++[v]++U2++(M'++[u])++V2++Q:=by
      rw[HE1.out,zc4 _ _ _ _ l1.symm,show P'++v::(U2++M'++(v::V2)++Q)=(P'++v::(U2++M'))++v::(V2++Q) by simp,zc4 _ _ _ _ (by rw[<-l2];simp)];simp
     rw[e3]at h1;exact h1
    ·simp only[z2h,List.length_cons,List.length_nil]at l1 l2 l3 l4 l5 ⊢;refine⟨?_, ?_, ?_, ?_, ?_⟩;all_goals omega
    ·show _=_;rw[<-HTT.out];simp
   case measure=>simp[intOf];omega
  ·obtain⟨l1,l2,l3,l4,l5⟩:=HL.out;have hU0:U'=[]:=List.eq_nil_of_length_eq_zero (by omega);have hV0:V'=[]:=List.eq_nil_of_length_eq_zero (by omega);subst hU0 hV0;have e1:P'++[]++M'++[]++Q=T:=HTT.out;have HR2:=HRo.out;rw[e1]at HR2;have HR3:=z2c HR2;clear l1 l2 l3 l4 l5 HR2 e1;go_wp2_with fail
   go_end0;exact⟨rfl,HTu.out,HR3.out⟩):P:=h
theorem zku (B g cap:Nat) (P U M V Q:List Bs) (f:Value) (w:World) (h:RowS w B g cap (P++U++M++V++Q)) (hUV:U.length=V.length) (hn:(P++U++M++V++Q).length<=1000000000):
  Calls Tryz.prog 312 #[.slice (some ⟨g,0,none⟩) (P++U++M++V++Q).length cap,.int .i64 P.length,.int .i64 (P++U++M).length,.int .i64 U.length,f] w
   fun e w'=>e= .returned (.tuple #[])/\zab (fun k=>k=g) w w'/\RowS w' B g cap (P++V++M++U++Q):=zjj
theorem zji {P:Prop} (h:P:=by
 obtain⟨T,hT⟩: ∃T,P++V++U++Q=T:=⟨_,rfl⟩;obtain⟨D,hD⟩: ∃D,P++U++V++Q=D:=⟨_,rfl⟩;obtain⟨a,ha⟩: ∃a,P.length=a:=⟨_,rfl⟩;obtain⟨m,hm⟩: ∃b,(P++U).length=b:=⟨_,rfl⟩;obtain⟨b,hb⟩: ∃b,(P++U++V).length=b:=⟨_,rfl⟩;have HD:=z2c hD;have HT:=z2c hT;have hUl:U.length=m-a:=by rw[<-hm,<-ha,z2h];omega
 have hVl:V.length=b-m:=by rw[<-hb,<-hm,z2h];omega
 have ham:a<m:=by omega
 have hmb:m<b:=by omega
 rw[hT,hD,ha,hm,hb];rw[hD]at h hn;obtain⟨N,hN⟩: ∃N,D.length=N:=⟨_,rfl⟩;have HN:=z2c hN;have HR:=z2c h;have hbN:b<=N:=by rw[<-hN,<-hD,<-hb];simp only[z2h];omega
 rw[hN]at hn ⊢;clear hT hD hN h hU0 hV0;have HL0:Hid (P.length=m-(m-a)/\U.length=m-a/\V.length=b-m/\(P++U).length=m):=⟨by omega,hUl,hVl,hm⟩;clear ha hm hb hUl hVl;first
  |cases isS
   have HS:=z2c (fun W (P U M V Q:List Bs) (a b n:Nat) (h:RowS W B g cap (P++U++M++V++Q)) (h1:P.length=a) (h2:(P++U++M).length=b) (h3:U.length=n) (h4:V.length=n) (h5:(P++U++M++V++Q).length=N)=>show Calls Tryz.prog 312 #[.slice (some ⟨g,0,none⟩) N cap,.int .i64 a,.int .i64 b,.int .i64 n,f] W _ from by
    have:=zku B g cap P U M V Q f W h (by omega) (by omega);rwa[h1,h2,h3,h5]at this)
   go_enter Tryz.func300,Tryz.ntmps300
  |cases isA
   have HS:=z2c (fun W (P U M V Q:List Alw) (a b n:Nat) (h:RowA W B g cap (P++U++M++V++Q)) (h1:P.length=a) (h2:(P++U++M).length=b) (h3:U.length=n) (h4:V.length=n) (h5:(P++U++M++V++Q).length=N)=>show Calls Tryz.prog 313 #[.slice (some ⟨g,0,none⟩) N cap,.int .i64 a,.int .i64 b,.int .i64 n,f] W _ from by
    have:=zkw B g cap P U M V Q f W h (by omega) (by omega);rwa[h1,h2,h3,h5]at this)
   go_enter Tryz.func301,Tryz.ntmps301
  |have HS:=z2c (fun W (P U M V Q:List Frc) (a b n:Nat) (h:RowF W B g cap (P++U++M++V++Q)) (h1:P.length=a) (h2:(P++U++M).length=b) (h3:U.length=n) (h4:V.length=n) (h5:(P++U++M++V++Q).length=N)=>show Calls Tryz.prog 314 #[.slice (some ⟨g,0,none⟩) N cap,.int .i64 a,.int .i64 b,.int .i64 n,f] W _ from by
    have:=zkv B g cap P U M V Q f W h (by omega) (by omega);rwa[h1,h2,h3,h5]at this)
   go_enter Tryz.func302,Tryz.ntmps302
 go_wp2_with fail
 go_loopw [10,11] (fun i j wr=> ∃(x y:Nat) (P' U' V' Q':List Z0),0<x/\0<y/\x<=m/\m+y<=b/\i= .int .i64 x/\j= .int .i64 y/\Hid (zab (fun k=>k=g) w wr)/\Hid (Z1 wr B g cap (P'++U'++V'++Q'))/\Hid (P'.length=m-x/\U'.length=x/\V'.length=y/\(P'++U').length=m/\(P'++U'++V'++Q').length=N)/\Hid (P'++V'++U'++Q'=T)) (fun i j _=>(intOf i).toNat+(intOf j).toNat)
 case atStart=>
  refine⟨m-a,b-m,P,U,V,Q,by omega,by omega,by omega,by omega,by go_num,by go_num,zab.refl _ _,by show Z1 _ _ _ _ _;rw[HD.out];exact HR.out, ?_,HT.out⟩;obtain⟨k1,k2,k3,k4⟩:=HL0.out;exact⟨k1,k2,k3,k4,by rw[HD.out];exact HN.out⟩
 case round=>
  obtain⟨x,y,P',U',V',Q',hx,hy,hxm,hyb,rfl,rfl,HTu,HRo,HL,HTT⟩:=hrel;have s1:(m:Int)-x=((m-x:Nat):Int):=by omega
  have s2:(m:Int)+y-x=((m+y-x:Nat):Int):=by omega
  by_cases hne:x=y
  ·subst hne;have b0:((x:Int) !=x)=false:=by simp
   have HC:=z2c (by
    obtain⟨k1,k2,k3,k4,k5⟩:=HL.out;exact HS.out wr P' U' [] V' Q' (m-x) m x (by rw[z3r];exact HRo.out) k1 (by rw[z3r];exact k4) k2 k3 (by rw[z3r];exact k5))
   go_wp2_with((first|go_at_call 312|go_at_call 313|go_at_call 314);go_loud(refine HC.out.mono ?_);rintro e W2 ⟨rfl,ht2,hr2⟩;have HT2:=z2c ht2;have HR2:=z2c hr2;clear ht2 hr2)
   go_end0;refine⟨rfl,HTu.out.trans HT2.out, ?_⟩;have:=HR2.out;rwa[z3r,HTT.out]at this
  have b0:((x:Int) !=y)=true:=by simp;omega
  by_cases hxy:y<x
  ·have b1:(y:Int)<x:=by omega
   have HU:Hid (U'=U'.take y++U'.drop y/\(U'.take y).length=y/\(U'.drop y).length=x-y):=by
    obtain⟨k1,k2,k3,k4,k5⟩:=HL.out;exact⟨(List.take_append_drop _ _).symm,by rw[List.length_take];omega,by rw[List.length_drop];omega⟩
   obtain⟨U1,hU1⟩: ∃U1,U'.take y=U1:=⟨_,rfl⟩;obtain⟨U2,hU2⟩: ∃U2,U'.drop y=U2:=⟨_,rfl⟩;rw[hU1,hU2]at HU;have HE:Hid (P'++U'++V'++Q'=P'++U1++U2++V'++Q'):=by show _=_;rw[HU.out.1];simp
   have HC:=z2c (by
    obtain⟨k1,k2,k3,k4,k5⟩:=HL.out;obtain⟨q1,q2,q3⟩:=HU.out;exact HS.out wr P' U1 U2 V' Q' (m-x) m y (by rw[<-HE.out];exact HRo.out) k1 (by rw[List.append_assoc,<-q1];exact k4) q2 k3 (by rw[<-HE.out];exact k5))
   clear hU1 hU2;go_wp2_with((first|go_at_call 312|go_at_call 313|go_at_call 314);go_loud(refine HC.out.mono ?_);rintro e W2 ⟨rfl,ht2,hr2⟩;have HT2:=z2c ht2;have HR2:=z2c hr2;clear ht2 hr2)
   go_roundw
   case rel=>
    obtain⟨k1,k2,k3,k4,k5⟩:=HL.out;obtain⟨q1,q2,q3⟩:=HU.out;refine⟨x-y,y,P'++V',U2,U1,Q',by omega,by omega,by omega,by omega,by go_num,rfl,HTu.out.trans HT2.out,HR2.out, ?_, ?_⟩
    ·simp only[z2h]at k1 k2 k3 k4 k5 q2 q3 ⊢;refine⟨?_, ?_, ?_, ?_, ?_⟩;all_goals omega
    ·show _=_;rw[<-HTT.out,q1];simp
   case measure=>simp[intOf];omega
  ·have b1: ¬(y:Int)<x:=by omega
   have HV:Hid (V'=V'.take (y-x)++V'.drop (y-x)/\(V'.take (y-x)).length=y-x/\(V'.drop (y-x)).length=x):=by
    obtain⟨k1,k2,k3,k4,k5⟩:=HL.out;exact⟨(List.take_append_drop _ _).symm,by rw[List.length_take];omega,by rw[List.length_drop];omega⟩
   obtain⟨V1,hV1⟩: ∃U1,V'.take (y-x)=U1:=⟨_,rfl⟩;obtain⟨V2,hV2⟩: ∃U2,V'.drop (y-x)=U2:=⟨_,rfl⟩;rw[hV1,hV2]at HV;have HE:Hid (P'++U'++V'++Q'=P'++U'++V1++V2++Q'):=by show _=_;rw[HV.out.1];simp
   have HC:=z2c (by
    obtain⟨k1,k2,k3,k4,k5⟩:=HL.out;obtain⟨q1,q2,q3⟩:=HV.out;exact HS.out wr P' U' V1 V2 Q' (m-x) (m+y-x) x (by rw[<-HE.out];exact HRo.out) k1 (by rw[z2h,k4];omega) k2 q3 (by rw[<-HE.out];exact k5))
   clear hV1 hV2;go_wp2_with((first|go_at_call 312|go_at_call 313|go_at_call 314);go_loud(refine HC.out.mono ?_);rintro e W2 ⟨rfl,ht2,hr2⟩;have HT2:=z2c ht2;have HR2:=z2c hr2;clear ht2 hr2)
   go_roundw
   case rel=>
    obtain⟨k1,k2,k3,k4,k5⟩:=HL.out;obtain⟨q1,q2,q3⟩:=HV.out;refine⟨x,y-x,P',V2,V1,U'++Q',by omega,by omega,by omega,by omega,rfl,by go_num,HTu.out.trans HT2.out,by show Z1 _ _ _ _ _;have:=HR2.out;rwa[List.append_assoc]at this, ?_, ?_⟩
    ·simp only[z2h]at k1 k2 k3 k4 k5 q2 q3 ⊢;refine⟨?_, ?_, ?_, ?_, ?_⟩;all_goals omega
    ·show _=_;rw[<-HTT.out,q1];simp
   case measure=>simp[intOf];omega):P:=h
theorem zqb (B g cap:Nat) (P U V Q:List Bs) (f:Value) (w:World) (h:RowS w B g cap (P++U++V++Q)) (hU0:0<U.length) (hV0:0<V.length) (hn:(P++U++V++Q).length<=1000000000):
  Calls Tryz.prog 300 #[.slice (some ⟨g,0,none⟩) (P++U++V++Q).length cap,.int .i64 P.length,.int .i64 (P++U).length,.int .i64 (P++U++V).length,f] w
   fun e w'=>e= .returned (.tuple #[])/\zab (fun k=>k=g) w w'/\RowS w' B g cap (P++V++U++Q):=zji
end Go.Proofs.YtiikamobcmgekaaGreatDoor
