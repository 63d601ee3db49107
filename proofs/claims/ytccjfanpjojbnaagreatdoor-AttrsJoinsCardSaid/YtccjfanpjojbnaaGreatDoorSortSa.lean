import Derived.Test.YtccjfanpjojbnaaGreatDoorPA
namespace Go.Proofs.YtccjfanpjojbnaaGreatDoor
open Go.Ending renaming returned→aL
open Go.IntKind renaming i64→aC
open Lib renaming hid→aA
open List renaming append_assoc→cY,append_nil→bV,eq_nil_of_length_eq_zero→gD,length_append→aZ,take_append_drop→nJ
open Tryz renaming prog→aE
open Go.Value renaming int→aB,slice→aF
set_option maxRecDepth 1000000
set_option maxHeartbeats 4000000
open Go.RowKit
open KS
open YtccjfanpjojbnaaGreatDoor renaming Bs→Z0
def dI (W:World) (B g cap:Nat) (d:List Bs):Prop:=W.ownsRow B 9 1 (aF (some ⟨g,0,none⟩) d.length cap) d.length (d.map sv)
open YtccjfanpjojbnaaGreatDoor renaming dI→Z1
theorem dI.cell {W:World} {B g cap:Nat} {d:List Bs} (h:dI W B g cap d) {i:Nat} {x:Bs} (hi:d[i]? =some x):W.cell? ⟨g,i,none⟩=some (sv x):=by
 have hl:=(List.getElem?_eq_some_iff.1 hi).1;have:=World.ownsRow.cellAt h i om;rw[this,List.getElem?_map,hi];rfl
theorem dI.frozen {W:World} {B g cap:Nat} {d:List Bs} (h:dI W B g cap d) (i:Nat):W.frozen? ⟨g,i,none⟩=false:=World.ownsRow.frozenAt h i
theorem dI.set {W:World} {B g cap:Nat} {d:List Bs} (h:dI W B g cap d) (i:Nat) (_hi:i<d.length) (x:Bs):dI (W.setCell ⟨g,i,none⟩ (sv x)) B g cap (d.set i x):=by
 have:=(World.ownsRow.stored h i (sv x)).1;unfold dI;rw[List.length_set,List.map_set];exact this
theorem dI.turned {W W':World} {B g cap:Nat} {d:List Bs} {pv:Nat->Prop} (h:dI W B g cap d) (ht:aJ pv W W') (hp: ¬pv g):dI W' B g cap d:=KP h ht hp
def Td (w:World) (B g cap:Nat) (P S Q:List Bs) (w':World):Prop:=aJ (λk=>k=g) w w'/\ ∃S',dI w' B g cap (P++S'++Q)/\Up bF S'/\bH bF S' S
def yJ (w:World) (B g cap:Nat) (P S Q:List Bs) (w':World):Prop:=aJ (λk=>k=g) w w'/\ ∃S',dI w' B g cap (P++S'++Q)/\Up bF S'/\bH bF S' S
theorem IZ {P:Prop} (h:P:=by
 have hmx:=bX;obtain⟨T,hT⟩: ∃T,P++V++M++U++Q=T:=⟨_,rfl⟩;obtain⟨D,hD⟩: ∃D,P++U++M++V++Q=D:=⟨_,rfl⟩;obtain⟨a,ha⟩: ∃a,P.length=a:=⟨_,rfl⟩;obtain⟨b,hb⟩: ∃b,(P++U++M).length=b:=⟨_,rfl⟩;obtain⟨n,hn0⟩: ∃n,U.length=n:=⟨_,rfl⟩;have HD:=aA hD;have HT:=aA hT;have HV:Hid (V.length=n):=by show _=_;omega
 rw[hT,hD,ha,hb,hn0];rw[hD]at h hn;obtain⟨N,hN⟩: ∃N,D.length=N:=⟨_,rfl⟩;have HN:=aA hN;have HR:=aA h;rw[hN]at hn ⊢;have hbn:b+n<=N:=by rw[<-hN,<-hD,<-hb,<-hn0,hUV];simp only[aZ];omega
 have han:a+n<=b:=by rw[<-hb,<-ha,<-hn0];simp only[aZ];omega
 clear hT hD hN h hUV;have HA:=aA ha;have HB:=aA hb;have HU:=aA hn0;clear ha hb hn0;first|go_enter Tryz.func240,Tryz.ntmps240|go_enter Tryz.func241,Tryz.ntmps241|go_enter Tryz.func242,Tryz.ntmps242
 go_wp2_with fail
 go_loopw [10] (λi wr=> ∃(k:Nat) (P' U' M' V':List Z0),k<=n/\i=aB aC k/\Hid (aJ (λk=>k=g) w wr)/\Hid (Z1 wr B g cap (P'++U'++M'++V'++Q))/\Hid (P'.length=a+k/\(P'++U'++M').length=b+k/\U'.length=n-k/\V'.length=n-k/\(P'++U'++M'++V'++Q).length=N)/\Hid (P'++V'++M'++U'++Q=T)) (λi _=>n-(intOf i).toNat)
 case atStart=>exact⟨0,P,U,M,V,by omega,rfl,aJ.refl _ _,by show Z1 _ _ _ _ _;rw[HD.out];exact HR.out,⟨HA.out,HB.out,HU.out,HV.out,by rw[HD.out];exact HN.out⟩,HT.out⟩
 case round=>
  obtain⟨k,P',U',M',V',hk,rfl,HTu,HRo,HL,HTT⟩:=hrel;by_cases hlt:k<n
  .obtain⟨l1,l2,l3,l4,l5⟩:=HL.out;obtain⟨u,U2,rfl⟩: ∃u U2,U'=u::U2:=by cases U' with|nil=>simp at l3;omega|cons u U2=>exact⟨u,U2,rfl⟩
   obtain⟨v,V2,rfl⟩: ∃u U2,V'=u::U2:=by cases V' with|nil=>simp at l4;omega|cons u U2=>exact⟨u,U2,rfl⟩
   have e1:P'++(u::U2)++M'++(v::V2)++Q=P'++u::(U2++M'++(v::V2)++Q):=by simp
   have e2:P'++(u::U2)++M'++(v::V2)++Q=(P'++(u::U2)++M')++v::(V2++Q):=by simp
   first
    |cases isS
     have c0:=HRo.out.cell (i:=a+k) (x:=u) (by rw[e1];exact eT _ _ _ l1.symm)
     have z0:=HRo.out.cell (i:=b+k) (x:=v) (by rw[e2];exact eT _ _ _ l2.symm)
     have f0:=HRo.out.frozen ((a+k))
     have g0:=HRo.out.frozen ((b+k))
     simp only[sv]at c0 z0
    |cases isA
     obtain⟨c0,c1⟩:=HRo.out.cell (i:=a+k) (x:=u) (by rw[e1];exact eT _ _ _ l1.symm)
     obtain⟨z0,z1⟩:=HRo.out.cell (i:=b+k) (x:=v) (by rw[e2];exact eT _ _ _ l2.symm)
     have f0:=HRo.out.frozen ((a+k)*2)
     have f1:=HRo.out.frozen ((a+k)*2+1)
     have g0:=HRo.out.frozen ((b+k)*2)
     have g1:=HRo.out.frozen ((b+k)*2+1)
     simp only[sv]at c0 c1 z0 z1
    |obtain⟨c0,c1,c2⟩:=HRo.out.cell (i:=a+k) (x:=u) (by rw[e1];exact eT _ _ _ l1.symm)
     obtain⟨z0,z1,z2⟩:=HRo.out.cell (i:=b+k) (x:=v) (by rw[e2];exact eT _ _ _ l2.symm)
     have f0:=HRo.out.frozen ((a+k)*3)
     have f1:=HRo.out.frozen ((a+k)*3+1)
     have f2:=HRo.out.frozen ((a+k)*3+2)
     have g0:=HRo.out.frozen ((b+k)*3)
     have g1:=HRo.out.frozen ((b+k)*3+1)
     have g2:=HRo.out.frozen ((b+k)*3+2)
     simp only[sv]at c0 c1 c2 z0 z1 z2
   have hne: ¬a+k=b+k:=by omega
   have hne2: ¬b+k=a+k:=by omega
   have i1:((a:Int)+k).toNat=a+k:=by omega
   have i2:((b:Int)+k).toNat=b+k:=by omega
   have j1:(0:Int)<=(a:Int)+k/\(a:Int)+k<N:=by omega
   have j2:(0:Int)<=(b:Int)+k/\(b:Int)+k<N:=by omega
   have HE1:=aA e1;clear l1 l2 l3 l4 l5 e1 e2;go_wp2_with fail
   go_region;go_wp2_with fail
   go_roundw
   case rel=>
    obtain⟨l1,l2,l3,l4,l5⟩:=HL.out;refine⟨k+1,P'++[v],U2,M'++[u],V2,by omega,by go_num,(by show aJ _ _ _;have ht:=HTu.out;exact iX), ?_, ?_, ?_⟩
    .have h1:=(HRo.out.set (a+k) om v).set (b+k) (by rw[List.length_set];omega) u;have e3:((P'++(u::U2)++M'++(v::V2)++Q).set (a+k) v).set (b+k) u=P'++[v]++U2++(M'++[u])++V2++Q:=by
      rw[HE1.out,nT _ _ _ _ l1.symm,show P'++v::(U2++M'++(v::V2)++Q)=(P'++v::(U2++M'))++v::(V2++Q) by simp,nT _ _ _ _ (by rw[<-l2];simp)];simp
     rw[e3]at h1;exact h1
    .simp only[aZ,List.length_cons,List.length_nil]at l1 l2 l3 l4 l5 ⊢;refine⟨?_, ?_, ?_, ?_, ?_⟩;all_goals omega
    .show _=_;rw[<-HTT.out];simp
   case measure=>simp[intOf];omega
  .obtain⟨l1,l2,l3,l4,l5⟩:=HL.out;have hU0:U'=[]:=gD om;have hV0:V'=[]:=gD om;subst hU0 hV0;have e1:P'++[]++M'++[]++Q=T:=HTT.out;have HR2:=HRo.out;rw[e1]at HR2;have HR3:=aA HR2;clear l1 l2 l3 l4 l5 HR2 e1;go_wp2_with fail
   go_end0;exact⟨rfl,HTu.out,HR3.out⟩):P:=h
theorem Q4 (B g cap:Nat) (P U M V Q:List Bs) (f:Value) (w:World) (h:dI w B g cap (P++U++M++V++Q)) (hUV:U.length=V.length) (hn:(P++U++M++V++Q).length<=1000000000):
  Calls aE 240 #[aF (some ⟨g,0,none⟩) (P++U++M++V++Q).length cap,aB aC P.length,aB aC (P++U++M).length,aB aC U.length,f] w
   λe w'=>e=aL (Value.tuple #[])/\aJ (λk=>k=g) w w'/\dI w' B g cap (P++V++M++U++Q):=IZ
theorem IY {P:Prop} (h:P:=by
 obtain⟨T,hT⟩: ∃T,P++V++U++Q=T:=⟨_,rfl⟩;obtain⟨D,hD⟩: ∃D,P++U++V++Q=D:=⟨_,rfl⟩;obtain⟨a,ha⟩: ∃a,P.length=a:=⟨_,rfl⟩;obtain⟨m,hm⟩: ∃b,(P++U).length=b:=⟨_,rfl⟩;obtain⟨b,hb⟩: ∃b,(P++U++V).length=b:=⟨_,rfl⟩;have HD:=aA hD;have HT:=aA hT;have hUl:U.length=m-a:=by rw[<-hm,<-ha,aZ];omega
 have hVl:V.length=b-m:=by rw[<-hb,<-hm,aZ];omega
 have ham:a<m:=by omega
 have hmb:m<b:=by omega
 rw[hT,hD,ha,hm,hb];rw[hD]at h hn;obtain⟨N,hN⟩: ∃N,D.length=N:=⟨_,rfl⟩;have HN:=aA hN;have HR:=aA h;have hbN:b<=N:=by rw[<-hN,<-hD,<-hb];simp only[aZ];omega
 rw[hN]at hn ⊢;clear hT hD hN h hU0 hV0;have HL0:Hid (P.length=m-(m-a)/\U.length=m-a/\V.length=b-m/\(P++U).length=m):=⟨by omega,hUl,hVl,hm⟩;clear ha hm hb hUl hVl;first
  |cases isS
   have HS:=aA (λW (P U M V Q:List Bs) (a b n:Nat) (h:dI W B g cap (P++U++M++V++Q)) (h1:P.length=a) (h2:(P++U++M).length=b) (h3:U.length=n) (h4:V.length=n) (h5:(P++U++M++V++Q).length=N)=>show Calls aE 240 #[aF (some ⟨g,0,none⟩) N cap,aB aC a,aB aC b,aB aC n,f] W _ from by
    have:=Q4 B g cap P U M V Q f W h om om;rwa[h1,h2,h3,h5]at this)
   go_enter Tryz.func223,Tryz.ntmps223
  |cases isA
   have HS:=aA (λW (P U M V Q:List aW) (a b n:Nat) (h:dK W B g cap (P++U++M++V++Q)) (h1:P.length=a) (h2:(P++U++M).length=b) (h3:U.length=n) (h4:V.length=n) (h5:(P++U++M++V++Q).length=N)=>show Calls aE 241 #[aF (some ⟨g,0,none⟩) N cap,aB aC a,aB aC b,aB aC n,f] W _ from by
    have:=Q6 B g cap P U M V Q f W h om om;rwa[h1,h2,h3,h5]at this)
   go_enter Tryz.func224,Tryz.ntmps224
  |have HS:=aA (λW (P U M V Q:List aS) (a b n:Nat) (h:dJ W B g cap (P++U++M++V++Q)) (h1:P.length=a) (h2:(P++U++M).length=b) (h3:U.length=n) (h4:V.length=n) (h5:(P++U++M++V++Q).length=N)=>show Calls aE 242 #[aF (some ⟨g,0,none⟩) N cap,aB aC a,aB aC b,aB aC n,f] W _ from by
    have:=Q5 B g cap P U M V Q f W h om om;rwa[h1,h2,h3,h5]at this)
   go_enter Tryz.func225,Tryz.ntmps225
 go_wp2_with fail
 go_loopw [10,11] (λi j wr=> ∃(x y:Nat) (P' U' V' Q':List Z0),0<x/\0<y/\x<=m/\m+y<=b/\i=aB aC x/\j=aB aC y/\Hid (aJ (λk=>k=g) w wr)/\Hid (Z1 wr B g cap (P'++U'++V'++Q'))/\Hid (P'.length=m-x/\U'.length=x/\V'.length=y/\(P'++U').length=m/\(P'++U'++V'++Q').length=N)/\Hid (P'++V'++U'++Q'=T)) (λi j _=>(intOf i).toNat+(intOf j).toNat)
 case atStart=>
  refine⟨m-a,b-m,P,U,V,Q,by omega,by omega,by omega,by omega,by go_num,by go_num,aJ.refl _ _,by show Z1 _ _ _ _ _;rw[HD.out];exact HR.out, ?_,HT.out⟩;obtain⟨k1,k2,k3,k4⟩:=HL0.out;exact⟨k1,k2,k3,k4,by rw[HD.out];exact HN.out⟩
 case round=>
  obtain⟨x,y,P',U',V',Q',hx,hy,hxm,hyb,rfl,rfl,HTu,HRo,HL,HTT⟩:=hrel;have s1:(m:Int)-x=((m-x:Nat):Int):=by omega
  have s2:(m:Int)+y-x=((m+y-x:Nat):Int):=by omega
  by_cases hne:x=y
  .subst hne;have b0:((x:Int) !=x)=false:=by simp
   have HC:=aA (by
    obtain⟨k1,k2,k3,k4,k5⟩:=HL.out;exact HS.out wr P' U' [] V' Q' (m-x) m x (by rw[bV];exact HRo.out) k1 (by rw[bV];exact k4) k2 k3 (by rw[bV];exact k5))
   go_wp2_with((first|go_at_call 240|go_at_call 241|go_at_call 242);go_loud(refine HC.out.mono ?_);rintro e W2 ⟨rfl,ht2,hr2⟩;have HT2:=aA ht2;have HR2:=aA hr2;clear ht2 hr2)
   go_end0;refine⟨rfl,HTu.out.trans HT2.out, ?_⟩;have:=HR2.out;rwa[bV,HTT.out]at this
  have b0:((x:Int) !=y)=true:=by simp;omega
  by_cases hxy:y<x
  .have b1:(y:Int)<x:=by omega
   have HU:Hid (U'=U'.take y++U'.drop y/\(U'.take y).length=y/\(U'.drop y).length=x-y):=by
    obtain⟨k1,k2,k3,k4,k5⟩:=HL.out;exact⟨(nJ _ _).symm,by rw[List.length_take];omega,by rw[List.length_drop];omega⟩
   obtain⟨U1,hU1⟩: ∃U1,U'.take y=U1:=⟨_,rfl⟩;obtain⟨U2,hU2⟩: ∃U2,U'.drop y=U2:=⟨_,rfl⟩;rw[hU1,hU2]at HU;have HE:Hid (P'++U'++V'++Q'=P'++U1++U2++V'++Q'):=by show _=_;rw[HU.out.1];simp
   have HC:=aA (by
    obtain⟨k1,k2,k3,k4,k5⟩:=HL.out;obtain⟨q1,q2,q3⟩:=HU.out;exact HS.out wr P' U1 U2 V' Q' (m-x) m y (by rw[<-HE.out];exact HRo.out) k1 (by rw[cY,<-q1];exact k4) q2 k3 (by rw[<-HE.out];exact k5))
   clear hU1 hU2;go_wp2_with((first|go_at_call 240|go_at_call 241|go_at_call 242);go_loud(refine HC.out.mono ?_);rintro e W2 ⟨rfl,ht2,hr2⟩;have HT2:=aA ht2;have HR2:=aA hr2;clear ht2 hr2)
   go_roundw
   case rel=>
    obtain⟨k1,k2,k3,k4,k5⟩:=HL.out;obtain⟨q1,q2,q3⟩:=HU.out;refine⟨x-y,y,P'++V',U2,U1,Q',by omega,by omega,by omega,by omega,by go_num,rfl,HTu.out.trans HT2.out,HR2.out, ?_, ?_⟩
    .simp only[aZ]at k1 k2 k3 k4 k5 q2 q3 ⊢;refine⟨?_, ?_, ?_, ?_, ?_⟩;all_goals omega
    .show _=_;rw[<-HTT.out,q1];simp
   case measure=>simp[intOf];omega
  .have b1: ¬(y:Int)<x:=by omega
   have HV:Hid (V'=V'.take (y-x)++V'.drop (y-x)/\(V'.take (y-x)).length=y-x/\(V'.drop (y-x)).length=x):=by
    obtain⟨k1,k2,k3,k4,k5⟩:=HL.out;exact⟨(nJ _ _).symm,by rw[List.length_take];omega,by rw[List.length_drop];omega⟩
   obtain⟨V1,hV1⟩: ∃U1,V'.take (y-x)=U1:=⟨_,rfl⟩;obtain⟨V2,hV2⟩: ∃U2,V'.drop (y-x)=U2:=⟨_,rfl⟩;rw[hV1,hV2]at HV;have HE:Hid (P'++U'++V'++Q'=P'++U'++V1++V2++Q'):=by show _=_;rw[HV.out.1];simp
   have HC:=aA (by
    obtain⟨k1,k2,k3,k4,k5⟩:=HL.out;obtain⟨q1,q2,q3⟩:=HV.out;exact HS.out wr P' U' V1 V2 Q' (m-x) (m+y-x) x (by rw[<-HE.out];exact HRo.out) k1 (by rw[aZ,k4];omega) k2 q3 (by rw[<-HE.out];exact k5))
   clear hV1 hV2;go_wp2_with((first|go_at_call 240|go_at_call 241|go_at_call 242);go_loud(refine HC.out.mono ?_);rintro e W2 ⟨rfl,ht2,hr2⟩;have HT2:=aA ht2;have HR2:=aA hr2;clear ht2 hr2)
   go_roundw
   case rel=>
    obtain⟨k1,k2,k3,k4,k5⟩:=HL.out;obtain⟨q1,q2,q3⟩:=HV.out;refine⟨x,y-x,P',V2,V1,U'++Q',by omega,by omega,by omega,by omega,rfl,by go_num,HTu.out.trans HT2.out,by show Z1 _ _ _ _ _;have:=HR2.out;rwa[cY]at this, ?_, ?_⟩
    .simp only[aZ]at k1 k2 k3 k4 k5 q2 q3 ⊢;refine⟨?_, ?_, ?_, ?_, ?_⟩;all_goals omega
    .show _=_;rw[<-HTT.out,q1];simp
   case measure=>simp[intOf];omega):P:=h
theorem As (B g cap:Nat) (P U V Q:List Bs) (f:Value) (w:World) (h:dI w B g cap (P++U++V++Q)) (hU0:0<U.length) (hV0:0<V.length) (hn:(P++U++V++Q).length<=1000000000):
  Calls aE 223 #[aF (some ⟨g,0,none⟩) (P++U++V++Q).length cap,aB aC P.length,aB aC (P++U).length,aB aC (P++U++V).length,f] w
   λe w'=>e=aL (Value.tuple #[])/\aJ (λk=>k=g) w w'/\dI w' B g cap (P++V++U++Q):=IY
