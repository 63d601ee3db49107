import Derived.Deep.DeepCutAuto
import Derived.Deep.CutBlock
import Derived.Test.YtccjfanpjojbnaaGreatDoorSortSa
namespace Go.Proofs.YtccjfanpjojbnaaGreatDoor
open Go.Ending renaming returned→aL
open Go.IntKind renaming i64→aC
open Lib renaming hid→aA
open List renaming append_assoc→cY,append_nil→bV,eq_nil_of_length_eq_zero→gD,getElem?_append_left→nK,getElem?_append_right→lE,length_append→aZ,take_append_drop→nJ
open Tryz renaming prog→aE
open Go.Value renaming int→aB,slice→aF,tuple→aN
set_option maxRecDepth 1000000
set_option maxHeartbeats 16000000
open Go.RowKit
open KS
open YtccjfanpjojbnaaGreatDoor renaming bF→Z2z,dI→Z1,wN→Z4z,CR→Z5z,uB→Z3z,Bs→Z0
theorem Ni {α:Type} (P:List α) (A B:List α) (y:α) (Q:List α):P++A++(B++y::Q)=P++(A++B)++y::Q:=by simp
open YtccjfanpjojbnaaGreatDoor renaming Ni→Z7
theorem IV {P:Prop} (h:P:=by
 have hmx:=bX;obtain⟨a,ha⟩: ∃a,P.length=a:=⟨_,rfl⟩;obtain⟨N,hN⟩: ∃N,(P++S++y::Q).length=N:=⟨_,rfl⟩;obtain⟨n,hn0⟩: ∃n,S.length=n:=⟨_,rfl⟩;rw[ha,hN,hn0];rw[hN]at hn;rw[hn0]at hS;have hbN:a+n+1<=N:=by rw[<-hN,<-ha,<-hn0];simp only[aZ,List.length_cons];omega
 have HA:=aA ha;have HN:=aA hN;have HSn:=aA hn0;have HR:=aA h;have HUp:=aA hU;have hgl:=yZ h;clear ha hN h hU hn0;have b1:((a:Int)+n-a==1)=false:=by rw[beq_eq_false_iff_ne];omega
 have b2:((a:Int)+n+1-(a+n)==1)=true:=by simp;omega
 have j1:(0:Int)<=(a:Int)+n/\(a:Int)+n<N:=by omega
 have i1:((a:Int)+n).toNat=a+n:=by omega
 first|go_enter Tryz.func191,Tryz.ntmps191|go_enter Tryz.func193,Tryz.ntmps193|go_enter Tryz.func195,Tryz.ntmps195
 go_wp2_with fail
 go_loopw [14,15] (λi j wr=> ∃(u v:Nat),u<=v/\v<=n/\i=aB aC (a+u:Nat)/\j=aB aC (a+v:Nat)/\Hid (Below w.heap.size w wr)/\Hid ((∀z,0<u->S[u-1]? =some z->Z2z y z=false)/\(∀z,S[v]? =some z->Z2z y z=true))) (λi j _=>(intOf j).toNat-(intOf i).toNat)
 case atStart=>
  refine⟨0,n,by omega,by omega,by go_num,by go_num,Below.refl _ _,⟨λz h=>by omega,λz h=> ?_⟩⟩;have:=(List.getElem?_eq_some_iff.1 h).1;have:=HSn.out;omega
 case round=>
  obtain⟨u,v,huv,hv,rfl,rfl,HB,HF⟩:=hrel;by_cases hlt:u<v
  .have hc:((a+u:Nat):Int)<((a+v:Nat):Int):=by omega
   obtain⟨t,ht⟩: ∃t,(u+v)/2=t:=⟨_,rfl⟩;have htu:u<=t/\t<v:=by omega
   obtain⟨htu1,htu2⟩:=htu;have hh:((a:Int)+u+((a:Int)+v))/2=(a:Int)+t:=by omega
   have HR5:Hid (Z1 wr B g cap (P++S++y::Q)):=HR.out.turned (aJ.of_below (pv:=λ_=>False) HB.out) (λh=>h);obtain⟨z,hz⟩: ∃z,S[t]? =some z:=⟨S[t]'(by have:=HSn.out;omega),List.getElem?_eq_getElem _⟩;first
    |cases isS
     have c0:=HR5.out.cell (i:=a+n) (x:=y) (eT _ _ _ (by have:=HA.out;have:=HSn.out;simp;omega))
     have z0:=HR5.out.cell (i:=a+t) (x:=z) (by rw[cY,lE (by have:=HA.out;omega),nK (by have:=HA.out;have:=HSn.out;omega)];rw[show a+t-P.length=t by have:=HA.out;omega];exact hz)
     simp only[sv]at c0 z0
    |cases isA
     obtain⟨c0,c1⟩:=HR5.out.cell (i:=a+n) (x:=y) (eT _ _ _ (by have:=HA.out;have:=HSn.out;simp;omega))
     obtain⟨z0,z1⟩:=HR5.out.cell (i:=a+t) (x:=z) (by rw[cY,lE (by have:=HA.out;omega),nK (by have:=HA.out;have:=HSn.out;omega)];rw[show a+t-P.length=t by have:=HA.out;omega];exact hz)
     simp only[sv]at c0 c1 z0 z1
    |obtain⟨c0,c1,c2⟩:=HR5.out.cell (i:=a+n) (x:=y) (eT _ _ _ (by have:=HA.out;have:=HSn.out;simp;omega))
     obtain⟨z0,z1,z2⟩:=HR5.out.cell (i:=a+t) (x:=z) (by rw[cY,lE (by have:=HA.out;omega),nK (by have:=HA.out;have:=HSn.out;omega)];rw[show a+t-P.length=t by have:=HA.out;omega];exact hz)
     simp only[sv]at c0 c1 c2 z0 z1 z2
   have hgw:g<wr.heap.size:=Nat.lt_of_lt_of_le hgl HB.out.size;have i2:((a:Int)+t).toNat=a+t:=by omega
   have j2:(0:Int)<=(a:Int)+t/\(a:Int)+t<N:=by omega
   have HC:=aA (λW=>Z4z y z W);have HD:=aA (Z5z y z);have HY:=aA hz;first
    |cases isS
     simp only[sv]at HC
     generalize hcm:gN y z=cm at*
    |cases isA
     simp only[aW.agg,sv]at HC
     generalize hcm:jL (y).key (z).key=cm at*
    |simp only[aS.agg,sv]at HC
     generalize hcm:jL (y).key (z).key=cm at*
   clear ht hz hcm;cases hl2:Z2z y z
   .have hc0:decide (cm<0)=false:=by rw[HD.out,hl2]
    have HL2:=aA hl2;clear hl2;go_wp2_with fail
    refine dV kr kr  ?_;repeat(go_big_quiet_step(((first|go_at_call 49|go_at_call 51|go_at_call 53);with_reducible exact Calls.grow_of (HC.out _))))
    refine wpQuiet_nil ?_;rintro _ ⟨nq,rfl⟩;go_wp2_with fail
    go_roundw
    case rel=>exact⟨t+1,v,by omega,by omega,by go_num,rfl,aP HB.out (dG _ _),λz' _ hz=>by rw[Nat.add_sub_cancel,HY.out]at hz;cases hz;exact HL2.out,HF.out.2⟩
    case measure=>simp[intOf];omega
   .have hc0:decide (cm<0)=true:=by rw[HD.out,hl2]
    have HL2:=aA hl2;clear hl2;go_wp2_with fail
    refine dV kr kr  ?_;repeat(go_big_quiet_step(((first|go_at_call 49|go_at_call 51|go_at_call 53);with_reducible exact Calls.grow_of (HC.out _))))
    refine wpQuiet_nil ?_;rintro _ ⟨nq,rfl⟩;go_wp2_with fail
    go_roundw
    case rel=>exact⟨u,t,by omega,by omega,rfl,by go_num,aP HB.out (dG _ _),HF.out.1,λz' hz=>by rw[HY.out]at hz;cases hz;exact HL2.out⟩
    case measure=>simp[intOf];omega
  .have huv2:u=v:=by omega
   subst huv2;have hc: ¬((a+u:Nat):Int)<((a+u:Nat):Int):=by omega
   have HPut:Hid (Up Z2z (S.take u++y::S.drop u)/\bH Z2z (S.take u++y::S.drop u) (S++[y])):=by
    obtain⟨f1,f2⟩:=HF.out;have hul:u<=S.length:=by have:=HSn.out;omega
    obtain⟨q1,_⟩:=CP (A:=S) (B:=[y]) (s:=u) (t:=1) Z3z HUp.out (by simp[Up]) hul (by simp) (λx' y' h1 h2 h3=>by simp at h3;subst h3;exact f2 x' h1) (λx' y' h0 h1 h2=>by simp at h2);have q1: ∀x∈S.drop u,Z2z y x=true:=λx hx=>q1 x hx y (by simp);obtain⟨_,q4⟩:=CP (A:=S) (B:=[y]) (s:=u) (t:=0) Z3z HUp.out (by simp[Up]) hul (by simp) (λx' y' h1 h2=>by omega) (λx' y' h0 h1 h2=>by simp at h2;subst h2;exact f1 x' h0 h1);have q4: ∀x∈S.take u,Z2z y x=false:=λx hx=>q4 x hx y (by simp);have hU2:=HUp.out;rw[<-nJ u S]at hU2;have h9:=TI Z3z hU2 q4 q1;rw[nJ]at h9;exact h9
   have hTl:(S.drop u).length+u=n:=by rw[List.length_drop];have:=HSn.out;omega
   have hTl1:(S.take u).length=u:=by rw[List.length_take];have:=HSn.out;omega
   have HTk:Hid (S=S.take u++S.drop u):=(nJ _ _).symm;have HR5:Hid (Z1 wr B g cap (P++S.take u++(S.drop u++y::Q))):=by
    have h9:=HR.out.turned (aJ.of_below (pv:=λ_=>False) HB.out) (λh=>h);rw[Z7,<-HTk.out];exact h9
   have HN5:Hid ((P++S.take u++(S.drop u++y::Q)).length=N):=by
    show _=_;rw[Z7,<-HTk.out];exact HN.out
   generalize S.take u=S1 at*;generalize S.drop u=S2 at*;have HT0:Hid (aJ (λk=>k=g) w wr):=aJ.of_below HB.out;go_wp2_with fail
   go_loopw [17] (λi wr=> ∃(C D:List Z0),i=aB aC (a+u+C.length:Nat)/\S2=C++D/\Hid (aJ (λk=>k=g) w wr)/\Hid (Z1 wr B g cap (P++S1++C++y::D++Q))) (λi _=>(intOf i).toNat)
   case atStart=>exact⟨S2,[],by(have h9:a+u+S2.length=a+n:=by omega);rw[h9];go_num,(bV _).symm,HT0.out,by show Z1 _ _ _ _ _;simpa using HR5.out⟩
   case round=>
    obtain⟨C,D,rfl,hCD,HT,HRo⟩:=hrel;have hl9:C.length+D.length+u=n:=by rw[<-hTl,hCD,aZ]
    have hsn:C=[]\/ ∃C0 z,C=C0++[z]:=by
     rcases List.eq_nil_or_concat C with h|⟨A0,x,h⟩
     .exact .inl h
     .exact .inr ⟨A0,x,by rw[h,List.concat_eq_append]⟩
    rcases hsn with rfl|⟨C,z,rfl⟩
    .have hk2: ¬((a:Int)+u)<(a:Int)+u+((0:Nat):Int):=by omega
     have HC9:Hid (S2=D):=by show _=_;rw[hCD];rfl
     clear hCD;simp only[List.length_nil]at*;go_wp2_with fail
     refine bodyPost_ret (results_none rfl _ _ _) rfl ?_;refine⟨rfl,HT.out,S1++y::S2, ?_,HPut.out.1,HPut.out.2⟩;have h9:=HRo.out;rw[HC9.out];simpa using h9
    .obtain⟨t,ht⟩: ∃t,C.length=t:=⟨_,rfl⟩;have hj:(a+u+(C++[z]).length:Nat)=a+u+t+1:=by simp;omega
     rw[hj];simp only[aZ,List.length_cons,List.length_nil]at hl9;have hk2:(a:Int)+u<(a:Int)+u+t+1:=by omega
     have e1:P++S1++(C++[z])++y::D++Q=(P++S1++C)++z::(y::D++Q):=by simp
     have e2:P++S1++(C++[z])++y::D++Q=(P++S1++C++[z])++y::(D++Q):=by simp
     have haP:=HA.out;first
      |cases isS
       have c0:=HRo.out.cell (i:=a+u+t) (x:=z) (by rw[e1];exact eT _ _ _ (by simp;omega))
       have z0:=HRo.out.cell (i:=a+u+t+1) (x:=y) (by rw[e2];exact eT _ _ _ (by simp;omega))
       have f0:=HRo.out.frozen ((a+u+t))
       have g0:=HRo.out.frozen ((a+u+t+1))
       simp only[sv]at c0 z0
      |cases isA
       obtain⟨c0,c1⟩:=HRo.out.cell (i:=a+u+t) (x:=z) (by rw[e1];exact eT _ _ _ (by simp;omega))
       obtain⟨z0,z1⟩:=HRo.out.cell (i:=a+u+t+1) (x:=y) (by rw[e2];exact eT _ _ _ (by simp;omega))
       have f0:=HRo.out.frozen ((a+u+t)*2)
       have f1:=HRo.out.frozen ((a+u+t)*2+1)
       have g0:=HRo.out.frozen ((a+u+t+1)*2)
       have g1:=HRo.out.frozen ((a+u+t+1)*2+1)
       simp only[sv]at c0 c1 z0 z1
      |obtain⟨c0,c1,c2⟩:=HRo.out.cell (i:=a+u+t) (x:=z) (by rw[e1];exact eT _ _ _ (by simp;omega))
       obtain⟨z0,z1,z2⟩:=HRo.out.cell (i:=a+u+t+1) (x:=y) (by rw[e2];exact eT _ _ _ (by simp;omega))
       have f0:=HRo.out.frozen ((a+u+t)*3)
       have f1:=HRo.out.frozen ((a+u+t)*3+1)
       have f2:=HRo.out.frozen ((a+u+t)*3+2)
       have g0:=HRo.out.frozen ((a+u+t+1)*3)
       have g1:=HRo.out.frozen ((a+u+t+1)*3+1)
       have g2:=HRo.out.frozen ((a+u+t+1)*3+2)
       simp only[sv]at c0 c1 c2 z0 z1 z2
     have hne: ¬a+u+t=a+u+t+1:=by omega
     have hne2: ¬a+u+t+1=a+u+t:=by omega
     have i1:((a:Int)+u+t).toNat=a+u+t:=by omega
     have i2:((a:Int)+u+t+1).toNat=a+u+t+1:=by omega
     have j1:(0:Int)<=(a:Int)+u+t/\(a:Int)+u+t<N:=by omega
     have j2:(0:Int)<=(a:Int)+u+t+1/\(a:Int)+u+t+1<N:=by omega
     have j3:(a:Int)+u+t+1-1=(a:Int)+u+t:=by omega
     have HE:=aA (And.intro e1 (And.intro e2 (And.intro hCD ht)));clear e1 e2 haP hCD ht hj;go_wp2_with fail
     go_region;go_wp2_with fail
     go_roundw
     case rel=>
      obtain⟨e1,e2,hCD,ht⟩:=HE.out;have haP:=HA.out;have hl8:(P++S1++(C++[z])++y::D++Q).length=N:=by
       rw[<-HN5.out,hCD];simp;omega
      refine⟨C,z::D,by rw[ht];go_num,by rw[hCD];simp,(by show aJ _ _ _;have ht:=HT.out;exact iX), ?_⟩;have h1:=(HRo.out.set (a+u+t+1) (by rw[hl8];omega) z).set (a+u+t) (by rw[List.length_set,hl8];omega) y;have e3:((P++S1++(C++[z])++y::D++Q).set (a+u+t+1) z).set (a+u+t) y=P++S1++C++y::(z::D)++Q:=by
       rw[e2,nT _ _ _ _ (by simp;omega),show P++S1++C++[z]++z::(D++Q)=(P++S1++C)++z::(z::(D++Q)) by simp,nT _ _ _ _ (by simp;omega)];simp
      rw[e3]at h1;exact h1
     case measure=>simp[intOf];omega):P:=h
theorem Hi (B g cap:Nat) (P S:List Bs) (y:Bs) (Q:List Bs) (w:World) (h:dI w B g cap (P++S++y::Q)) (hS:2<=S.length) (hU:Up bF S) (hn:(P++S++y::Q).length<=1000000000):
  Calls aE 191 #[aF (some ⟨g,0,none⟩) (P++S++y::Q).length cap,aB aC P.length,aB aC (P.length+S.length:Nat),aB aC (P.length+S.length+1:Nat),(.func (.func 49) #[] #[])] w
   λe w'=>e=aL (aN #[])/\yJ w B g cap P (S++[y]) Q w':=IV
def CX:Nat->Code->Code
 |0,c=>c
 |n+1,.seq _ c=>CX n c
 |_+1,c=>c
open YtccjfanpjojbnaaGreatDoor renaming CX→Z9
theorem D9 {P:Program} {fn:Func} {n:Nat} {c c2:Code} {Q:Exit->Act->World->Prop} {act:Act} {w:World} (hb:fn.body=some c) (ha:CX n c=c2) (h:c2.wp P Q act w):(CX n (fn.body.getD .skip)).wp P Q act w:=by
 rw[hb];exact ha ▸ h
open YtccjfanpjojbnaaGreatDoor renaming D9→Z8
theorem IU {P:Prop} (h:P:=by
 have hmx:=bX;have HNb:Hid ((P++L1++R1++(L2++R2++Q)).length=N):=by
  have h9:=HL.out.2.2.2.1;show _=_;rw[<-h9];conv=>rhs;rw[HS.out.1,HS.out.2.1]
  simp only[aZ]<;>omega
 refine Z8 rfl (by dsimp only[Z9]) ?_;dsimp only;obtain⟨D2,hD2⟩: ∃D2,(decide (a<st)&&decide (st<md))=D2:=⟨_,rfl⟩;have HD2:=aA hD2;clear hD2;go_upto_region 41 with fail
 go_cut [24,199] (λs24 s199 wx=>s24=aB aC (e:Nat)/\s199=Value.bool D2/\wc=wx)
 case first=>
  by_cases c1:a<st
  .have d1:(a:Int)<st:=by omega
   by_cases c2:st<md
   .have d2:(st:Int)<md:=by omega
    have HE1:Hid (D2=true):=by show _=_;rw[<-HD2.out];simp[c1,c2]
    go_wp2_with fail
    go_meet
    case rel=>exact⟨rfl,by rw[HE1.out],rfl⟩
   .have d2:decide ((st:Int)<md)=false:=by simp;omega
    have HE1:Hid (D2=false):=by show _=_;rw[<-HD2.out];simp[c2]
    go_wp2_with fail
    go_meet
    case rel=>exact⟨rfl,by rw[HE1.out],rfl⟩
  .have d1:decide ((a:Int)<st)=false:=by simp;omega
   have HE1:Hid (D2=false):=by show _=_;rw[<-HD2.out];simp[c1]
   go_wp2_with fail
   go_meet
   case rel=>exact⟨rfl,by rw[HE1.out],rfl⟩
 obtain⟨rfl,rfl,rfl⟩:=hcut;go_upto_if 199 with fail
 go_cut [24] (λs24 wx=>s24=aB aC (e:Nat)/\Hid (aJ (λk=>k=g) w wx)/\ ∃s1:List Z0,Hid (Z1 wx B g cap (P++s1++L2++R2++Q))/\Hid (Up Z2z s1/\bH Z2z s1 (L1++R1)))
 case first=>
  cases D2
  .have HZ:Hid (L1=[]\/R1=[]):=by
    have h9:=HD2.out;have h0:=HV.out;have h1:=HW.out;have h4:=HS.out;show _\/_;by_cases c1:a<st
    .refine .inr (gD ?_);have c2: ¬st<md:=λc2=>by simp[c1,c2]at h9
     omega
    .exact .inl (gD om)
   go_wp2_with fail
   go_meet
   case rel=>
    have h9:=HRb.out;rcases HZ.out with hz|hz
    .exact⟨rfl,HTb.out,R1,by show Z1 _ _ _ _ _;rw[hz]at h9;simpa using h9,HUs.out.2.2.1,by rw[hz];exact bH.refl _⟩
    .exact⟨rfl,HTb.out,L1,by show Z1 _ _ _ _ _;rw[hz]at h9;simpa using h9,HUs.out.1,by rw[hz,bV];exact bH.refl _⟩
  .first|cases isS;refine hv (p:=Hid (Calls aE 191 #[aF (some ⟨g,0,none⟩) N cap,aB aC (a:Nat),aB aC (st:Nat),aB aC (md:Nat),(.func (.func 49) #[] #[])] wc λe w'=>e=aL (aN #[])/\yJ wc B g cap P (L1++R1) (L2++R2++Q) w')) ?_ ?_|cases isA;refine hv (p:=Hid (Calls aE 193 #[aF (some ⟨g,0,none⟩) N cap,aB aC (a:Nat),aB aC (st:Nat),aB aC (md:Nat),(.func (.func 51) #[] #[])] wc λe w'=>e=aL (aN #[])/\yL wc B g cap P (L1++R1) (L2++R2++Q) w')) ?_ ?_|refine hv (p:=Hid (Calls aE 195 #[aF (some ⟨g,0,none⟩) N cap,aB aC (a:Nat),aB aC (st:Nat),aB aC (md:Nat),(.func (.func 53) #[] #[])] wc λe w'=>e=aL (aN #[])/\yK wc B g cap P (L1++R1) (L2++R2++Q) w')) ?_ ?_
   .have h0:=HD2.out;simp only[Bool.and_eq_true,decide_eq_true_eq]at h0;have h1:=HV.out;have h2:=HW.out;have h3:=HL.out;have h4:=HS.out;have h9:=HI.out B g cap P L1 R1 (L2++R2++Q) wc om om om HRb.out HUs.out.1 HUs.out.2.2.1 (by rw[HNb.out];exact hn);rw[HNb.out,h3.2.2.1,show(P++L1).length=st by rw[aZ];omega,show(P++L1++R1).length=md by simp only[aZ];omega]at h9;exact h9
   intro HRec;go_wp2_with((first|go_at_call 191|go_at_call 193|go_at_call 195);(with_reducible refine HRec.out.mono ?_);rintro e2 W2 ⟨rfl,hm2⟩;have HM2:=aA hm2;clear hm2)
   go_meet
   case rel=>
    obtain⟨ht,s1,hr,hu,ha⟩:=HM2.out;exact⟨rfl,HTb.out.trans ht,s1,by show Z1 _ _ _ _ _;simpa using hr,hu,ha⟩
 obtain⟨rfl,HTc,s1,HRc,HUc⟩:=hcut;have HNc:Hid ((P++s1++L2++R2++Q).length=N/\(P++s1).length=md):=by
  have h8:=bH.len Z3z _ _ _ (Nat.le_refl _) HUc.out.2;have h9:=HNb.out;have h1:=HV.out;have h2:=HW.out;have h3:=HL.out;have h4:=HS.out;show _/\_;simp only[aZ]at h8 h9 ⊢;omega
 obtain⟨D3,hD3⟩: ∃D3,(decide (md<e)&&decide (e<b))=D3:=⟨_,rfl⟩;have HD3:=aA hD3;clear hD3 HTb HRb HNb;go_upto_region 43 with fail
 go_cut [213] (λs213 wx=>s213=Value.bool D3/\wc=wx)
 case first=>
  by_cases c1:md<e
  .have d1:(md:Int)<e:=by omega
   by_cases c2:e<b
   .have d2:(e:Int)<b:=by omega
    have HE1:Hid (D3=true):=by show _=_;rw[<-HD3.out];simp[c1,c2]
    go_wp2_with fail
    go_meet
    case rel=>exact⟨by rw[HE1.out],rfl⟩
   .have d2:decide ((e:Int)<b)=false:=by simp;omega
    have HE1:Hid (D3=false):=by show _=_;rw[<-HD3.out];simp[c2]
    go_wp2_with fail
    go_meet
    case rel=>exact⟨by rw[HE1.out],rfl⟩
  .have d1:decide ((md:Int)<e)=false:=by simp;omega
   have HE1:Hid (D3=false):=by show _=_;rw[<-HD3.out];simp[c1]
   go_wp2_with fail
   go_meet
   case rel=>exact⟨by rw[HE1.out],rfl⟩
 obtain⟨rfl,rfl⟩:=hcut;cases D3
 .have HZ:Hid (L2=[]\/R2=[]):=by
   have h9:=HD3.out;have h0:=HV.out;have h1:=HW.out;have h4:=HS.out;show _\/_;by_cases c1:md<e
   .refine .inr (gD ?_);have c2: ¬e<b:=λc2=>by simp[c1,c2]at h9
    omega
   .exact .inl (gD om)
  go_wp2_with fail
  go_end0;have h9:=HRc.out;rcases HZ.out with hz|hz
  .obtain⟨g1,g2⟩:=HMp.out s1 R2 HUc.out.1 HUc.out.2 HUs.out.2.2.2 (by rw[hz];exact bH.refl _);exact⟨rfl,HTc.out,s1++R2,by rw[hz]at h9;simpa using h9,g1,g2⟩
  .obtain⟨g1,g2⟩:=HMp.out s1 L2 HUc.out.1 HUc.out.2 HUs.out.2.1 (by rw[hz,bV];exact bH.refl _);exact⟨rfl,HTc.out,s1++L2,by rw[hz]at h9;simpa using h9,g1,g2⟩
 .first|cases isS;refine hv (p:=Hid (Calls aE 191 #[aF (some ⟨g,0,none⟩) N cap,aB aC (md:Nat),aB aC (e:Nat),aB aC (b:Nat),(.func (.func 49) #[] #[])] wc λe w'=>e=aL (aN #[])/\yJ wc B g cap (P++s1) (L2++R2) Q w')) ?_ ?_|cases isA;refine hv (p:=Hid (Calls aE 193 #[aF (some ⟨g,0,none⟩) N cap,aB aC (md:Nat),aB aC (e:Nat),aB aC (b:Nat),(.func (.func 51) #[] #[])] wc λe w'=>e=aL (aN #[])/\yL wc B g cap (P++s1) (L2++R2) Q w')) ?_ ?_|refine hv (p:=Hid (Calls aE 195 #[aF (some ⟨g,0,none⟩) N cap,aB aC (md:Nat),aB aC (e:Nat),aB aC (b:Nat),(.func (.func 53) #[] #[])] wc λe w'=>e=aL (aN #[])/\yK wc B g cap (P++s1) (L2++R2) Q w')) ?_ ?_
  .have h0:=HD3.out;simp only[Bool.and_eq_true,decide_eq_true_eq]at h0;have h1:=HV.out;have h2:=HW.out;have h3:=HL.out;have h4:=HS.out;have h5:=HNc.out;have h9:=HI.out B g cap (P++s1) L2 R2 Q wc om om om HRc.out HUs.out.2.1 HUs.out.2.2.2 (by rw[h5.1];exact hn);rw[h5.1,h5.2,show(P++s1++L2).length=e by rw[aZ,h5.2];omega,show(P++s1++L2++R2).length=b by rw[aZ,aZ,h5.2];omega]at h9;exact h9
  intro HRec;go_wp2_with((first|go_at_call 191|go_at_call 193|go_at_call 195);(with_reducible refine HRec.out.mono ?_);rintro e2 W2 ⟨rfl,hm2⟩;have HM2:=aA hm2;clear hm2)
  go_end0;obtain⟨ht,s2,hr,hu,ha⟩:=HM2.out;obtain⟨g1,g2⟩:=HMp.out s1 s2 HUc.out.1 HUc.out.2 hu ha;exact⟨rfl,HTc.out.trans ht,s1++s2,by simpa using hr,g1,g2⟩):P:=h
theorem Gh (k B g cap:Nat) (P A Bb Q L1 L2 R1 R2:List Bs) (w wc:World) (α β a m b N hh md nn p st0 r0 s t e st:Nat) (hn:N<=1000000000) (_we:e<=N) (_ws:st<=N) (_w1:md<=N) (_w3:a<=N) (_v3:b<=N)
  (HV:Hid (m=a+α/\b=m+β/\(α+β)/2=hh/\a+hh=md/\md+m=nn/\nn-1=p/\a+(hh-β)=st0/\a+min hh α=r0/\2<=α/\2<=β))
  (HL:Hid (A.length=α/\Bb.length=β/\P.length=a/\(P++A++Bb++Q).length=N/\α+β<=k+1)) (_HU:Hid (Up bF A/\Up bF Bb))
  (HI:Hid (∀(B g cap:Nat) (P A Bb Q:List Bs) (w:World),A.length+Bb.length<=k->0<A.length->0<Bb.length->dI w B g cap (P++A++Bb++Q)->Up bF A->Up bF Bb->(P++A++Bb++Q).length<=1000000000->
   Calls aE 191 #[aF (some ⟨g,0,none⟩) (P++A++Bb++Q).length cap,aB aC P.length,aB aC (P++A).length,aB aC (P++A++Bb).length,(.func (.func 49) #[] #[])] w λe w'=>e=aL (aN #[])/\yJ w B g cap P (A++Bb) Q w'))
  (HW:Hid (st=a+s/\t+s=hh/\e=m+t/\s<=α/\t<=β))
  (HS:Hid (A=L1++L2/\Bb=R1++R2/\L1.length=s/\L2.length+s=α/\R1.length=t/\R2.length+t=β))
  (HMp:Hid (∀s1 s2,Up bF s1->bH bF s1 (L1++R1)->Up bF s2->bH bF s2 (L2++R2)->Up bF (s1++s2)/\bH bF (s1++s2) (A++Bb)))
  (HUs:Hid (Up bF L1/\Up bF L2/\Up bF R1/\Up bF R2)) (HTb:Hid (aJ (λk=>k=g) w wc)) (HRb:Hid (dI wc B g cap (P++L1++R1++(L2++R2++Q))))
  (u5 u6 u7 u8 u9 u10 u11 u12 u13 u14 u15 u16 u17 u23 u25 u26 u27 u28 u29 u30 u31 u32 u33 u34 u35 u36 u37 u38 u39 u40 u41 u42 u43 u44 u45 u46 u47 u48 u49 u50 u51 u52 u53 u54 u55 u56 u57 u58 u59 u60 u61 u62 u63 u64 u65 u66 u67 u68 u69 u70 u71 u72 u73 u74 u75 u76 u77 u78 u79 u80 u81 u82 u83 u84 u85 u86 u87 u88 u89 u90 u91 u92 u93 u94 u95 u96 u97 u98 u99 u100 u101 u102 u103 u104 u105 u106 u107 u108 u109 u110 u111 u112 u113 u114 u115 u116 u117 u118 u119 u120 u121 u122 u123 u124 u125 u126 u127 u128 u129 u130 u131 u132 u133 u134 u135 u136 u137 u138 u139 u140 u141 u142 u143 u144 u145 u146 u147 u148 u149 u150 u151 u152 u153 u154 u155 u156 u157 u158 u159 u160 u161 u162 u163 u164 u165 u166 u167 u168 u169 u170 u171 u172 u173 u174 u175 u176 u177 u178 u179 u180 u181 u182 u183 u184 u185 u186 u187 u188 u189 u190 u191 u192 u193 u194 u195 u196 u197 u198 u199 u200 u201 u202 u203 u204 u205 u206 u207 u208 u209 u210 u211 u212 u213 u214 u215 u216 u217 u218 u219:Value):
  (CX 10 (Tryz.f191.body.getD .skip)).wp aE (bodyPost aE Tryz.f191 λe w'=>e=aL (aN #[])/\yJ w B g cap P (A++Bb) Q w') {tmps:= #[aF (some ⟨g,0,none⟩) N cap,aB aC (a:Nat),aB aC (m:Nat),aB aC (b:Nat),(.func (.func 49) #[] #[]),u5,u6,u7,u8,u9,u10,u11,u12,u13,u14,u15,u16,u17,aB aC (md:Nat),aB aC (nn:Nat),aB aC (st:Nat),aB aC (st:Nat),aB aC (p:Nat),u23,aB aC (e:Nat),u25,u26,u27,u28,u29,u30,u31,u32,u33,u34,u35,u36,u37,u38,u39,u40,u41,u42,u43,u44,u45,u46,u47,u48,u49,u50,u51,u52,u53,u54,u55,u56,u57,u58,u59,u60,u61,u62,u63,u64,u65,u66,u67,u68,u69,u70,u71,u72,u73,u74,u75,u76,u77,u78,u79,u80,u81,u82,u83,u84,u85,u86,u87,u88,u89,u90,u91,u92,u93,u94,u95,u96,u97,u98,u99,u100,u101,u102,u103,u104,u105,u106,u107,u108,u109,u110,u111,u112,u113,u114,u115,u116,u117,u118,u119,u120,u121,u122,u123,u124,u125,u126,u127,u128,u129,u130,u131,u132,u133,u134,u135,u136,u137,u138,u139,u140,u141,u142,u143,u144,u145,u146,u147,u148,u149,u150,u151,u152,u153,u154,u155,u156,u157,u158,u159,u160,u161,u162,u163,u164,u165,u166,u167,u168,u169,u170,u171,u172,u173,u174,u175,u176,u177,u178,u179,u180,u181,u182,u183,u184,u185,u186,u187,u188,u189,u190,u191,u192,u193,u194,u195,u196,u197,u198,u199,u200,u201,u202,u203,u204,u205,u206,u207,u208,u209,u210,u211,u212,u213,u214,u215,u216,u217,u218,u219],defers:=[]} wc:=IU
