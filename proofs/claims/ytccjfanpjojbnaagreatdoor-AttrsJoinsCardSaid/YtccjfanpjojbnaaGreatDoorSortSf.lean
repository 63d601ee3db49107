import Derived.Test.YtccjfanpjojbnaaGreatDoorSortSc
import Derived.Test.YtccjfanpjojbnaaGreatDoorSortSe
namespace Go.Proofs.YtccjfanpjojbnaaGreatDoor
open Go.Ending renaming returned→aL
open Go.IntKind renaming i64→aC
open Lib renaming hid→aA
open List renaming append_assoc→cY,eq_nil_of_length_eq_zero→gD,getElem?_append_left→nK,getElem?_append_right→lE,getElem?_eq_getElem→eV,getElem?_eq_some_iff→gV,length_append→aZ,pairwise_append→oJ,take_append_drop→nJ
open Tryz renaming prog→aE
open Go.Value renaming int→aB,slice→aF,tuple→aN
set_option maxRecDepth 1000000
set_option maxHeartbeats 16000000
open Go.RowKit
open KS
open YtccjfanpjojbnaaGreatDoor renaming Hl→Za,Hi→Zb,bF→Z2z,dI→Z1,wN→Z4z,CR→Z5z,uB→Z3z,Gh→Zc
theorem IT {P:Prop} (h:P:=by
 induction k with
 |zero=>intro B g cap P A Bb Q w h1 h2;omega
 |succ k ih=>
  intro B g cap P A Bb Q w hk hA0 hB0 h hUA hUB hn;have hmx:=bX;by_cases hA1:A.length=1
  .obtain⟨x,rfl⟩:=List.length_eq_one_iff.1 hA1;have e1:P++[x]++Bb++Q=P++x::Bb++Q:=by simp
   rw[e1]at h hn ⊢;rw[show(P++[x]).length=P.length+1 by simp,show(P++[x]++Bb).length=P.length+1+Bb.length by simp;omega];exact Za B g cap P x Bb Q w h hB0 hUB hn
  by_cases hB1:Bb.length=1
  .obtain⟨y,rfl⟩:=List.length_eq_one_iff.1 hB1;have e1:P++A++[y]++Q=P++A++y::Q:=by simp
   rw[e1]at h hn ⊢;rw[show(P++A).length=P.length+A.length by simp,show(P++A++[y]).length=P.length+A.length+1 by simp;omega];exact Zb B g cap P A y Q w h om hUA hn
  obtain⟨α,hα⟩: ∃α,A.length=α:=⟨_,rfl⟩;obtain⟨β,hβ⟩: ∃β,Bb.length=β:=⟨_,rfl⟩;obtain⟨a,ha⟩: ∃a,P.length=a:=⟨_,rfl⟩;obtain⟨m,hm⟩: ∃m,(P++A).length=m:=⟨_,rfl⟩;obtain⟨b,hb⟩: ∃b,(P++A++Bb).length=b:=⟨_,rfl⟩;obtain⟨N,hN⟩: ∃N,(P++A++Bb++Q).length=N:=⟨_,rfl⟩;have v1:m=a+α:=by rw[<-hm,aZ];omega
  have v2:b=m+β:=by rw[<-hb,<-hm,aZ];omega
  have v3:b<=N:=by rw[<-hN,<-hb];simp only[aZ];omega
  rw[ha,hm,hb,hN];rw[hN]at hn;obtain⟨hh,hhh⟩: ∃hh,(α+β)/2=hh:=⟨_,rfl⟩;obtain⟨md,hmd⟩: ∃md,a+hh=md:=⟨_,rfl⟩;obtain⟨nn,hnn⟩: ∃nn,md+m=nn:=⟨_,rfl⟩;obtain⟨p,hp⟩: ∃p,nn-1=p:=⟨_,rfl⟩;obtain⟨st0,hst0⟩: ∃st0,a+(hh-β)=st0:=⟨_,rfl⟩;obtain⟨r0,hr0⟩: ∃r0,a+min hh α=r0:=⟨_,rfl⟩;have HV:Hid (m=a+α/\b=m+β/\(α+β)/2=hh/\a+hh=md/\md+m=nn/\nn-1=p/\a+(hh-β)=st0/\a+min hh α=r0/\2<=α/\2<=β):=⟨v1,v2,hhh,hmd,hnn,hp,hst0,hr0,by omega,by omega⟩;have HL:Hid (A.length=α/\Bb.length=β/\P.length=a/\(P++A++Bb++Q).length=N/\α+β<=k+1):=⟨hα,hβ,ha,hN,by omega⟩;have HR:=aA h;have HU:=aA (And.intro hUA hUB);have HI:=aA ih;have hgl:=yZ h;have rb1:((m:Int)-a==1)=false:=by rw[beq_eq_false_iff_ne];omega
  have rb2:((b:Int)-m==1)=false:=by rw[beq_eq_false_iff_ne];omega
  have rmid:((a:Int)+b)/2=md:=by omega
  have rnn:(md:Int)+m=nn:=by omega
  have rp:(nn:Int)-1=p:=by omega
  have w1:md<=N:=by omega
  have w2:m<=N:=by omega
  have w3:a<=N:=by omega
  have w4:nn<=2000000000:=by omega
  have w5:st0<=N/\r0<=N/\st0<=r0/\p<=nn:=by omega
  obtain⟨w5,w6,w7,w8⟩:=w5;clear ha hm hb hN hα hβ v1 v2 hhh hmd hnn hp hst0 hr0 h hUA hUB ih hA0 hB0 hA1 hB1 hk;first|go_enter Tryz.func191,Tryz.ntmps191|go_enter Tryz.func193,Tryz.ntmps193|go_enter Tryz.func195,Tryz.ntmps195
  go_upto_if 140 with fail
  go_cut [20,21] (λs20 s21 wx=>s20=aB aC (st0:Nat)/\s21=aB aC (r0:Nat)/\w=wx)
  case first=>
   by_cases hgt:md<m
   .have hgt2:(md:Int)<m:=by omega
    have rst:(nn:Int)-b=st0:=by have:=HV.out;omega
    have HM9:Hid (md=r0):=by show _=_;have:=HV.out;omega
    go_wp2_with fail
    go_meet
    case rel=>exact⟨rfl,by rw[HM9.out],rfl⟩
   .have hgt2: ¬(md:Int)<m:=by omega
    have HM9:Hid (m=r0/\a=st0):=by have:=HV.out;show _/\_;omega
    go_wp2_with fail
    go_meet
    case rel=>exact⟨by rw[HM9.out.2],by rw[HM9.out.1],rfl⟩
  case rest=>
   obtain⟨rfl,rfl,rfl⟩:=hcut;go_wp2_with fail
   go_loopw [20,21] (λi j wr=> ∃(st rr:Nat),st0<=st/\st<=rr/\rr<=r0/\i=aB aC (st:Nat)/\j=aB aC (rr:Nat)/\Hid (Below w.heap.size w wr)/\
    Hid ((∀x y,st0<st->A[st-a-1]? =some x->Bb[hh-(st-a)]? =some y->Z2z y x=false)/\(∀x y,rr<r0->A[rr-a]? =some x->Bb[hh-1-(rr-a)]? =some y->Z2z y x=true))) (λi j _=>(intOf j).toNat-(intOf i).toNat)
   case atStart=>exact⟨st0,r0,by omega,by omega,by omega,rfl,rfl,Below.refl _ _,λx y h=>by omega,λx y h=>by omega⟩
   case round=>
    obtain⟨st,rr,q1,q2,q3,rfl,rfl,HB,HF⟩:=hrel;by_cases hlt:st<rr
    .have hlt2:(st:Int)<rr:=by omega
     obtain⟨c,hc⟩: ∃c,(st+rr)/2=c:=⟨_,rfl⟩;obtain⟨q,hq⟩: ∃q,p-c=q:=⟨_,rfl⟩;have rc:((st:Int)+rr)/2=c:=by omega
     have rq:(p:Int)-c=q:=by have:=HV.out;omega
     have HcV:Hid (st<=c/\c<rr/\q=m+(hh-1-(c-a))/\c-a<α/\hh-1-(c-a)<β/\a<=c):=by have:=HV.out;show _/\_;omega
     obtain⟨x,hx⟩: ∃x,A[c-a]? =some x:=⟨A[c-a]'(by have:=HL.out;have:=HcV.out;omega),eV _⟩;obtain⟨y,hy⟩: ∃y,Bb[hh-1-(c-a)]? =some y:=⟨Bb[hh-1-(c-a)]'(by have:=HL.out;have:=HcV.out;omega),eV _⟩;have HR5:Hid (Z1 wr B g cap (P++A++Bb++Q)):=HR.out.turned (aJ.of_below (pv:=λ_=>False) HB.out) (λh=>h);first
      |cases isS
       have c0:=HR5.out.cell (i:=c) (x:=x) (by have h1:=HL.out;have h2:=HcV.out;rw[cY,cY,lE om,nK om,h1.2.2.1];exact hx)
       have z0:=HR5.out.cell (i:=q) (x:=y) (by have h1:=HL.out;have h2:=HcV.out;have h3:=HV.out;rw[cY,lE (by rw[aZ];omega),nK (by rw[aZ];omega)];rw[show q-(P++A).length=hh-1-(c-a) by rw[aZ];omega];exact hy)
       simp only[sv]at c0 z0
      |cases isA
       obtain⟨c0,c1⟩:=HR5.out.cell (i:=c) (x:=x) (by have h1:=HL.out;have h2:=HcV.out;rw[cY,cY,lE om,nK om,h1.2.2.1];exact hx)
       obtain⟨z0,z1⟩:=HR5.out.cell (i:=q) (x:=y) (by have h1:=HL.out;have h2:=HcV.out;have h3:=HV.out;rw[cY,lE (by rw[aZ];omega),nK (by rw[aZ];omega)];rw[show q-(P++A).length=hh-1-(c-a) by rw[aZ];omega];exact hy)
       simp only[sv]at c0 c1 z0 z1
      |obtain⟨c0,c1,c2⟩:=HR5.out.cell (i:=c) (x:=x) (by have h1:=HL.out;have h2:=HcV.out;rw[cY,cY,lE om,nK om,h1.2.2.1];exact hx)
       obtain⟨z0,z1,z2⟩:=HR5.out.cell (i:=q) (x:=y) (by have h1:=HL.out;have h2:=HcV.out;have h3:=HV.out;rw[cY,lE (by rw[aZ];omega),nK (by rw[aZ];omega)];rw[show q-(P++A).length=hh-1-(c-a) by rw[aZ];omega];exact hy)
       simp only[sv]at c0 c1 c2 z0 z1 z2
     have hgw:g<wr.heap.size:=Nat.lt_of_lt_of_le hgl HB.out.size;have jc:c<N/\q<N/\st<=c/\c+1<=rr:=by have h1:=HV.out;have h2:=HcV.out;omega
     obtain⟨jc,jq,jc1,jc2⟩:=jc;have HC:=aA (λW=>Z4z y x W);have HD:=aA (Z5z y x);have HXY:=aA (And.intro hx hy);first
      |cases isS
       simp only[sv]at HC
       generalize hcm:gN y x=cm at*
      |cases isA
       simp only[aW.agg,sv]at HC
       generalize hcm:jL (y).key (x).key=cm at*
      |simp only[aS.agg,sv]at HC
       generalize hcm:jL (y).key (x).key=cm at*
     clear hc hq hx hy hcm;cases hl2:Z2z y x
     .have hc0:decide (cm<0)=false:=by rw[HD.out,hl2]
      have HL2:=aA hl2;clear hl2;go_wp2_with fail
      refine dV kr kr  ?_;repeat(go_big_quiet_step(((first|go_at_call 49|go_at_call 51|go_at_call 53);with_reducible exact Calls.grow_of (HC.out _))))
      refine wpQuiet_nil ?_;rintro _ ⟨nq,rfl⟩;go_wp2_with fail
      go_roundw
      case rel=>
       refine⟨c+1,rr,by omega,by omega,by omega,by go_num,rfl,aP HB.out (dG _ _),λx' y' _ h1 h2=> ?_,HF.out.2⟩;have h3:=HcV.out;rw[show c+1-a-1=c-a by omega,HXY.out.1]at h1;rw[show hh-(c+1-a)=hh-1-(c-a) by omega,HXY.out.2]at h2;cases h1;cases h2;exact HL2.out
      case measure=>simp[intOf];omega
     .have hc0:decide (cm<0)=true:=by rw[HD.out,hl2]
      have HL2:=aA hl2;clear hl2;go_wp2_with fail
      refine dV kr kr  ?_;repeat(go_big_quiet_step(((first|go_at_call 49|go_at_call 51|go_at_call 53);with_reducible exact Calls.grow_of (HC.out _))))
      refine wpQuiet_nil ?_;rintro _ ⟨nq,rfl⟩;go_wp2_with fail
      go_roundw
      case rel=>
       refine⟨st,c,by omega,by omega,by omega,rfl,rfl,aP HB.out (dG _ _),HF.out.1,λx' y' _ h1 h2=> ?_⟩;rw[HXY.out.1]at h1;rw[HXY.out.2]at h2;cases h1;cases h2;exact HL2.out
      case measure=>simp[intOf];omega
    .have hst:st=rr:=by omega
     subst hst;have hlt2: ¬(st:Int)<st:=by omega
     obtain⟨s,hs⟩: ∃s,st-a=s:=⟨_,rfl⟩;obtain⟨t,ht⟩: ∃t,hh-s=t:=⟨_,rfl⟩;obtain⟨e,he⟩: ∃e,nn-st=e:=⟨_,rfl⟩;have re:(nn:Int)-st=e:=by have:=HV.out;omega
     have HW:Hid (st=a+s/\t+s=hh/\e=m+t/\s<=α/\t<=β):=by have:=HV.out;show _/\_;omega
     have HCut:Hid ((∀x∈A.drop s,∀y∈Bb.take t,Z2z y x=true)/\(∀x∈A.take s,∀y∈Bb.drop t,Z2z y x=false)):=by
      have h1:=HV.out;have h2:=HW.out;have h3:=HL.out;obtain⟨f1,f2⟩:=HF.out;refine CP Z3z HU.out.1 HU.out.2 om om  (λx y g1 g2 g3=> ?_) (λx y g1 g2 g3=> ?_)
      .have g4:=(gV.1 g1).1;exact f2 x y om (by rw[hs];exact g1) (by rw[hs,show hh-1-s=t-1 by omega];exact g3)
      .have g4:=(gV.1 g3).1;exact f1 x y om (by rw[hs];exact g2) (by rw[hs,ht];exact g3)
     have HS:Hid (A=A.take s++A.drop s/\Bb=Bb.take t++Bb.drop t/\(A.take s).length=s/\(A.drop s).length+s=α/\(Bb.take t).length=t/\(Bb.drop t).length+t=β):=by
      have h2:=HW.out;have h3:=HL.out;exact⟨(nJ _ _).symm,(nJ _ _).symm,by rw[List.length_take];omega,by rw[List.length_drop];omega,by rw[List.length_take];omega,by rw[List.length_drop];omega⟩
     have HUs:Hid (Up Z2z (A.take s)/\Up Z2z (A.drop s)/\Up Z2z (Bb.take t)/\Up Z2z (Bb.drop t)):=by
      obtain⟨u1,u2⟩:=HU.out;rw[<-nJ s A]at u1;rw[<-nJ t Bb]at u2;exact⟨(oJ.1 u1).1,(oJ.1 u1).2.1,(oJ.1 u2).1,(oJ.1 u2).2.1⟩
     generalize A.take s=L1 at*;generalize A.drop s=L2 at*;generalize Bb.take t=R1 at*;generalize Bb.drop t=R2 at*;have HMp:Hid (∀s1 s2,Up Z2z s1->bH Z2z s1 (L1++R1)->Up Z2z s2->bH Z2z s2 (L2++R2)->Up Z2z (s1++s2)/\bH Z2z (s1++s2) (A++Bb)):=λs1 s2 u1 a1 u2 a2=>by
      obtain⟨g1,g2,_⟩:=HS.out;obtain⟨k1,k2⟩:=HU.out;obtain⟨c1,c2⟩:=HCut.out;rw[g1]at k1;rw[g2]at k2;have h9:=He Z3z k1 k2 c1 c2 u1 a1 u2 a2;rw[<-g1,<-g2]at h9;exact h9
     have HRa:Hid (Z1 wr B g cap (P++L1++L2++R1++(R2++Q))):=by
      have h9:=HR.out.turned (aJ.of_below (pv:=λ_=>False) HB.out) (λh=>h);rw[HS.out.1,HS.out.2.1]at h9;show Z1 _ _ _ _ _;simpa using h9
     have HNa:Hid ((P++L1++L2++R1++(R2++Q)).length=N):=by
      have h9:=HL.out.2.2.2.1;show _=_;rw[<-h9];conv=>rhs;rw[HS.out.1,HS.out.2.1]
      simp
     have HTa:Hid (aJ (λk=>k=g) w wr):=aJ.of_below HB.out;clear hs ht he HF HCut;have we:e<=N/\st<=N:=by have h1:=HV.out;have h2:=HW.out;omega
     obtain⟨we,ws⟩:=we;obtain⟨D1,hD1⟩: ∃D1,(decide (st<m)&&decide (m<e))=D1:=⟨_,rfl⟩;have HD1:=aA hD1;clear hD1;go_upto_region 39 with fail
     go_cut [24,185] (λs24 s185 wx=>s24=aB aC (e:Nat)/\s185=Value.bool D1/\wr=wx)
     case first=>
      by_cases c1:st<m
      .have d1:(st:Int)<m:=by omega
       by_cases c2:m<e
       .have d2:(m:Int)<e:=by omega
        have HE1:Hid (D1=true):=by show _=_;rw[<-HD1.out];simp[c1,c2]
        go_wp2_with fail
        go_meet
        case rel=>exact⟨rfl,by rw[HE1.out],rfl⟩
       .have d2:decide ((m:Int)<e)=false:=by simp;omega
        have HE1:Hid (D1=false):=by show _=_;rw[<-HD1.out];simp[c2]
        go_wp2_with fail
        go_meet
        case rel=>exact⟨rfl,by rw[HE1.out],rfl⟩
      .have d1:decide ((st:Int)<m)=false:=by simp;omega
       have HE1:Hid (D1=false):=by show _=_;rw[<-HD1.out];simp[c1]
       go_wp2_with fail
       go_meet
       case rel=>exact⟨rfl,by rw[HE1.out],rfl⟩
     obtain⟨rfl,rfl,rfl⟩:=hcut;go_upto_if 185 with fail
     go_cut [24] (λs24 wx=>s24=aB aC (e:Nat)/\Hid (aJ (λk=>k=g) w wx)/\Hid (Z1 wx B g cap (P++L1++R1++(L2++R2++Q))))
     case first=>
      cases D1
      .have HZ:Hid (R1=[]\/L2=[]):=by
        have h9:=HD1.out;have h0:=HV.out;have h1:=HW.out;have h4:=HS.out;show _\/_;by_cases c1:st<m
        .refine .inl (gD ?_);have c2: ¬m<e:=λc2=>by simp[c1,c2]at h9
         omega
        .exact .inr (gD om)
       go_wp2_with fail
       go_meet
       case rel=>
        refine⟨rfl,HTa.out, ?_⟩;show Z1 _ _ _ _ _;have h9:=HRa.out;rcases HZ.out with hz|hz
        .rw[hz]at h9 ⊢;simpa using h9
        .rw[hz]at h9 ⊢;simpa using h9
      .first|cases isS;refine hv (p:=Hid (Calls aE 223 #[aF (some ⟨g,0,none⟩) N cap,aB aC (st:Nat),aB aC (m:Nat),aB aC (e:Nat),(.func (.func 49) #[] #[])] wr λe w'=>e=aL (aN #[])/\aJ (λk=>k=g) wr w'/\dI w' B g cap (P++L1++R1++L2++(R2++Q)))) ?_ ?_|cases isA;refine hv (p:=Hid (Calls aE 224 #[aF (some ⟨g,0,none⟩) N cap,aB aC (st:Nat),aB aC (m:Nat),aB aC (e:Nat),(.func (.func 51) #[] #[])] wr λe w'=>e=aL (aN #[])/\aJ (λk=>k=g) wr w'/\dK w' B g cap (P++L1++R1++L2++(R2++Q)))) ?_ ?_|refine hv (p:=Hid (Calls aE 225 #[aF (some ⟨g,0,none⟩) N cap,aB aC (st:Nat),aB aC (m:Nat),aB aC (e:Nat),(.func (.func 53) #[] #[])] wr λe w'=>e=aL (aN #[])/\aJ (λk=>k=g) wr w'/\dJ w' B g cap (P++L1++R1++L2++(R2++Q)))) ?_ ?_
       .have h0:=HD1.out;simp only[Bool.and_eq_true,decide_eq_true_eq]at h0;have h1:=HV.out;have h2:=HW.out;have h3:=HL.out;have h4:=HS.out;first|cases isS;have h9:=As B g cap (P++L1) L2 R1 (R2++Q) (.func (.func 49) #[] #[]) wr HRa.out om om  (by rw[HNa.out];exact hn)|cases isA;have h9:=Ba B g cap (P++L1) L2 R1 (R2++Q) (.func (.func 51) #[] #[]) wr HRa.out om om  (by rw[HNa.out];exact hn)|have h9:=Ay B g cap (P++L1) L2 R1 (R2++Q) (.func (.func 53) #[] #[]) wr HRa.out om om  (by rw[HNa.out];exact hn)
        rw[HNa.out,show(P++L1).length=st by rw[aZ];omega,show(P++L1++L2).length=m by simp only[aZ];omega,show(P++L1++L2++R1).length=e by simp only[aZ];omega]at h9;exact h9
       intro HRot;go_wp2_with((first|go_at_call 223|go_at_call 224|go_at_call 225);(with_reducible refine HRot.out.mono ?_);rintro e2 W2 ⟨rfl,ht2,hr2⟩;have HT2:=aA ht2;have HR2:=aA hr2;clear ht2 hr2)
       go_meet
       case rel=>exact⟨rfl,HTa.out.trans HT2.out,by show Z1 _ _ _ _ _;have:=HR2.out;simpa using this⟩
     case rest=>
      obtain⟨rfl,HTb,HRb⟩:=hcut;clear HTa HRa HNa;have HNb:Hid ((P++L1++R1++(L2++R2++Q)).length=N):=by
       have h9:=HL.out.2.2.2.1;show _=_;rw[<-h9];conv=>rhs;rw[HS.out.1,HS.out.2.1]
       simp only[aZ];omega
      apply_assumption;exact Zc k B g cap P A Bb Q L1 L2 R1 R2 w wc α β a m b N hh md nn p st0 r0 s t e st hn we ws w1 w3 v3 HV HL HU HI HW HS HMp HUs HTb HRb _ _ _ _ _ _ _ _ _ _ _ _ _ _ _ _ _ _ _ _ _ _ _ _ _ _ _ _ _ _ _ _ _ _ _ _ _ _ _ _ _ _ _ _ _ _ _ _ _ _ _ _ _ _ _ _ _ _ _ _ _ _ _ _ _ _ _ _ _ _ _ _ _ _ _ _ _ _ _ _ _ _ _ _ _ _ _ _ _ _ _ _ _ _ _ _ _ _ _ _ _ _ _ _ _ _ _ _ _ _ _ _ _ _ _ _ _ _ _ _ _ _ _ _ _ _ _ _ _ _ _ _ _ _ _ _ _ _ _ _ _ _ _ _ _ _ _ _ _ _ _ _ _ _ _ _ _ _ _ _ _ _ _ _ _ _ _ _ _ _ _ _ _ _ _ _ _ _ _ _ _ _ _ _ _ _ _ _ _ _ _ _ _ _ _ _ _ _ _ _ _ _ _ _ _ _ _ _ _):P:=h
theorem Hf (k:Nat): ∀(B g cap:Nat) (P A Bb Q:List Bs) (w:World),A.length+Bb.length<=k->0<A.length->0<Bb.length->dI w B g cap (P++A++Bb++Q)->Up bF A->Up bF Bb->(P++A++Bb++Q).length<=1000000000->
  Calls aE 191 #[aF (some ⟨g,0,none⟩) (P++A++Bb++Q).length cap,aB aC P.length,aB aC (P++A).length,aB aC (P++A++Bb).length,(.func (.func 49) #[] #[])] w
   λe w'=>e=aL (aN #[])/\yJ w B g cap P (A++Bb) Q w':=IT
