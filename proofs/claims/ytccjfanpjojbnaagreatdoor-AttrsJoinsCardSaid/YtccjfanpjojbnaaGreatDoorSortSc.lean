import Derived.Test.YtccjfanpjojbnaaGreatDoorSortSa
namespace Go.Proofs.YtccjfanpjojbnaaGreatDoor
open Go.Ending renaming returned→aL
open Go.IntKind renaming i64→aC
open Lib renaming hid→aA
open List renaming append_assoc→cY,append_nil→bV,getElem?_append_left→nK,getElem?_append_right→lE,length_append→aZ,length_cons→aY,length_nil→dY,length_singleton→xl,take_append_drop→nJ
open Go.Value renaming int→aB
set_option maxRecDepth 1000000
set_option maxHeartbeats 8000000
open Go.RowKit
open KS
open YtccjfanpjojbnaaGreatDoor renaming Bs→Z0,dI→Z1,bF→Z2z,uB→Z3z,wN→Z4z,CR→Z5z
theorem IX {P:Prop} (h:P:=by
 have hmx:=bX;obtain⟨a,ha⟩: ∃a,P.length=a:=⟨_,rfl⟩;obtain⟨b,hb⟩: ∃b,(P++S).length=b:=⟨_,rfl⟩;obtain⟨N,hN⟩: ∃N,(P++S++Q).length=N:=⟨_,rfl⟩;rw[ha,hb,hN];rw[hN]at hn;have hSl:S.length+a=b:=by rw[<-ha,<-hb,aZ];omega
 have hbN:b<=N:=by rw[<-hN,<-hb];simp only[aZ];omega
 have HA:=aA ha;have HN:=aA hN;have HR:=aA h;clear ha hb hN h;cases S with
 |nil=>
  have hab:a=b:=by simpa using hSl
  subst hab;clear hSl;first|go_enter Tryz.func190,Tryz.ntmps190|go_enter Tryz.func192,Tryz.ntmps192|go_enter Tryz.func194,Tryz.ntmps194
  go_wp2_with fail
  have hlt: ¬((a:Int)+1<a):=by omega
  go_loopw [8] (λi wr=>i=aB aC ((a:Int)+1)/\w=wr) (λ_ _=>0)
  case atStart=>exact⟨rfl,rfl⟩
  case round=>
   obtain⟨rfl,rfl⟩:=hrel;go_wp2_with fail
   go_end0;exact⟨rfl,aJ.refl _ _,[],HR.out,List.Pairwise.nil,bH.refl _⟩
 |cons s0 S=>
  simp only[aY]at hSl;first|go_enter Tryz.func190,Tryz.ntmps190|go_enter Tryz.func192,Tryz.ntmps192|go_enter Tryz.func194,Tryz.ntmps194
  go_wp2_with fail
  go_loopw [8] (λi wr=> ∃(S0 S1 R:List Z0),0<S0.length/\S0.length+R.length+a=b/\i=aB aC (a+S0.length:Nat)/\Hid (aJ (λk=>k=g) w wr)/\Hid (Z1 wr B g cap (P++S1++R++Q))/\Hid (s0::S=S0++R/\Up Z2z S1/\bH Z2z S1 S0/\S1.length=S0.length/\(P++S1++R++Q).length=N)) (λi _=>b-(intOf i).toNat)
  case atStart=>
   refine⟨[s0],[s0],S,by simp,by simp;omega,by go_num,aJ.refl _ _,by show Z1 _ _ _ _ _;have:=HR.out;simpa using this, ?_⟩;exact⟨rfl,by simp[Up],bH.refl _,rfl,by rw[<-HN.out];simp⟩
  case round=>
   obtain⟨S0,S1,R,h0,h1,rfl,HTu,HRo,HL⟩:=hrel;cases R with
   |nil=>
    have hlt: ¬(((a+S0.length:Nat):Int)<b):=by simp at h1;omega
    obtain⟨l1,l2,l3,l4,l5⟩:=HL.out;rw[bV]at l1;have HR2:Hid (Z1 wr B g cap (P++S1++Q)):=by have:=HRo.out;rwa[bV]at this
    rw[<-l1]at l3;have HU:=aA (And.intro l2 l3);clear l1 l2 l3 l4 l5;go_wp2_with fail
    go_end0;exact⟨rfl,HTu.out,S1,HR2.out,HU.out.1,HU.out.2⟩
   |cons y R=>
    simp only[aY]at h1;have hlt:((a+S0.length:Nat):Int)<b:=by omega
    go_wp2_with fail
    go_loopw [9] (λj wr=> ∃(A1 A2:List Z0),A1.length<=S0.length/\j=aB aC (a+A1.length:Nat)/\Hid (aJ (λk=>k=g) w wr)/\Hid (Z1 wr B g cap (P++A1++(y::A2)++R++Q))/\Hid (S1=A1++A2/\ ∀x∈A2,Z2z y x=true)) (λj _=>(intOf j).toNat)
    case atStart=>
     obtain⟨l1,l2,l3,l4,l5⟩:=HL.out;exact⟨S1,[],by omega,by go_num,HTu.out,by show Z1 _ _ _ _ _;have:=HRo.out;simpa using this,(bV _).symm,λx hx=>by cases hx⟩
    case round=>
     obtain⟨A1,A2,hA,rfl,HT2,HR2,HL2⟩:=hrel;have HF:Hid ((∀x,A1.getLast? =some x->Z2z y x=false)->Up Z2z (A1++y::A2)/\bH Z2z (A1++y::A2) (S0++[y])):=λhx=>by
      obtain⟨l1,l2,l3,l4,l5⟩:=HL.out;obtain⟨k1,k2⟩:=HL2.out;rw[k1]at l2;obtain⟨p1,p2⟩:=Ca Z3z l2 hx k2;rw[<-k1]at p2;exact⟨p1,p2.trans (l3.app (bH.refl _))⟩
     have hsn:A1=[]\/ ∃A0 x,A1=A0++[x]:=by
      rcases List.eq_nil_or_concat A1 with h|⟨A0,x,h⟩
      .exact .inl h
      .exact .inr ⟨A0,x,by rw[h,List.concat_eq_append]⟩
     rcases hsn with rfl|⟨A0,x,rfl⟩
     .have hg0:decide ((a:Int)<((a+0:Nat):Int))=false:=by simp
      have HU:=aA (HF.out (λx hx=>by cases hx));clear HF;simp only[dY]at*;go_wp2_with fail
      refine dV kr kr  ?_;repeat(go_big_quiet_step(((first|go_at_call 49|go_at_call 51|go_at_call 53);with_reducible exact Calls.grow_of (HC.out _))))
      refine wpQuiet_nil ?_;rintro _ ⟨nq,rfl⟩;go_wp2_with fail
      go_roundw
      case rel=>
       obtain⟨l1,l2,l3,l4,l5⟩:=HL.out;obtain⟨k1,k2⟩:=HL2.out;obtain⟨u1,u2⟩:=HU.out;refine⟨S0++[y],[]++y::A2,R,by simp,by simp;omega,by simp only[aZ,xl];go_num,HT2.out.grow _,by show Z1 _ _ _ _ _;have h9:=HR2.out.turned (aJ.of_below (pv:=λ_=>False) (dG _ nq)) (λh=>h);simpa using h9,by rw[l1];simp,u1,u2, ?_, ?_⟩
       .have h9:=congrArg List.length k1;simp only[aZ,aY,dY]at h9 ⊢;omega
       .rw[<-l5,k1];simp;omega
      case measure=>simp[intOf];omega
     .have hA0l:A0.length+1<=S0.length:=by simpa using hA
      obtain⟨t,ht⟩: ∃t,A0.length=t:=⟨_,rfl⟩;have e1:P++(A0++[x])++y::A2++R++Q=(P++A0)++x::(y::A2++R++Q):=by simp
      have e2:P++(A0++[x])++y::A2++R++Q=(P++A0++[x])++y::(A2++R++Q):=by simp
      have hNl:(P++(A0++[x])++y::A2++R++Q).length=N:=by
       obtain⟨l1,l2,l3,l4,l5⟩:=HL.out;rw[<-l5,HL2.out.1];simp;omega
      have haP:=HA.out;first
       |cases isS
        have c0:=HR2.out.cell (i:=a+t) (x:=x) (by rw[e1];exact eT _ _ _ (by simp;omega))
        have z0:=HR2.out.cell (i:=a+t+1) (x:=y) (by rw[e2];exact eT _ _ _ (by simp;omega))
        have f0:=HR2.out.frozen ((a+t))
        have g0:=HR2.out.frozen ((a+t+1))
        simp only[sv]at c0 z0
       |cases isA
        obtain⟨c0,c1⟩:=HR2.out.cell (i:=a+t) (x:=x) (by rw[e1];exact eT _ _ _ (by simp;omega))
        obtain⟨z0,z1⟩:=HR2.out.cell (i:=a+t+1) (x:=y) (by rw[e2];exact eT _ _ _ (by simp;omega))
        have f0:=HR2.out.frozen ((a+t)*2)
        have f1:=HR2.out.frozen ((a+t)*2+1)
        have g0:=HR2.out.frozen ((a+t+1)*2)
        have g1:=HR2.out.frozen ((a+t+1)*2+1)
        simp only[sv]at c0 c1 z0 z1
       |obtain⟨c0,c1,c2⟩:=HR2.out.cell (i:=a+t) (x:=x) (by rw[e1];exact eT _ _ _ (by simp;omega))
        obtain⟨z0,z1,z2⟩:=HR2.out.cell (i:=a+t+1) (x:=y) (by rw[e2];exact eT _ _ _ (by simp;omega))
        have f0:=HR2.out.frozen ((a+t)*3)
        have f1:=HR2.out.frozen ((a+t)*3+1)
        have f2:=HR2.out.frozen ((a+t)*3+2)
        have g0:=HR2.out.frozen ((a+t+1)*3)
        have g1:=HR2.out.frozen ((a+t+1)*3+1)
        have g2:=HR2.out.frozen ((a+t+1)*3+2)
        simp only[sv]at c0 c1 c2 z0 z1 z2
      have htN:a+t+1<N:=by rw[<-hNl];simp only[aZ,aY,dY];omega
      have hj:(a+(A0++[x]).length:Nat)=a+t+1:=by simp;omega
      rw[hj];have HE:=aA (And.intro e1 hNl);have HTt:=aA ht;have HC:=aA (λW=>Z4z y x W);have HD:=aA (Z5z y x);have hg1:decide ((a:Int)<(a:Int)+t+1)=true:=by simp;omega
      have hg2:(a:Int)<(a:Int)+t+1:=by omega
      have hgl:=yZ HR2.out;have i1:((a:Int)+t).toNat=a+t:=by omega
      have i2:((a:Int)+t+1).toNat=a+t+1:=by omega
      have j1:(0:Int)<=(a:Int)+t/\(a:Int)+t<N:=by omega
      have j2:(0:Int)<=(a:Int)+t+1/\(a:Int)+t+1<N:=by omega
      have j3:(a:Int)+t+1-1=(a:Int)+t:=by omega
      first|cases isS;simp only[sv]at HC|cases isA;simp only[aW.agg,sv]at HC|simp only[aS.agg,sv]at HC
      clear e1 e2 hNl haP hj ht hA;first|cases isS;generalize hcm:gN y x=cm at*|generalize hcm:jL (y).key (x).key=cm at*
      cases hlt2:Z2z y x
      .have hc0:decide (cm<0)=false:=by rw[HD.out,hlt2]
       have HU:=aA (HF.out (λz hz=>by rw[List.getLast?_concat]at hz;cases hz;exact hlt2));clear HF hlt2 hcm;go_wp2_with fail
       refine dV kr kr  ?_;repeat(go_big_quiet_step(((first|go_at_call 49|go_at_call 51|go_at_call 53);with_reducible exact Calls.grow_of (HC.out _))))
       refine wpQuiet_nil ?_;rintro _ ⟨nq,rfl⟩;go_wp2_with fail
       go_roundw
       case rel=>
        obtain⟨l1,l2,l3,l4,l5⟩:=HL.out;obtain⟨k1,k2⟩:=HL2.out;obtain⟨u1,u2⟩:=HU.out;refine⟨S0++[y],(A0++[x])++y::A2,R,by simp,by simp;omega,by simp only[aZ,xl];go_num,HT2.out.grow _,by show Z1 _ _ _ _ _;have h9:=HR2.out.turned (aJ.of_below (pv:=λ_=>False) (dG _ nq)) (λh=>h);simpa using h9,by rw[l1];simp,u1,u2, ?_, ?_⟩
        .have h9:=congrArg List.length k1;simp only[aZ,aY,dY]at h9 ⊢;omega
        .rw[<-l5,k1];simp;omega
       case measure=>simp[intOf];omega
      .have hc0:decide (cm<0)=true:=by rw[HD.out,hlt2]
       have HLt:=aA hlt2;clear HF hlt2 hcm;go_wp2_with fail
       refine dV kr kr  ?_;repeat(go_big_quiet_step(((first|go_at_call 49|go_at_call 51|go_at_call 53);with_reducible exact Calls.grow_of (HC.out _))))
       refine wpQuiet_nil ?_;rintro _ ⟨nq,rfl⟩;go_wp2_with fail
       refine dL λW5 hW5=> ?_;have HT5:Hid (aJ (λ_=>False) wr W5):=by show aJ _ _ _;rw[hW5];exact aJ.of_below (dG _ _)
       have HR5:Hid (Z1 W5 B g cap (P++(A0++[x])++y::A2++R++Q)):=HR2.out.turned HT5.out (λh=>h);first
        |cases isS
         have p0:=HR5.out.cell (i:=a+t) (x:=x) (by rw[HE.out.1];exact eT _ _ _ (by have:=HA.out;have:=HTt.out;simp;omega))
         have q0:=HR5.out.cell (i:=a+t+1) (x:=y) (by rw[show P++(A0++[x])++y::A2++R++Q=(P++A0++[x])++y::(A2++R++Q) by simp];exact eT _ _ _ (by have:=HA.out;have:=HTt.out;simp;omega))
         have r0:=HR5.out.frozen ((a+t))
         have s0:=HR5.out.frozen ((a+t+1))
         simp only[sv]at p0 q0
        |cases isA
         obtain⟨p0,p1⟩:=HR5.out.cell (i:=a+t) (x:=x) (by rw[HE.out.1];exact eT _ _ _ (by have:=HA.out;have:=HTt.out;simp;omega))
         obtain⟨q0,q1⟩:=HR5.out.cell (i:=a+t+1) (x:=y) (by rw[show P++(A0++[x])++y::A2++R++Q=(P++A0++[x])++y::(A2++R++Q) by simp];exact eT _ _ _ (by have:=HA.out;have:=HTt.out;simp;omega))
         have r0:=HR5.out.frozen ((a+t)*2)
         have r1:=HR5.out.frozen ((a+t)*2+1)
         have s0:=HR5.out.frozen ((a+t+1)*2)
         have s1:=HR5.out.frozen ((a+t+1)*2+1)
         simp only[sv]at p0 p1 q0 q1
        |obtain⟨p0,p1,p2⟩:=HR5.out.cell (i:=a+t) (x:=x) (by rw[HE.out.1];exact eT _ _ _ (by have:=HA.out;have:=HTt.out;simp;omega))
         obtain⟨q0,q1,q2⟩:=HR5.out.cell (i:=a+t+1) (x:=y) (by rw[show P++(A0++[x])++y::A2++R++Q=(P++A0++[x])++y::(A2++R++Q) by simp];exact eT _ _ _ (by have:=HA.out;have:=HTt.out;simp;omega))
         have r0:=HR5.out.frozen ((a+t)*3)
         have r1:=HR5.out.frozen ((a+t)*3+1)
         have r2:=HR5.out.frozen ((a+t)*3+2)
         have s0:=HR5.out.frozen ((a+t+1)*3)
         have s1:=HR5.out.frozen ((a+t+1)*3+1)
         have s2:=HR5.out.frozen ((a+t+1)*3+2)
         simp only[sv]at p0 p1 p2 q0 q1 q2
       have hne: ¬a+t=a+t+1:=by omega
       have hne2: ¬a+t+1=a+t:=by omega
       first|cases isS;clear hW5 c0 z0|cases isA;clear hW5 c0 c1 z0 z1|clear hW5 c0 c1 c2 z0 z1 z2
       go_region;go_wp2_with fail
       go_roundw
       case rel=>
        obtain⟨l1,l2,l3,l4,l5⟩:=HL.out;obtain⟨k1,k2⟩:=HL2.out;refine⟨A0,x::A2,by omega,by rw[HTt.out];go_num,(by show aJ _ _ _;have ht:=HT2.out.trans (HT5.out.mono (pw:=λk=>k=g) λ_ h=>h.elim);exact iX), ?_,by rw[k1];simp, ?_⟩
        .have h1:=(HR5.out.set (a+t+1) (by rw[HE.out.2];omega) x).set (a+t) (by rw[List.length_set,HE.out.2];omega) y;have hla:=HA.out;have hlt9:=HTt.out;have e3:((P++(A0++[x])++y::A2++R++Q).set (a+t+1) x).set (a+t) y=P++A0++(y::x::A2)++R++Q:=by
          rw[show P++(A0++[x])++y::A2++R++Q=(P++A0++[x])++y::(A2++R++Q) by simp,nT _ _ _ _ (by simp;omega),show P++A0++[x]++x::(A2++R++Q)=(P++A0)++x::(x::(A2++R++Q)) by simp,nT _ _ _ _ (by simp;omega)];simp
         rw[e3]at h1;exact h1
        .intro z hz;rcases List.mem_cons.1 hz with rfl|hz
         .exact HLt.out
         .exact k2 z hz
       case measure=>simp[intOf];omega):P:=h
theorem Jk (B g cap:Nat) (P S Q:List Bs) (w:World) (h:dI w B g cap (P++S++Q)) (hn:(P++S++Q).length<=1000000000):
  Calls Tryz.prog 190 #[Value.slice (some ⟨g,0,none⟩) (P++S++Q).length cap,aB aC P.length,aB aC (P++S).length,(.func (.func 49) #[] #[])] w
   λe w'=>e=aL (Value.tuple #[])/\Td w B g cap P S Q w':=IX
theorem Hb {α:Type} (P:List α) (x:α) (A B Q:List α):P++x::A++(B++Q)=P++x::(A++B)++Q:=by simp
open YtccjfanpjojbnaaGreatDoor renaming Hb→Z6
theorem IW {P:Prop} (h:P:=by
 have hmx:=bX;obtain⟨a,ha⟩: ∃a,P.length=a:=⟨_,rfl⟩;obtain⟨N,hN⟩: ∃N,(P++x::S++Q).length=N:=⟨_,rfl⟩;obtain⟨n,hn0⟩: ∃n,S.length=n:=⟨_,rfl⟩;rw[ha,hN,hn0];rw[hN]at hn;rw[hn0]at hS;have hbN:a+1+n<=N:=by rw[<-hN,<-ha,<-hn0];simp only[aZ,aY];omega
 have HA:=aA ha;have HN:=aA hN;have HSn:=aA hn0;have HR:=aA h;have HUp:=aA hU;have hgl:=yZ h;clear ha hN h hU hn0;have b1:(((a+1:Nat):Int)-a==1)=true:=by simp;omega
 have b2:((a:Int)+1-a==1)=true:=by simp;omega
 have j1:(0:Int)<=(a:Int)/\(a:Int)<N:=by omega
 first|go_enter Tryz.func191,Tryz.ntmps191|go_enter Tryz.func193,Tryz.ntmps193|go_enter Tryz.func195,Tryz.ntmps195
 go_wp2_with fail
 go_loopw [10,11] (λi j wr=> ∃(u v:Nat),u<=v/\v<=n/\i=aB aC (a+1+u:Nat)/\j=aB aC (a+1+v:Nat)/\Hid (Below w.heap.size w wr)/\Hid ((∀z,0<u->S[u-1]? =some z->Z2z z x=true)/\(∀z,S[v]? =some z->Z2z z x=false))) (λi j _=>(intOf j).toNat-(intOf i).toNat)
 case atStart=>
  refine⟨0,n,by omega,by omega,by go_num,by go_num,Below.refl _ _,⟨λz h=>by omega,λz h=> ?_⟩⟩;have:=(List.getElem?_eq_some_iff.1 h).1;have:=HSn.out;omega
 case round=>
  obtain⟨u,v,huv,hv,rfl,rfl,HB,HF⟩:=hrel;by_cases hlt:u<v
  .have hc:((a+1+u:Nat):Int)<((a+1+v:Nat):Int):=by omega
   obtain⟨t,ht⟩: ∃t,(u+v)/2=t:=⟨_,rfl⟩;have htu:u<=t/\t<v:=by omega
   obtain⟨htu1,htu2⟩:=htu;have hh:((a:Int)+1+u+((a:Int)+1+v))/2=(a:Int)+1+t:=by omega
   have HR5:Hid (Z1 wr B g cap (P++x::S++Q)):=HR.out.turned (aJ.of_below (pv:=λ_=>False) HB.out) (λh=>h);obtain⟨y,hy⟩: ∃y,S[t]? =some y:=⟨S[t]'(by have:=HSn.out;omega),List.getElem?_eq_getElem _⟩;first
    |cases isS
     have c0:=HR5.out.cell (i:=a) (x:=x) (by rw[cY];exact eT _ _ _ HA.out.symm)
     have z0:=HR5.out.cell (i:=a+1+t) (x:=y) (by rw[show P++x::S++Q=(P++[x])++(S++Q) by simp,lE (by have:=HA.out;simp;omega),nK (by have:=HA.out;have:=HSn.out;simp;omega)];rw[show a+1+t-(P++[x]).length=t by have:=HA.out;simp;omega];exact hy)
     have f0:=HR5.out.frozen ((a))
     simp only[sv]at c0 z0
    |cases isA
     obtain⟨c0,c1⟩:=HR5.out.cell (i:=a) (x:=x) (by rw[cY];exact eT _ _ _ HA.out.symm)
     obtain⟨z0,z1⟩:=HR5.out.cell (i:=a+1+t) (x:=y) (by rw[show P++x::S++Q=(P++[x])++(S++Q) by simp,lE (by have:=HA.out;simp;omega),nK (by have:=HA.out;have:=HSn.out;simp;omega)];rw[show a+1+t-(P++[x]).length=t by have:=HA.out;simp;omega];exact hy)
     have f0:=HR5.out.frozen ((a)*2)
     have f1:=HR5.out.frozen ((a)*2+1)
     simp only[sv]at c0 c1 z0 z1
    |obtain⟨c0,c1,c2⟩:=HR5.out.cell (i:=a) (x:=x) (by rw[cY];exact eT _ _ _ HA.out.symm)
     obtain⟨z0,z1,z2⟩:=HR5.out.cell (i:=a+1+t) (x:=y) (by rw[show P++x::S++Q=(P++[x])++(S++Q) by simp,lE (by have:=HA.out;simp;omega),nK (by have:=HA.out;have:=HSn.out;simp;omega)];rw[show a+1+t-(P++[x]).length=t by have:=HA.out;simp;omega];exact hy)
     have f0:=HR5.out.frozen ((a)*3)
     have f1:=HR5.out.frozen ((a)*3+1)
     have f2:=HR5.out.frozen ((a)*3+2)
     simp only[sv]at c0 c1 c2 z0 z1 z2
   have hgw:g<wr.heap.size:=Nat.lt_of_lt_of_le hgl HB.out.size;have i2:((a:Int)+1+t).toNat=a+1+t:=by omega
   have j2:(0:Int)<=(a:Int)+1+t/\(a:Int)+1+t<N:=by omega
   have HC:=aA (λW=>Z4z y x W);have HD:=aA (Z5z y x);have HY:=aA hy;first
    |cases isS
     simp only[sv]at HC
     generalize hcm:gN y x=cm at*
    |cases isA
     simp only[aW.agg,sv]at HC
     generalize hcm:jL (y).key (x).key=cm at*
    |simp only[aS.agg,sv]at HC
     generalize hcm:jL (y).key (x).key=cm at*
   clear ht hy hcm;cases hl2:Z2z y x
   .have hc0:decide (cm<0)=false:=by rw[HD.out,hl2]
    have HL2:=aA hl2;clear hl2;go_wp2_with fail
    refine dV kr kr  ?_;repeat(go_big_quiet_step(((first|go_at_call 49|go_at_call 51|go_at_call 53);with_reducible exact Calls.grow_of (HC.out _))))
    refine wpQuiet_nil ?_;rintro _ ⟨nq,rfl⟩;go_wp2_with fail
    go_roundw
    case rel=>exact⟨u,t,by omega,by omega,rfl,by go_num,aP HB.out (dG _ _),HF.out.1,λz hz=>by rw[HY.out]at hz;cases hz;exact HL2.out⟩
    case measure=>simp[intOf];omega
   .have hc0:decide (cm<0)=true:=by rw[HD.out,hl2]
    have HL2:=aA hl2;clear hl2;go_wp2_with fail
    refine dV kr kr  ?_;repeat(go_big_quiet_step(((first|go_at_call 49|go_at_call 51|go_at_call 53);with_reducible exact Calls.grow_of (HC.out _))))
    refine wpQuiet_nil ?_;rintro _ ⟨nq,rfl⟩;go_wp2_with fail
    go_roundw
    case rel=>exact⟨t+1,v,by omega,by omega,by go_num,rfl,aP HB.out (dG _ _),λz _ hz=>by rw[Nat.add_sub_cancel,HY.out]at hz;cases hz;exact HL2.out,HF.out.2⟩
    case measure=>simp[intOf];omega
  .have huv2:u=v:=by omega
   subst huv2;have hc: ¬((a+1+u:Nat):Int)<((a+1+u:Nat):Int):=by omega
   have HPut:Hid (Up Z2z (S.take u++x::S.drop u)/\bH Z2z (S.take u++x::S.drop u) (x::S)):=by
    obtain⟨f1,f2⟩:=HF.out;have hul:u<=S.length:=by have:=HSn.out;omega
    obtain⟨q1,q2⟩:=CP (A:=[x]) (B:=S) (s:=0) (t:=u) Z3z (by simp[Up]) HUp.out (by simp) hul (λx' y h1 h2 h3=>by simp at h1;subst h1;exact f1 y h2 h3) (λx' y h0=>by omega);have q1: ∀y∈S.take u,Z2z y x=true:=λy hy=>q1 x (by simp) y hy;obtain⟨_,q4⟩:=CP (A:=[x]) (B:=S) (s:=1) (t:=u) Z3z (by simp[Up]) HUp.out (by simp) hul (λx' y h1=>by simp at h1) (λx' y h0 h1 h2=>by simp at h1;subst h1;exact f2 y h2);have q4: ∀y∈S.drop u,Z2z y x=false:=λy hy=>q4 x (by simp) y hy;have hU2:=HUp.out;rw[<-nJ u S]at hU2;have h9:=Cc Z3z hU2 q1 q4;rw[nJ]at h9;exact h9
   have hTl:(S.take u).length=u:=by rw[List.length_take];have:=HSn.out;omega
   have HTk:Hid (S=S.take u++S.drop u):=(nJ _ _).symm;have HR5:Hid (Z1 wr B g cap (P++x::S.take u++(S.drop u++Q))):=by
    have h9:=HR.out.turned (aJ.of_below (pv:=λ_=>False) HB.out) (λh=>h);rw[Z6,<-HTk.out];exact h9
   have HN5:Hid ((P++x::S.take u++(S.drop u++Q)).length=N):=by
    show _=_;rw[Z6,<-HTk.out];exact HN.out
   generalize S.take u=S1 at*;generalize S.drop u=S2 at*;have HT0:Hid (aJ (λk=>k=g) w wr):=aJ.of_below HB.out;go_wp2_with fail
   go_loopw [13] (λi wr=> ∃(C D:List Z0),i=aB aC (a+C.length:Nat)/\S1=C++D/\Hid (aJ (λk=>k=g) w wr)/\Hid (Z1 wr B g cap (P++C++x::D++(S2++Q)))) (λi _=>a+u-(intOf i).toNat)
   case atStart=>exact⟨[],S1,by go_num,rfl,HT0.out,by show Z1 _ _ _ _ _;simpa using HR5.out⟩
   case round=>
    obtain⟨C,D,rfl,hCD,HT,HRo⟩:=hrel;have hl9:C.length+D.length=u:=by rw[<-hTl,hCD,aZ]
    cases D with
    |nil=>
     have hk: ¬((a+C.length:Nat):Int)<((a+1+u:Nat):Int)-1:=by simp at hl9;omega
     have hk2: ¬((a:Int)+C.length)<(a:Int)+1+u-1:=by simp at hl9;omega
     have HC9:Hid (S1=C):=by show _=_;rw[hCD,bV]
     clear hCD;go_wp2_with fail
     refine bodyPost_ret (results_none rfl _ _ _) rfl ?_;refine⟨rfl,HT.out,S1++x::S2, ?_,HPut.out.1,HPut.out.2⟩;have h9:=HRo.out;rw[HC9.out];simpa using h9
    |cons y D=>
     simp only[aY]at hl9;obtain⟨t,ht⟩: ∃t,C.length=t:=⟨_,rfl⟩;rw[ht]at hl9 ⊢;have hk2:((a:Int)+t)<(a:Int)+1+u-1:=by omega
     have e1:P++C++x::(y::D)++(S2++Q)=(P++C)++x::(y::D++(S2++Q)):=by simp
     have e2:P++C++x::(y::D)++(S2++Q)=(P++C++[x])++y::(D++(S2++Q)):=by simp
     have haP:=HA.out;first
      |cases isS
       have c0:=HRo.out.cell (i:=a+t) (x:=x) (by rw[e1];exact eT _ _ _ (by simp;omega))
       have z0:=HRo.out.cell (i:=a+t+1) (x:=y) (by rw[e2];exact eT _ _ _ (by simp;omega))
       have f0:=HRo.out.frozen ((a+t))
       have g0:=HRo.out.frozen ((a+t+1))
       simp only[sv]at c0 z0
      |cases isA
       obtain⟨c0,c1⟩:=HRo.out.cell (i:=a+t) (x:=x) (by rw[e1];exact eT _ _ _ (by simp;omega))
       obtain⟨z0,z1⟩:=HRo.out.cell (i:=a+t+1) (x:=y) (by rw[e2];exact eT _ _ _ (by simp;omega))
       have f0:=HRo.out.frozen ((a+t)*2)
       have f1:=HRo.out.frozen ((a+t)*2+1)
       have g0:=HRo.out.frozen ((a+t+1)*2)
       have g1:=HRo.out.frozen ((a+t+1)*2+1)
       simp only[sv]at c0 c1 z0 z1
      |obtain⟨c0,c1,c2⟩:=HRo.out.cell (i:=a+t) (x:=x) (by rw[e1];exact eT _ _ _ (by simp;omega))
       obtain⟨z0,z1,z2⟩:=HRo.out.cell (i:=a+t+1) (x:=y) (by rw[e2];exact eT _ _ _ (by simp;omega))
       have f0:=HRo.out.frozen ((a+t)*3)
       have f1:=HRo.out.frozen ((a+t)*3+1)
       have f2:=HRo.out.frozen ((a+t)*3+2)
       have g0:=HRo.out.frozen ((a+t+1)*3)
       have g1:=HRo.out.frozen ((a+t+1)*3+1)
       have g2:=HRo.out.frozen ((a+t+1)*3+2)
       simp only[sv]at c0 c1 c2 z0 z1 z2
     have hne: ¬a+t=a+t+1:=by omega
     have hne2: ¬a+t+1=a+t:=by omega
     have i1:((a:Int)+t).toNat=a+t:=by omega
     have i2:((a:Int)+t+1).toNat=a+t+1:=by omega
     have j1:(0:Int)<=(a:Int)+t/\(a:Int)+t<N:=by omega
     have j2:(0:Int)<=(a:Int)+t+1/\(a:Int)+t+1<N:=by omega
     have HE:=aA (And.intro e1 (And.intro hCD ht));clear e1 e2 haP hCD ht;go_wp2_with fail
     go_region;go_wp2_with fail
     go_roundw
     case rel=>
      obtain⟨e1,hCD,ht⟩:=HE.out;have haP:=HA.out;have hl8:(P++C++x::(y::D)++(S2++Q)).length=N:=by
       rw[<-HN5.out,hCD];simp;omega
      refine⟨C++[y],D,by simp only[aZ,xl];rw[ht];go_num,by rw[hCD];simp,(by show aJ _ _ _;have ht:=HT.out;exact iX), ?_⟩;have h1:=(HRo.out.set (a+t) (by rw[hl8];omega) y).set (a+t+1) (by rw[List.length_set,hl8];omega) x;have e3:((P++C++x::(y::D)++(S2++Q)).set (a+t) y).set (a+t+1) x=P++(C++[y])++x::D++(S2++Q):=by
       rw[e1,nT _ _ _ _ (by simp;omega),show P++C++y::(y::D++(S2++Q))=(P++C++[y])++y::(D++(S2++Q)) by simp,nT _ _ _ _ (by simp;omega)];simp
      rw[e3]at h1;exact h1
     case measure=>simp[intOf];omega):P:=h
theorem Hl (B g cap:Nat) (P:List Bs) (x:Bs) (S Q:List Bs) (w:World) (h:dI w B g cap (P++x::S++Q)) (hS:0<S.length) (hU:Up bF S) (hn:(P++x::S++Q).length<=1000000000):
  Calls Tryz.prog 191 #[Value.slice (some ⟨g,0,none⟩) (P++x::S++Q).length cap,aB aC P.length,aB aC (P.length+1:Nat),aB aC (P.length+1+S.length:Nat),(.func (.func 49) #[] #[])] w
   λe w'=>e=aL (Value.tuple #[])/\yJ w B g cap P (x::S) Q w':=IW
