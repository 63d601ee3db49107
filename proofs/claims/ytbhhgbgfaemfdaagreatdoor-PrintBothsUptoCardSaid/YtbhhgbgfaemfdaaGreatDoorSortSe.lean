/- Sorting in place: two parts that are in order merged: behind the rotation. -/
import Derived.Deep.DeepCutAuto
import Derived.Deep.CutBlock
import Derived.Test.YtbhhgbgfaemfdaaGreatDoorPA
import Derived.Test.YtbhhgbgfaemfdaaGreatDoorSortSa
namespace Go.Proofs.YtbhhgbgfaemfdaaGreatDoor
open Lib renaming hid→z2g
open List renaming append_assoc→z2w,append_nil→z3j,eq_nil_of_length_eq_zero→z2s,getElem?_append_left→z25,getElem?_append_right→z23,length_append→z2i,length_cons→z2j,length_nil→z27,length_singleton→z4w,take_append_drop→z3e
set_option maxRecDepth 1000000
set_option maxHeartbeats 16000000
open Go.RowKit
open KS
open Go.Proofs.YtbhhgbgfaemfdaaGreatDoor renaming Bs→Z0,RowS→Z1,ltB→Z2,swoB→Z3,ze9→Z4,zmu→Z5
theorem zi6 {P:Prop} (h:P:=by
 have hmx:Tryz.prog.follows .mixedOrders=true:=by kernel_rfl
 obtain⟨a,ha⟩: ∃a,P.length=a:=⟨_,rfl⟩
 obtain⟨b,hb⟩: ∃b,(P++S).length=b:=⟨_,rfl⟩
 obtain⟨N,hN⟩: ∃N,(P++S++Q).length=N:=⟨_,rfl⟩
 rw[ha,hb,hN]
 rw[hN]at hn
 have hSl:S.length+a=b:=by rw[<-ha,<-hb,z2i];omega
 have hbN:b<=N:=by rw[<-hN,<-hb];simp only[z2i];omega
 have HA:=z2g ha
 have HN:=z2g hN
 have HR:=z2g h
 clear ha hb hN h
 cases S with
 |nil=>
  have hab:a=b:=by simpa using hSl
  subst hab
  clear hSl
  first|go_enter Tryz.func213,Tryz.ntmps213|go_enter Tryz.func215,Tryz.ntmps215|go_enter Tryz.func217,Tryz.ntmps217
  go_wp2_with fail
  have hlt: ¬((a:Int)+1<a):=by omega
  go_loopw [8] (fun i wr=>i= .int .i64 ((a:Int)+1)/\w=wr) (fun _ _=>0)
  case atStart=>exact⟨rfl,rfl⟩
  case round=>
   obtain⟨rfl,rfl⟩:=hrel
   go_wp2_with fail
   go_end0
   exact⟨rfl,zac.refl _ _,[],HR.out,List.Pairwise.nil,za3.refl _⟩
 |cons s0 S=>
  simp only[z2j]at hSl
  first|go_enter Tryz.func213,Tryz.ntmps213|go_enter Tryz.func215,Tryz.ntmps215|go_enter Tryz.func217,Tryz.ntmps217
  go_wp2_with fail
  go_loopw [8] (fun i wr=> ∃(S0 S1 R:List Z0),0<S0.length/\S0.length+R.length+a=b/\i= .int .i64 (a+S0.length:Nat)/\Hid (zac (fun k=>k=g) w wr)/\Hid (Z1 wr B g cap (P++S1++R++Q))/\Hid (s0::S=S0++R/\Up Z2 S1/\za3 Z2 S1 S0/\S1.length=S0.length/\(P++S1++R++Q).length=N)) (fun i _=>b-(intOf i).toNat)
  case atStart=>
   refine⟨[s0],[s0],S,by simp,by simp;omega,by go_num,zac.refl _ _,by show Z1 _ _ _ _ _;have:=HR.out;simpa using this, ?_⟩
   exact⟨rfl,by simp[Up],za3.refl _,rfl,by rw[<-HN.out];simp⟩
  case round=>
   obtain⟨S0,S1,R,h0,h1,rfl,HTu,HRo,HL⟩:=hrel
   cases R with
   |nil=>
    have hlt: ¬(((a+S0.length:Nat):Int)<b):=by simp at h1;omega
    obtain⟨l1,l2,l3,l4,l5⟩:=HL.out
    rw[z3j]at l1
    have HR2:Hid (Z1 wr B g cap (P++S1++Q)):=by have:=HRo.out;rwa[z3j]at this
    rw[<-l1]at l3
    have HU:=z2g (And.intro l2 l3)
    clear l1 l2 l3 l4 l5
    go_wp2_with fail
    go_end0
    exact⟨rfl,HTu.out,S1,HR2.out,HU.out.1,HU.out.2⟩
   |cons y R=>
    simp only[z2j]at h1
    have hlt:((a+S0.length:Nat):Int)<b:=by omega
    go_wp2_with fail
    go_loopw [9] (fun j wr=> ∃(A1 A2:List Z0),A1.length<=S0.length/\j= .int .i64 (a+A1.length:Nat)/\Hid (zac (fun k=>k=g) w wr)/\Hid (Z1 wr B g cap (P++A1++(y::A2)++R++Q))/\Hid (S1=A1++A2/\ ∀x∈A2,Z2 y x=true)) (fun j _=>(intOf j).toNat)
    case atStart=>
     obtain⟨l1,l2,l3,l4,l5⟩:=HL.out
     exact⟨S1,[],by omega,by go_num,HTu.out,by show Z1 _ _ _ _ _;have:=HRo.out;simpa using this,(z3j _).symm,fun x hx=>by cases hx⟩
    case round=>
     obtain⟨A1,A2,hA,rfl,HT2,HR2,HL2⟩:=hrel
     have HF:Hid ((∀x,A1.getLast? =some x->Z2 y x=false)->Up Z2 (A1++y::A2)/\za3 Z2 (A1++y::A2) (S0++[y])):=fun hx=>by
      obtain⟨l1,l2,l3,l4,l5⟩:=HL.out
      obtain⟨k1,k2⟩:=HL2.out
      rw[k1]at l2
      obtain⟨p1,p2⟩:=put_in Z3 l2 hx k2
      rw[<-k1]at p2
      exact⟨p1,p2.trans (l3.app (za3.refl _))⟩
     have hsn:A1=[]\/ ∃A0 x,A1=A0++[x]:=by
      rcases List.eq_nil_or_concat A1 with h|⟨A0,x,h⟩
      ·exact .inl h
      ·exact .inr ⟨A0,x,by rw[h,List.concat_eq_append]⟩
     rcases hsn with rfl|⟨A0,x,rfl⟩
     ·have hg0:decide ((a:Int)<((a+0:Nat):Int))=false:=by simp
      have HU:=z2g (HF.out (fun x hx=>by cases hx))
      clear HF
      simp only[z27]at*
      go_wp2_with fail
      refine zak (by kernel_rfl) (by kernel_rfl) ?_
      repeat(go_big_quiet_step(((first|go_at_call 80|go_at_call 82|go_at_call 84);with_reducible exact Calls.grow_of (HC.out _))))
      refine wpQuiet_nil ?_
      intro _ hw';obtain⟨nq,hw''⟩:=hw';subst hw''
      go_wp2_with fail
      go_roundw
      case rel=>
       obtain⟨l1,l2,l3,l4,l5⟩:=HL.out
       obtain⟨k1,k2⟩:=HL2.out
       obtain⟨u1,u2⟩:=HU.out
       refine⟨S0++[y],[]++y::A2,R,by simp,by simp;omega,by simp only[z2i,z4w];go_num,HT2.out.grow _,by show Z1 _ _ _ _ _;have h9:=HR2.out.turned (zac.of_below (pv:=fun _=>False) (zal _ nq)) (fun h=>h);simpa using h9,by rw[l1];simp,u1,u2, ?_, ?_⟩
       ·have h9:=congrArg List.length k1;simp only[z2i,z2j,z27]at h9 ⊢;omega
       ·rw[<-l5,k1];simp;omega
      case measure=>simp[intOf];omega
     ·have hA0l:A0.length+1<=S0.length:=by simpa using hA
      obtain⟨t,ht⟩: ∃t,A0.length=t:=⟨_,rfl⟩
      have e1:P++(A0++[x])++y::A2++R++Q=(P++A0)++x::(y::A2++R++Q):=by simp
      have e2:P++(A0++[x])++y::A2++R++Q=(P++A0++[x])++y::(A2++R++Q):=by simp
      have hNl:(P++(A0++[x])++y::A2++R++Q).length=N:=by
       obtain⟨l1,l2,l3,l4,l5⟩:=HL.out
       rw[<-l5,HL2.out.1];simp;omega
      have haP:=HA.out
      first
       |cases isS
        have c0:=HR2.out.cell (i:=a+t) (x:=x) (by rw[e1];exact zbc _ _ _ (by simp;omega))
        have z0:=HR2.out.cell (i:=a+t+1) (x:=y) (by rw[e2];exact zbc _ _ _ (by simp;omega))
        have f0:=HR2.out.frozen ((a+t))
        have g0:=HR2.out.frozen ((a+t+1))
        simp only[sv]at c0 z0
       |cases isA
        obtain⟨c0,c1⟩:=HR2.out.cell (i:=a+t) (x:=x) (by rw[e1];exact zbc _ _ _ (by simp;omega))
        obtain⟨z0,z1⟩:=HR2.out.cell (i:=a+t+1) (x:=y) (by rw[e2];exact zbc _ _ _ (by simp;omega))
        have f0:=HR2.out.frozen ((a+t)*2)
        have f1:=HR2.out.frozen ((a+t)*2+1)
        have g0:=HR2.out.frozen ((a+t+1)*2)
        have g1:=HR2.out.frozen ((a+t+1)*2+1)
        simp only[sv]at c0 c1 z0 z1
       |obtain⟨c0,c1,c2⟩:=HR2.out.cell (i:=a+t) (x:=x) (by rw[e1];exact zbc _ _ _ (by simp;omega))
        obtain⟨z0,z1,z2⟩:=HR2.out.cell (i:=a+t+1) (x:=y) (by rw[e2];exact zbc _ _ _ (by simp;omega))
        have f0:=HR2.out.frozen ((a+t)*3)
        have f1:=HR2.out.frozen ((a+t)*3+1)
        have f2:=HR2.out.frozen ((a+t)*3+2)
        have g0:=HR2.out.frozen ((a+t+1)*3)
        have g1:=HR2.out.frozen ((a+t+1)*3+1)
        have g2:=HR2.out.frozen ((a+t+1)*3+2)
        simp only[sv]at c0 c1 c2 z0 z1 z2
      have htN:a+t+1<N:=by rw[<-hNl];simp only[z2i,z2j,z27];omega
      have hj:(a+(A0++[x]).length:Nat)=a+t+1:=by simp;omega
      rw[hj]
      have HE:=z2g (And.intro e1 hNl)
      have HTt:=z2g ht
      have HC:=z2g (fun W=>Z4 y x W)
      have HD:=z2g (Z5 y x)
      have hg1:decide ((a:Int)<(a:Int)+t+1)=true:=by simp;omega
      have hg2:(a:Int)<(a:Int)+t+1:=by omega
      have hgl:=zlh HR2.out
      have i1:((a:Int)+t).toNat=a+t:=by omega
      have i2:((a:Int)+t+1).toNat=a+t+1:=by omega
      have j1:(0:Int)<=(a:Int)+t/\(a:Int)+t<N:=by omega
      have j2:(0:Int)<=(a:Int)+t+1/\(a:Int)+t+1<N:=by omega
      have j3:(a:Int)+t+1-1=(a:Int)+t:=by omega
      first|cases isS;simp only[sv]at HC|cases isA;simp only[Alw.agg,sv]at HC|simp only[Frc.agg,sv]at HC
      clear e1 e2 hNl haP hj ht hA
      first|cases isS;generalize hcm:cmpB y x=cm at*|generalize hcm:cmpP (y).key (x).key=cm at*
      cases hlt2:Z2 y x
      ·have hc0:decide (cm<0)=false:=by rw[HD.out,hlt2]
       have HU:=z2g (HF.out (fun z hz=>by rw[List.getLast?_concat]at hz;cases hz;exact hlt2))
       clear HF hlt2 hcm
       go_wp2_with fail
       refine zak (by kernel_rfl) (by kernel_rfl) ?_
       repeat(go_big_quiet_step(((first|go_at_call 80|go_at_call 82|go_at_call 84);with_reducible exact Calls.grow_of (HC.out _))))
       refine wpQuiet_nil ?_
       intro _ hw';obtain⟨nq,hw''⟩:=hw';subst hw''
       go_wp2_with fail
       go_roundw
       case rel=>
        obtain⟨l1,l2,l3,l4,l5⟩:=HL.out
        obtain⟨k1,k2⟩:=HL2.out
        obtain⟨u1,u2⟩:=HU.out
        refine⟨S0++[y],(A0++[x])++y::A2,R,by simp,by simp;omega,by simp only[z2i,z4w];go_num,HT2.out.grow _,by show Z1 _ _ _ _ _;have h9:=HR2.out.turned (zac.of_below (pv:=fun _=>False) (zal _ nq)) (fun h=>h);simpa using h9,by rw[l1];simp,u1,u2, ?_, ?_⟩
        ·have h9:=congrArg List.length k1;simp only[z2i,z2j,z27]at h9 ⊢;omega
        ·rw[<-l5,k1];simp;omega
       case measure=>simp[intOf];omega
      ·have hc0:decide (cm<0)=true:=by rw[HD.out,hlt2]
       have HLt:=z2g hlt2
       clear HF hlt2 hcm
       go_wp2_with fail
       refine zak (by kernel_rfl) (by kernel_rfl) ?_
       repeat(go_big_quiet_step(((first|go_at_call 80|go_at_call 82|go_at_call 84);with_reducible exact Calls.grow_of (HC.out _))))
       refine wpQuiet_nil ?_
       intro _ hw';obtain⟨nq,hw''⟩:=hw';subst hw''
       go_wp2_with fail
       refine zaf fun W5 hW5=> ?_
       have HT5:Hid (zac (fun _=>False) wr W5):=by show zac _ _ _;rw[hW5];exact zac.of_below (zal _ _)
       have HR5:Hid (Z1 W5 B g cap (P++(A0++[x])++y::A2++R++Q)):=HR2.out.turned HT5.out (fun h=>h)
       first
        |cases isS
         have p0:=HR5.out.cell (i:=a+t) (x:=x) (by rw[HE.out.1];exact zbc _ _ _ (by have:=HA.out;have:=HTt.out;simp;omega))
         have q0:=HR5.out.cell (i:=a+t+1) (x:=y) (by rw[show P++(A0++[x])++y::A2++R++Q=(P++A0++[x])++y::(A2++R++Q) by simp];exact zbc _ _ _ (by have:=HA.out;have:=HTt.out;simp;omega))
         have r0:=HR5.out.frozen ((a+t))
         have s0:=HR5.out.frozen ((a+t+1))
         simp only[sv]at p0 q0
        |cases isA
         obtain⟨p0,p1⟩:=HR5.out.cell (i:=a+t) (x:=x) (by rw[HE.out.1];exact zbc _ _ _ (by have:=HA.out;have:=HTt.out;simp;omega))
         obtain⟨q0,q1⟩:=HR5.out.cell (i:=a+t+1) (x:=y) (by rw[show P++(A0++[x])++y::A2++R++Q=(P++A0++[x])++y::(A2++R++Q) by simp];exact zbc _ _ _ (by have:=HA.out;have:=HTt.out;simp;omega))
         have r0:=HR5.out.frozen ((a+t)*2)
         have r1:=HR5.out.frozen ((a+t)*2+1)
         have s0:=HR5.out.frozen ((a+t+1)*2)
         have s1:=HR5.out.frozen ((a+t+1)*2+1)
         simp only[sv]at p0 p1 q0 q1
        |obtain⟨p0,p1,p2⟩:=HR5.out.cell (i:=a+t) (x:=x) (by rw[HE.out.1];exact zbc _ _ _ (by have:=HA.out;have:=HTt.out;simp;omega))
         obtain⟨q0,q1,q2⟩:=HR5.out.cell (i:=a+t+1) (x:=y) (by rw[show P++(A0++[x])++y::A2++R++Q=(P++A0++[x])++y::(A2++R++Q) by simp];exact zbc _ _ _ (by have:=HA.out;have:=HTt.out;simp;omega))
         have r0:=HR5.out.frozen ((a+t)*3)
         have r1:=HR5.out.frozen ((a+t)*3+1)
         have r2:=HR5.out.frozen ((a+t)*3+2)
         have s0:=HR5.out.frozen ((a+t+1)*3)
         have s1:=HR5.out.frozen ((a+t+1)*3+1)
         have s2:=HR5.out.frozen ((a+t+1)*3+2)
         simp only[sv]at p0 p1 p2 q0 q1 q2
       have hne: ¬a+t=a+t+1:=by omega
       have hne2: ¬a+t+1=a+t:=by omega
       first|cases isS;clear hW5 c0 z0|cases isA;clear hW5 c0 c1 z0 z1|clear hW5 c0 c1 c2 z0 z1 z2
       go_region
       go_wp2_with fail
       go_roundw
       case rel=>
        obtain⟨l1,l2,l3,l4,l5⟩:=HL.out
        obtain⟨k1,k2⟩:=HL2.out
        refine⟨A0,x::A2,by omega,by rw[HTt.out];go_num,(by show zac _ _ _;have ht:=HT2.out.trans (HT5.out.mono (pw:=fun k=>k=g) fun _ h=>h.elim);exact tur), ?_,by rw[k1];simp, ?_⟩
        ·have h1:=(HR5.out.set (a+t+1) (by rw[HE.out.2];omega) x).set (a+t) (by rw[List.length_set,HE.out.2];omega) y
         have hla:=HA.out
         have hlt9:=HTt.out
         have e3:((P++(A0++[x])++y::A2++R++Q).set (a+t+1) x).set (a+t) y=P++A0++(y::x::A2)++R++Q:=by
          rw[show P++(A0++[x])++y::A2++R++Q=(P++A0++[x])++y::(A2++R++Q) by simp,zcz _ _ _ _ (by simp;omega),show P++A0++[x]++x::(A2++R++Q)=(P++A0)++x::(x::(A2++R++Q)) by simp,zcz _ _ _ _ (by simp;omega)]
          simp
         rw[e3]at h1
         exact h1
        ·intro z hz
         rcases List.mem_cons.1 hz with rfl|hz
         ·exact HLt.out
         ·exact k2 z hz
       case measure=>simp[intOf];omega):P:=h
theorem zko (B g cap:Nat) (P S Q:List Bs) (w:World) (h:RowS w B g cap (P++S++Q)) (hn:(P++S++Q).length<=1000000000):
  Calls Tryz.prog 213 #[.slice (some ⟨g,0,none⟩) (P++S++Q).length cap,.int .i64 P.length,.int .i64 (P++S).length,(.func (.func 80) #[] #[])] w
   fun e w'=>e= .returned (.tuple #[])/\InsS w B g cap P S Q w':=zi6
theorem zs7 {α:Type} (P:List α) (x:α) (A B Q:List α):P++x::A++(B++Q)=P++x::(A++B)++Q:=by simp
open Go.Proofs.YtbhhgbgfaemfdaaGreatDoor renaming zs7→Z6
theorem zi5 {P:Prop} (h:P:=by
 have hmx:Tryz.prog.follows .mixedOrders=true:=by kernel_rfl
 obtain⟨a,ha⟩: ∃a,P.length=a:=⟨_,rfl⟩
 obtain⟨N,hN⟩: ∃N,(P++x::S++Q).length=N:=⟨_,rfl⟩
 obtain⟨n,hn0⟩: ∃n,S.length=n:=⟨_,rfl⟩
 rw[ha,hN,hn0]
 rw[hN]at hn
 rw[hn0]at hS
 have hbN:a+1+n<=N:=by rw[<-hN,<-ha,<-hn0];simp only[z2i,z2j];omega
 have HA:=z2g ha
 have HN:=z2g hN
 have HSn:=z2g hn0
 have HR:=z2g h
 have HUp:=z2g hU
 have hgl:=zlh h
 clear ha hN h hU hn0
 have b1:(((a+1:Nat):Int)-a==1)=true:=by simp;omega
 have b2:((a:Int)+1-a==1)=true:=by simp;omega
 have j1:(0:Int)<=(a:Int)/\(a:Int)<N:=by omega
 first|go_enter Tryz.func214,Tryz.ntmps214|go_enter Tryz.func216,Tryz.ntmps216|go_enter Tryz.func218,Tryz.ntmps218
 go_wp2_with fail
 go_loopw [10,11] (fun i j wr=> ∃(u v:Nat),u<=v/\v<=n/\i= .int .i64 (a+1+u:Nat)/\j= .int .i64 (a+1+v:Nat)/\Hid (Below w.heap.size w wr)/\Hid ((∀z,0<u->S[u-1]? =some z->Z2 z x=true)/\(∀z,S[v]? =some z->Z2 z x=false))) (fun i j _=>(intOf j).toNat-(intOf i).toNat)
 case atStart=>
  refine⟨0,n,by omega,by omega,by go_num,by go_num,Below.refl _ _,⟨fun z h=>by omega,fun z h=> ?_⟩⟩
  have:=(List.getElem?_eq_some_iff.1 h).1
  have:=HSn.out
  omega
 case round=>
  obtain⟨u,v,huv,hv,rfl,rfl,HB,HF⟩:=hrel
  by_cases hlt:u<v
  ·have hc:((a+1+u:Nat):Int)<((a+1+v:Nat):Int):=by omega
   obtain⟨t,ht⟩: ∃t,(u+v)/2=t:=⟨_,rfl⟩
   have htu:u<=t/\t<v:=by omega
   obtain⟨htu1,htu2⟩:=htu
   have hh:((a:Int)+1+u+((a:Int)+1+v))/2=(a:Int)+1+t:=by omega
   have HR5:Hid (Z1 wr B g cap (P++x::S++Q)):=HR.out.turned (zac.of_below (pv:=fun _=>False) HB.out) (fun h=>h)
   obtain⟨y,hy⟩: ∃y,S[t]? =some y:=⟨S[t]'(by have:=HSn.out;omega),List.getElem?_eq_getElem _⟩
   first
    |cases isS
     have c0:=HR5.out.cell (i:=a) (x:=x) (by rw[z2w];exact zbc _ _ _ HA.out.symm)
     have z0:=HR5.out.cell (i:=a+1+t) (x:=y) (by rw[show P++x::S++Q=(P++[x])++(S++Q) by simp,z23 (by have:=HA.out;simp;omega),z25 (by have:=HA.out;have:=HSn.out;simp;omega)];rw[show a+1+t-(P++[x]).length=t by have:=HA.out;simp;omega];exact hy)
     have f0:=HR5.out.frozen ((a))
     simp only[sv]at c0 z0
    |cases isA
     obtain⟨c0,c1⟩:=HR5.out.cell (i:=a) (x:=x) (by rw[z2w];exact zbc _ _ _ HA.out.symm)
     obtain⟨z0,z1⟩:=HR5.out.cell (i:=a+1+t) (x:=y) (by rw[show P++x::S++Q=(P++[x])++(S++Q) by simp,z23 (by have:=HA.out;simp;omega),z25 (by have:=HA.out;have:=HSn.out;simp;omega)];rw[show a+1+t-(P++[x]).length=t by have:=HA.out;simp;omega];exact hy)
     have f0:=HR5.out.frozen ((a)*2)
     have f1:=HR5.out.frozen ((a)*2+1)
     simp only[sv]at c0 c1 z0 z1
    |obtain⟨c0,c1,c2⟩:=HR5.out.cell (i:=a) (x:=x) (by rw[z2w];exact zbc _ _ _ HA.out.symm)
     obtain⟨z0,z1,z2⟩:=HR5.out.cell (i:=a+1+t) (x:=y) (by rw[show P++x::S++Q=(P++[x])++(S++Q) by simp,z23 (by have:=HA.out;simp;omega),z25 (by have:=HA.out;have:=HSn.out;simp;omega)];rw[show a+1+t-(P++[x]).length=t by have:=HA.out;simp;omega];exact hy)
     have f0:=HR5.out.frozen ((a)*3)
     have f1:=HR5.out.frozen ((a)*3+1)
     have f2:=HR5.out.frozen ((a)*3+2)
     simp only[sv]at c0 c1 c2 z0 z1 z2
   have hgw:g<wr.heap.size:=Nat.lt_of_lt_of_le hgl HB.out.size
   have i2:((a:Int)+1+t).toNat=a+1+t:=by omega
   have j2:(0:Int)<=(a:Int)+1+t/\(a:Int)+1+t<N:=by omega
   have HC:=z2g (fun W=>Z4 y x W)
   have HD:=z2g (Z5 y x)
   have HY:=z2g hy
   first
    |cases isS
     simp only[sv]at HC
     generalize hcm:cmpB y x=cm at*
    |cases isA
     simp only[Alw.agg,sv]at HC
     generalize hcm:cmpP (y).key (x).key=cm at*
    |simp only[Frc.agg,sv]at HC
     generalize hcm:cmpP (y).key (x).key=cm at*
   clear ht hy hcm
   cases hl2:Z2 y x
   ·have hc0:decide (cm<0)=false:=by rw[HD.out,hl2]
    have HL2:=z2g hl2
    clear hl2
    go_wp2_with fail
    refine zak (by kernel_rfl) (by kernel_rfl) ?_
    repeat(go_big_quiet_step(((first|go_at_call 80|go_at_call 82|go_at_call 84);with_reducible exact Calls.grow_of (HC.out _))))
    refine wpQuiet_nil ?_
    intro _ hw';obtain⟨nq,hw''⟩:=hw';subst hw''
    go_wp2_with fail
    go_roundw
    case rel=>exact⟨u,t,by omega,by omega,rfl,by go_num,zad HB.out (zal _ _),HF.out.1,fun z hz=>by rw[HY.out]at hz;cases hz;exact HL2.out⟩
    case measure=>simp[intOf];omega
   ·have hc0:decide (cm<0)=true:=by rw[HD.out,hl2]
    have HL2:=z2g hl2
    clear hl2
    go_wp2_with fail
    refine zak (by kernel_rfl) (by kernel_rfl) ?_
    repeat(go_big_quiet_step(((first|go_at_call 80|go_at_call 82|go_at_call 84);with_reducible exact Calls.grow_of (HC.out _))))
    refine wpQuiet_nil ?_
    intro _ hw';obtain⟨nq,hw''⟩:=hw';subst hw''
    go_wp2_with fail
    go_roundw
    case rel=>exact⟨t+1,v,by omega,by omega,by go_num,rfl,zad HB.out (zal _ _),fun z _ hz=>by rw[Nat.add_sub_cancel,HY.out]at hz;cases hz;exact HL2.out,HF.out.2⟩
    case measure=>simp[intOf];omega
  ·have huv2:u=v:=by omega
   subst huv2
   have hc: ¬((a+1+u:Nat):Int)<((a+1+u:Nat):Int):=by omega
   have HPut:Hid (Up Z2 (S.take u++x::S.drop u)/\za3 Z2 (S.take u++x::S.drop u) (x::S)):=by
    obtain⟨f1,f2⟩:=HF.out
    have hul:u<=S.length:=by have:=HSn.out;omega
    obtain⟨q1,q2⟩:=zfw (A:=[x]) (B:=S) (s:=0) (t:=u) Z3 (by simp[Up]) HUp.out (by simp) hul (fun x' y h1 h2 h3=>by simp at h1;subst h1;exact f1 y h2 h3) (fun x' y h0=>by omega)
    have q1: ∀y∈S.take u,Z2 y x=true:=fun y hy=>q1 x (by simp) y hy
    obtain⟨_,q4⟩:=zfw (A:=[x]) (B:=S) (s:=1) (t:=u) Z3 (by simp[Up]) HUp.out (by simp) hul (fun x' y h1=>by simp at h1) (fun x' y h0 h1 h2=>by simp at h1;subst h1;exact f2 y h2)
    have q4: ∀y∈S.drop u,Z2 y x=false:=fun y hy=>q4 x (by simp) y hy
    have hU2:=HUp.out
    rw[<-z3e u S]at hU2
    have h9:=zwd Z3 hU2 q1 q4
    rw[z3e]at h9
    exact h9
   have hTl:(S.take u).length=u:=by rw[List.length_take];have:=HSn.out;omega
   have HTk:Hid (S=S.take u++S.drop u):=(z3e _ _).symm
   have HR5:Hid (Z1 wr B g cap (P++x::S.take u++(S.drop u++Q))):=by
    have h9:=HR.out.turned (zac.of_below (pv:=fun _=>False) HB.out) (fun h=>h)
    rw[Z6,<-HTk.out];exact h9
   have HN5:Hid ((P++x::S.take u++(S.drop u++Q)).length=N):=by
    show _=_
    rw[Z6,<-HTk.out];exact HN.out
   generalize S.take u=S1 at*
   generalize S.drop u=S2 at*
   have HT0:Hid (zac (fun k=>k=g) w wr):=zac.of_below HB.out
   go_wp2_with fail
   go_loopw [13] (fun i wr=> ∃(C D:List Z0),i= .int .i64 (a+C.length:Nat)/\S1=C++D/\Hid (zac (fun k=>k=g) w wr)/\Hid (Z1 wr B g cap (P++C++x::D++(S2++Q)))) (fun i _=>a+u-(intOf i).toNat)
   case atStart=>exact⟨[],S1,by go_num,rfl,HT0.out,by show Z1 _ _ _ _ _;simpa using HR5.out⟩
   case round=>
    obtain⟨C,D,rfl,hCD,HT,HRo⟩:=hrel
    have hl9:C.length+D.length=u:=by rw[<-hTl,hCD,z2i]
    cases D with
    |nil=>
     have hk: ¬((a+C.length:Nat):Int)<((a+1+u:Nat):Int)-1:=by simp at hl9;omega
     have hk2: ¬((a:Int)+C.length)<(a:Int)+1+u-1:=by simp at hl9;omega
     have HC9:Hid (S1=C):=by show _=_;rw[hCD,z3j]
     clear hCD
     go_wp2_with fail
     refine bodyPost_ret (results_none rfl _ _ _) rfl ?_
     refine⟨rfl,HT.out,S1++x::S2, ?_,HPut.out.1,HPut.out.2⟩
     have h9:=HRo.out
     rw[HC9.out];simpa using h9
    |cons y D=>
     simp only[z2j]at hl9
     obtain⟨t,ht⟩: ∃t,C.length=t:=⟨_,rfl⟩
     rw[ht]at hl9 ⊢
     have hk2:((a:Int)+t)<(a:Int)+1+u-1:=by omega
     have e1:P++C++x::(y::D)++(S2++Q)=(P++C)++x::(y::D++(S2++Q)):=by simp
     have e2:P++C++x::(y::D)++(S2++Q)=(P++C++[x])++y::(D++(S2++Q)):=by simp
     have haP:=HA.out
     first
      |cases isS
       have c0:=HRo.out.cell (i:=a+t) (x:=x) (by rw[e1];exact zbc _ _ _ (by simp;omega))
       have z0:=HRo.out.cell (i:=a+t+1) (x:=y) (by rw[e2];exact zbc _ _ _ (by simp;omega))
       have f0:=HRo.out.frozen ((a+t))
       have g0:=HRo.out.frozen ((a+t+1))
       simp only[sv]at c0 z0
      |cases isA
       obtain⟨c0,c1⟩:=HRo.out.cell (i:=a+t) (x:=x) (by rw[e1];exact zbc _ _ _ (by simp;omega))
       obtain⟨z0,z1⟩:=HRo.out.cell (i:=a+t+1) (x:=y) (by rw[e2];exact zbc _ _ _ (by simp;omega))
       have f0:=HRo.out.frozen ((a+t)*2)
       have f1:=HRo.out.frozen ((a+t)*2+1)
       have g0:=HRo.out.frozen ((a+t+1)*2)
       have g1:=HRo.out.frozen ((a+t+1)*2+1)
       simp only[sv]at c0 c1 z0 z1
      |obtain⟨c0,c1,c2⟩:=HRo.out.cell (i:=a+t) (x:=x) (by rw[e1];exact zbc _ _ _ (by simp;omega))
       obtain⟨z0,z1,z2⟩:=HRo.out.cell (i:=a+t+1) (x:=y) (by rw[e2];exact zbc _ _ _ (by simp;omega))
       have f0:=HRo.out.frozen ((a+t)*3)
       have f1:=HRo.out.frozen ((a+t)*3+1)
       have f2:=HRo.out.frozen ((a+t)*3+2)
       have g0:=HRo.out.frozen ((a+t+1)*3)
       have g1:=HRo.out.frozen ((a+t+1)*3+1)
       have g2:=HRo.out.frozen ((a+t+1)*3+2)
       simp only[sv]at c0 c1 c2 z0 z1 z2
     have hne: ¬a+t=a+t+1:=by omega
     have hne2: ¬a+t+1=a+t:=by omega
     have i1:((a:Int)+t).toNat=a+t:=by omega
     have i2:((a:Int)+t+1).toNat=a+t+1:=by omega
     have j1:(0:Int)<=(a:Int)+t/\(a:Int)+t<N:=by omega
     have j2:(0:Int)<=(a:Int)+t+1/\(a:Int)+t+1<N:=by omega
     have HE:=z2g (And.intro e1 (And.intro hCD ht))
     clear e1 e2 haP hCD ht
     go_wp2_with fail
     go_region
     go_wp2_with fail
     go_roundw
     case rel=>
      obtain⟨e1,hCD,ht⟩:=HE.out
      have haP:=HA.out
      have hl8:(P++C++x::(y::D)++(S2++Q)).length=N:=by
       rw[<-HN5.out,hCD];simp;omega
      refine⟨C++[y],D,by simp only[z2i,z4w];rw[ht];go_num,by rw[hCD];simp,(by show zac _ _ _;have ht:=HT.out;exact tur), ?_⟩
      have h1:=(HRo.out.set (a+t) (by rw[hl8];omega) y).set (a+t+1) (by rw[List.length_set,hl8];omega) x
      have e3:((P++C++x::(y::D)++(S2++Q)).set (a+t) y).set (a+t+1) x=P++(C++[y])++x::D++(S2++Q):=by
       rw[e1,zcz _ _ _ _ (by simp;omega),show P++C++y::(y::D++(S2++Q))=(P++C++[y])++y::(D++(S2++Q)) by simp,zcz _ _ _ _ (by simp;omega)]
       simp
      rw[e3]at h1
      exact h1
     case measure=>simp[intOf];omega):P:=h
theorem zqd (B g cap:Nat) (P:List Bs) (x:Bs) (S Q:List Bs) (w:World) (h:RowS w B g cap (P++x::S++Q)) (hS:0<S.length) (hU:Up ltB S) (hn:(P++x::S++Q).length<=1000000000):
  Calls Tryz.prog 214 #[.slice (some ⟨g,0,none⟩) (P++x::S++Q).length cap,.int .i64 P.length,.int .i64 (P.length+1:Nat),.int .i64 (P.length+1+S.length:Nat),(.func (.func 80) #[] #[])] w
   fun e w'=>e= .returned (.tuple #[])/\MrgS w B g cap P (x::S) Q w':=zi5
theorem ztt {α:Type} (P:List α) (A B:List α) (y:α) (Q:List α):P++A++(B++y::Q)=P++(A++B)++y::Q:=by simp
open Go.Proofs.YtbhhgbgfaemfdaaGreatDoor renaming ztt→Z7
theorem zi4 {P:Prop} (h:P:=by
 have hmx:Tryz.prog.follows .mixedOrders=true:=by kernel_rfl
 obtain⟨a,ha⟩: ∃a,P.length=a:=⟨_,rfl⟩
 obtain⟨N,hN⟩: ∃N,(P++S++y::Q).length=N:=⟨_,rfl⟩
 obtain⟨n,hn0⟩: ∃n,S.length=n:=⟨_,rfl⟩
 rw[ha,hN,hn0]
 rw[hN]at hn
 rw[hn0]at hS
 have hbN:a+n+1<=N:=by rw[<-hN,<-ha,<-hn0];simp only[z2i,z2j];omega
 have HA:=z2g ha
 have HN:=z2g hN
 have HSn:=z2g hn0
 have HR:=z2g h
 have HUp:=z2g hU
 have hgl:=zlh h
 clear ha hN h hU hn0
 have b1:((a:Int)+n-a==1)=false:=by rw[beq_eq_false_iff_ne];omega
 have b2:((a:Int)+n+1-(a+n)==1)=true:=by simp;omega
 have j1:(0:Int)<=(a:Int)+n/\(a:Int)+n<N:=by omega
 have i1:((a:Int)+n).toNat=a+n:=by omega
 first|go_enter Tryz.func214,Tryz.ntmps214|go_enter Tryz.func216,Tryz.ntmps216|go_enter Tryz.func218,Tryz.ntmps218
 go_wp2_with fail
 go_loopw [14,15] (fun i j wr=> ∃(u v:Nat),u<=v/\v<=n/\i= .int .i64 (a+u:Nat)/\j= .int .i64 (a+v:Nat)/\Hid (Below w.heap.size w wr)/\Hid ((∀z,0<u->S[u-1]? =some z->Z2 y z=false)/\(∀z,S[v]? =some z->Z2 y z=true))) (fun i j _=>(intOf j).toNat-(intOf i).toNat)
 case atStart=>
  refine⟨0,n,by omega,by omega,by go_num,by go_num,Below.refl _ _,⟨fun z h=>by omega,fun z h=> ?_⟩⟩
  have:=(List.getElem?_eq_some_iff.1 h).1
  have:=HSn.out
  omega
 case round=>
  obtain⟨u,v,huv,hv,rfl,rfl,HB,HF⟩:=hrel
  by_cases hlt:u<v
  ·have hc:((a+u:Nat):Int)<((a+v:Nat):Int):=by omega
   obtain⟨t,ht⟩: ∃t,(u+v)/2=t:=⟨_,rfl⟩
   have htu:u<=t/\t<v:=by omega
   obtain⟨htu1,htu2⟩:=htu
   have hh:((a:Int)+u+((a:Int)+v))/2=(a:Int)+t:=by omega
   have HR5:Hid (Z1 wr B g cap (P++S++y::Q)):=HR.out.turned (zac.of_below (pv:=fun _=>False) HB.out) (fun h=>h)
   obtain⟨z,hz⟩: ∃z,S[t]? =some z:=⟨S[t]'(by have:=HSn.out;omega),List.getElem?_eq_getElem _⟩
   first
    |cases isS
     have c0:=HR5.out.cell (i:=a+n) (x:=y) (zbc _ _ _ (by have:=HA.out;have:=HSn.out;simp;omega))
     have z0:=HR5.out.cell (i:=a+t) (x:=z) (by rw[z2w,z23 (by have:=HA.out;omega),z25 (by have:=HA.out;have:=HSn.out;omega)];rw[show a+t-P.length=t by have:=HA.out;omega];exact hz)
     simp only[sv]at c0 z0
    |cases isA
     obtain⟨c0,c1⟩:=HR5.out.cell (i:=a+n) (x:=y) (zbc _ _ _ (by have:=HA.out;have:=HSn.out;simp;omega))
     obtain⟨z0,z1⟩:=HR5.out.cell (i:=a+t) (x:=z) (by rw[z2w,z23 (by have:=HA.out;omega),z25 (by have:=HA.out;have:=HSn.out;omega)];rw[show a+t-P.length=t by have:=HA.out;omega];exact hz)
     simp only[sv]at c0 c1 z0 z1
    |obtain⟨c0,c1,c2⟩:=HR5.out.cell (i:=a+n) (x:=y) (zbc _ _ _ (by have:=HA.out;have:=HSn.out;simp;omega))
     obtain⟨z0,z1,z2⟩:=HR5.out.cell (i:=a+t) (x:=z) (by rw[z2w,z23 (by have:=HA.out;omega),z25 (by have:=HA.out;have:=HSn.out;omega)];rw[show a+t-P.length=t by have:=HA.out;omega];exact hz)
     simp only[sv]at c0 c1 c2 z0 z1 z2
   have hgw:g<wr.heap.size:=Nat.lt_of_lt_of_le hgl HB.out.size
   have i2:((a:Int)+t).toNat=a+t:=by omega
   have j2:(0:Int)<=(a:Int)+t/\(a:Int)+t<N:=by omega
   have HC:=z2g (fun W=>Z4 y z W)
   have HD:=z2g (Z5 y z)
   have HY:=z2g hz
   first
    |cases isS
     simp only[sv]at HC
     generalize hcm:cmpB y z=cm at*
    |cases isA
     simp only[Alw.agg,sv]at HC
     generalize hcm:cmpP (y).key (z).key=cm at*
    |simp only[Frc.agg,sv]at HC
     generalize hcm:cmpP (y).key (z).key=cm at*
   clear ht hz hcm
   cases hl2:Z2 y z
   ·have hc0:decide (cm<0)=false:=by rw[HD.out,hl2]
    have HL2:=z2g hl2
    clear hl2
    go_wp2_with fail
    refine zak (by kernel_rfl) (by kernel_rfl) ?_
    repeat(go_big_quiet_step(((first|go_at_call 80|go_at_call 82|go_at_call 84);with_reducible exact Calls.grow_of (HC.out _))))
    refine wpQuiet_nil ?_
    intro _ hw';obtain⟨nq,hw''⟩:=hw';subst hw''
    go_wp2_with fail
    go_roundw
    case rel=>exact⟨t+1,v,by omega,by omega,by go_num,rfl,zad HB.out (zal _ _),fun z' _ hz=>by rw[Nat.add_sub_cancel,HY.out]at hz;cases hz;exact HL2.out,HF.out.2⟩
    case measure=>simp[intOf];omega
   ·have hc0:decide (cm<0)=true:=by rw[HD.out,hl2]
    have HL2:=z2g hl2
    clear hl2
    go_wp2_with fail
    refine zak (by kernel_rfl) (by kernel_rfl) ?_
    repeat(go_big_quiet_step(((first|go_at_call 80|go_at_call 82|go_at_call 84);with_reducible exact Calls.grow_of (HC.out _))))
    refine wpQuiet_nil ?_
    intro _ hw';obtain⟨nq,hw''⟩:=hw';subst hw''
    go_wp2_with fail
    go_roundw
    case rel=>exact⟨u,t,by omega,by omega,rfl,by go_num,zad HB.out (zal _ _),HF.out.1,fun z' hz=>by rw[HY.out]at hz;cases hz;exact HL2.out⟩
    case measure=>simp[intOf];omega
  ·have huv2:u=v:=by omega
   subst huv2
   have hc: ¬((a+u:Nat):Int)<((a+u:Nat):Int):=by omega
   have HPut:Hid (Up Z2 (S.take u++y::S.drop u)/\za3 Z2 (S.take u++y::S.drop u) (S++[y])):=by
    obtain⟨f1,f2⟩:=HF.out
    have hul:u<=S.length:=by have:=HSn.out;omega
    obtain⟨q1,_⟩:=zfw (A:=S) (B:=[y]) (s:=u) (t:=1) Z3 HUp.out (by simp[Up]) hul (by simp) (fun x' y' h1 h2 h3=>by simp at h3;subst h3;exact f2 x' h1) (fun x' y' h0 h1 h2=>by simp at h2)
    have q1: ∀x∈S.drop u,Z2 y x=true:=fun x hx=>q1 x hx y (by simp)
    obtain⟨_,q4⟩:=zfw (A:=S) (B:=[y]) (s:=u) (t:=0) Z3 HUp.out (by simp[Up]) hul (by simp) (fun x' y' h1 h2=>by omega) (fun x' y' h0 h1 h2=>by simp at h2;subst h2;exact f1 x' h0 h1)
    have q4: ∀x∈S.take u,Z2 y x=false:=fun x hx=>q4 x hx y (by simp)
    have hU2:=HUp.out
    rw[<-z3e u S]at hU2
    have h9:=zro Z3 hU2 q4 q1
    rw[z3e]at h9
    exact h9
   have hTl:(S.drop u).length+u=n:=by rw[List.length_drop];have:=HSn.out;omega
   have hTl1:(S.take u).length=u:=by rw[List.length_take];have:=HSn.out;omega
   have HTk:Hid (S=S.take u++S.drop u):=(z3e _ _).symm
   have HR5:Hid (Z1 wr B g cap (P++S.take u++(S.drop u++y::Q))):=by
    have h9:=HR.out.turned (zac.of_below (pv:=fun _=>False) HB.out) (fun h=>h)
    rw[Z7,<-HTk.out];exact h9
   have HN5:Hid ((P++S.take u++(S.drop u++y::Q)).length=N):=by
    show _=_
    rw[Z7,<-HTk.out];exact HN.out
   generalize S.take u=S1 at*
   generalize S.drop u=S2 at*
   have HT0:Hid (zac (fun k=>k=g) w wr):=zac.of_below HB.out
   go_wp2_with fail
   go_loopw [17] (fun i wr=> ∃(C D:List Z0),i= .int .i64 (a+u+C.length:Nat)/\S2=C++D/\Hid (zac (fun k=>k=g) w wr)/\Hid (Z1 wr B g cap (P++S1++C++y::D++Q))) (fun i _=>(intOf i).toNat)
   case atStart=>exact⟨S2,[],by(have h9:a+u+S2.length=a+n:=by omega);rw[h9];go_num,(z3j _).symm,HT0.out,by show Z1 _ _ _ _ _;simpa using HR5.out⟩
   case round=>
    obtain⟨C,D,rfl,hCD,HT,HRo⟩:=hrel
    have hl9:C.length+D.length+u=n:=by rw[<-hTl,hCD,z2i]
    have hsn:C=[]\/ ∃C0 z,C=C0++[z]:=by
     rcases List.eq_nil_or_concat C with h|⟨A0,x,h⟩
     ·exact .inl h
     ·exact .inr ⟨A0,x,by rw[h,List.concat_eq_append]⟩
    rcases hsn with rfl|⟨C,z,rfl⟩
    ·have hk2: ¬((a:Int)+u)<(a:Int)+u+((0:Nat):Int):=by omega
     have HC9:Hid (S2=D):=by show _=_;rw[hCD];rfl
     clear hCD
     simp only[z27]at*
     go_wp2_with fail
     refine bodyPost_ret (results_none rfl _ _ _) rfl ?_
     refine⟨rfl,HT.out,S1++y::S2, ?_,HPut.out.1,HPut.out.2⟩
     have h9:=HRo.out
     rw[HC9.out];simpa using h9
    ·obtain⟨t,ht⟩: ∃t,C.length=t:=⟨_,rfl⟩
     have hj:(a+u+(C++[z]).length:Nat)=a+u+t+1:=by simp;omega
     rw[hj]
     simp only[z2i,z2j,z27]at hl9
     have hk2:(a:Int)+u<(a:Int)+u+t+1:=by omega
     have e1:P++S1++(C++[z])++y::D++Q=(P++S1++C)++z::(y::D++Q):=by simp
     have e2:P++S1++(C++[z])++y::D++Q=(P++S1++C++[z])++y::(D++Q):=by simp
     have haP:=HA.out
     first
      |cases isS
       have c0:=HRo.out.cell (i:=a+u+t) (x:=z) (by rw[e1];exact zbc _ _ _ (by simp;omega))
       have z0:=HRo.out.cell (i:=a+u+t+1) (x:=y) (by rw[e2];exact zbc _ _ _ (by simp;omega))
       have f0:=HRo.out.frozen ((a+u+t))
       have g0:=HRo.out.frozen ((a+u+t+1))
       simp only[sv]at c0 z0
      |cases isA
       obtain⟨c0,c1⟩:=HRo.out.cell (i:=a+u+t) (x:=z) (by rw[e1];exact zbc _ _ _ (by simp;omega))
       obtain⟨z0,z1⟩:=HRo.out.cell (i:=a+u+t+1) (x:=y) (by rw[e2];exact zbc _ _ _ (by simp;omega))
       have f0:=HRo.out.frozen ((a+u+t)*2)
       have f1:=HRo.out.frozen ((a+u+t)*2+1)
       have g0:=HRo.out.frozen ((a+u+t+1)*2)
       have g1:=HRo.out.frozen ((a+u+t+1)*2+1)
       simp only[sv]at c0 c1 z0 z1
      |obtain⟨c0,c1,c2⟩:=HRo.out.cell (i:=a+u+t) (x:=z) (by rw[e1];exact zbc _ _ _ (by simp;omega))
       obtain⟨z0,z1,z2⟩:=HRo.out.cell (i:=a+u+t+1) (x:=y) (by rw[e2];exact zbc _ _ _ (by simp;omega))
       have f0:=HRo.out.frozen ((a+u+t)*3)
       have f1:=HRo.out.frozen ((a+u+t)*3+1)
       have f2:=HRo.out.frozen ((a+u+t)*3+2)
       have g0:=HRo.out.frozen ((a+u+t+1)*3)
       have g1:=HRo.out.frozen ((a+u+t+1)*3+1)
       have g2:=HRo.out.frozen ((a+u+t+1)*3+2)
       simp only[sv]at c0 c1 c2 z0 z1 z2
     have hne: ¬a+u+t=a+u+t+1:=by omega
     have hne2: ¬a+u+t+1=a+u+t:=by omega
     have i1:((a:Int)+u+t).toNat=a+u+t:=by omega
     have i2:((a:Int)+u+t+1).toNat=a+u+t+1:=by omega
     have j1:(0:Int)<=(a:Int)+u+t/\(a:Int)+u+t<N:=by omega
     have j2:(0:Int)<=(a:Int)+u+t+1/\(a:Int)+u+t+1<N:=by omega
     have j3:(a:Int)+u+t+1-1=(a:Int)+u+t:=by omega
     have HE:=z2g (And.intro e1 (And.intro e2 (And.intro hCD ht)))
     clear e1 e2 haP hCD ht hj
     go_wp2_with fail
     go_region
     go_wp2_with fail
     go_roundw
     case rel=>
      obtain⟨e1,e2,hCD,ht⟩:=HE.out
      have haP:=HA.out
      have hl8:(P++S1++(C++[z])++y::D++Q).length=N:=by
       rw[<-HN5.out,hCD];simp;omega
      refine⟨C,z::D,by rw[ht];go_num,by rw[hCD];simp,(by show zac _ _ _;have ht:=HT.out;exact tur), ?_⟩
      have h1:=(HRo.out.set (a+u+t+1) (by rw[hl8];omega) z).set (a+u+t) (by rw[List.length_set,hl8];omega) y
      have e3:((P++S1++(C++[z])++y::D++Q).set (a+u+t+1) z).set (a+u+t) y=P++S1++C++y::(z::D)++Q:=by
       rw[e2,zcz _ _ _ _ (by simp;omega),show P++S1++C++[z]++z::(D++Q)=(P++S1++C)++z::(z::(D++Q)) by simp,zcz _ _ _ _ (by simp;omega)]
       simp
      rw[e3]at h1
      exact h1
     case measure=>simp[intOf];omega):P:=h
theorem zqa (B g cap:Nat) (P S:List Bs) (y:Bs) (Q:List Bs) (w:World) (h:RowS w B g cap (P++S++y::Q)) (hS:2<=S.length) (hU:Up ltB S) (hn:(P++S++y::Q).length<=1000000000):
  Calls Tryz.prog 214 #[.slice (some ⟨g,0,none⟩) (P++S++y::Q).length cap,.int .i64 P.length,.int .i64 (P.length+S.length:Nat),.int .i64 (P.length+S.length+1:Nat),(.func (.func 80) #[] #[])] w
   fun e w'=>e= .returned (.tuple #[])/\MrgS w B g cap P (S++[y]) Q w':=zi4
def zo3:Nat->Code->Code
 |0,c=>c
 |n+1,.seq _ c=>zo3 n c
 |_+1,c=>c
open Go.Proofs.YtbhhgbgfaemfdaaGreatDoor renaming zo3→Z9
theorem zuj {P:Program} {fn:Func} {n:Nat} {c c2:Code} {Q:Exit->Act->World->Prop} {act:Act} {w:World} (hb:fn.body=some c) (ha:zo3 n c=c2) (h:c2.wp P Q act w):(zo3 n (fn.body.getD .skip)).wp P Q act w:=by
 rw[hb];exact ha ▸ h
open Go.Proofs.YtbhhgbgfaemfdaaGreatDoor renaming zuj→Z8
theorem zi3 {P:Prop} (h:P:=by
 have hmx:Tryz.prog.follows .mixedOrders=true:=by kernel_rfl
 have HNb:Hid ((P++L1++R1++(L2++R2++Q)).length=N):=by
  have h9:=HL.out.2.2.2.1
  show _=_
  rw[<-h9]
  conv=>rhs;rw[HS.out.1,HS.out.2.1]
  simp only[z2i]<;>omega
 refine Z8 rfl (by dsimp only[Z9]) ?_
 dsimp only
 obtain⟨D2,hD2⟩: ∃D2,(decide (a<st)&&decide (st<md))=D2:=⟨_,rfl⟩
 have HD2:=z2g hD2
 clear hD2
 go_upto_region 41 with fail
 go_cut [24,199] (fun s24 s199 wx=>s24= .int .i64 (e:Nat)/\s199= .bool D2/\wc=wx)
 case first=>
  by_cases c1:a<st
  ·have d1:(a:Int)<st:=by omega
   by_cases c2:st<md
   ·have d2:(st:Int)<md:=by omega
    have HE1:Hid (D2=true):=by show _=_;rw[<-HD2.out];simp[c1,c2]
    go_wp2_with fail
    go_meet
    case rel=>exact⟨rfl,by rw[HE1.out],rfl⟩
   ·have d2:decide ((st:Int)<md)=false:=by simp;omega
    have HE1:Hid (D2=false):=by show _=_;rw[<-HD2.out];simp[c2]
    go_wp2_with fail
    go_meet
    case rel=>exact⟨rfl,by rw[HE1.out],rfl⟩
  ·have d1:decide ((a:Int)<st)=false:=by simp;omega
   have HE1:Hid (D2=false):=by show _=_;rw[<-HD2.out];simp[c1]
   go_wp2_with fail
   go_meet
   case rel=>exact⟨rfl,by rw[HE1.out],rfl⟩
 obtain⟨rfl,rfl,rfl⟩:=hcut
 go_upto_if 199 with fail
 go_cut [24] (fun s24 wx=>s24= .int .i64 (e:Nat)/\Hid (zac (fun k=>k=g) w wx)/\ ∃s1:List Z0,Hid (Z1 wx B g cap (P++s1++L2++R2++Q))/\Hid (Up Z2 s1/\za3 Z2 s1 (L1++R1)))
 case first=>
  cases D2
  ·have HZ:Hid (L1=[]\/R1=[]):=by
    have h9:=HD2.out
    have h0:=HV.out
    have h1:=HW.out
    have h4:=HS.out
    show _\/_
    by_cases c1:a<st
    ·refine .inr (z2s ?_)
     have c2: ¬st<md:=fun c2=>by simp[c1,c2]at h9
     omega
    ·exact .inl (z2s (by omega))
   go_wp2_with fail
   go_meet
   case rel=>
    have h9:=HRb.out
    rcases HZ.out with hz|hz
    ·exact⟨rfl,HTb.out,R1,by show Z1 _ _ _ _ _;rw[hz]at h9;simpa using h9,HUs.out.2.2.1,by rw[hz];exact za3.refl _⟩
    ·exact⟨rfl,HTb.out,L1,by show Z1 _ _ _ _ _;rw[hz]at h9;simpa using h9,HUs.out.1,by rw[hz,z3j];exact za3.refl _⟩
  ·first|cases isS;refine hv (p:=Hid (Calls Tryz.prog 214 #[.slice (some ⟨g,0,none⟩) N cap,.int .i64 (a:Nat),.int .i64 (st:Nat),.int .i64 (md:Nat),(.func (.func 80) #[] #[])] wc fun e w'=>e= .returned (.tuple #[])/\MrgS wc B g cap P (L1++R1) (L2++R2++Q) w')) ?_ ?_|cases isA;refine hv (p:=Hid (Calls Tryz.prog 216 #[.slice (some ⟨g,0,none⟩) N cap,.int .i64 (a:Nat),.int .i64 (st:Nat),.int .i64 (md:Nat),(.func (.func 82) #[] #[])] wc fun e w'=>e= .returned (.tuple #[])/\MrgA wc B g cap P (L1++R1) (L2++R2++Q) w')) ?_ ?_|refine hv (p:=Hid (Calls Tryz.prog 218 #[.slice (some ⟨g,0,none⟩) N cap,.int .i64 (a:Nat),.int .i64 (st:Nat),.int .i64 (md:Nat),(.func (.func 84) #[] #[])] wc fun e w'=>e= .returned (.tuple #[])/\MrgF wc B g cap P (L1++R1) (L2++R2++Q) w')) ?_ ?_
   ·have h0:=HD2.out
    simp only[Bool.and_eq_true,decide_eq_true_eq]at h0
    have h1:=HV.out
    have h2:=HW.out
    have h3:=HL.out
    have h4:=HS.out
    have h9:=HI.out B g cap P L1 R1 (L2++R2++Q) wc (by omega) (by omega) (by omega) HRb.out HUs.out.1 HUs.out.2.2.1 (by rw[HNb.out];exact hn)
    rw[HNb.out,h3.2.2.1,show(P++L1).length=st by rw[z2i];omega,show(P++L1++R1).length=md by simp only[z2i];omega]at h9
    exact h9
   intro HRec
   go_wp2_with((first|go_at_call 214|go_at_call 216|go_at_call 218);(with_reducible refine HRec.out.mono ?_);rintro e2 W2 ⟨rfl,hm2⟩;have HM2:=z2g hm2;clear hm2)
   go_meet
   case rel=>
    obtain⟨ht,s1,hr,hu,ha⟩:=HM2.out
    exact⟨rfl,HTb.out.trans ht,s1,by show Z1 _ _ _ _ _;simpa using hr,hu,ha⟩
 obtain⟨rfl,HTc,s1,HRc,HUc⟩:=hcut
 have HNc:Hid ((P++s1++L2++R2++Q).length=N/\(P++s1).length=md):=by
  have h8:=za3.len Z3 _ _ _ (Nat.le_refl _) HUc.out.2
  have h9:=HNb.out
  have h1:=HV.out
  have h2:=HW.out
  have h3:=HL.out
  have h4:=HS.out
  show _/\_
  simp only[z2i]at h8 h9 ⊢
  omega
 obtain⟨D3,hD3⟩: ∃D3,(decide (md<e)&&decide (e<b))=D3:=⟨_,rfl⟩
 have HD3:=z2g hD3
 clear hD3 HTb HRb HNb
 go_upto_region 43 with fail
 go_cut [213] (fun s213 wx=>s213= .bool D3/\wc=wx)
 case first=>
  by_cases c1:md<e
  ·have d1:(md:Int)<e:=by omega
   by_cases c2:e<b
   ·have d2:(e:Int)<b:=by omega
    have HE1:Hid (D3=true):=by show _=_;rw[<-HD3.out];simp[c1,c2]
    go_wp2_with fail
    go_meet
    case rel=>exact⟨by rw[HE1.out],rfl⟩
   ·have d2:decide ((e:Int)<b)=false:=by simp;omega
    have HE1:Hid (D3=false):=by show _=_;rw[<-HD3.out];simp[c2]
    go_wp2_with fail
    go_meet
    case rel=>exact⟨by rw[HE1.out],rfl⟩
  ·have d1:decide ((md:Int)<e)=false:=by simp;omega
   have HE1:Hid (D3=false):=by show _=_;rw[<-HD3.out];simp[c1]
   go_wp2_with fail
   go_meet
   case rel=>exact⟨by rw[HE1.out],rfl⟩
 obtain⟨rfl,rfl⟩:=hcut
 cases D3
 ·have HZ:Hid (L2=[]\/R2=[]):=by
   have h9:=HD3.out
   have h0:=HV.out
   have h1:=HW.out
   have h4:=HS.out
   show _\/_
   by_cases c1:md<e
   ·refine .inr (z2s ?_)
    have c2: ¬e<b:=fun c2=>by simp[c1,c2]at h9
    omega
   ·exact .inl (z2s (by omega))
  go_wp2_with fail
  go_end0
  have h9:=HRc.out
  rcases HZ.out with hz|hz
  ·obtain⟨g1,g2⟩:=HMp.out s1 R2 HUc.out.1 HUc.out.2 HUs.out.2.2.2 (by rw[hz];exact za3.refl _)
   exact⟨rfl,HTc.out,s1++R2,by rw[hz]at h9;simpa using h9,g1,g2⟩
  ·obtain⟨g1,g2⟩:=HMp.out s1 L2 HUc.out.1 HUc.out.2 HUs.out.2.1 (by rw[hz,z3j];exact za3.refl _)
   exact⟨rfl,HTc.out,s1++L2,by rw[hz]at h9;simpa using h9,g1,g2⟩
 ·first|cases isS;refine hv (p:=Hid (Calls Tryz.prog 214 #[.slice (some ⟨g,0,none⟩) N cap,.int .i64 (md:Nat),.int .i64 (e:Nat),.int .i64 (b:Nat),(.func (.func 80) #[] #[])] wc fun e w'=>e= .returned (.tuple #[])/\MrgS wc B g cap (P++s1) (L2++R2) Q w')) ?_ ?_|cases isA;refine hv (p:=Hid (Calls Tryz.prog 216 #[.slice (some ⟨g,0,none⟩) N cap,.int .i64 (md:Nat),.int .i64 (e:Nat),.int .i64 (b:Nat),(.func (.func 82) #[] #[])] wc fun e w'=>e= .returned (.tuple #[])/\MrgA wc B g cap (P++s1) (L2++R2) Q w')) ?_ ?_|refine hv (p:=Hid (Calls Tryz.prog 218 #[.slice (some ⟨g,0,none⟩) N cap,.int .i64 (md:Nat),.int .i64 (e:Nat),.int .i64 (b:Nat),(.func (.func 84) #[] #[])] wc fun e w'=>e= .returned (.tuple #[])/\MrgF wc B g cap (P++s1) (L2++R2) Q w')) ?_ ?_
  ·have h0:=HD3.out
   simp only[Bool.and_eq_true,decide_eq_true_eq]at h0
   have h1:=HV.out
   have h2:=HW.out
   have h3:=HL.out
   have h4:=HS.out
   have h5:=HNc.out
   have h9:=HI.out B g cap (P++s1) L2 R2 Q wc (by omega) (by omega) (by omega) HRc.out HUs.out.2.1 HUs.out.2.2.2 (by rw[h5.1];exact hn)
   rw[h5.1,h5.2,show(P++s1++L2).length=e by rw[z2i,h5.2];omega,show(P++s1++L2++R2).length=b by rw[z2i,z2i,h5.2];omega]at h9
   exact h9
  intro HRec
  go_wp2_with((first|go_at_call 214|go_at_call 216|go_at_call 218);(with_reducible refine HRec.out.mono ?_);rintro e2 W2 ⟨rfl,hm2⟩;have HM2:=z2g hm2;clear hm2)
  go_end0
  obtain⟨ht,s2,hr,hu,ha⟩:=HM2.out
  obtain⟨g1,g2⟩:=HMp.out s1 s2 HUc.out.1 HUc.out.2 hu ha
  exact⟨rfl,HTc.out.trans ht,s1++s2,by simpa using hr,g1,g2⟩):P:=h
theorem mtailS (k B g cap:Nat) (P A Bb Q L1 L2 R1 R2:List Bs) (w wc:World) (α β a m b N hh md nn p st0 r0 s t e st:Nat) (hn:N<=1000000000) (_we:e<=N) (_ws:st<=N) (_w1:md<=N) (_w3:a<=N) (_v3:b<=N)
  (HV:Hid (m=a+α/\b=m+β/\(α+β)/2=hh/\a+hh=md/\md+m=nn/\nn-1=p/\a+(hh-β)=st0/\a+min hh α=r0/\2<=α/\2<=β))
  (HL:Hid (A.length=α/\Bb.length=β/\P.length=a/\(P++A++Bb++Q).length=N/\α+β<=k+1)) (_HU:Hid (Up ltB A/\Up ltB Bb))
  (HI:Hid (∀(B g cap:Nat) (P A Bb Q:List Bs) (w:World),A.length+Bb.length<=k->0<A.length->0<Bb.length->RowS w B g cap (P++A++Bb++Q)->Up ltB A->Up ltB Bb->(P++A++Bb++Q).length<=1000000000->
   Calls Tryz.prog 214 #[.slice (some ⟨g,0,none⟩) (P++A++Bb++Q).length cap,.int .i64 P.length,.int .i64 (P++A).length,.int .i64 (P++A++Bb).length,(.func (.func 80) #[] #[])] w fun e w'=>e= .returned (.tuple #[])/\MrgS w B g cap P (A++Bb) Q w'))
  (HW:Hid (st=a+s/\t+s=hh/\e=m+t/\s<=α/\t<=β))
  (HS:Hid (A=L1++L2/\Bb=R1++R2/\L1.length=s/\L2.length+s=α/\R1.length=t/\R2.length+t=β))
  (HMp:Hid (∀s1 s2,Up ltB s1->za3 ltB s1 (L1++R1)->Up ltB s2->za3 ltB s2 (L2++R2)->Up ltB (s1++s2)/\za3 ltB (s1++s2) (A++Bb)))
  (HUs:Hid (Up ltB L1/\Up ltB L2/\Up ltB R1/\Up ltB R2)) (HTb:Hid (zac (fun k=>k=g) w wc)) (HRb:Hid (RowS wc B g cap (P++L1++R1++(L2++R2++Q))))
  (u5 u6 u7 u8 u9 u10 u11 u12 u13 u14 u15 u16 u17 u23 u25 u26 u27 u28 u29 u30 u31 u32 u33 u34 u35 u36 u37 u38 u39 u40 u41 u42 u43 u44 u45 u46 u47 u48 u49 u50 u51 u52 u53 u54 u55 u56 u57 u58 u59 u60 u61 u62 u63 u64 u65 u66 u67 u68 u69 u70 u71 u72 u73 u74 u75 u76 u77 u78 u79 u80 u81 u82 u83 u84 u85 u86 u87 u88 u89 u90 u91 u92 u93 u94 u95 u96 u97 u98 u99 u100 u101 u102 u103 u104 u105 u106 u107 u108 u109 u110 u111 u112 u113 u114 u115 u116 u117 u118 u119 u120 u121 u122 u123 u124 u125 u126 u127 u128 u129 u130 u131 u132 u133 u134 u135 u136 u137 u138 u139 u140 u141 u142 u143 u144 u145 u146 u147 u148 u149 u150 u151 u152 u153 u154 u155 u156 u157 u158 u159 u160 u161 u162 u163 u164 u165 u166 u167 u168 u169 u170 u171 u172 u173 u174 u175 u176 u177 u178 u179 u180 u181 u182 u183 u184 u185 u186 u187 u188 u189 u190 u191 u192 u193 u194 u195 u196 u197 u198 u199 u200 u201 u202 u203 u204 u205 u206 u207 u208 u209 u210 u211 u212 u213 u214 u215 u216 u217 u218 u219:Value):
  (zo3 10 (Tryz.f214.body.getD .skip)).wp Tryz.prog (bodyPost Tryz.prog Tryz.f214 fun e w'=>e= .returned (.tuple #[])/\MrgS w B g cap P (A++Bb) Q w') {tmps:= #[.slice (some ⟨g,0,none⟩) N cap,.int .i64 (a:Nat),.int .i64 (m:Nat),.int .i64 (b:Nat),(.func (.func 80) #[] #[]),u5,u6,u7,u8,u9,u10,u11,u12,u13,u14,u15,u16,u17,.int .i64 (md:Nat),.int .i64 (nn:Nat),.int .i64 (st:Nat),.int .i64 (st:Nat),.int .i64 (p:Nat),u23,.int .i64 (e:Nat),u25,u26,u27,u28,u29,u30,u31,u32,u33,u34,u35,u36,u37,u38,u39,u40,u41,u42,u43,u44,u45,u46,u47,u48,u49,u50,u51,u52,u53,u54,u55,u56,u57,u58,u59,u60,u61,u62,u63,u64,u65,u66,u67,u68,u69,u70,u71,u72,u73,u74,u75,u76,u77,u78,u79,u80,u81,u82,u83,u84,u85,u86,u87,u88,u89,u90,u91,u92,u93,u94,u95,u96,u97,u98,u99,u100,u101,u102,u103,u104,u105,u106,u107,u108,u109,u110,u111,u112,u113,u114,u115,u116,u117,u118,u119,u120,u121,u122,u123,u124,u125,u126,u127,u128,u129,u130,u131,u132,u133,u134,u135,u136,u137,u138,u139,u140,u141,u142,u143,u144,u145,u146,u147,u148,u149,u150,u151,u152,u153,u154,u155,u156,u157,u158,u159,u160,u161,u162,u163,u164,u165,u166,u167,u168,u169,u170,u171,u172,u173,u174,u175,u176,u177,u178,u179,u180,u181,u182,u183,u184,u185,u186,u187,u188,u189,u190,u191,u192,u193,u194,u195,u196,u197,u198,u199,u200,u201,u202,u203,u204,u205,u206,u207,u208,u209,u210,u211,u212,u213,u214,u215,u216,u217,u218,u219],defers:=[]} wc:=zi3
end Go.Proofs.YtbhhgbgfaemfdaaGreatDoor
