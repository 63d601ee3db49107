/- Sorting in place: one behind the other. -/
import Derived.Test.YtiikamobcmgekaaGreatDoorSortSa
namespace Go.Proofs.YtiikamobcmgekaaGreatDoor
open Lib renaming hid→z2c
open List renaming length_append→z2h,length_cons→z2i,length_nil→z28
set_option maxRecDepth 1000000
set_option maxHeartbeats 8000000
open Go.RowKit
open KS
open Go.Proofs.YtiikamobcmgekaaGreatDoor renaming Bs→Z0,RowS→Z1,ltB→Z2,swoB→Z3,zd8→Z4,zib→Z5
theorem zjh {P:Prop} (h:P:=by
 have hmx:=mxd;obtain⟨a,ha⟩: ∃a,P.length=a:=⟨_,rfl⟩;obtain⟨b,hb⟩: ∃b,(P++S).length=b:=⟨_,rfl⟩;obtain⟨N,hN⟩: ∃N,(P++S++Q).length=N:=⟨_,rfl⟩;rw[ha,hb,hN];rw[hN]at hn;have hSl:S.length+a=b:=by rw[<-ha,<-hb,z2h];omega
 have hbN:b<=N:=by rw[<-hN,<-hb];simp only[z2h];omega
 have HA:=z2c ha;have HN:=z2c hN;have HR:=z2c h;clear ha hb hN h;cases S with
 |nil=>
  have hab:a=b:=by simpa using hSl
  subst hab;clear hSl;first|go_enter Tryz.func283,Tryz.ntmps283|go_enter Tryz.func285,Tryz.ntmps285|go_enter Tryz.func287,Tryz.ntmps287
  go_wp2_with fail
  have hlt: ¬((a:Int)+1<a):=by omega
  go_loopw [8] (fun i wr=>i= .int .i64 ((a:Int)+1)/\w=wr) (fun _ _=>0)
  case atStart=>exact⟨rfl,rfl⟩
  case round=>
   obtain⟨rfl,rfl⟩:=hrel;go_wp2_with fail
   go_end0;exact⟨rfl,zab.refl _ _,[],HR.out,List.Pairwise.nil,zax.refl _⟩
 |cons s0 S=>
  simp only[z2i]at hSl;first|go_enter Tryz.func283,Tryz.ntmps283|go_enter Tryz.func285,Tryz.ntmps285|go_enter Tryz.func287,Tryz.ntmps287
  go_wp2_with fail
  go_loopw [8] (fun i wr=> ∃(S0 S1 R:List Z0),0<S0.length/\S0.length+R.length+a=b/\i= .int .i64 (a+S0.length:Nat)/\Hid (zab (fun k=>k=g) w wr)/\Hid (Z1 wr B g cap (P++S1++R++Q))/\Hid (s0::S=S0++R/\Up Z2 S1/\zax Z2 S1 S0/\S1.length=S0.length/\(P++S1++R++Q).length=N)) (fun i _=>b-(intOf i).toNat)
  case atStart=>
   refine⟨[s0],[s0],S,by simp,by simp;omega,by go_num,zab.refl _ _,by show Z1 _ _ _ _ _;have:=HR.out;simpa using this, ?_⟩;exact⟨rfl,by simp[Up],zax.refl _,rfl,by rw[<-HN.out];simp⟩
  case round=>
   obtain⟨S0,S1,R,h0,h1,rfl,HTu,HRo,HL⟩:=hrel;cases R with
   |nil=>
    have hlt: ¬(((a+S0.length:Nat):Int)<b):=by simp at h1;omega
    obtain⟨l1,l2,l3,l4,l5⟩:=HL.out;rw[List.append_nil]at l1;have HR2:Hid (Z1 wr B g cap (P++S1++Q)):=by have:=HRo.out;rwa[List.append_nil]at this
    rw[<-l1]at l3;have HU:=z2c (And.intro l2 l3);clear l1 l2 l3 l4 l5;go_wp2_with fail
    go_end0;exact⟨rfl,HTu.out,S1,HR2.out,HU.out.1,HU.out.2⟩
   |cons y R=>
    simp only[z2i]at h1;have hlt:((a+S0.length:Nat):Int)<b:=by omega
    go_wp2_with fail
    go_loopw [9] (fun j wr=> ∃(A1 A2:List Z0),A1.length<=S0.length/\j= .int .i64 (a+A1.length:Nat)/\Hid (zab (fun k=>k=g) w wr)/\Hid (Z1 wr B g cap (P++A1++(y::A2)++R++Q))/\Hid (S1=A1++A2/\ ∀x∈A2,Z2 y x=true)) (fun j _=>(intOf j).toNat)
    case atStart=>
     obtain⟨l1,l2,l3,l4,l5⟩:=HL.out;exact⟨S1,[],by omega,by go_num,HTu.out,by show Z1 _ _ _ _ _;have:=HRo.out;simpa using this,(List.append_nil _).symm,fun x hx=>by cases hx⟩
    case round=>
     obtain⟨A1,A2,hA,rfl,HT2,HR2,HL2⟩:=hrel;have HF:Hid ((∀x,A1.getLast? =some x->Z2 y x=false)->Up Z2 (A1++y::A2)/\zax Z2 (A1++y::A2) (S0++[y])):=fun hx=>by
      obtain⟨l1,l2,l3,l4,l5⟩:=HL.out;obtain⟨k1,k2⟩:=HL2.out;rw[k1]at l2;obtain⟨p1,p2⟩:=put_in Z3 l2 hx k2;rw[<-k1]at p2;exact⟨p1,p2.trans (l3.app (zax.refl _))⟩
     have hsn:A1=[]\/ ∃A0 x,A1=A0++[x]:=by
      rcases List.eq_nil_or_concat A1 with h|⟨A0,x,h⟩
      ·exact .inl h
      ·exact .inr ⟨A0,x,by rw[h,List.concat_eq_append]⟩
     rcases hsn with rfl|⟨A0,x,rfl⟩
     ·have hg0:decide ((a:Int)<((a+0:Nat):Int))=false:=by simp
      have HU:=z2c (HF.out (fun x hx=>by cases hx));clear HF;simp only[z28]at*;go_wp2_with fail
      refine zad (by kernel_rfl) (by kernel_rfl) ?_;repeat(go_big_quiet_step(((first|go_at_call 118|go_at_call 120|go_at_call 122);with_reducible exact Calls.grow_of (HC.out _))))
      refine wpQuiet_nil ?_;intro _ hw';obtain⟨nq,hw''⟩:=hw';subst hw'';go_wp2_with fail
      go_roundw
      case rel=>
       obtain⟨l1,l2,l3,l4,l5⟩:=HL.out;obtain⟨k1,k2⟩:=HL2.out;obtain⟨u1,u2⟩:=HU.out;refine⟨S0++[y],[]++y::A2,R,by simp,by simp;omega,by simp only[z2h,List.length_singleton];go_num,HT2.out.grow _,by show Z1 _ _ _ _ _;have h9:=HR2.out.turned (zab.of_below (pv:=fun _=>False) (zav _ nq)) (fun h=>h);simpa using h9,by rw[l1];simp,u1,u2, ?_, ?_⟩
       ·have h9:=congrArg List.length k1;simp only[z2h,z2i,z28]at h9 ⊢;omega
       ·rw[<-l5,k1];simp;omega
      case measure=>simp[intOf];omega
     ·have hA0l:A0.length+1<=S0.length:=by simpa using hA
      obtain⟨t,ht⟩: ∃t,A0.length=t:=⟨_,rfl⟩;have e1:P++(A0++[x])++y::A2++R++Q=(P++A0)++x::(y::A2++R++Q):=by simp
      have e2:P++(A0++[x])++y::A2++R++Q=(P++A0++[x])++y::(A2++R++Q):=by simp
      have hNl:(P++(A0++[x])++y::A2++R++Q).length=N:=by
       obtain⟨l1,l2,l3,l4,l5⟩:=HL.out;rw[<-l5,HL2.out.1];simp;omega
      have haP:=HA.out;first
       |cases isS
        have c0:=HR2.out.cell (i:=a+t) (x:=x) (by rw[e1];exact za8 _ _ _ (by simp;omega))
        have z0:=HR2.out.cell (i:=a+t+1) (x:=y) (by rw[e2];exact za8 _ _ _ (by simp;omega))
        have f0:=HR2.out.frozen ((a+t))
        have g0:=HR2.out.frozen ((a+t+1))
        simp only[sv]at c0 z0
       |cases isA
        obtain⟨c0,c1⟩:=HR2.out.cell (i:=a+t) (x:=x) (by rw[e1];exact za8 _ _ _ (by simp;omega))
        obtain⟨z0,z1⟩:=HR2.out.cell (i:=a+t+1) (x:=y) (by rw[e2];exact za8 _ _ _ (by simp;omega))
        have f0:=HR2.out.frozen ((a+t)*2)
        have f1:=HR2.out.frozen ((a+t)*2+1)
        have g0:=HR2.out.frozen ((a+t+1)*2)
        have g1:=HR2.out.frozen ((a+t+1)*2+1)
        simp only[sv]at c0 c1 z0 z1
       |obtain⟨c0,c1,c2⟩:=HR2.out.cell (i:=a+t) (x:=x) (by rw[e1];exact za8 _ _ _ (by simp;omega))
        obtain⟨z0,z1,z2⟩:=HR2.out.cell (i:=a+t+1) (x:=y) (by rw[e2];exact za8 _ _ _ (by simp;omega))
        have f0:=HR2.out.frozen ((a+t)*3)
        have f1:=HR2.out.frozen ((a+t)*3+1)
        have f2:=HR2.out.frozen ((a+t)*3+2)
        have g0:=HR2.out.frozen ((a+t+1)*3)
        have g1:=HR2.out.frozen ((a+t+1)*3+1)
        have g2:=HR2.out.frozen ((a+t+1)*3+2)
        simp only[sv]at c0 c1 c2 z0 z1 z2
      have htN:a+t+1<N:=by rw[<-hNl];simp only[z2h,z2i,z28];omega
      have hj:(a+(A0++[x]).length:Nat)=a+t+1:=by simp;omega
      rw[hj];have HE:=z2c (And.intro e1 hNl);have HTt:=z2c ht;have HC:=z2c (fun W=>Z4 y x W);have HD:=z2c (Z5 y x);have hg1:decide ((a:Int)<(a:Int)+t+1)=true:=by simp;omega
      have hg2:(a:Int)<(a:Int)+t+1:=by omega
      have hgl:=zlv HR2.out;have i1:((a:Int)+t).toNat=a+t:=by omega
      have i2:((a:Int)+t+1).toNat=a+t+1:=by omega
      have j1:(0:Int)<=(a:Int)+t/\(a:Int)+t<N:=by omega
      have j2:(0:Int)<=(a:Int)+t+1/\(a:Int)+t+1<N:=by omega
      have j3:(a:Int)+t+1-1=(a:Int)+t:=by omega
      first|cases isS;simp only[sv]at HC|cases isA;simp only[Alw.agg,sv]at HC|simp only[Frc.agg,sv]at HC
      clear e1 e2 hNl haP hj ht hA;first|cases isS;generalize hcm:cmpB y x=cm at*|generalize hcm:cmpP (y).key (x).key=cm at*
      cases hlt2:Z2 y x
      ·have hc0:decide (cm<0)=false:=by rw[HD.out,hlt2]
       have HU:=z2c (HF.out (fun z hz=>by rw[List.getLast?_concat]at hz;cases hz;exact hlt2));clear HF hlt2 hcm;go_wp2_with fail
       refine zad (by kernel_rfl) (by kernel_rfl) ?_;repeat(go_big_quiet_step(((first|go_at_call 118|go_at_call 120|go_at_call 122);with_reducible exact Calls.grow_of (HC.out _))))
       refine wpQuiet_nil ?_;intro _ hw';obtain⟨nq,hw''⟩:=hw';subst hw'';go_wp2_with fail
       go_roundw
       case rel=>
        obtain⟨l1,l2,l3,l4,l5⟩:=HL.out;obtain⟨k1,k2⟩:=HL2.out;obtain⟨u1,u2⟩:=HU.out;refine⟨S0++[y],(A0++[x])++y::A2,R,by simp,by simp;omega,by simp only[z2h,List.length_singleton];go_num,HT2.out.grow _,by show Z1 _ _ _ _ _;have h9:=HR2.out.turned (zab.of_below (pv:=fun _=>False) (zav _ nq)) (fun h=>h);simpa using h9,by rw[l1];simp,u1,u2, ?_, ?_⟩
        ·have h9:=congrArg List.length k1;simp only[z2h,z2i,z28]at h9 ⊢;omega
        ·rw[<-l5,k1];simp;omega
       case measure=>simp[intOf];omega
      ·have hc0:decide (cm<0)=true:=by rw[HD.out,hlt2]
       have HLt:=z2c hlt2;clear HF hlt2 hcm;go_wp2_with fail
       refine zad (by kernel_rfl) (by kernel_rfl) ?_;repeat(go_big_quiet_step(((first|go_at_call 118|go_at_call 120|go_at_call 122);with_reducible exact Calls.grow_of (HC.out _))))
       refine wpQuiet_nil ?_;intro _ hw';obtain⟨nq,hw''⟩:=hw';subst hw'';go_wp2_with fail
       refine zae fun W5 hW5=> ?_;have HT5:Hid (zab (fun _=>False) wr W5):=by show zab _ _ _;rw[hW5];exact zab.of_below (zav _ _)
       have HR5:Hid (Z1 W5 B g cap (P++(A0++[x])++y::A2++R++Q)):=HR2.out.turned HT5.out (fun h=>h);first
        |cases isS
         have p0:=HR5.out.cell (i:=a+t) (x:=x) (by rw[HE.out.1];exact za8 _ _ _ (by have:=HA.out;have:=HTt.out;simp;omega))
         have q0:=HR5.out.cell (i:=a+t+1) (x:=y) (by rw[show P++(A0++[x])++y::A2++R++Q=(P++A0++[x])++y::(A2++R++Q) by simp];exact za8 _ _ _ (by have:=HA.out;have:=HTt.out;simp;omega))
         have r0:=HR5.out.frozen ((a+t))
         have s0:=HR5.out.frozen ((a+t+1))
         simp only[sv]at p0 q0
        |cases isA
         obtain⟨p0,p1⟩:=HR5.out.cell (i:=a+t) (x:=x) (by rw[HE.out.1];exact za8 _ _ _ (by have:=HA.out;have:=HTt.out;simp;omega))
         obtain⟨q0,q1⟩:=HR5.out.cell (i:=a+t+1) (x:=y) (by rw[show P++(A0++[x])++y::A2++R++Q=(P++A0++[x])++y::(A2++R++Q) by simp];exact za8 _ _ _ (by have:=HA.out;have:=HTt.out;simp;omega))
         have r0:=HR5.out.frozen ((a+t)*2)
         have r1:=HR5.out.frozen ((a+t)*2+1)
         have s0:=HR5.out.frozen ((a+t+1)*2)
         have s1:=HR5.out.frozen ((a+t+1)*2+1)
         simp only[sv]at p0 p1 q0 q1
        |obtain⟨p0,p1,p2⟩:=HR5.out.cell (i:=a+t) (x:=x) (by rw[HE.out.1];exact za8 _ _ _ (by have:=HA.out;have:=HTt.out;simp;omega))
         obtain⟨q0,q1,q2⟩:=HR5.out.cell (i:=a+t+1) (x:=y) (by rw[show P++(A0++[x])++y::A2++R++Q=(P++A0++[x])++y::(A2++R++Q) by simp];exact za8 _ _ _ (by have:=HA.out;have:=HTt.out;simp;omega))
         have r0:=HR5.out.frozen ((a+t)*3)
         have r1:=HR5.out.frozen ((a+t)*3+1)
         have r2:=HR5.out.frozen ((a+t)*3+2)
         have s0:=HR5.out.frozen ((a+t+1)*3)
         have s1:=HR5.out.frozen ((a+t+1)*3+1)
         have s2:=HR5.out.frozen ((a+t+1)*3+2)
         simp only[sv]at p0 p1 p2 q0 q1 q2
       have hne: ¬a+t=a+t+1:=by omega
       have hne2: ¬a+t+1=a+t:=by omega
       first|cases isS;clear hW5 c0 z0|cases isA;clear hW5 c0 c1 z0 z1|clear hW5 c0 c1 c2 z0 z1 z2
       go_region;go_wp2_with fail
       go_roundw
       case rel=>
        obtain⟨l1,l2,l3,l4,l5⟩:=HL.out;obtain⟨k1,k2⟩:=HL2.out;refine⟨A0,x::A2,by omega,by rw[HTt.out];go_num,(by show zab _ _ _;have ht:=HT2.out.trans (HT5.out.mono (pw:=fun k=>k=g) fun _ h=>h.elim);exact tur), ?_,by rw[k1];simp, ?_⟩
        ·have h1:=(HR5.out.set (a+t+1) (by rw[HE.out.2];omega) x).set (a+t) (by rw[List.length_set,HE.out.2];omega) y;have hla:=HA.out;have hlt9:=HTt.out;have e3:((P++(A0++[x])++y::A2++R++Q).set (a+t+1) x).set (a+t) y=P++A0++(y::x::A2)++R++Q:=by
          rw[show P++(A0++[x])++y::A2++R++Q=(P++A0++[x])++y::(A2++R++Q) by simp,zc4 _ _ _ _ (by simp;omega),show P++A0++[x]++x::(A2++R++Q)=(P++A0)++x::(x::(A2++R++Q)) by simp,zc4 _ _ _ _ (by simp;omega)];simp
         rw[e3]at h1;exact h1
        ·intro z hz;rcases List.mem_cons.1 hz with rfl|hz
         ·exact HLt.out
         ·exact k2 z hz
       case measure=>simp[intOf];omega):P:=h
theorem zk0 (B g cap:Nat) (P S Q:List Bs) (w:World) (h:RowS w B g cap (P++S++Q)) (hn:(P++S++Q).length<=1000000000):
  Calls Tryz.prog 283 #[.slice (some ⟨g,0,none⟩) (P++S++Q).length cap,.int .i64 P.length,.int .i64 (P++S).length,(.func (.func 118) #[] #[])] w
   fun e w'=>e= .returned (.tuple #[])/\InsS w B g cap P S Q w':=zjh
end Go.Proofs.YtiikamobcmgekaaGreatDoor

