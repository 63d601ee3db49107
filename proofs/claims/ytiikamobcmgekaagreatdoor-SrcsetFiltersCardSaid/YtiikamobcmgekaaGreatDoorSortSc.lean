/- Sorting in place: one merged with what is in order. -/
import Derived.Test.YtiikamobcmgekaaGreatDoorSortSa
namespace Go.Proofs.YtiikamobcmgekaaGreatDoor
open Lib renaming hid→z2c
open List renaming getElem?_append_left→z3a,getElem?_append_right→z2y,length_append→z2h,take_append_drop→z3j
set_option maxRecDepth 1000000
set_option maxHeartbeats 8000000
open Go.RowKit
open KS
open Go.Proofs.YtiikamobcmgekaaGreatDoor renaming ltB→Z2,RowS→Z1,zd8→Z4,zib→Z5,swoB→Z3,Bs→Z0
theorem zt0 {α:Type} (P:List α) (x:α) (A B Q:List α):P++x::A++(B++Q)=P++x::(A++B)++Q:=by simp
open Go.Proofs.YtiikamobcmgekaaGreatDoor renaming zt0→Z6
theorem zjg {P:Prop} (h:P:=by
 have hmx:=mxd;obtain⟨a,ha⟩: ∃a,P.length=a:=⟨_,rfl⟩;obtain⟨N,hN⟩: ∃N,(P++x::S++Q).length=N:=⟨_,rfl⟩;obtain⟨n,hn0⟩: ∃n,S.length=n:=⟨_,rfl⟩;rw[ha,hN,hn0];rw[hN]at hn;rw[hn0]at hS;have hbN:a+1+n<=N:=by rw[<-hN,<-ha,<-hn0];simp only[z2h,List.length_cons];omega
 have HA:=z2c ha;have HN:=z2c hN;have HSn:=z2c hn0;have HR:=z2c h;have HUp:=z2c hU;have hgl:=zlv h;clear ha hN h hU hn0;have b1:(((a+1:Nat):Int)-a==1)=true:=by simp;omega
 have b2:((a:Int)+1-a==1)=true:=by simp;omega
 have j1:(0:Int)<=(a:Int)/\(a:Int)<N:=by omega
 first|go_enter Tryz.func284,Tryz.ntmps284|go_enter Tryz.func286,Tryz.ntmps286|go_enter Tryz.func288,Tryz.ntmps288
 go_wp2_with fail
 go_loopw [10,11] (fun i j wr=> ∃(u v:Nat),u<=v/\v<=n/\i= .int .i64 (a+1+u:Nat)/\j= .int .i64 (a+1+v:Nat)/\Hid (Below w.heap.size w wr)/\Hid ((∀z,0<u->S[u-1]? =some z->Z2 z x=true)/\(∀z,S[v]? =some z->Z2 z x=false))) (fun i j _=>(intOf j).toNat-(intOf i).toNat)
 case atStart=>
  refine⟨0,n,by omega,by omega,by go_num,by go_num,Below.refl _ _,⟨fun z h=>by omega,fun z h=> ?_⟩⟩;have:=(List.getElem?_eq_some_iff.1 h).1;have:=HSn.out;omega
 case round=>
  obtain⟨u,v,huv,hv,rfl,rfl,HB,HF⟩:=hrel;by_cases hlt:u<v
  ·have hc:((a+1+u:Nat):Int)<((a+1+v:Nat):Int):=by omega
   obtain⟨t,ht⟩: ∃t,(u+v)/2=t:=⟨_,rfl⟩;have htu:u<=t/\t<v:=by omega
   obtain⟨htu1,htu2⟩:=htu;have hh:((a:Int)+1+u+((a:Int)+1+v))/2=(a:Int)+1+t:=by omega
   have HR5:Hid (Z1 wr B g cap (P++x::S++Q)):=HR.out.turned (zab.of_below (pv:=fun _=>False) HB.out) (fun h=>h);obtain⟨y,hy⟩: ∃y,S[t]? =some y:=⟨S[t]'(by have:=HSn.out;omega),List.getElem?_eq_getElem _⟩;first
    |cases isS
     have c0:=HR5.out.cell (i:=a) (x:=x) (by rw[List.append_assoc];exact za8 _ _ _ HA.out.symm)
     have z0:=HR5.out.cell (i:=a+1+t) (x:=y) (by rw[show P++x::S++Q=(P++[x])++(S++Q) by simp,z2y (by have:=HA.out;simp;omega),z3a (by have:=HA.out;have:=HSn.out;simp;omega)];rw[show a+1+t-(P++[x]).length=t by have:=HA.out;simp;omega];exact hy)
     have f0:=HR5.out.frozen ((a))
     simp only[sv]at c0 z0
    |cases isA
     obtain⟨c0,c1⟩:=HR5.out.cell (i:=a) (x:=x) (by rw[List.append_assoc];exact za8 _ _ _ HA.out.symm)
     obtain⟨z0,z1⟩:=HR5.out.cell (i:=a+1+t) (x:=y) (by rw[show P++x::S++Q=(P++[x])++(S++Q) by simp,z2y (by have:=HA.out;simp;omega),z3a (by have:=HA.out;have:=HSn.out;simp;omega)];rw[show a+1+t-(P++[x]).length=t by have:=HA.out;simp;omega];exact hy)
     have f0:=HR5.out.frozen ((a)*2)
     have f1:=HR5.out.frozen ((a)*2+1)
     simp only[sv]at c0 c1 z0 z1
    |obtain⟨c0,c1,c2⟩:=HR5.out.cell (i:=a) (x:=x) (by rw[List.append_assoc];exact za8 _ _ _ HA.out.symm)
     obtain⟨z0,z1,z2⟩:=HR5.out.cell (i:=a+1+t) (x:=y) (by rw[show P++x::S++Q=(P++[x])++(S++Q) by simp,z2y (by have:=HA.out;simp;omega),z3a (by have:=HA.out;have:=HSn.out;simp;omega)];rw[show a+1+t-(P++[x]).length=t by have:=HA.out;simp;omega];exact hy)
     have f0:=HR5.out.frozen ((a)*3)
     have f1:=HR5.out.frozen ((a)*3+1)
     have f2:=HR5.out.frozen ((a)*3+2)
     simp only[sv]at c0 c1 c2 z0 z1 z2
   have hgw:g<wr.heap.size:=Nat.lt_of_lt_of_le hgl HB.out.size;have i2:((a:Int)+1+t).toNat=a+1+t:=by omega
   have j2:(0:Int)<=(a:Int)+1+t/\(a:Int)+1+t<N:=by omega
   have HC:=z2c (fun W=>Z4 y x W);have HD:=z2c (Z5 y x);have HY:=z2c hy;first
    |cases isS
     simp only[sv]at HC
     generalize hcm:cmpB y x=cm at*
    |cases isA
     simp only[Alw.agg,sv]at HC
     generalize hcm:cmpP (y).key (x).key=cm at*
    |simp only[Frc.agg,sv]at HC
     generalize hcm:cmpP (y).key (x).key=cm at*
   clear ht hy hcm;cases hl2:Z2 y x
   ·have hc0:decide (cm<0)=false:=by rw[HD.out,hl2]
    have HL2:=z2c hl2;clear hl2;go_wp2_with fail
    refine zad (by kernel_rfl) (by kernel_rfl) ?_;repeat(go_big_quiet_step(((first|go_at_call 118|go_at_call 120|go_at_call 122);with_reducible exact Calls.grow_of (HC.out _))))
    refine wpQuiet_nil ?_;intro _ hw';obtain⟨nq,hw''⟩:=hw';subst hw'';go_wp2_with fail
    go_roundw
    case rel=>exact⟨u,t,by omega,by omega,rfl,by go_num,zac HB.out (zav _ _),HF.out.1,fun z hz=>by rw[HY.out]at hz;cases hz;exact HL2.out⟩
    case measure=>simp[intOf];omega
   ·have hc0:decide (cm<0)=true:=by rw[HD.out,hl2]
    have HL2:=z2c hl2;clear hl2;go_wp2_with fail
    refine zad (by kernel_rfl) (by kernel_rfl) ?_;repeat(go_big_quiet_step(((first|go_at_call 118|go_at_call 120|go_at_call 122);with_reducible exact Calls.grow_of (HC.out _))))
    refine wpQuiet_nil ?_;intro _ hw';obtain⟨nq,hw''⟩:=hw';subst hw'';go_wp2_with fail
    go_roundw
    case rel=>exact⟨t+1,v,by omega,by omega,by go_num,rfl,zac HB.out (zav _ _),fun z _ hz=>by rw[Nat.add_sub_cancel,HY.out]at hz;cases hz;exact HL2.out,HF.out.2⟩
    case measure=>simp[intOf];omega
  ·have huv2:u=v:=by omega
   subst huv2;have hc: ¬((a+1+u:Nat):Int)<((a+1+u:Nat):Int):=by omega
   have HPut:Hid (Up Z2 (S.take u++x::S.drop u)/\zax Z2 (S.take u++x::S.drop u) (x::S)):=by
    obtain⟨f1,f2⟩:=HF.out;have hul:u<=S.length:=by have:=HSn.out;omega
    obtain⟨q1,q2⟩:=zf5 (A:=[x]) (B:=S) (s:=0) (t:=u) Z3 (by simp[Up]) HUp.out (by simp) hul (fun x' y h1 h2 h3=>by simp at h1;subst h1;exact f1 y h2 h3) (fun x' y h0=>by omega);have q1: ∀y∈S.take u,Z2 y x=true:=fun y hy=>q1 x (by simp) y hy;obtain⟨_,q4⟩:=zf5 (A:=[x]) (B:=S) (s:=1) (t:=u) Z3 (by simp[Up]) HUp.out (by simp) hul (fun x' y h1=>by simp at h1) (fun x' y h0 h1 h2=>by simp at h1;subst h1;exact f2 y h2);have q4: ∀y∈S.drop u,Z2 y x=false:=fun y hy=>q4 x (by simp) y hy;have hU2:=HUp.out;rw[<-z3j u S]at hU2;have h9:=zw8 Z3 hU2 q1 q4;rw[z3j]at h9;exact h9
   have hTl:(S.take u).length=u:=by rw[List.length_take];have:=HSn.out;omega
   have HTk:Hid (S=S.take u++S.drop u):=(z3j _ _).symm;have HR5:Hid (Z1 wr B g cap (P++x::S.take u++(S.drop u++Q))):=by
    have h9:=HR.out.turned (zab.of_below (pv:=fun _=>False) HB.out) (fun h=>h);rw[Z6,<-HTk.out];exact h9
   have HN5:Hid ((P++x::S.take u++(S.drop u++Q)).length=N):=by
    show _=_;rw[Z6,<-HTk.out];exact HN.out
   generalize S.take u=S1 at*;generalize S.drop u=S2 at*;have HT0:Hid (zab (fun k=>k=g) w wr):=zab.of_below HB.out;go_wp2_with fail
   go_loopw [13] (fun i wr=> ∃(C D:List Z0),i= .int .i64 (a+C.length:Nat)/\S1=C++D/\Hid (zab (fun k=>k=g) w wr)/\Hid (Z1 wr B g cap (P++C++x::D++(S2++Q)))) (fun i _=>a+u-(intOf i).toNat)
   case atStart=>exact⟨[],S1,by go_num,rfl,HT0.out,by show Z1 _ _ _ _ _;simpa using HR5.out⟩
   case round=>
    obtain⟨C,D,rfl,hCD,HT,HRo⟩:=hrel;have hl9:C.length+D.length=u:=by rw[<-hTl,hCD,z2h]
    cases D with
    |nil=>
     have hk: ¬((a+C.length:Nat):Int)<((a+1+u:Nat):Int)-1:=by simp at hl9;omega
     have hk2: ¬((a:Int)+C.length)<(a:Int)+1+u-1:=by simp at hl9;omega
     have HC9:Hid (S1=C):=by show _=_;rw[hCD,List.append_nil]
     clear hCD;go_wp2_with fail
     refine bodyPost_ret (results_none rfl _ _ _) rfl ?_;refine⟨rfl,HT.out,S1++x::S2, ?_,HPut.out.1,HPut.out.2⟩;have h9:=HRo.out;rw[HC9.out];simpa using h9
    |cons y D=>
     simp only[List.length_cons]at hl9;obtain⟨t,ht⟩: ∃t,C.length=t:=⟨_,rfl⟩;rw[ht]at hl9 ⊢;have hk2:((a:Int)+t)<(a:Int)+1+u-1:=by omega
     have e1:P++C++x::(y::D)++(S2++Q)=(P++C)++x::(y::D++(S2++Q)):=by simp
     have e2:P++C++x::(y::D)++(S2++Q)=(P++C++[x])++y::(D++(S2++Q)):=by simp
     have haP:=HA.out;first
      |cases isS
       have c0:=HRo.out.cell (i:=a+t) (x:=x) (by rw[e1];exact za8 _ _ _ (by simp;omega))
       have z0:=HRo.out.cell (i:=a+t+1) (x:=y) (by rw[e2];exact za8 _ _ _ (by simp;omega))
       have f0:=HRo.out.frozen ((a+t))
       have g0:=HRo.out.frozen ((a+t+1))
       simp only[sv]at c0 z0
      |cases isA
       obtain⟨c0,c1⟩:=HRo.out.cell (i:=a+t) (x:=x) (by rw[e1];exact za8 _ _ _ (by simp;omega))
       obtain⟨z0,z1⟩:=HRo.out.cell (i:=a+t+1) (x:=y) (by rw[e2];exact za8 _ _ _ (by simp;omega))
       have f0:=HRo.out.frozen ((a+t)*2)
       have f1:=HRo.out.frozen ((a+t)*2+1)
       have g0:=HRo.out.frozen ((a+t+1)*2)
       have g1:=HRo.out.frozen ((a+t+1)*2+1)
       simp only[sv]at c0 c1 z0 z1
      |obtain⟨c0,c1,c2⟩:=HRo.out.cell (i:=a+t) (x:=x) (by rw[e1];exact za8 _ _ _ (by simp;omega))
       obtain⟨z0,z1,z2⟩:=HRo.out.cell (i:=a+t+1) (x:=y) (by rw[e2];exact za8 _ _ _ (by simp;omega))
       have f0:=HRo.out.frozen ((a+t)*3)
       have f1:=HRo.out.frozen ((a+t)*3+1)
       have f2:=HRo.out.frozen ((a+t)*3+2)
       have g0:=HRo.out.frozen ((a+t+1)*3)
       have g1:=HRo.out.frozen ((a+t+1)*3+1)
       have g2:=HRo.out.frozen ((a+t+1)*3+2)
       simp only[sv]at c0 c1 c2 z0 z1 z2
     have hne: ¬a+t=a+t+1:=by omega
     have hne2: ¬a+t+1=a+t:=by omega
     have i1:((a:Int)+t).toNat=a+t:=by omega
     have i2:((a:Int)+t+1).toNat=a+t+1:=by omega
     have j1:(0:Int)<=(a:Int)+t/\(a:Int)+t<N:=by omega
     have j2:(0:Int)<=(a:Int)+t+1/\(a:Int)+t+1<N:=by omega
     have HE:=z2c (And.intro e1 (And.intro hCD ht));clear e1 e2 haP hCD ht;go_wp2_with fail
     go_region;go_wp2_with fail
     go_roundw
     case rel=>
      obtain⟨e1,hCD,ht⟩:=HE.out;have haP:=HA.out;have hl8:(P++C++x::(y::D)++(S2++Q)).length=N:=by
       rw[<-HN5.out,hCD];simp;omega
      refine⟨C++[y],D,by simp only[z2h,List.length_singleton];rw[ht];go_num,by rw[hCD];simp,(by show zab _ _ _;have ht:=HT.out;exact tur), ?_⟩;have h1:=(HRo.out.set (a+t) (by rw[hl8];omega) y).set (a+t+1) (by rw[List.length_set,hl8];omega) x;have e3:((P++C++x::(y::D)++(S2++Q)).set (a+t) y).set (a+t+1) x=P++(C++[y])++x::D++(S2++Q):=by
       rw[e1,zc4 _ _ _ _ (by simp;omega),show P++C++y::(y::D++(S2++Q))=(P++C++[y])++y::(D++(S2++Q)) by simp,zc4 _ _ _ _ (by simp;omega)];simp
      rw[e3]at h1;exact h1
     case measure=>simp[intOf];omega):P:=h
theorem zq3 (B g cap:Nat) (P:List Bs) (x:Bs) (S Q:List Bs) (w:World) (h:RowS w B g cap (P++x::S++Q)) (hS:0<S.length) (hU:Up ltB S) (hn:(P++x::S++Q).length<=1000000000):
  Calls Tryz.prog 284 #[.slice (some ⟨g,0,none⟩) (P++x::S++Q).length cap,.int .i64 P.length,.int .i64 (P.length+1:Nat),.int .i64 (P.length+1+S.length:Nat),(.func (.func 118) #[] #[])] w
   fun e w'=>e= .returned (.tuple #[])/\MrgS w B g cap P (x::S) Q w':=zjg
end Go.Proofs.YtiikamobcmgekaaGreatDoor

