/- Sorting in place: what is in order merged with one. -/
import Derived.Test.YtiikamobcmgekaaGreatDoorSortSa
namespace Go.Proofs.YtiikamobcmgekaaGreatDoor
open Lib renaming hid→z2c
open List renaming getElem?_append_left→z3a,getElem?_append_right→z2y,length_append→z2h,take_append_drop→z3j
set_option maxRecDepth 1000000
set_option maxHeartbeats 8000000
open Go.RowKit
open KS
open Go.Proofs.YtiikamobcmgekaaGreatDoor renaming ltB→Z2,RowS→Z1,zd8→Z4,zib→Z5,swoB→Z3,Bs→Z0
theorem zum {α:Type} (P:List α) (A B:List α) (y:α) (Q:List α):P++A++(B++y::Q)=P++(A++B)++y::Q:=by simp
open Go.Proofs.YtiikamobcmgekaaGreatDoor renaming zum→Z7
theorem zjf {P:Prop} (h:P:=by
 have hmx:=mxd;obtain⟨a,ha⟩: ∃a,P.length=a:=⟨_,rfl⟩;obtain⟨N,hN⟩: ∃N,(P++S++y::Q).length=N:=⟨_,rfl⟩;obtain⟨n,hn0⟩: ∃n,S.length=n:=⟨_,rfl⟩;rw[ha,hN,hn0];rw[hN]at hn;rw[hn0]at hS;have hbN:a+n+1<=N:=by rw[<-hN,<-ha,<-hn0];simp only[z2h,List.length_cons];omega
 have HA:=z2c ha;have HN:=z2c hN;have HSn:=z2c hn0;have HR:=z2c h;have HUp:=z2c hU;have hgl:=zlv h;clear ha hN h hU hn0;have b1:((a:Int)+n-a==1)=false:=by rw[beq_eq_false_iff_ne];omega
 have b2:((a:Int)+n+1-(a+n)==1)=true:=by simp;omega
 have j1:(0:Int)<=(a:Int)+n/\(a:Int)+n<N:=by omega
 have i1:((a:Int)+n).toNat=a+n:=by omega
 first|go_enter Tryz.func284,Tryz.ntmps284|go_enter Tryz.func286,Tryz.ntmps286|go_enter Tryz.func288,Tryz.ntmps288
 go_wp2_with fail
 go_loopw [14,15] (fun i j wr=> ∃(u v:Nat),u<=v/\v<=n/\i= .int .i64 (a+u:Nat)/\j= .int .i64 (a+v:Nat)/\Hid (Below w.heap.size w wr)/\Hid ((∀z,0<u->S[u-1]? =some z->Z2 y z=false)/\(∀z,S[v]? =some z->Z2 y z=true))) (fun i j _=>(intOf j).toNat-(intOf i).toNat)
 case atStart=>
  refine⟨0,n,by omega,by omega,by go_num,by go_num,Below.refl _ _,⟨fun z h=>by omega,fun z h=> ?_⟩⟩;have:=(List.getElem?_eq_some_iff.1 h).1;have:=HSn.out;omega
 case round=>
  obtain⟨u,v,huv,hv,rfl,rfl,HB,HF⟩:=hrel;by_cases hlt:u<v
  ·have hc:((a+u:Nat):Int)<((a+v:Nat):Int):=by omega
   obtain⟨t,ht⟩: ∃t,(u+v)/2=t:=⟨_,rfl⟩;have htu:u<=t/\t<v:=by omega
   obtain⟨htu1,htu2⟩:=htu;have hh:((a:Int)+u+((a:Int)+v))/2=(a:Int)+t:=by omega
   have HR5:Hid (Z1 wr B g cap (P++S++y::Q)):=HR.out.turned (zab.of_below (pv:=fun _=>False) HB.out) (fun h=>h);obtain⟨z,hz⟩: ∃z,S[t]? =some z:=⟨S[t]'(by have:=HSn.out;omega),List.getElem?_eq_getElem _⟩;first
    |cases isS
     have c0:=HR5.out.cell (i:=a+n) (x:=y) (za8 _ _ _ (by have:=HA.out;have:=HSn.out;simp;omega))
     have z0:=HR5.out.cell (i:=a+t) (x:=z) (by rw[List.append_assoc,z2y (by have:=HA.out;omega),z3a (by have:=HA.out;have:=HSn.out;omega)];rw[show a+t-P.length=t by have:=HA.out;omega];exact hz)
     simp only[sv]at c0 z0
    |cases isA
     obtain⟨c0,c1⟩:=HR5.out.cell (i:=a+n) (x:=y) (za8 _ _ _ (by have:=HA.out;have:=HSn.out;simp;omega))
     obtain⟨z0,z1⟩:=HR5.out.cell (i:=a+t) (x:=z) (by rw[List.append_assoc,z2y (by have:=HA.out;omega),z3a (by have:=HA.out;have:=HSn.out;omega)];rw[show a+t-P.length=t by have:=HA.out;omega];exact hz)
     simp only[sv]at c0 c1 z0 z1
    |obtain⟨c0,c1,c2⟩:=HR5.out.cell (i:=a+n) (x:=y) (za8 _ _ _ (by have:=HA.out;have:=HSn.out;simp;omega))
     obtain⟨z0,z1,z2⟩:=HR5.out.cell (i:=a+t) (x:=z) (by rw[List.append_assoc,z2y (by have:=HA.out;omega),z3a (by have:=HA.out;have:=HSn.out;omega)];rw[show a+t-P.length=t by have:=HA.out;omega];exact hz)
     simp only[sv]at c0 c1 c2 z0 z1 z2
   have hgw:g<wr.heap.size:=Nat.lt_of_lt_of_le hgl HB.out.size;have i2:((a:Int)+t).toNat=a+t:=by omega
   have j2:(0:Int)<=(a:Int)+t/\(a:Int)+t<N:=by omega
   have HC:=z2c (fun W=>Z4 y z W);have HD:=z2c (Z5 y z);have HY:=z2c hz;first
    |cases isS
     simp only[sv]at HC
     generalize hcm:cmpB y z=cm at*
    |cases isA
     simp only[Alw.agg,sv]at HC
     generalize hcm:cmpP (y).key (z).key=cm at*
    |simp only[Frc.agg,sv]at HC
     generalize hcm:cmpP (y).key (z).key=cm at*
   clear ht hz hcm;cases hl2:Z2 y z
   ·have hc0:decide (cm<0)=false:=by rw[HD.out,hl2]
    have HL2:=z2c hl2;clear hl2;go_wp2_with fail
    refine zad (by kernel_rfl) (by kernel_rfl) ?_;repeat(go_big_quiet_step(((first|go_at_call 118|go_at_call 120|go_at_call 122);with_reducible exact Calls.grow_of (HC.out _))))
    refine wpQuiet_nil ?_;intro _ hw';obtain⟨nq,hw''⟩:=hw';subst hw'';go_wp2_with fail
    go_roundw
    case rel=>exact⟨t+1,v,by omega,by omega,by go_num,rfl,zac HB.out (zav _ _),fun z' _ hz=>by rw[Nat.add_sub_cancel,HY.out]at hz;cases hz;exact HL2.out,HF.out.2⟩
    case measure=>simp[intOf];omega
   ·have hc0:decide (cm<0)=true:=by rw[HD.out,hl2]
    have HL2:=z2c hl2;clear hl2;go_wp2_with fail
    refine zad (by kernel_rfl) (by kernel_rfl) ?_;repeat(go_big_quiet_step(((first|go_at_call 118|go_at_call 120|go_at_call 122);with_reducible exact Calls.grow_of (HC.out _))))
    refine wpQuiet_nil ?_;intro _ hw';obtain⟨nq,hw''⟩:=hw';subst hw'';go_wp2_with fail
    go_roundw
    case rel=>exact⟨u,t,by omega,by omega,rfl,by go_num,zac HB.out (zav _ _),HF.out.1,fun z' hz=>by rw[HY.out]at hz;cases hz;exact HL2.out⟩
    case measure=>simp[intOf];omega
  ·have huv2:u=v:=by omega
   subst huv2;have hc: ¬((a+u:Nat):Int)<((a+u:Nat):Int):=by omega
   have HPut:Hid (Up Z2 (S.take u++y::S.drop u)/\zax Z2 (S.take u++y::S.drop u) (S++[y])):=by
    obtain⟨f1,f2⟩:=HF.out;have hul:u<=S.length:=by have:=HSn.out;omega
    obtain⟨q1,_⟩:=zf5 (A:=S) (B:=[y]) (s:=u) (t:=1) Z3 HUp.out (by simp[Up]) hul (by simp) (fun x' y' h1 h2 h3=>by simp at h3;subst h3;exact f2 x' h1) (fun x' y' h0 h1 h2=>by simp at h2);have q1: ∀x∈S.drop u,Z2 y x=true:=fun x hx=>q1 x hx y (by simp);obtain⟨_,q4⟩:=zf5 (A:=S) (B:=[y]) (s:=u) (t:=0) Z3 HUp.out (by simp[Up]) hul (by simp) (fun x' y' h1 h2=>by omega) (fun x' y' h0 h1 h2=>by simp at h2;subst h2;exact f1 x' h0 h1);have q4: ∀x∈S.take u,Z2 y x=false:=fun x hx=>q4 x hx y (by simp);have hU2:=HUp.out;rw[<-z3j u S]at hU2;have h9:=zsf Z3 hU2 q4 q1;rw[z3j]at h9;exact h9
   have hTl:(S.drop u).length+u=n:=by rw[List.length_drop];have:=HSn.out;omega
   have hTl1:(S.take u).length=u:=by rw[List.length_take];have:=HSn.out;omega
   have HTk:Hid (S=S.take u++S.drop u):=(z3j _ _).symm;have HR5:Hid (Z1 wr B g cap (P++S.take u++(S.drop u++y::Q))):=by
    have h9:=HR.out.turned (zab.of_below (pv:=fun _=>False) HB.out) (fun h=>h);rw[Z7,<-HTk.out];exact h9
   have HN5:Hid ((P++S.take u++(S.drop u++y::Q)).length=N):=by
    show _=_;rw[Z7,<-HTk.out];exact HN.out
   generalize S.take u=S1 at*;generalize S.drop u=S2 at*;have HT0:Hid (zab (fun k=>k=g) w wr):=zab.of_below HB.out;go_wp2_with fail
   go_loopw [17] (fun i wr=> ∃(C D:List Z0),i= .int .i64 (a+u+C.length:Nat)/\S2=C++D/\Hid (zab (fun k=>k=g) w wr)/\Hid (Z1 wr B g cap (P++S1++C++y::D++Q))) (fun i _=>(intOf i).toNat)
   case atStart=>exact⟨S2,[],by(have h9:a+u+S2.length=a+n:=by omega);rw[h9];go_num,(List.append_nil _).symm,HT0.out,by show Z1 _ _ _ _ _;simpa using HR5.out⟩
   case round=>
    obtain⟨C,D,rfl,hCD,HT,HRo⟩:=hrel;have hl9:C.length+D.length+u=n:=by rw[<-hTl,hCD,z2h]
    have hsn:C=[]\/ ∃C0 z,C=C0++[z]:=by
     rcases List.eq_nil_or_concat C with h|⟨A0,x,h⟩
     ·exact .inl h
     ·exact .inr ⟨A0,x,by rw[h,List.concat_eq_append]⟩
    rcases hsn with rfl|⟨C,z,rfl⟩
    ·have hk2: ¬((a:Int)+u)<(a:Int)+u+((0:Nat):Int):=by omega
     have HC9:Hid (S2=D):=by show _=_;rw[hCD];rfl
     clear hCD;simp only[List.length_nil]at*;go_wp2_with fail
     refine bodyPost_ret (results_none rfl _ _ _) rfl ?_;refine⟨rfl,HT.out,S1++y::S2, ?_,HPut.out.1,HPut.out.2⟩;have h9:=HRo.out;rw[HC9.out];simpa using h9
    ·obtain⟨t,ht⟩: ∃t,C.length=t:=⟨_,rfl⟩;have hj:(a+u+(C++[z]).length:Nat)=a+u+t+1:=by simp;omega
     rw[hj];simp only[z2h,List.length_cons,List.length_nil]at hl9;have hk2:(a:Int)+u<(a:Int)+u+t+1:=by omega
     have e1:P++S1++(C++[z])++y::D++Q=(P++S1++C)++z::(y::D++Q):=by simp
     have e2:P++S1++(C++[z])++y::D++Q=(P++S1++C++[z])++y::(D++Q):=by simp
     have haP:=HA.out;first
      |cases isS
       have c0:=HRo.out.cell (i:=a+u+t) (x:=z) (by rw[e1];exact za8 _ _ _ (by simp;omega))
       have z0:=HRo.out.cell (i:=a+u+t+1) (x:=y) (by rw[e2];exact za8 _ _ _ (by simp;omega))
       have f0:=HRo.out.frozen ((a+u+t))
       have g0:=HRo.out.frozen ((a+u+t+1))
       simp only[sv]at c0 z0
      |cases isA
       obtain⟨c0,c1⟩:=HRo.out.cell (i:=a+u+t) (x:=z) (by rw[e1];exact za8 _ _ _ (by simp;omega))
       obtain⟨z0,z1⟩:=HRo.out.cell (i:=a+u+t+1) (x:=y) (by rw[e2];exact za8 _ _ _ (by simp;omega))
       have f0:=HRo.out.frozen ((a+u+t)*2)
       have f1:=HRo.out.frozen ((a+u+t)*2+1)
       have g0:=HRo.out.frozen ((a+u+t+1)*2)
       have g1:=HRo.out.frozen ((a+u+t+1)*2+1)
       simp only[sv]at c0 c1 z0 z1
      |obtain⟨c0,c1,c2⟩:=HRo.out.cell (i:=a+u+t) (x:=z) (by rw[e1];exact za8 _ _ _ (by simp;omega))
       obtain⟨z0,z1,z2⟩:=HRo.out.cell (i:=a+u+t+1) (x:=y) (by rw[e2];exact za8 _ _ _ (by simp;omega))
       have f0:=HRo.out.frozen ((a+u+t)*3)
       have f1:=HRo.out.frozen ((a+u+t)*3+1)
       have f2:=HRo.out.frozen ((a+u+t)*3+2)
       have g0:=HRo.out.frozen ((a+u+t+1)*3)
       have g1:=HRo.out.frozen ((a+u+t+1)*3+1)
       have g2:=HRo.out.frozen ((a+u+t+1)*3+2)
       simp only[sv]at c0 c1 c2 z0 z1 z2
     have hne: ¬a+u+t=a+u+t+1:=by omega
     have hne2: ¬a+u+t+1=a+u+t:=by omega
     have i1:((a:Int)+u+t).toNat=a+u+t:=by omega
     have i2:((a:Int)+u+t+1).toNat=a+u+t+1:=by omega
     have j1:(0:Int)<=(a:Int)+u+t/\(a:Int)+u+t<N:=by omega
     have j2:(0:Int)<=(a:Int)+u+t+1/\(a:Int)+u+t+1<N:=by omega
     have j3:(a:Int)+u+t+1-1=(a:Int)+u+t:=by omega
     have HE:=z2c (And.intro e1 (And.intro e2 (And.intro hCD ht)));clear e1 e2 haP hCD ht hj;go_wp2_with fail
     go_region;go_wp2_with fail
     go_roundw
     case rel=>
      obtain⟨e1,e2,hCD,ht⟩:=HE.out;have haP:=HA.out;have hl8:(P++S1++(C++[z])++y::D++Q).length=N:=by
       rw[<-HN5.out,hCD];simp;omega
      refine⟨C,z::D,by rw[ht];go_num,by rw[hCD];simp,(by show zab _ _ _;have ht:=HT.out;exact tur), ?_⟩;have h1:=(HRo.out.set (a+u+t+1) (by rw[hl8];omega) z).set (a+u+t) (by rw[List.length_set,hl8];omega) y;have e3:((P++S1++(C++[z])++y::D++Q).set (a+u+t+1) z).set (a+u+t) y=P++S1++C++y::(z::D)++Q:=by
       rw[e2,zc4 _ _ _ _ (by simp;omega),show P++S1++C++[z]++z::(D++Q)=(P++S1++C)++z::(z::(D++Q)) by simp,zc4 _ _ _ _ (by simp;omega)];simp
      rw[e3]at h1;exact h1
     case measure=>simp[intOf];omega):P:=h
theorem zq0 (B g cap:Nat) (P S:List Bs) (y:Bs) (Q:List Bs) (w:World) (h:RowS w B g cap (P++S++y::Q)) (hS:2<=S.length) (hU:Up ltB S) (hn:(P++S++y::Q).length<=1000000000):
  Calls Tryz.prog 284 #[.slice (some ⟨g,0,none⟩) (P++S++y::Q).length cap,.int .i64 P.length,.int .i64 (P.length+S.length:Nat),.int .i64 (P.length+S.length+1:Nat),(.func (.func 118) #[] #[])] w
   fun e w'=>e= .returned (.tuple #[])/\MrgS w B g cap P (S++[y]) Q w':=zjf
end Go.Proofs.YtiikamobcmgekaaGreatDoor

