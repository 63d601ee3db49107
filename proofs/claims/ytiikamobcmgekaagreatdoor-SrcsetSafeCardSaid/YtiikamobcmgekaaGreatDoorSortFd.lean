/- Sorting in place: what is in order merged with one. -/
import Derived.Test.YtiikamobcmgekaaGreatDoorSortFa
namespace Go.Proofs.YtiikamobcmgekaaGreatDoor
open Go.RowKit
theorem end_assocF {α:Type} (P:List α) (A B:List α) (y:α) (Q:List α):P++A++(B++y::Q)=P++(A++B)++y::Q:=by simp
set_option maxRecDepth 1000000 in
set_option maxHeartbeats 8000000 in
theorem merge2F_any (B g cap:Nat) (P S:List Frc) (y:Frc) (Q:List Frc) (w:World) (h:RowF w B g cap (P++S++y::Q)) (hS:2<=S.length) (hU:Up ltF S) (hn:(P++S++y::Q).length<=1000000000):
  Calls Tryz.prog 288 #[.slice (some ⟨g,0,none⟩) (P++S++y::Q).length cap,.int .i64 P.length,.int .i64 (P.length+S.length:Nat),.int .i64 (P.length+S.length+1:Nat),(.func (.func 122) #[] #[])] w
   fun e w'=>e= .returned (.tuple #[])/\MrgF w B g cap P (S++[y]) Q w':=by
 have hmx:Tryz.prog.follows .mixedOrders=true:=by kernel_rfl
 obtain⟨a,ha⟩: ∃a,P.length=a:=⟨_,rfl⟩
 obtain⟨N,hN⟩: ∃N,(P++S++y::Q).length=N:=⟨_,rfl⟩
 obtain⟨n,hn0⟩: ∃n,S.length=n:=⟨_,rfl⟩
 rw[ha,hN,hn0]
 rw[hN]at hn
 rw[hn0]at hS
 have hbN:a+n+1<=N:=by rw[<-hN,<-ha,<-hn0];simp only[List.length_append,List.length_cons];omega
 have HA:=Lib.hid ha
 have HN:=Lib.hid hN
 have HSn:=Lib.hid hn0
 have HR:=Lib.hid h
 have HUp:=Lib.hid hU
 have hgl:=row_lt h
 clear ha hN h hU hn0
 have b1:((a:Int)+n-a==1)=false:=by rw[beq_eq_false_iff_ne];omega
 have b2:((a:Int)+n+1-(a+n)==1)=true:=by simp;omega
 have j1:(0:Int)<=(a:Int)+n/\(a:Int)+n<N:=by omega
 have i1:((a:Int)+n).toNat=a+n:=by omega
 go_enter Tryz.func288,Tryz.ntmps288
 go_wp2_with fail
 go_loopw [14,15] (fun i j wr=> ∃(u v:Nat),u<=v/\v<=n/\i= .int .i64 (a+u:Nat)/\j= .int .i64 (a+v:Nat)/\Hid (Below w.heap.size w wr)/\Hid ((∀z,0<u->S[u-1]? =some z->ltF y z=false)/\(∀z,S[v]? =some z->ltF y z=true))) (fun i j _=>(intOf j).toNat-(intOf i).toNat)
 case atStart=>
  refine⟨0,n,by omega,by omega,by go_num,by go_num,Below.refl _ _,⟨fun z h=>by omega,fun z h=> ?_⟩⟩
  have:=(List.getElem?_eq_some_iff.1 h).1
  have:=HSn.out
  omega
 case round=>
  obtain⟨u,v,huv,hv,rfl,rfl,HB,HF⟩:=hrel
  by_cases hlt:u<v
  ·have hc:((a+u:Nat):Int)<((a+v:Nat):Int):=by omega
   obtain⟨t,ht⟩: ∃t,(u+v)/2=t:=⟨_,rfl⟩
   have htu:u<=t/\t<v:=by omega
   obtain⟨htu1,htu2⟩:=htu
   have hh:((a:Int)+u+((a:Int)+v))/2=(a:Int)+t:=by omega
   have HR5:Hid (RowF wr B g cap (P++S++y::Q)):=HR.out.turned (Turned.of_below (pv:=fun _=>False) HB.out) (fun h=>h)
   obtain⟨z,hz⟩: ∃z,S[t]? =some z:=⟨S[t]'(by have:=HSn.out;omega),List.getElem?_eq_getElem _⟩
   obtain⟨c0,c1,c2⟩:=HR5.out.cell (i:=a+n) (x:=y) (get_mid _ _ _ (by have:=HA.out;have:=HSn.out;simp;omega))
   obtain⟨z0,z1,z2⟩:=HR5.out.cell (i:=a+t) (x:=z) (by rw[List.append_assoc,List.getElem?_append_right (by have:=HA.out;omega),List.getElem?_append_left (by have:=HA.out;have:=HSn.out;omega)];rw[show a+t-P.length=t by have:=HA.out;omega];exact hz)
   simp only[sv]at c0 c1 c2 z0 z1 z2
   have hgw:g<wr.heap.size:=Nat.lt_of_lt_of_le hgl HB.out.size
   have i2:((a:Int)+t).toNat=a+t:=by omega
   have j2:(0:Int)<=(a:Int)+t/\(a:Int)+t<N:=by omega
   have HC:=Lib.hid (fun W=>forced_any y z W)
   have HD:=Lib.hid (ltF_c y z)
   have HY:=Lib.hid hz
   simp only[Frc.agg,sv]at HC
   generalize hcm:cmpP (y).key (z).key=cm at*
   clear ht hz hcm
   cases hl2:ltF y z
   ·have hc0:decide (cm<0)=false:=by rw[HD.out,hl2]
    have HL2:=Lib.hid hl2
    clear hl2
    go_wp2_with fail
    refine wp_region_grow (by kernel_rfl) (by kernel_rfl) ?_
    repeat(go_big_quiet_step((go_at_call 122;with_reducible exact Calls.grow_of (HC.out _))))
    refine wpQuiet_nil ?_
    intro _ hw';obtain⟨nq,hw''⟩:=hw';subst hw''
    go_wp2_with fail
    go_roundw
    case rel=>exact⟨t+1,v,by omega,by omega,by go_num,rfl,below_next HB.out (below_grow _ _),fun z' _ hz=>by rw[Nat.add_sub_cancel,HY.out]at hz;cases hz;exact HL2.out,HF.out.2⟩
    case measure=>simp[intOf];omega
   ·have hc0:decide (cm<0)=true:=by rw[HD.out,hl2]
    have HL2:=Lib.hid hl2
    clear hl2
    go_wp2_with fail
    refine wp_region_grow (by kernel_rfl) (by kernel_rfl) ?_
    repeat(go_big_quiet_step((go_at_call 122;with_reducible exact Calls.grow_of (HC.out _))))
    refine wpQuiet_nil ?_
    intro _ hw';obtain⟨nq,hw''⟩:=hw';subst hw''
    go_wp2_with fail
    go_roundw
    case rel=>exact⟨u,t,by omega,by omega,rfl,by go_num,below_next HB.out (below_grow _ _),HF.out.1,fun z' hz=>by rw[HY.out]at hz;cases hz;exact HL2.out⟩
    case measure=>simp[intOf];omega
  ·have huv2:u=v:=by omega
   subst huv2
   have hc: ¬((a+u:Nat):Int)<((a+u:Nat):Int):=by omega
   have HPut:Hid (Up ltF (S.take u++y::S.drop u)/\Alike ltF (S.take u++y::S.drop u) (S++[y])):=by
    obtain⟨f1,f2⟩:=HF.out
    have hul:u<=S.length:=by have:=HSn.out;omega
    obtain⟨q1,_⟩:=cut_facts (A:=S) (B:=[y]) (s:=u) (t:=1) swoF HUp.out (by simp[Up]) hul (by simp) (fun x' y' h1 h2 h3=>by simp at h3;subst h3;exact f2 x' h1) (fun x' y' h0 h1 h2=>by simp at h2)
    have q1: ∀x∈S.drop u,ltF y x=true:=fun x hx=>q1 x hx y (by simp)
    obtain⟨_,q4⟩:=cut_facts (A:=S) (B:=[y]) (s:=u) (t:=0) swoF HUp.out (by simp[Up]) hul (by simp) (fun x' y' h1 h2=>by omega) (fun x' y' h0 h1 h2=>by simp at h2;subst h2;exact f1 x' h0 h1)
    have q4: ∀x∈S.take u,ltF y x=false:=fun x hx=>q4 x hx y (by simp)
    have hU2:=HUp.out
    rw[<-List.take_append_drop u S]at hU2
    have h9:=put_last swoF hU2 q4 q1
    rw[List.take_append_drop]at h9
    exact h9
   have hTl:(S.drop u).length+u=n:=by rw[List.length_drop];have:=HSn.out;omega
   have hTl1:(S.take u).length=u:=by rw[List.length_take];have:=HSn.out;omega
   have HTk:Hid (S=S.take u++S.drop u):=(List.take_append_drop _ _).symm
   have HR5:Hid (RowF wr B g cap (P++S.take u++(S.drop u++y::Q))):=by
    have h9:=HR.out.turned (Turned.of_below (pv:=fun _=>False) HB.out) (fun h=>h)
    rw[end_assocF,<-HTk.out];exact h9
   have HN5:Hid ((P++S.take u++(S.drop u++y::Q)).length=N):=by
    show _=_
    rw[end_assocF,<-HTk.out];exact HN.out
   generalize S.take u=S1 at*
   generalize S.drop u=S2 at*
   have HT0:Hid (Turned (fun k=>k=g) w wr):=Turned.of_below HB.out
   go_wp2_with fail
   go_loopw [17] (fun i wr=> ∃(C D:List Frc),i= .int .i64 (a+u+C.length:Nat)/\S2=C++D/\Hid (Turned (fun k=>k=g) w wr)/\Hid (RowF wr B g cap (P++S1++C++y::D++Q))) (fun i _=>(intOf i).toNat)
   case atStart=>exact⟨S2,[],by(have h9:a+u+S2.length=a+n:=by omega);rw[h9];go_num,(List.append_nil _).symm,HT0.out,by show RowF _ _ _ _ _;simpa using HR5.out⟩
   case round=>
    obtain⟨C,D,rfl,hCD,HT,HRo⟩:=hrel
    have hl9:C.length+D.length+u=n:=by rw[<-hTl,hCD,List.length_append]
    have hsn:C=[]\/ ∃C0 z,C=C0++[z]:=by
     rcases List.eq_nil_or_concat C with h|⟨A0,x,h⟩
     ·exact .inl h
     ·exact .inr ⟨A0,x,by rw[h,List.concat_eq_append]⟩
    rcases hsn with rfl|⟨C,z,rfl⟩
    ·have hk2: ¬((a:Int)+u)<(a:Int)+u+((0:Nat):Int):=by omega
     have HC9:Hid (S2=D):=by show _=_;rw[hCD];rfl
     clear hCD
     simp only[List.length_nil]at*
     go_wp2_with fail
     refine bodyPost_ret (results_none rfl _ _ _) rfl ?_
     refine⟨rfl,HT.out,S1++y::S2, ?_,HPut.out.1,HPut.out.2⟩
     have h9:=HRo.out
     rw[HC9.out];simpa using h9
    ·obtain⟨t,ht⟩: ∃t,C.length=t:=⟨_,rfl⟩
     have hj:(a+u+(C++[z]).length:Nat)=a+u+t+1:=by simp;omega
     rw[hj]
     simp only[List.length_append,List.length_cons,List.length_nil]at hl9
     have hk2:(a:Int)+u<(a:Int)+u+t+1:=by omega
     have e1:P++S1++(C++[z])++y::D++Q=(P++S1++C)++z::(y::D++Q):=by simp
     have e2:P++S1++(C++[z])++y::D++Q=(P++S1++C++[z])++y::(D++Q):=by simp
     have haP:=HA.out
     obtain⟨c0,c1,c2⟩:=HRo.out.cell (i:=a+u+t) (x:=z) (by rw[e1];exact get_mid _ _ _ (by simp;omega))
     obtain⟨z0,z1,z2⟩:=HRo.out.cell (i:=a+u+t+1) (x:=y) (by rw[e2];exact get_mid _ _ _ (by simp;omega))
     have f0:=HRo.out.frozen ((a+u+t)*3)
     have f1:=HRo.out.frozen ((a+u+t)*3+1)
     have f2:=HRo.out.frozen ((a+u+t)*3+2)
     have g0:=HRo.out.frozen ((a+u+t+1)*3)
     have g1:=HRo.out.frozen ((a+u+t+1)*3+1)
     have g2:=HRo.out.frozen ((a+u+t+1)*3+2)
     simp only[sv]at c0 c1 c2 z0 z1 z2
     have hne: ¬a+u+t=a+u+t+1:=by omega
     have hne2: ¬a+u+t+1=a+u+t:=by omega
     have i1:((a:Int)+u+t).toNat=a+u+t:=by omega
     have i2:((a:Int)+u+t+1).toNat=a+u+t+1:=by omega
     have j1:(0:Int)<=(a:Int)+u+t/\(a:Int)+u+t<N:=by omega
     have j2:(0:Int)<=(a:Int)+u+t+1/\(a:Int)+u+t+1<N:=by omega
     have j3:(a:Int)+u+t+1-1=(a:Int)+u+t:=by omega
     have HE:=Lib.hid (And.intro e1 (And.intro e2 (And.intro hCD ht)))
     clear e1 e2 haP hCD ht hj
     go_wp2_with fail
     go_region
     go_wp2_with fail
     go_roundw
     case rel=>
      obtain⟨e1,e2,hCD,ht⟩:=HE.out
      have haP:=HA.out
      have hl8:(P++S1++(C++[z])++y::D++Q).length=N:=by
       rw[<-HN5.out,hCD];simp;omega
      refine⟨C,z::D,by rw[ht];go_num,by rw[hCD];simp,(by show Turned _ _ _;have ht:=HT.out;exact tur), ?_⟩
      have h1:=(HRo.out.set (a+u+t+1) (by rw[hl8];omega) z).set (a+u+t) (by rw[List.length_set,hl8];omega) y
      have e3:((P++S1++(C++[z])++y::D++Q).set (a+u+t+1) z).set (a+u+t) y=P++S1++C++y::(z::D)++Q:=by
       rw[e2,set_mid _ _ _ _ (by simp;omega),show P++S1++C++[z]++z::(D++Q)=(P++S1++C)++z::(z::(D++Q)) by simp,set_mid _ _ _ _ (by simp;omega)]
       simp
      rw[e3]at h1
      exact h1
     case measure=>simp[intOf];omega
end Go.Proofs.YtiikamobcmgekaaGreatDoor

