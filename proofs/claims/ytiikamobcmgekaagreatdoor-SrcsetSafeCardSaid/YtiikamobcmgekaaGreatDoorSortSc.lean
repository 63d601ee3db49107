/- Sorting in place: one merged with what is in order. -/
import Derived.Test.YtiikamobcmgekaaGreatDoorSortSa
namespace Go.Proofs.YtiikamobcmgekaaGreatDoor
open Go.RowKit
theorem mid_assocS {α:Type} (P:List α) (x:α) (A B Q:List α):P++x::A++(B++Q)=P++x::(A++B)++Q:=by simp
set_option maxRecDepth 1000000 in
set_option maxHeartbeats 8000000 in
theorem merge1S_any (B g cap:Nat) (P:List Bs) (x:Bs) (S Q:List Bs) (w:World) (h:RowS w B g cap (P++x::S++Q)) (hS:0<S.length) (hU:Up ltB S) (hn:(P++x::S++Q).length<=1000000000):
  Calls Tryz.prog 284 #[.slice (some ⟨g,0,none⟩) (P++x::S++Q).length cap,.int .i64 P.length,.int .i64 (P.length+1:Nat),.int .i64 (P.length+1+S.length:Nat),(.func (.func 118) #[] #[])] w
   fun e w'=>e= .returned (.tuple #[])/\MrgS w B g cap P (x::S) Q w':=by
 have hmx:Tryz.prog.follows .mixedOrders=true:=by kernel_rfl
 obtain⟨a,ha⟩: ∃a,P.length=a:=⟨_,rfl⟩
 obtain⟨N,hN⟩: ∃N,(P++x::S++Q).length=N:=⟨_,rfl⟩
 obtain⟨n,hn0⟩: ∃n,S.length=n:=⟨_,rfl⟩
 rw[ha,hN,hn0]
 rw[hN]at hn
 rw[hn0]at hS
 have hbN:a+1+n<=N:=by rw[<-hN,<-ha,<-hn0];simp only[List.length_append,List.length_cons];omega
 have HA:=Lib.hid ha
 have HN:=Lib.hid hN
 have HSn:=Lib.hid hn0
 have HR:=Lib.hid h
 have HUp:=Lib.hid hU
 have hgl:=row_lt h
 clear ha hN h hU hn0
 have b1:(((a+1:Nat):Int)-a==1)=true:=by simp;omega
 have b2:((a:Int)+1-a==1)=true:=by simp;omega
 have j1:(0:Int)<=(a:Int)/\(a:Int)<N:=by omega
 go_enter Tryz.func284,Tryz.ntmps284
 go_wp2_with fail
 go_loopw [10,11] (fun i j wr=> ∃(u v:Nat),u<=v/\v<=n/\i= .int .i64 (a+1+u:Nat)/\j= .int .i64 (a+1+v:Nat)/\Hid (Below w.heap.size w wr)/\Hid ((∀z,0<u->S[u-1]? =some z->ltB z x=true)/\(∀z,S[v]? =some z->ltB z x=false))) (fun i j _=>(intOf j).toNat-(intOf i).toNat)
 case atStart=>
  refine⟨0,n,by omega,by omega,by go_num,by go_num,Below.refl _ _,⟨fun z h=>by omega,fun z h=> ?_⟩⟩
  have:=(List.getElem?_eq_some_iff.1 h).1
  have:=HSn.out
  omega
 case round=>
  obtain⟨u,v,huv,hv,rfl,rfl,HB,HF⟩:=hrel
  by_cases hlt:u<v
  ·have hc:((a+1+u:Nat):Int)<((a+1+v:Nat):Int):=by omega
   obtain⟨t,ht⟩: ∃t,(u+v)/2=t:=⟨_,rfl⟩
   have htu:u<=t/\t<v:=by omega
   obtain⟨htu1,htu2⟩:=htu
   have hh:((a:Int)+1+u+((a:Int)+1+v))/2=(a:Int)+1+t:=by omega
   have HR5:Hid (RowS wr B g cap (P++x::S++Q)):=HR.out.turned (Turned.of_below (pv:=fun _=>False) HB.out) (fun h=>h)
   obtain⟨y,hy⟩: ∃y,S[t]? =some y:=⟨S[t]'(by have:=HSn.out;omega),List.getElem?_eq_getElem _⟩
   have c0:=HR5.out.cell (i:=a) (x:=x) (by rw[List.append_assoc];exact get_mid _ _ _ HA.out.symm)
   have z0:=HR5.out.cell (i:=a+1+t) (x:=y) (by rw[show P++x::S++Q=(P++[x])++(S++Q) by simp,List.getElem?_append_right (by have:=HA.out;simp;omega),List.getElem?_append_left (by have:=HA.out;have:=HSn.out;simp;omega)];rw[show a+1+t-(P++[x]).length=t by have:=HA.out;simp;omega];exact hy)
   have f0:=HR5.out.frozen ((a))
   simp only[sv]at c0 z0
   have hgw:g<wr.heap.size:=Nat.lt_of_lt_of_le hgl HB.out.size
   have i2:((a:Int)+1+t).toNat=a+1+t:=by omega
   have j2:(0:Int)<=(a:Int)+1+t/\(a:Int)+1+t<N:=by omega
   have HC:=Lib.hid (fun W=>cmpS_any y x W)
   have HD:=Lib.hid (cmpB_lt y x)
   have HY:=Lib.hid hy
   simp only[sv]at HC
   generalize hcm:cmpB y x=cm at*
   clear ht hy hcm
   cases hl2:ltB y x
   ·have hc0:decide (cm<0)=false:=by rw[HD.out,hl2]
    have HL2:=Lib.hid hl2
    clear hl2
    go_wp2_with fail
    refine wp_region_grow (by kernel_rfl) (by kernel_rfl) ?_
    repeat(go_big_quiet_step((go_at_call 118;with_reducible exact Calls.grow_of (HC.out _))))
    refine wpQuiet_nil ?_
    intro _ hw';obtain⟨nq,hw''⟩:=hw';subst hw''
    go_wp2_with fail
    go_roundw
    case rel=>exact⟨u,t,by omega,by omega,rfl,by go_num,below_next HB.out (below_grow _ _),HF.out.1,fun z hz=>by rw[HY.out]at hz;cases hz;exact HL2.out⟩
    case measure=>simp[intOf];omega
   ·have hc0:decide (cm<0)=true:=by rw[HD.out,hl2]
    have HL2:=Lib.hid hl2
    clear hl2
    go_wp2_with fail
    refine wp_region_grow (by kernel_rfl) (by kernel_rfl) ?_
    repeat(go_big_quiet_step((go_at_call 118;with_reducible exact Calls.grow_of (HC.out _))))
    refine wpQuiet_nil ?_
    intro _ hw';obtain⟨nq,hw''⟩:=hw';subst hw''
    go_wp2_with fail
    go_roundw
    case rel=>exact⟨t+1,v,by omega,by omega,by go_num,rfl,below_next HB.out (below_grow _ _),fun z _ hz=>by rw[Nat.add_sub_cancel,HY.out]at hz;cases hz;exact HL2.out,HF.out.2⟩
    case measure=>simp[intOf];omega
  ·have huv2:u=v:=by omega
   subst huv2
   have hc: ¬((a+1+u:Nat):Int)<((a+1+u:Nat):Int):=by omega
   have HPut:Hid (Up ltB (S.take u++x::S.drop u)/\Alike ltB (S.take u++x::S.drop u) (x::S)):=by
    obtain⟨f1,f2⟩:=HF.out
    have hul:u<=S.length:=by have:=HSn.out;omega
    obtain⟨q1,q2⟩:=cut_facts (A:=[x]) (B:=S) (s:=0) (t:=u) swoB (by simp[Up]) HUp.out (by simp) hul (fun x' y h1 h2 h3=>by simp at h1;subst h1;exact f1 y h2 h3) (fun x' y h0=>by omega)
    have q1: ∀y∈S.take u,ltB y x=true:=fun y hy=>q1 x (by simp) y hy
    obtain⟨_,q4⟩:=cut_facts (A:=[x]) (B:=S) (s:=1) (t:=u) swoB (by simp[Up]) HUp.out (by simp) hul (fun x' y h1=>by simp at h1) (fun x' y h0 h1 h2=>by simp at h1;subst h1;exact f2 y h2)
    have q4: ∀y∈S.drop u,ltB y x=false:=fun y hy=>q4 x (by simp) y hy
    have hU2:=HUp.out
    rw[<-List.take_append_drop u S]at hU2
    have h9:=put_first swoB hU2 q1 q4
    rw[List.take_append_drop]at h9
    exact h9
   have hTl:(S.take u).length=u:=by rw[List.length_take];have:=HSn.out;omega
   have HTk:Hid (S=S.take u++S.drop u):=(List.take_append_drop _ _).symm
   have HR5:Hid (RowS wr B g cap (P++x::S.take u++(S.drop u++Q))):=by
    have h9:=HR.out.turned (Turned.of_below (pv:=fun _=>False) HB.out) (fun h=>h)
    rw[mid_assocS,<-HTk.out];exact h9
   have HN5:Hid ((P++x::S.take u++(S.drop u++Q)).length=N):=by
    show _=_
    rw[mid_assocS,<-HTk.out];exact HN.out
   generalize S.take u=S1 at*
   generalize S.drop u=S2 at*
   have HT0:Hid (Turned (fun k=>k=g) w wr):=Turned.of_below HB.out
   go_wp2_with fail
   go_loopw [13] (fun i wr=> ∃(C D:List Bs),i= .int .i64 (a+C.length:Nat)/\S1=C++D/\Hid (Turned (fun k=>k=g) w wr)/\Hid (RowS wr B g cap (P++C++x::D++(S2++Q)))) (fun i _=>a+u-(intOf i).toNat)
   case atStart=>exact⟨[],S1,by go_num,rfl,HT0.out,by show RowS _ _ _ _ _;simpa using HR5.out⟩
   case round=>
    obtain⟨C,D,rfl,hCD,HT,HRo⟩:=hrel
    have hl9:C.length+D.length=u:=by rw[<-hTl,hCD,List.length_append]
    cases D with
    |nil=>
     have hk: ¬((a+C.length:Nat):Int)<((a+1+u:Nat):Int)-1:=by simp at hl9;omega
     have hk2: ¬((a:Int)+C.length)<(a:Int)+1+u-1:=by simp at hl9;omega
     have HC9:Hid (S1=C):=by show _=_;rw[hCD,List.append_nil]
     clear hCD
     go_wp2_with fail
     refine bodyPost_ret (results_none rfl _ _ _) rfl ?_
     refine⟨rfl,HT.out,S1++x::S2, ?_,HPut.out.1,HPut.out.2⟩
     have h9:=HRo.out
     rw[HC9.out];simpa using h9
    |cons y D=>
     simp only[List.length_cons]at hl9
     obtain⟨t,ht⟩: ∃t,C.length=t:=⟨_,rfl⟩
     rw[ht]at hl9 ⊢
     have hk2:((a:Int)+t)<(a:Int)+1+u-1:=by omega
     have e1:P++C++x::(y::D)++(S2++Q)=(P++C)++x::(y::D++(S2++Q)):=by simp
     have e2:P++C++x::(y::D)++(S2++Q)=(P++C++[x])++y::(D++(S2++Q)):=by simp
     have haP:=HA.out
     have c0:=HRo.out.cell (i:=a+t) (x:=x) (by rw[e1];exact get_mid _ _ _ (by simp;omega))
     have z0:=HRo.out.cell (i:=a+t+1) (x:=y) (by rw[e2];exact get_mid _ _ _ (by simp;omega))
     have f0:=HRo.out.frozen ((a+t))
     have g0:=HRo.out.frozen ((a+t+1))
     simp only[sv]at c0 z0
     have hne: ¬a+t=a+t+1:=by omega
     have hne2: ¬a+t+1=a+t:=by omega
     have i1:((a:Int)+t).toNat=a+t:=by omega
     have i2:((a:Int)+t+1).toNat=a+t+1:=by omega
     have j1:(0:Int)<=(a:Int)+t/\(a:Int)+t<N:=by omega
     have j2:(0:Int)<=(a:Int)+t+1/\(a:Int)+t+1<N:=by omega
     have HE:=Lib.hid (And.intro e1 (And.intro hCD ht))
     clear e1 e2 haP hCD ht
     go_wp2_with fail
     go_region
     go_wp2_with fail
     go_roundw
     case rel=>
      obtain⟨e1,hCD,ht⟩:=HE.out
      have haP:=HA.out
      have hl8:(P++C++x::(y::D)++(S2++Q)).length=N:=by
       rw[<-HN5.out,hCD];simp;omega
      refine⟨C++[y],D,by simp only[List.length_append,List.length_singleton];rw[ht];go_num,by rw[hCD];simp,(by show Turned _ _ _;have ht:=HT.out;exact tur), ?_⟩
      have h1:=(HRo.out.set (a+t) (by rw[hl8];omega) y).set (a+t+1) (by rw[List.length_set,hl8];omega) x
      have e3:((P++C++x::(y::D)++(S2++Q)).set (a+t) y).set (a+t+1) x=P++(C++[y])++x::D++(S2++Q):=by
       rw[e1,set_mid _ _ _ _ (by simp;omega),show P++C++y::(y::D++(S2++Q))=(P++C++[y])++y::(D++(S2++Q)) by simp,set_mid _ _ _ _ (by simp;omega)]
       simp
      rw[e3]at h1
      exact h1
     case measure=>simp[intOf];omega
end Go.Proofs.YtiikamobcmgekaaGreatDoor

