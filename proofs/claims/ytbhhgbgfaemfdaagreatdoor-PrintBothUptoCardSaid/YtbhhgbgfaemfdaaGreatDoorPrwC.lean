/- The walk of the closure that tells a limit. -/
import Derived.Lib.AppendIntMem
import Derived.Lib.Join
import Derived.Test.YtbhhgbgfaemfdaaGreatDoorShelf
import Derived.Test.YtbhhgbgfaemfdaaGreatDoorRG
namespace Go.Proofs.YtbhhgbgfaemfdaaGreatDoor
open Go.RowKit
attribute [local go_sem] Oper.semAt_some
def Ws (W:World) (v:Value) (l:List Bs):Prop:= ∃b c,v= .slice (some ⟨b,0,none⟩) l.length c/\l.length<=c/\b<W.heap.size/\ ∀j u,(l.map sv)[j]? =some u->W.cell? ⟨b,j,none⟩=some u
theorem ws_own {W:World} {B:Nat} {e:TypeId} {v:Value} {l:List Bs} (h:W.ownsRow B e 1 v l.length (l.map sv)) (hl:l≠[]):Ws W v l:=by
 obtain⟨h1,h2|⟨g,cap,cur,rfl,h3,h4,h5,h6,h7,h8⟩⟩:=id h
 ·exact absurd (List.eq_nil_of_length_eq_zero h2.2) hl
 ·obtain⟨_,a,cap2,h9,_,h10⟩:=own_cells h
  cases h9
  rcases h10 with h10|⟨b,h11,_,h12,h13⟩
  ·exact absurd (List.eq_nil_of_length_eq_zero h10) hl
  ·cases h11
   exact⟨_,cap,rfl,h5,h12,h13⟩
theorem ws_lit {W:World} {e:TypeId} {l:List Bs} {c:Array Value} (hc:c.toList=l.map sv):Ws (W.alloc (.cells c e)) (.slice (some ⟨W.heap.size,0,none⟩) l.length l.length) l:=by
 refine⟨_,_,rfl,Nat.le_refl _,by simp,fun j u hu=> ?_⟩
 rw[<-hc]at hu
 have hj:c[j]? =some u:=by rw[<-Array.getElem?_toList];exact hu
 simp[go_sem,hj]
theorem sv_oneW (l:List Bs): ∀u∈l.map sv,u.oneCell'=true:=by
 intro u hu
 obtain⟨t,_,rfl⟩:=List.mem_map.1 hu
 rfl
def tailW (l:List Bs):Bs:=Lib.joinTail [32] l
def sayS (k:Bs) (l:List Bs):Bs:=k++(tailW l++[59,10])
def sayN (k:Bs) (l:List Bs):Bs:=if l=[]then []else sayS k l
set_option maxRecDepth 100000 in
theorem line_any (v:Value) (k:Bs) (l:List Bs) (w:World) (h:Ws w v (k::l)) (hl:l.length<=1000000000) (hm:(sayS k l).length<=35184372088832):Calls Tryz.prog 59 #[v] w (Ret (.string ⟨(sayS k l).toArray⟩) w):=by
 obtain⟨b,c,rfl,hc,hb,hu⟩:=h
 have hj:=Tryz.strings_Join b 0 c ((k::l).map fun t=>⟨t.toArray⟩) ⟨#[32]⟩ w (fun j x hx=>by
  rw[List.getElem?_map]at hx
  cases h:(k::l)[j]? with
  |none=>rw[h]at hx;cases hx
  |some t=>
   rw[h]at hx
   cases hx
   rw[Nat.zero_add]
   exact hu j _ (by rw[List.getElem?_map,h];rfl)) hb (by simp;omega) (by simpa using hc) (by
  simp only[List.map_map,Function.comp_def]
  rw[List.map_id'',Lib.join_cons]
  ·have:(sayS k l).length=(k++Lib.joinTail [32] l).length+2:=by unfold sayS tailW;simp;omega
   show(k++Lib.joinTail [32] l).length<=_
   omega
  ·intro x;rfl)
 have e:((k::l).map (fun t=>(⟨t.toArray⟩:ByteArray))).map (·.data.toList)=k::l:=by
  rw[List.map_map]
  conv=>rhs;rw[<-List.map_id (k::l)]
  exact List.map_congr_left fun x _=>rfl
 rw[e,show(⟨#[32]⟩:ByteArray).data.toList=[32]from rfl,Lib.join_cons,List.length_map,List.length_cons]at hj
 have HJ:=Lib.hid hj
 have hz:(⟨(k++Lib.joinTail [32] l).toArray⟩:ByteArray).size<=35184372088832:=by
  show(k++Lib.joinTail [32] l).toArray.size<=_
  have:(sayS k l).length=(k++Lib.joinTail [32] l).length+2:=by unfold sayS tailW;simp;omega
  simp only[List.size_toArray]
  omega
 have HE:Hid ((⟨(k++Lib.joinTail [32] l).toArray⟩:ByteArray)++⟨#[59,10]⟩=⟨(sayS k l).toArray⟩):=by
  refine ba_ext ?_
  unfold sayS tailW
  simp
 clear hj e hu hm
 generalize(⟨(k++Lib.joinTail [32] l).toArray⟩:ByteArray)=X at*
 go_enter Tryz.func59,Tryz.ntmps59
 go_wp2_with(go_at_call 106;(with_reducible refine HJ.out.mono ?_);rintro e W1 ⟨rfl,hb1⟩;have HB1:=Lib.hid hb1;clear hb1)
 go_ret
 exact Ret.of (by rw[HE.out];rfl) HB1.out
set_option maxRecDepth 100000 in
set_option maxHeartbeats 1600000 in
theorem names_any (v:Value) (k:Bs) (l:List Bs) (w:World) (bad:Nat->Prop) (h:Rx w bad v l.length 1 (l.map sv)) (hl:l.length<=100000000) (hm:(sayN k l).length<=35184372088832):Calls Tryz.prog 57 #[.string ⟨k.toArray⟩,v] w (Ret (.string ⟨(sayN k l).toArray⟩) w):=by
 obtain⟨A,c,rfl,hA,hr,_⟩:=h
 by_cases h0:l.length=0
 ·obtain rfl:=List.eq_nil_of_length_eq_zero h0
  have HE:Hid (sayN k []=[]):=rfl
  clear hm hl hA hr h0
  go_enter Tryz.func57,Tryz.ntmps57
  go_wp2_with fail
  go_ret
  exact Ret.of (by rw[HE.out];rfl) bel
 ·have HE:Hid (sayN k l=sayS k l):=by
   show _=_
   unfold sayN
   rw[if_neg (fun e=>h0 (by rw[e];rfl))]
  rw[HE.out]at hm
  have HS:=Lib.hid (fun W u (hu:Ws W u (k::l))=>line_any u k l W hu (by omega) hm)
  have HR:=Lib.hid hr
  have HN:=Lib.hid (fun W (hb:Below w.heap.size w W)=>news_rd hr hA.1 hb)
  have hlc:(l.map sv).length=l.length*1:=by simp
  clear hm hA hr
  obtain⟨S,hS⟩: ∃S,l.map sv=S:=⟨_,rfl⟩
  have HSc:Hid (([sv k]++S=(k::l).map sv)/\(∀u∈S,u.oneCell'=true)/\S.length=l.length*1):=⟨by rw[<-hS];rfl,by rw[<-hS];exact sv_oneW l,by rw[<-hS];exact hlc⟩
  have HLn:Hid (1+l.length=(k::l).length):=by show _=_;rw[List.length_cons];omega
  rw[hS]at HN
  rw[HE.out]
  clear HE
  generalize sayS k l=R at*
  obtain⟨n,hn⟩: ∃n,l.length=n:=⟨_,rfl⟩
  rw[hn]at h0 hl HN HSc HLn ⊢
  clear hS hlc hn
  go_enter Tryz.func57,Tryz.ntmps57
  go_wp2_with(first
   |(at_builtin;go_loud(refine append_any rfl _ _ 39 rfl sltS w.heap.size rfl (own_lit (c:= #[.string ⟨k.toArray⟩]) (n:=1) (size:=1) rfl (by unfold maxLen;omega)) (by simp[go_sem]) n S (HN.out _ bel) HSc.out.2.2 HSc.out.2.1 (by unfold maxLen;omega) (by omega) ?_);intro v1 W1 ho1 hg1;have HB1:=own_step (w:=w) hg1 (own_lit (c:= #[.string ⟨k.toArray⟩]) (n:=1) (size:=1) rfl (by unfold maxLen;omega)) bel;have HO1:=Lib.hid (show Ws W1 v1 (k::l)from ws_own (by rw[<-HLn.out,<-HSc.out.1];exact ho1) (by simp));clear ho1 hg1)
   |(go_at_call 59;(with_reducible refine(HS.out _ _ HO1.out).mono ?_);rintro e W2 ⟨rfl,X2,rfl⟩))
  go_ret
  exact Ret.of rfl (HB1.out.trans ((bel:Below W1.heap.size W1 _).mono HB1.out.size))
open Go.RowKit
attribute [local go_sem] Oper.semAt_some
def restA:Bs->List Alw->Bs
 |_,[]=>[59,10]
 |t,b::r=>if b.tag=t then 32::(b.name++restA t r)else [59,10]++([97,116,116,114,115]++(32::(b.tag++(58::(32::(b.name++restA b.tag r))))))
def txA:List Alw->Bs
 |[]=>[]
 |a::r=>[97,116,116,114,115]++(32::(a.tag++(58::(32::(a.name++restA a.tag r)))))
theorem restA_cons (t:Bs) (b:Alw) (r:List Alw):restA t (b::r)=if b.tag=t then 32::(b.name++restA t r)else [59,10]++([97,116,116,114,115]++(32::(b.tag++(58::(32::(b.name++restA b.tag r)))))):=rfl
theorem txA_start (a:Alw) (r:List Alw):txA (a::r)=[97,116,116,114,115]++(tailW [a.tag++[58]]++restA a.tag (a::r)):=by
 rw[restA_cons]
 unfold txA tailW Lib.joinTail
 simp
theorem restA_in (t:Bs) (ws:List Bs) {b:Alw} {r:List Alw} (h:b.tag=t):tailW ws++restA t (b::r)=tailW (ws++[b.name])++restA t r:=by
 rw[restA_cons,if_pos h]
 unfold tailW Lib.joinTail
 simp
theorem restA_out (t:Bs) {b:Alw} {r:List Alw} (h: ¬b.tag=t):restA t (b::r)=[59,10]++txA (b::r):=by
 unfold restA txA
 rw[if_neg h]
theorem Rd.nextA {W:World} {A:Option Addr} {n c:Nat} {a:Alw} {r:List Alw} (h:Rd W (.slice A n c) (r.length+1) 2 ((a::r).flatMap Alw.cells)) (hn:n=r.length+1) (hc:n<=c):
  ∃b off,A=some ⟨b,off,none⟩/\b<W.heap.size/\W.cell? ⟨b,off,none⟩=some (.string ⟨a.tag.toArray⟩)/\W.cell? ⟨b,off+1,none⟩=some (.string ⟨a.name.toArray⟩)/\
   Rd W (.slice (if c=1 then some ⟨b,off,none⟩else some ⟨b,off+2,none⟩) (n-1) (c-1)) r.length 2 (r.flatMap Alw.cells):=by
 obtain⟨h1,h2,A',c',he,h4⟩:=h
 cases he
 obtain⟨b,off,rfl,hb,hx⟩:=h4 (by omega)
 have hl:(r.flatMap Alw.cells).length=r.length*2:=by
  rw[List.flatMap_cons,List.length_append]at h1
  have:(Alw.cells a).length=2:=rfl
  omega
 rw[Nat.add_sub_cancel]
 refine⟨b,off,rfl,hb,hx 0 _ rfl,hx 1 _ rfl,hl,by omega,_,_,rfl,fun h0=> ?_⟩
 rw[if_neg (by omega)]
 exact⟨b,off+2,rfl,hb,fun j u hu=>by
  have:=hx (2+j) u (by
   rw[List.flatMap_cons,List.getElem?_append_right (by show 2<=_;omega)]
   show(r.flatMap Alw.cells)[2+j-2]? =_
   rw[show 2+j-2=j by omega];exact hu)
  rwa[show off+2+j=off+(2+j) by omega]⟩
def vLenP:Value->Nat
 | .slice _ n _=>n
 |_=>0
set_option maxRecDepth 100000 in
set_option maxHeartbeats 4000000 in
theorem pattrs_any (A:Option Addr) (c:Nat) (l:List Alw) (w:World) (h:Rd w (.slice A l.length c) l.length 2 (l.flatMap Alw.cells)) (hc:l.length<=c) (hl:l.length<=100000000) (hm:(txA l).length<=35184372088832):Calls Tryz.prog 58 #[.slice A l.length c] w (Ret (.string ⟨(txA l).toArray⟩) w):=by
 have hmx:Tryz.prog.follows .mixedOrders=true:=by kernel_rfl
 obtain⟨R,hR⟩: ∃R,txA l=R:=⟨_,rfl⟩
 have HE:Hid ([]++txA l=R):=hR
 rw[hR]at hm ⊢
 have HH:=Lib.hid h
 obtain⟨N,hN⟩: ∃N,l.length=N:=⟨_,rfl⟩
 have HN:=Lib.hid hN
 rw[hN]at HH hl hc ⊢
 clear hR h hN
 go_enter Tryz.func58,Tryz.ntmps58
 go_wp2_with fail
 go_loopw [0,3] (fun v o wr=> ∃(r:List Alw) (A':Option Addr) (m c':Nat) (O:Bs),v= .slice A' m c'/\o= .string ⟨O.toArray⟩/\m<=N/\m<=c'/\Hid (m=r.length)/\Hid (Rd w (.slice A' m c') r.length 2 (r.flatMap Alw.cells))/\Hid (O++txA r=R)/\Hid (Below w.heap.size w wr)) (fun v _ _=>vLenP v)
 case atStart=>exact⟨l,A,N,c,[],rfl,rfl,Nat.le_refl _,hc,HN.out.symm,by show Rd _ _ _ _ _;rw[HN.out];exact HH.out,HE.out,by show Below _ _ _;exact bel⟩
 case round=>
  clear HE HH HN hc
  obtain⟨r,A',m,c',O,rfl,rfl,hm1,hc,HM,HH,HE,HB⟩:=hrel
  cases r with
  |nil=>
   have hm0:m=0:=HM.out
   subst hm0
   have HT:Hid ((⟨O.toArray⟩:ByteArray)=⟨R.toArray⟩):=by show _=_;rw[<-HE.out];simp[txA]
   clear HE HH HM hm
   generalize(⟨O.toArray⟩:ByteArray)=OB at*
   go_wp2_with fail
   go_ret
   exact Ret.of (by rw[<-HT.out];rfl) HB.out
  |cons a q=>
   have hmq:m=q.length+1:=HM.out
   obtain⟨b,off,rfl,hb,hx1,_,_⟩:=Rd.nextA HH.out hmq hc
   have hb2:b<wr.heap.size:=Nat.lt_of_lt_of_le hb HB.out.size
   have x1:=(HB.out.cell (p:=⟨b,off,none⟩) hb).trans hx1
   have hm0:0<m:=by omega
   have HT:Hid ((⟨a.tag.toArray⟩:ByteArray)++⟨#[58]⟩=⟨(a.tag++[58]).toArray⟩):=by
    refine ba_ext ?_
    simp
   have HE2:Hid (O++([97,116,116,114,115]++(tailW [a.tag++[58]]++restA a.tag (a::q)))=R):=by show _=_;rw[<-txA_start];exact HE.out
   have htz:(⟨a.tag.toArray⟩:ByteArray).size<=35184372088832:=by
    show a.tag.toArray.size<=_
    have:=congrArg List.length HE.out
    simp only[txA,List.length_append,List.length_cons,List.length_nil]at this
    simp only[List.size_toArray]
    omega
   have hOz:(⟨O.toArray⟩:ByteArray).size<=35184372088832:=by
    show O.toArray.size<=_
    have:=congrArg List.length HE.out
    simp only[List.length_append]at this
    simp only[List.size_toArray]
    omega
   have HMq:=Lib.hid hmq
   have hqN:q.length+1<=N:=by omega
   clear HE hx1 hmq
   generalize htag:(⟨a.tag.toArray⟩:ByteArray)=tg at*
   obtain⟨W1,hW1⟩: ∃W1,wr=W1:=⟨_,rfl⟩
   rw[hW1]at HB hb2 x1 ⊢
   clear hW1
   go_upto_region 4 with fail
   go_upto_region 5 with fail
   go_loopw [0,5] (fun v z wx=> ∃(r:List Alw) (A':Option Addr) (m c':Nat) (ns:List Bs),v= .slice A' m c'/\m<=N/\m<=c'/\ns.length+r.length=q.length+1/\Hid (r=a::q\/r.length<=q.length)/\Hid (m=r.length)/\Hid (Rd w (.slice A' m c') r.length 2 (r.flatMap Alw.cells))/\Hid (O++([97,116,116,114,115]++(tailW ((a.tag++[58])::ns)++restA a.tag r))=R)/\Hid (wx.ownsRow W1.heap.size 9 1 z (ns.length+2) (([97,116,116,114,115]::(a.tag++[58])::ns).map sv))/\Hid (Below W1.heap.size W1 wx)) (fun v _ _=>vLenP v)
   case atStart=>exact⟨a::q,some ⟨b,off,none⟩,m,c',[],rfl,hm1,hc,by simp,.inl rfl,HM.out,by show Rd _ _ _ _ _;exact HH.out.below (by exact bel) rfl,HE2.out,by rw[HT.out];exact own_lit (n:=2) (size:=1) rfl (by unfold maxLen;omega),by show Below _ _ _;exact bel⟩
   case round=>
    clear HE2 HH HM hc hm1 hm0
    obtain⟨r,A2,m2,c2,ns,rfl,hm1,hc,hrq,HL,HM,HH,HE,HO,HB2⟩:=hrel
    have HBw:=Lib.hid (HB.out.trans (HB2.out.mono HB.out.size))
    cases r with
    |nil=>
     have hm0:m2=0:=HM.out
     subst hm0
     simp only[List.length_nil,Nat.add_zero]at hrq
     have HX:=Lib.hid (show(O++sayS [97,116,116,114,115] ((a.tag++[58])::ns))++txA []=R from by rw[<-HE.out];simp[sayS,restA,txA])
     have hSz:(sayS [97,116,116,114,115] ((a.tag++[58])::ns)).length<=35184372088832:=by
      have:=congrArg List.length HX.out
      simp only[List.length_append]at this
      omega
     clear HE HL
     have HS:=Lib.hid (fun W (hW:Ws W u5 ([97,116,116,114,115]::(a.tag++[58])::ns))=>line_any u5 [97,116,116,114,115] ((a.tag++[58])::ns) W hW (by rw[List.length_cons];omega) hSz)
     have HW:=Lib.hid (ws_own (l:=[97,116,116,114,115]::(a.tag++[58])::ns) HO.out (by simp))
     obtain⟨S,hS⟩: ∃S,sayS [97,116,116,114,115] ((a.tag++[58])::ns)=S:=⟨_,rfl⟩
     rw[hS]at HS HX
     have HSum:Hid ((⟨O.toArray⟩:ByteArray)++⟨S.toArray⟩=⟨(O++S).toArray⟩):=by
      refine ba_ext ?_
      simp
     have hSs:(⟨S.toArray⟩:ByteArray).size<=35184372088832:=by
      rw[hS]at hSz
      show S.toArray.size<=_
      simpa using hSz
     clear hS hSz
     generalize(⟨S.toArray⟩:ByteArray)=SB at*
     generalize hOB:(⟨O.toArray⟩:ByteArray)=OB at*
     go_wp2_with(go_at_call 59;(with_reducible refine(HS.out _ HW.out).mono ?_);rintro e W2 ⟨rfl,X2,rfl⟩)
     go_roundw
     case rel=>exact⟨[],_,_,_,O++S,rfl,by rw[HSum.out],hm1,hc,HM.out,HH.out,HX.out,HBw.out.trans ((bel:Below wr.heap.size wr _).mono HBw.out.size)⟩
     case measure=>have:=HMq.out;simp[vLenP];omega
    |cons y r=>
     have hmq:m2=r.length+1:=HM.out
     obtain⟨b2,off2,rfl,hb3,hy1,hy2,hr2⟩:=Rd.nextA HH.out hmq hc
     have hb4:b2<wr.heap.size:=Nat.lt_of_lt_of_le hb3 HBw.out.size
     have y1:=(HBw.out.cell (p:=⟨b2,off2,none⟩) hb3).trans hy1
     have y2:=(HBw.out.cell (p:=⟨b2,off2+1,none⟩) hb3).trans hy2
     have hm0:0<m2:=by omega
     have hq:((⟨y.tag.toArray⟩:ByteArray).toList==tg.toList)=decide (y.tag=a.tag):=by rw[<-htag,ba_bq]
     have HR2:=Lib.hid hr2
     clear hy1 hy2 hr2 hmq
     generalize(⟨y.tag.toArray⟩:ByteArray)=yt at*
     by_cases he:y.tag=a.tag
     ·rw[decide_eq_true he]at hq
      have HX:=Lib.hid (show O++([97,116,116,114,115]++(tailW ((a.tag++[58])::(ns++[y.name]))++restA a.tag r))=R from by rw[<-HE.out,restA_in a.tag _ he];rfl)
      have HC1:Hid ((List.map sv ([97,116,116,114,115]::(a.tag++[58])::ns))++[.string ⟨y.name.toArray⟩]=List.map sv ([97,116,116,114,115]::(a.tag++[58])::(ns++[y.name]))):=by show _=_;simp[sv]
      clear HE he
      generalize(⟨y.name.toArray⟩:ByteArray)=yn at*
      go_wp2_with(at_builtin;go_loud(refine append_abs rfl _ _ 39 rfl sltS W1.heap.size rfl (HO.out.alloc _) (by have:=HB2.out.size;simp[go_sem]<;>omega) ⟨_,0,none⟩ 1 1 [.string yn] rfl rfl (new_cells (c:= #[.string yn]) (by simp[go_sem])) (by simp[Value.oneCell']) (by unfold maxLen;omega) (by omega) ?_);intro v3 W3 ho3 hg3;have HB3:=own_step (w:=W1) hg3 (HO.out.alloc _) (HB2.out.trans ((bel:Below wr.heap.size wr _).mono HB2.out.size));rw[HC1.out]at ho3;have HO3:=Lib.hid ho3;clear ho3 hg3)
      go_roundw
      case rel=>exact⟨r,_,_,_,ns++[y.name],rfl,by omega,by omega,by rw[List.length_append];simp only[List.length_cons,List.length_nil]at hrq ⊢;omega,.inr (by simp only[List.length_cons]at hrq;omega),by show _=_;have h0:m2=r.length+1:=HM.out;omega,HR2.out,HX.out,by rw[List.length_append];exact HO3.out,HB3.out⟩
      case measure=>simp[vLenP];omega
     ·rw[decide_eq_false he]at hq
      have HX:=Lib.hid (show(O++sayS [97,116,116,114,115] ((a.tag++[58])::ns))++txA (y::r)=R from by rw[<-HE.out,restA_out a.tag he];simp[sayS])
      have hlt:r.length+1<=q.length:=by
       rcases HL.out with h|h
       ·cases h;exact absurd rfl he
       ·exact h
      have hSz:(sayS [97,116,116,114,115] ((a.tag++[58])::ns)).length<=35184372088832:=by
       have:=congrArg List.length HX.out
       simp only[List.length_append]at this
       omega
      clear HE HL he
      have HS:=Lib.hid (fun W (hW:Ws W u5 ([97,116,116,114,115]::(a.tag++[58])::ns))=>line_any u5 [97,116,116,114,115] ((a.tag++[58])::ns) W hW (by rw[List.length_cons];omega) hSz)
      have HW:=Lib.hid (ws_own (l:=[97,116,116,114,115]::(a.tag++[58])::ns) HO.out (by simp))
      obtain⟨S,hS⟩: ∃S,sayS [97,116,116,114,115] ((a.tag++[58])::ns)=S:=⟨_,rfl⟩
      rw[hS]at HS HX
      have HSum:Hid ((⟨O.toArray⟩:ByteArray)++⟨S.toArray⟩=⟨(O++S).toArray⟩):=by
       refine ba_ext ?_
       simp
      have hSs:(⟨S.toArray⟩:ByteArray).size<=35184372088832:=by
       rw[hS]at hSz
       show S.toArray.size<=_
       simpa using hSz
      clear hS hSz
      generalize(⟨S.toArray⟩:ByteArray)=SB at*
      generalize hOB:(⟨O.toArray⟩:ByteArray)=OB at*
      go_wp2_with(go_at_call 59;(with_reducible refine(HS.out _ HW.out).mono ?_);rintro e W2 ⟨rfl,X2,rfl⟩)
      go_roundw
      case rel=>exact⟨y::r,_,_,_,O++S,rfl,by rw[HSum.out],hm1,hc,HM.out,HH.out,HX.out,HBw.out.trans ((bel:Below wr.heap.size wr _).mono HBw.out.size)⟩
      case measure=>have:=HMq.out;have:=HM.out;rw[List.length_cons]at this;simp[vLenP];omega
open Go.RowKit
attribute [local go_sem] Oper.semAt_some
def Ten (w:World):Prop:=Lib.TabIs Tryz.prog w "internal/strconv.uint64pow10" .u64 Lib.pow10Tab
theorem Ten.below {w w':World} (h:Ten w) (hb:Below w.heap.size w w'):Ten w':=by
 have hg:Tryz.prog.globalNamed "internal/strconv.uint64pow10" =some 0:=by kernel_rfl
 unfold Ten Lib.TabIs World.var? at h ⊢
 rw[hg,Option.bind_some]at h ⊢
 by_cases hl:0<w.heap.size
 ·rw[hb.block _ hl];exact h
 ·rw[Array.getElem?_eq_none (Nat.le_of_not_lt hl)]at h
  cases h
section
variable {P:Program} {ops:Array Oper} {Q:Exit->Act->World->Prop} {S:World->Prop}
theorem wpRow_rdP {L:Act->World->Prop} {is:List (Nat × Bool)} {i:Nat} {a:Act} {w:World} {o:Oper} {v:Value} (d:Nat) (ho:ops[i]? =some o) (hd:o.dst=some d) (hw:Region.wanted o (yielded ops a.tmps)=true)
  (hv: ∀W,S W->(execOp a.eval o).run P W= .ok (.value v) W) (h:wpRow P ops Q S L is (a.put (some d) v) w):wpRow P ops Q S L ((i,true)::is) a w:=wpRow_read ho hw hv (hd ▸ h)
end
def limT:Bs:=[108,105,109,105,116]
set_option maxRecDepth 100000 in
set_option maxHeartbeats 4000000 in
theorem plimit_any (B:Nat) (k O:Bs) (n:Int) (w:World) (hT:Ten w) (hB:Boxed w B 9 (.string ⟨O.toArray⟩)) (h0:0<=n) (h1:n<=1000000000) (hO:O.length<=35184372088832) (hm:(sayS limT [k,Lib.itoa n]).length<=35184372088832):
  Calls Tryz.prog 61 #[.string ⟨k.toArray⟩,.int .i64 n,.pointer (some ⟨B,0,none⟩)] w fun e w'=>e= .returned (.tuple #[])/\Boxed w' B 9 (.string ⟨(O++sayS limT [k,Lib.itoa n]).toArray⟩)/\Turned (fun b=>b=B) w w':=by
 have hmx:Tryz.prog.follows .mixedOrders=true:=by kernel_rfl
 have HF:=Lib.hid (fun W (hb:Below w.heap.size w W)=>Tryz.strconv_FormatInt_10 n (by omega) (by omega) W (hT.below hb))
 have HS:=Lib.hid (fun W v (hW:Ws W v [limT,k,Lib.itoa n])=>line_any v limT [k,Lib.itoa n] W hW (by simp) hm)
 have HSum:Hid ((⟨O.toArray⟩:ByteArray)++⟨(sayS limT [k,Lib.itoa n]).toArray⟩=⟨(O++sayS limT [k,Lib.itoa n]).toArray⟩):=by
  refine ba_ext ?_
  simp
 have hOz:(⟨O.toArray⟩:ByteArray).size<=35184372088832:=by show O.toArray.size<=_;simpa using hO
 have hSz:(⟨(sayS limT [k,Lib.itoa n]).toArray⟩:ByteArray).size<=35184372088832:=by show(sayS limT [k,Lib.itoa n]).toArray.size<=_;simpa using hm
 have HL:=Lib.hid (show [sv limT,sv k,sv (Lib.itoa n)]=[limT,k,Lib.itoa n].map sv from rfl)
 have HB:=Lib.hid hB
 have f1:=hB.cell
 have f2:=hB.frozen
 have f3:=hB.lt
 have hm2:=hm
 clear hT hB hm
 obtain⟨F,hF⟩: ∃F,Lib.itoa n=F:=⟨_,rfl⟩
 rw[hF]at HF HS HSum hSz HL hm2 ⊢
 obtain⟨T,hT⟩: ∃T,sayS limT [k,F]=T:=⟨_,rfl⟩
 rw[hT]at HS HSum hSz hm2 ⊢
 clear hF hT
 go_enter Tryz.func61,Tryz.ntmps61
 refine wp_region_row 7 [(0,true),(1,true),(2,true),(3,false),(4,false),(5,false),(6,false)] (fun V=>Below w.heap.size w V) hmx (by kernel_rfl) (by kernel_rfl) (by kernel_rfl) (by decide) rfl (fun c a d v w h=>by first|exact h|(obtain⟨x,y⟩:=(h:_/\_);cases d<;>exact⟨x,y⟩)) (by kernel_rfl) (by show Below _ _ _;exact bel) ?_
 refine wpRow_rdP (v:= .string ⟨O.toArray⟩) 5 rfl rfl rfl (fun W hW=>by have d:=(hW.cell (p:=⟨B,0,none⟩) f3).trans f1;simp[execOp,go_sem,d]) ?_
 simp only[Act.put,List.setIfInBounds_toArray,List.set_cons_succ,List.set_cons_zero]
 refine wpRow_rdP (v:= .string ⟨k.toArray⟩) 6 rfl rfl rfl (fun W hW=>by simp[execOp,go_sem]) ?_
 simp only[Act.put,List.setIfInBounds_toArray,List.set_cons_succ,List.set_cons_zero]
 refine wpRow_rdP (v:= .int .i64 n) 7 rfl rfl rfl (fun W hW=>by simp[execOp,go_sem]) ?_
 simp only[Act.put,List.setIfInBounds_toArray,List.set_cons_succ,List.set_cons_zero]
 refine wpRow_op rfl rfl ?_
 intro Kc hKc
 unfold Oper.wp
 simp[execOp,go_sem]
 refine(HF.out _ bel).mono ?_
 rintro e V1 ⟨rfl,q1,os1,hV1⟩
 have hw1:Below w.heap.size w V1:=(bel:Below w.heap.size w w.drew).trans (by rw[hV1];exact Lib.below_grow _ _ (by simp) _ _)
 clear hV1
 apply hKc
 refine⟨hw1, ?_⟩
 try simp only[Act.put,List.setIfInBounds_toArray,List.set_cons_succ,List.set_cons_zero]
 refine wpRow_op rfl rfl ?_
 intro Kc hKc
 unfold Oper.wp
 simp[execOp,go_sem]
 apply hKc
 have hw2:Below w.heap.size w (V1.alloc (.cells #[.string ⟨#[108,105,109,105,116]⟩,.string ⟨k.toArray⟩,.string ⟨F.toArray⟩] 9)):=hw1.trans ((bel:Below V1.heap.size V1 _).mono hw1.size)
 refine⟨hw2, ?_⟩
 try simp only[Act.put,List.setIfInBounds_toArray,List.set_cons_succ,List.set_cons_zero]
 refine wpRow_op rfl rfl ?_
 intro Kc hKc
 unfold Oper.wp
 simp[execOp,go_sem]
 refine(HS.out _ _ (ws_lit (l:=[limT,k,F]) rfl)).mono ?_
 rintro e V3 ⟨rfl,X3,hV3⟩
 have hw3:Below w.heap.size w V3:=hw2.trans ((show Below _ _ V3 by rw[hV3];exact below_grow _ _).mono hw2.size)
 clear hV3
 apply hKc
 refine⟨hw3, ?_⟩
 try simp only[Act.put,List.setIfInBounds_toArray,List.set_cons_succ,List.set_cons_zero]
 refine wpRow_op rfl rfl ?_
 intro Kc hKc
 unfold Oper.wp
 simp[execOp,go_sem]
 rw[if_neg (by omega)]
 apply hKc
 refine⟨hw3, ?_⟩
 try simp only[Act.put,List.setIfInBounds_toArray,List.set_cons_succ,List.set_cons_zero]
 dsimp only[wpRow,List.drop]
 have hB3:Boxed V3 B 9 (.string ⟨O.toArray⟩):=(Turned.of_below (pv:=fun _=>False) hw3).boxed HB.out (fun h=>h)
 have g2:=hB3.frozen
 have g1:=hB3.cell
 rw[HSum.out]
 go_wp2_with fail
 go_end0
 exact⟨rfl,hB3.set _,Turned.setCell (pv:=fun b=>b=B) (p:=⟨B,0,none⟩) (Turned.of_below hw3) (.inr rfl) _⟩
end Go.Proofs.YtbhhgbgfaemfdaaGreatDoor
