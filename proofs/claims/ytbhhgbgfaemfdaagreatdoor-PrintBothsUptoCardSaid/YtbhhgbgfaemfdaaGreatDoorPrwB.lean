/- The walk of print.attrs. -/
import Derived.Lib.Join
import Derived.Test.YtbhhgbgfaemfdaaGreatDoorShelf
import Derived.Test.YtbhhgbgfaemfdaaGreatDoorRG
namespace Go.Proofs.YtbhhgbgfaemfdaaGreatDoor
open Lib renaming hid→z2g,joinTail→z33
open List renaming eq_nil_of_length_eq_zero→z2s,length_append→z2i,length_cons→z2j
set_option maxRecDepth 100000
set_option maxHeartbeats 4000000
open Go.RowKit
attribute [local go_sem] Oper.semAt_some
def Ws (W:World) (v:Value) (l:List Bs):Prop:= ∃b c,v= .slice (some ⟨b,0,none⟩) l.length c/\l.length<=c/\b<W.heap.size/\ ∀j u,(l.map sv)[j]? =some u->W.cell? ⟨b,j,none⟩=some u
theorem zuh {W:World} {B:Nat} {e:TypeId} {v:Value} {l:List Bs} (h:W.ownsRow B e 1 v l.length (l.map sv)) (hl:l≠[]):Ws W v l:=by
 obtain⟨h1,h2|⟨g,cap,cur,rfl,h3,h4,h5,h6,h7,h8⟩⟩:=id h
 ·exact absurd (z2s h2.2) hl
 ·obtain⟨_,a,cap2,h9,_,h10⟩:=zob h
  cases h9
  rcases h10 with h10|⟨b,h11,_,h12,h13⟩
  ·exact absurd (z2s h10) hl
  ·cases h11
   exact⟨_,cap,rfl,h5,h12,h13⟩
theorem zq4 {W:World} {e:TypeId} {l:List Bs} {c:Array Value} (hc:c.toList=l.map sv):Ws (W.alloc (.cells c e)) (.slice (some ⟨W.heap.size,0,none⟩) l.length l.length) l:=by
 refine⟨_,_,rfl,Nat.le_refl _,by simp,fun j u hu=> ?_⟩
 rw[<-hc]at hu
 have hj:c[j]? =some u:=by rw[<-Array.getElem?_toList];exact hu
 simp[go_sem,hj]
theorem z1f (l:List Bs): ∀u∈l.map sv,u.oneCell'=true:=by
 intro u hu
 obtain⟨t,_,rfl⟩:=List.mem_map.1 hu
 rfl
def zck (l:List Bs):Bs:=z33 [32] l
def sayS (k:Bs) (l:List Bs):Bs:=k++(zck l++[59,10])
def sayN (k:Bs) (l:List Bs):Bs:=if l=[]then []else sayS k l
theorem ze6 (v:Value) (k:Bs) (l:List Bs) (w:World) (h:Ws w v (k::l)) (hl:l.length<=1000000000) (hm:(sayS k l).length<=35184372088832):Calls Tryz.prog 59 #[v] w (Ret (.string ⟨(sayS k l).toArray⟩) w):=by
 obtain⟨b,c,rfl,hc,hb,hu⟩:=h
 have hj:=Tryz.strings_Join b 0 c ((k::l).map fun t=>⟨t.toArray⟩) ⟨#[32]⟩ w (fun j x hx=>by
  rw[List.getElem?_map]at hx
  cases h:(k::l)[j]? with
  |none=>rw[h]at hx;cases hx
  |some t=>
   rw[h]at hx
   cases hx
   rw[Nat.zero_add]
   exact hu j _ (by rw[List.getElem?_map,h];rfl)) hb (by simp;omega) (by simpa using hc) (by
  simp only[List.map_map,Function.comp_def]
  rw[List.map_id'',Lib.join_cons]
  ·have:(sayS k l).length=(k++z33 [32] l).length+2:=by unfold sayS zck;simp;omega
   show(k++z33 [32] l).length<=_
   omega
  ·intro x;rfl)
 have e:((k::l).map (fun t=>(⟨t.toArray⟩:ByteArray))).map (·.data.toList)=k::l:=by
  rw[List.map_map]
  conv=>rhs;rw[<-List.map_id (k::l)]
  exact List.map_congr_left fun x _=>rfl
 rw[e,show(⟨#[32]⟩:ByteArray).data.toList=[32]from rfl,Lib.join_cons,List.length_map,z2j]at hj
 have HJ:=z2g hj
 have hz:(⟨(k++z33 [32] l).toArray⟩:ByteArray).size<=35184372088832:=by
  show(k++z33 [32] l).toArray.size<=_
  have:(sayS k l).length=(k++z33 [32] l).length+2:=by unfold sayS zck;simp;omega
  simp only[List.size_toArray]
  omega
 have HE:Hid ((⟨(k++z33 [32] l).toArray⟩:ByteArray)++⟨#[59,10]⟩=⟨(sayS k l).toArray⟩):=by
  refine zb7 ?_
  unfold sayS zck
  simp
 clear hj e hu hm
 generalize(⟨(k++z33 [32] l).toArray⟩:ByteArray)=X at*
 go_enter Tryz.func59,Tryz.ntmps59
 go_wp2_with(go_at_call 106;(with_reducible refine HJ.out.mono ?_);rintro e W1 ⟨rfl,hb1⟩;have HB1:=z2g hb1;clear hb1)
 go_ret
 exact Ret.of (by rw[HE.out];rfl) HB1.out
theorem zg7 (v:Value) (k:Bs) (l:List Bs) (w:World) (bad:Nat->Prop) (h:Rx w bad v l.length 1 (l.map sv)) (hl:l.length<=100000000) (hm:(sayN k l).length<=35184372088832):Calls Tryz.prog 57 #[.string ⟨k.toArray⟩,v] w (Ret (.string ⟨(sayN k l).toArray⟩) w):=by
 obtain⟨A,c,rfl,hA,hr,_⟩:=h
 by_cases h0:l.length=0
 ·obtain rfl:=z2s h0
  have HE:Hid (sayN k []=[]):=rfl
  clear hm hl hA hr h0
  go_enter Tryz.func57,Tryz.ntmps57
  go_wp2_with fail
  go_ret
  exact Ret.of (by rw[HE.out];rfl) bel
 ·have HE:Hid (sayN k l=sayS k l):=by
   show _=_
   unfold sayN
   rw[if_neg (fun e=>h0 (by rw[e];rfl))]
  rw[HE.out]at hm
  have HS:=z2g (fun W u (hu:Ws W u (k::l))=>ze6 u k l W hu (by omega) hm)
  have HR:=z2g hr
  have HN:=z2g (fun W (hb:Below w.heap.size w W)=>zc1 hr hA.1 hb)
  have hlc:(l.map sv).length=l.length*1:=by simp
  clear hm hA hr
  obtain⟨S,hS⟩: ∃S,l.map sv=S:=⟨_,rfl⟩
  have HSc:Hid (([sv k]++S=(k::l).map sv)/\(∀u∈S,u.oneCell'=true)/\S.length=l.length*1):=⟨by rw[<-hS];rfl,by rw[<-hS];exact z1f l,by rw[<-hS];exact hlc⟩
  have HLn:Hid (1+l.length=(k::l).length):=by show _=_;rw[z2j];omega
  rw[hS]at HN
  rw[HE.out]
  clear HE
  generalize sayS k l=R at*
  obtain⟨n,hn⟩: ∃n,l.length=n:=⟨_,rfl⟩
  rw[hn]at h0 hl HN HSc HLn ⊢
  clear hS hlc hn
  go_enter Tryz.func57,Tryz.ntmps57
  go_wp2_with(first
   |(at_builtin;go_loud(refine zas rfl _ _ 39 rfl sltS w.heap.size rfl (za7 (c:= #[.string ⟨k.toArray⟩]) (n:=1) (size:=1) rfl (by unfold maxLen;omega)) (by simp[go_sem]) n S (HN.out _ bel) HSc.out.2.2 HSc.out.2.1 (by unfold maxLen;omega) (by omega) ?_);intro v1 W1 ho1 hg1;have HB1:=zao (w:=w) hg1 (za7 (c:= #[.string ⟨k.toArray⟩]) (n:=1) (size:=1) rfl (by unfold maxLen;omega)) bel;have HO1:=z2g (show Ws W1 v1 (k::l)from zuh (by rw[<-HLn.out,<-HSc.out.1];exact ho1) (by simp));clear ho1 hg1)
   |(go_at_call 59;(with_reducible refine(HS.out _ _ HO1.out).mono ?_);rintro e W2 ⟨rfl,X2,rfl⟩))
  go_ret
  exact Ret.of rfl (HB1.out.trans ((bel:Below W1.heap.size W1 _).mono HB1.out.size))
def zff:Bs->List Alw->Bs
 |_,[]=>[59,10]
 |t,b::r=>if b.tag=t then 32::(b.name++zff t r)else [59,10]++([97,116,116,114,115]++(32::(b.tag++(58::(32::(b.name++zff b.tag r))))))
def txA:List Alw->Bs
 |[]=>[]
 |a::r=>[97,116,116,114,115]++(32::(a.tag++(58::(32::(a.name++zff a.tag r)))))
theorem zew (t:Bs) (b:Alw) (r:List Alw):zff t (b::r)=if b.tag=t then 32::(b.name++zff t r)else [59,10]++([97,116,116,114,115]++(32::(b.tag++(58::(32::(b.name++zff b.tag r)))))):=rfl
theorem zu8 (a:Alw) (r:List Alw):txA (a::r)=[97,116,116,114,115]++(zck [a.tag++[58]]++zff a.tag (a::r)):=by
 rw[zew]
 unfold txA zck z33
 simp
theorem zze (t:Bs) (ws:List Bs) {b:Alw} {r:List Alw} (h:b.tag=t):zck ws++zff t (b::r)=zck (ws++[b.name])++zff t r:=by
 rw[zew,if_pos h]
 unfold zck z33
 simp
theorem zv5 (t:Bs) {b:Alw} {r:List Alw} (h: ¬b.tag=t):zff t (b::r)=[59,10]++txA (b::r):=by
 unfold zff txA
 rw[if_neg h]
theorem Rd.nextA {W:World} {A:Option Addr} {n c:Nat} {a:Alw} {r:List Alw} (h:Rd W (.slice A n c) (r.length+1) 2 ((a::r).flatMap Alw.cells)) (hn:n=r.length+1) (hc:n<=c):
  ∃b off,A=some ⟨b,off,none⟩/\b<W.heap.size/\W.cell? ⟨b,off,none⟩=some (.string ⟨a.tag.toArray⟩)/\W.cell? ⟨b,off+1,none⟩=some (.string ⟨a.name.toArray⟩)/\
   Rd W (.slice (if c=1 then some ⟨b,off,none⟩else some ⟨b,off+2,none⟩) (n-1) (c-1)) r.length 2 (r.flatMap Alw.cells):=by
 obtain⟨h1,h2,A',c',he,h4⟩:=h
 cases he
 obtain⟨b,off,rfl,hb,hx⟩:=h4 (by omega)
 have hl:(r.flatMap Alw.cells).length=r.length*2:=by
  rw[List.flatMap_cons,z2i]at h1
  have:(Alw.cells a).length=2:=rfl
  omega
 rw[Nat.add_sub_cancel]
 refine⟨b,off,rfl,hb,hx 0 _ rfl,hx 1 _ rfl,hl,by omega,_,_,rfl,fun h0=> ?_⟩
 rw[if_neg (by omega)]
 exact⟨b,off+2,rfl,hb,fun j u hu=>by
  have:=hx (2+j) u (by
   rw[List.flatMap_cons,List.getElem?_append_right (by show 2<=_;omega)]
   show(r.flatMap Alw.cells)[2+j-2]? =_
   rw[show 2+j-2=j by omega];exact hu)
  rwa[show off+2+j=off+(2+j) by omega]⟩
def zuu:Value->Nat
 | .slice _ n _=>n
 |_=>0
theorem zs1 (A:Option Addr) (c:Nat) (l:List Alw) (w:World) (h:Rd w (.slice A l.length c) l.length 2 (l.flatMap Alw.cells)) (hc:l.length<=c) (hl:l.length<=100000000) (hm:(txA l).length<=35184372088832):Calls Tryz.prog 58 #[.slice A l.length c] w (Ret (.string ⟨(txA l).toArray⟩) w):=by
 have hmx:Tryz.prog.follows .mixedOrders=true:=by kernel_rfl
 obtain⟨R,hR⟩: ∃R,txA l=R:=⟨_,rfl⟩
 have HE:Hid ([]++txA l=R):=hR
 rw[hR]at hm ⊢
 have HH:=z2g h
 obtain⟨N,hN⟩: ∃N,l.length=N:=⟨_,rfl⟩
 have HN:=z2g hN
 rw[hN]at HH hl hc ⊢
 clear hR h hN
 go_enter Tryz.func58,Tryz.ntmps58
 go_wp2_with fail
 go_loopw [0,3] (fun v o wr=> ∃(r:List Alw) (A':Option Addr) (m c':Nat) (O:Bs),v= .slice A' m c'/\o= .string ⟨O.toArray⟩/\m<=N/\m<=c'/\Hid (m=r.length)/\Hid (Rd w (.slice A' m c') r.length 2 (r.flatMap Alw.cells))/\Hid (O++txA r=R)/\Hid (Below w.heap.size w wr)) (fun v _ _=>zuu v)
 case atStart=>exact⟨l,A,N,c,[],rfl,rfl,Nat.le_refl _,hc,HN.out.symm,by show Rd _ _ _ _ _;rw[HN.out];exact HH.out,HE.out,by show Below _ _ _;exact bel⟩
 case round=>
  clear HE HH HN hc
  obtain⟨r,A',m,c',O,rfl,rfl,hm1,hc,HM,HH,HE,HB⟩:=hrel
  cases r with
  |nil=>
   have hm0:m=0:=HM.out
   subst hm0
   have HT:Hid ((⟨O.toArray⟩:ByteArray)=⟨R.toArray⟩):=by show _=_;rw[<-HE.out];simp[txA]
   clear HE HH HM hm
   generalize(⟨O.toArray⟩:ByteArray)=OB at*
   go_wp2_with fail
   go_ret
   exact Ret.of (by rw[<-HT.out];rfl) HB.out
  |cons a q=>
   have hmq:m=q.length+1:=HM.out
   obtain⟨b,off,rfl,hb,hx1,_,_⟩:=Rd.nextA HH.out hmq hc
   have hb2:b<wr.heap.size:=Nat.lt_of_lt_of_le hb HB.out.size
   have x1:=(HB.out.cell (p:=⟨b,off,none⟩) hb).trans hx1
   have hm0:0<m:=by omega
   have HT:Hid ((⟨a.tag.toArray⟩:ByteArray)++⟨#[58]⟩=⟨(a.tag++[58]).toArray⟩):=by
    refine zb7 ?_
    simp
   have HE2:Hid (O++([97,116,116,114,115]++(zck [a.tag++[58]]++zff a.tag (a::q)))=R):=by show _=_;rw[<-zu8];exact HE.out
   have htz:(⟨a.tag.toArray⟩:ByteArray).size<=35184372088832:=by
    show a.tag.toArray.size<=_
    have:=congrArg List.length HE.out
    simp only[txA,z2i,z2j,List.length_nil]at this
    simp only[List.size_toArray]
    omega
   have hOz:(⟨O.toArray⟩:ByteArray).size<=35184372088832:=by
    show O.toArray.size<=_
    have:=congrArg List.length HE.out
    simp only[z2i]at this
    simp only[List.size_toArray]
    omega
   have HMq:=z2g hmq
   have hqN:q.length+1<=N:=by omega
   clear HE hx1 hmq
   generalize htag:(⟨a.tag.toArray⟩:ByteArray)=tg at*
   obtain⟨W1,hW1⟩: ∃W1,wr=W1:=⟨_,rfl⟩
   rw[hW1]at HB hb2 x1 ⊢
   clear hW1
   go_upto_region 4 with fail
   go_upto_region 5 with fail
   go_loopw [0,5] (fun v z wx=> ∃(r:List Alw) (A':Option Addr) (m c':Nat) (ns:List Bs),v= .slice A' m c'/\m<=N/\m<=c'/\ns.length+r.length=q.length+1/\Hid (r=a::q\/r.length<=q.length)/\Hid (m=r.length)/\Hid (Rd w (.slice A' m c') r.length 2 (r.flatMap Alw.cells))/\Hid (O++([97,116,116,114,115]++(zck ((a.tag++[58])::ns)++zff a.tag r))=R)/\Hid (wx.ownsRow W1.heap.size 9 1 z (ns.length+2) (([97,116,116,114,115]::(a.tag++[58])::ns).map sv))/\Hid (Below W1.heap.size W1 wx)) (fun v _ _=>zuu v)
   case atStart=>exact⟨a::q,some ⟨b,off,none⟩,m,c',[],rfl,hm1,hc,by simp,.inl rfl,HM.out,by show Rd _ _ _ _ _;exact HH.out.below (by exact bel) rfl,HE2.out,by rw[HT.out];exact za7 (n:=2) (size:=1) rfl (by unfold maxLen;omega),by show Below _ _ _;exact bel⟩
   case round=>
    clear HE2 HH HM hc hm1 hm0
    obtain⟨r,A2,m2,c2,ns,rfl,hm1,hc,hrq,HL,HM,HH,HE,HO,HB2⟩:=hrel
    have HBw:=z2g (HB.out.trans (HB2.out.mono HB.out.size))
    cases r with
    |nil=>
     have hm0:m2=0:=HM.out
     subst hm0
     simp only[List.length_nil,Nat.add_zero]at hrq
     have HX:=z2g (show(O++sayS [97,116,116,114,115] ((a.tag++[58])::ns))++txA []=R from by rw[<-HE.out];simp[sayS,zff,txA])
     have hSz:(sayS [97,116,116,114,115] ((a.tag++[58])::ns)).length<=35184372088832:=by
      have:=congrArg List.length HX.out
      simp only[z2i]at this
      omega
     clear HE HL
     have HS:=z2g (fun W (hW:Ws W u5 ([97,116,116,114,115]::(a.tag++[58])::ns))=>ze6 u5 [97,116,116,114,115] ((a.tag++[58])::ns) W hW (by rw[z2j];omega) hSz)
     have HW:=z2g (zuh (l:=[97,116,116,114,115]::(a.tag++[58])::ns) HO.out (by simp))
     obtain⟨S,hS⟩: ∃S,sayS [97,116,116,114,115] ((a.tag++[58])::ns)=S:=⟨_,rfl⟩
     rw[hS]at HS HX
     have HSum:Hid ((⟨O.toArray⟩:ByteArray)++⟨S.toArray⟩=⟨(O++S).toArray⟩):=by
      refine zb7 ?_
      simp
     have hSs:(⟨S.toArray⟩:ByteArray).size<=35184372088832:=by
      rw[hS]at hSz
      show S.toArray.size<=_
      simpa using hSz
     clear hS hSz
     generalize(⟨S.toArray⟩:ByteArray)=SB at*
     generalize hOB:(⟨O.toArray⟩:ByteArray)=OB at*
     go_wp2_with(go_at_call 59;(with_reducible refine(HS.out _ HW.out).mono ?_);rintro e W2 ⟨rfl,X2,rfl⟩)
     go_roundw
     case rel=>exact⟨[],_,_,_,O++S,rfl,by rw[HSum.out],hm1,hc,HM.out,HH.out,HX.out,HBw.out.trans ((bel:Below wr.heap.size wr _).mono HBw.out.size)⟩
     case measure=>have:=HMq.out;simp[zuu];omega
    |cons y r=>
     have hmq:m2=r.length+1:=HM.out
     obtain⟨b2,off2,rfl,hb3,hy1,hy2,hr2⟩:=Rd.nextA HH.out hmq hc
     have hb4:b2<wr.heap.size:=Nat.lt_of_lt_of_le hb3 HBw.out.size
     have y1:=(HBw.out.cell (p:=⟨b2,off2,none⟩) hb3).trans hy1
     have y2:=(HBw.out.cell (p:=⟨b2,off2+1,none⟩) hb3).trans hy2
     have hm0:0<m2:=by omega
     have hq:((⟨y.tag.toArray⟩:ByteArray).toList==tg.toList)=decide (y.tag=a.tag):=by rw[<-htag,zfg]
     have HR2:=z2g hr2
     clear hy1 hy2 hr2 hmq
     generalize(⟨y.tag.toArray⟩:ByteArray)=yt at*
     by_cases he:y.tag=a.tag
     ·rw[decide_eq_true he]at hq
      have HX:=z2g (show O++([97,116,116,114,115]++(zck ((a.tag++[58])::(ns++[y.name]))++zff a.tag r))=R from by rw[<-HE.out,zze a.tag _ he];rfl)
      have HC1:Hid ((List.map sv ([97,116,116,114,115]::(a.tag++[58])::ns))++[.string ⟨y.name.toArray⟩]=List.map sv ([97,116,116,114,115]::(a.tag++[58])::(ns++[y.name]))):=by show _=_;simp[sv]
      clear HE he
      generalize(⟨y.name.toArray⟩:ByteArray)=yn at*
      go_wp2_with(at_builtin;go_loud(refine zat rfl _ _ 39 rfl sltS W1.heap.size rfl (HO.out.alloc _) (by have:=HB2.out.size;simp[go_sem]<;>omega) ⟨_,0,none⟩ 1 1 [.string yn] rfl rfl (zan (c:= #[.string yn]) (by simp[go_sem])) (by simp[Value.oneCell']) (by unfold maxLen;omega) (by omega) ?_);intro v3 W3 ho3 hg3;have HB3:=zao (w:=W1) hg3 (HO.out.alloc _) (HB2.out.trans ((bel:Below wr.heap.size wr _).mono HB2.out.size));rw[HC1.out]at ho3;have HO3:=z2g ho3;clear ho3 hg3)
      go_roundw
      case rel=>exact⟨r,_,_,_,ns++[y.name],rfl,by omega,by omega,by rw[z2i];simp only[z2j,List.length_nil]at hrq ⊢;omega,.inr (by simp only[z2j]at hrq;omega),by show _=_;have h0:m2=r.length+1:=HM.out;omega,HR2.out,HX.out,by rw[z2i];exact HO3.out,HB3.out⟩
      case measure=>simp[zuu];omega
     ·rw[decide_eq_false he]at hq
      have HX:=z2g (show(O++sayS [97,116,116,114,115] ((a.tag++[58])::ns))++txA (y::r)=R from by rw[<-HE.out,zv5 a.tag he];simp[sayS])
      have hlt:r.length+1<=q.length:=by
       rcases HL.out with h|h
       ·cases h;exact absurd rfl he
       ·exact h
      have hSz:(sayS [97,116,116,114,115] ((a.tag++[58])::ns)).length<=35184372088832:=by
       have:=congrArg List.length HX.out
       simp only[z2i]at this
       omega
      clear HE HL he
      have HS:=z2g (fun W (hW:Ws W u5 ([97,116,116,114,115]::(a.tag++[58])::ns))=>ze6 u5 [97,116,116,114,115] ((a.tag++[58])::ns) W hW (by rw[z2j];omega) hSz)
      have HW:=z2g (zuh (l:=[97,116,116,114,115]::(a.tag++[58])::ns) HO.out (by simp))
      obtain⟨S,hS⟩: ∃S,sayS [97,116,116,114,115] ((a.tag++[58])::ns)=S:=⟨_,rfl⟩
      rw[hS]at HS HX
      have HSum:Hid ((⟨O.toArray⟩:ByteArray)++⟨S.toArray⟩=⟨(O++S).toArray⟩):=by
       refine zb7 ?_
       simp
      have hSs:(⟨S.toArray⟩:ByteArray).size<=35184372088832:=by
       rw[hS]at hSz
       show S.toArray.size<=_
       simpa using hSz
      clear hS hSz
      generalize(⟨S.toArray⟩:ByteArray)=SB at*
      generalize hOB:(⟨O.toArray⟩:ByteArray)=OB at*
      go_wp2_with(go_at_call 59;(with_reducible refine(HS.out _ HW.out).mono ?_);rintro e W2 ⟨rfl,X2,rfl⟩)
      go_roundw
      case rel=>exact⟨y::r,_,_,_,O++S,rfl,by rw[HSum.out],hm1,hc,HM.out,HH.out,HX.out,HBw.out.trans ((bel:Below wr.heap.size wr _).mono HBw.out.size)⟩
      case measure=>have:=HMq.out;have:=HM.out;rw[z2j]at this;simp[zuu];omega
end Go.Proofs.YtbhhgbgfaemfdaaGreatDoor
