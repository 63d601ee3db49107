/- The walk of the reference's New: the rules of a policy. (written by gen_rnew.py) -/
import Derived.BigRegion
import Derived.Test.YtiikamobcmgekaaGreatDoorCmpK
import Derived.Test.YtiikamobcmgekaaGreatDoorRiE
import Derived.Test.YtiikamobcmgekaaGreatDoorC3
namespace Go.Proofs.YtiikamobcmgekaaGreatDoor
open Lib renaming hid→z2c
open List renaming any_cons→z3h,drop→z4l,drop_eq_getElem_cons→z2m,drop_eq_nil_of_le→z2o,drop_zero→z2w,getElem_mem→z26,setIfInBounds_toArray→z2b,set_cons_succ→z2e,set_cons_zero→z2d
open Nat renaming lt_of_lt_of_le→z2g
open Tryz renaming prog→z2f
set_option maxRecDepth 100000
set_option maxHeartbeats 32000000
open Go.RowKit
attribute [local go_sem] Oper.semAt_some
theorem zxw {W:World} {c:Array Value} {e:TypeId} {n B:Nat} {ts:List Bs} (hB:B=W.heap.size) (he:c=(ts.map sv).toArray) (hn:n=ts.length) (h9:ts.length<=1000):Rd (W.alloc (.cells c e)) (.slice (some ⟨B,0,none⟩) n n) ts.length 1 (ts.map sv):=by
 subst hB he hn;have:=Rd.own (za5 (W:=W) (e:=e) (c:=(ts.map sv).toArray) (n:=ts.length) (size:=1) (by simp) (by unfold maxLen;omega));simpa using this
theorem zjz (s:Bs) (v:Value) (l:List Bs) (w:World) (h:Rd w v l.length 1 (l.map sv)):Calls z2f 63 #[sv s,v] w (Ret (.bool (decide (s∈l))) w):=by
 obtain⟨_,hm,A,c,rfl,h4⟩:=h;obtain⟨n,hn⟩: ∃n,l.length=n:=⟨_,rfl⟩;have HN:=z2c hn;have HD0:Hid (decide (s∈l)=decide (s∈l.drop 0)):=by show _=_;rw[z2w]
 obtain⟨D,hD⟩: ∃D,decide (s∈l)=D:=⟨_,rfl⟩;rw[hD]at HD0 ⊢;rw[hn]at hm h4 ⊢;clear hn hD;have H4:=z2c h4;have HQ:=z2c (fun t:Bs=>show((⟨t.toArray⟩:ByteArray).toList==(⟨s.toArray⟩:ByteArray).toList)=decide (t=s) by rw[ByteArray.toList_eq,ByteArray.toList_eq,Bool.eq_iff_iff];simp);clear h4;unfold sv;generalize hxs:(⟨s.toArray⟩:ByteArray)=xs at*;clear hxs;go_enter Tryz.func63,Tryz.ntmps63;go_wp2_with fail
 go_loopw [5] (fun i wr=> ∃k:Nat,k<=n/\i= .int .i64 (k:Nat)/\Hid (D=decide (s∈l.drop k))/\wr=w) (fun i _=>n-(intOf i).toNat)
 case atStart=>exact⟨0,by omega,rfl,HD0.out,rfl⟩
 case round=>
  clear HD0;obtain⟨k,hk,rfl,HK,rfl⟩:=hrel;by_cases hlt:k<n
  ·obtain⟨b,off,rfl,hb,hc⟩:=H4.out (by omega);have hkl:k<l.length:=by rw[HN.out];exact hlt
   obtain⟨t,ht⟩: ∃t,l[k]=t:=⟨_,rfl⟩;have x0:wr.cell? ⟨b,off+k,none⟩=some (.string ⟨t.toArray⟩):=hc k (sv t) (by simp[hkl,ht]);have HD:Hid (l.drop k=t::l.drop (k+1)):=by show _=_;rw[z2m hkl,ht]
   have hq:=HQ.out t;clear hc ht hkl;generalize(⟨t.toArray⟩:ByteArray)=xt at*;by_cases he:t=s
   ·rw[decide_eq_true he]at hq;have HT:Hid (D=true):=by show _=_;rw[HK.out,HD.out,he];simp
    clear HK HD he;go_wp2_with fail
    go_ret;exact Ret.of (by rw[HT.out];rfl) bel
   ·rw[decide_eq_false he]at hq;have HT:Hid (D=decide (s∈l.drop (k+1))):=by show _=_;rw[HK.out,HD.out];simp[show ¬s=t from fun e=>he e.symm]
    clear HK HD he;go_wp2_with fail
    go_roundw
    case rel=>exact⟨k+1,by omega,by go_num,HT.out,by first|rfl|trivial⟩
    case measure=>simp[intOf];omega
  ·have HT:Hid (D=false):=by show _=_;rw[HK.out,z2o (by rw[HN.out];omega)];rfl
   go_wp2_with fail
   go_ret;exact Ret.of (by rw[HT.out];rfl) bel
theorem zmt (t:Bs) (w:World):Calls z2f 61 #[sv t] w (Ret (.bool (zcz t)) w):=by
 have HI:=z2c (fun(W:World) c (hc:c=(([[115,99,114,105,112,116],[115,116,121,108,101],[120,109,112],[105,102,114,97,109,101],[110,111,101,109,98,101,100],[110,111,102,114,97,109,101,115],[110,111,115,99,114,105,112,116],[112,108,97,105,110,116,101,120,116],[115,118,103],[109,97,116,104],[116,101,109,112,108,97,116,101],[116,101,120,116,97,114,101,97],[116,105,116,108,101],[102,114,97,109,101,115,101,116],[102,114,97,109,101],[111,98,106,101,99,116],[101,109,98,101,100],[98,97,115,101]]:List Bs).map sv).toArray)=>show Calls z2f 63 #[.string ⟨t.toArray⟩,.slice (some ⟨W.heap.size,0,none⟩) 18 18] (W.alloc (.cells c 9)) (Ret (.bool (zcz t)) (W.alloc (.cells c 9)))from by
  have h:=zjz t (.slice (some ⟨W.heap.size,0,none⟩) 18 18) [[115,99,114,105,112,116],[115,116,121,108,101],[120,109,112],[105,102,114,97,109,101],[110,111,101,109,98,101,100],[110,111,102,114,97,109,101,115],[110,111,115,99,114,105,112,116],[112,108,97,105,110,116,101,120,116],[115,118,103],[109,97,116,104],[116,101,109,112,108,97,116,101],[116,101,120,116,97,114,101,97],[116,105,116,108,101],[102,114,97,109,101,115,101,116],[102,114,97,109,101],[111,98,106,101,99,116],[101,109,98,101,100],[98,97,115,101]] (W.alloc (.cells c 9)) (zxw (e:=9) (n:=18) rfl hc rfl (by decide));unfold zcz;rw[zl9];exact h)
 generalize zcz t=D at*;unfold sv;generalize(⟨t.toArray⟩:ByteArray)=x at*;go_enter Tryz.func61,Tryz.ntmps61;go_wp2_with(go_at_call 63;(refine(HI.out w _ rfl).mono ?_);rintro e W1 ⟨rfl,X1,rfl⟩)
 go_ret;exact Ret.of rfl bel
theorem z1s (t:Bs):onB t=(decide (2<=t.length)&&decide (t.take 2=[111,110])):=by
 unfold onB;match t with
 |[]=>rfl
 |[a]=>rfl
 |a::b::r=>
  rw[Bool.eq_iff_iff];simp
theorem zg9 (t:Bs) (w:World) (ht:t.length<=1000000):Calls z2f 62 #[sv t] w (Ret (.bool (zbk t)) w):=by
 unfold zbk;rw[z1s];have hl:(⟨t.toArray⟩:ByteArray).size=t.length:=by show t.toArray.size=_;simp
 have hx:2<=t.length->((⟨t.toArray⟩:ByteArray).extract 0 2).toList=t.take 2:=fun h=>by rw[Lib.extract_toList];simp
 unfold sv;rw[<-hl]at ht ⊢;cases hd:decide (t=zp5)with
 |true=>
  have m0:((⟨t.toArray⟩:ByteArray).toList==[115,114,99,100,111,99])=true:=by rw[zcd];exact hd
  clear hx hl;generalize(⟨t.toArray⟩:ByteArray)=x at*;go_enter Tryz.func62,Tryz.ntmps62;go_wp2_with fail
  go_ret;exact Ret.of rfl bel
 |false=>
  have m0:((⟨t.toArray⟩:ByteArray).toList==[115,114,99,100,111,99])=false:=by rw[zcd];exact hd
  by_cases h2:2<=(⟨t.toArray⟩:ByteArray).size
  ·have m1:(((⟨t.toArray⟩:ByteArray).extract 0 2).toList==[111,110])=decide (t.take 2=[111,110]):=by rw[hx (by omega)];rw[Bool.eq_iff_iff];simp
   rw[decide_eq_true h2];generalize decide (t.take 2=[111,110])=D at*;clear hx hl hd;generalize(⟨t.toArray⟩:ByteArray)=x at*;go_enter Tryz.func62,Tryz.ntmps62;go_wp2_with fail
   go_ret;exact Ret.of rfl bel
  ·rw[decide_eq_false h2];clear hx hl hd;generalize(⟨t.toArray⟩:ByteArray)=x at*;go_enter Tryz.func62,Tryz.ntmps62;go_wp2_with fail
   go_ret;exact Ret.of rfl bel
def RefV (W:World) (g:Nat) (p:Pol):Prop:= ∃v0 v1 v2 v3 v4 v5,PolV W (fun _=>False) (.agg #[v0,v1,v2,v3,v4,v5,.bool p.rel,.int .i64 p.depth,.int .i64 p.name,.int .i64 p.value]) p/\ ∀j x,[v0,v1,v2,v3,v4,v5,.bool p.rel,.int .i64 p.depth,.int .i64 p.name,.int .i64 p.value][j]? =some x->W.cell? ⟨g,j,none⟩=some x
theorem RefV.below {W W':World} {g:Nat} {p:Pol} (h:RefV W g p) (hb:Below W.heap.size W W'):RefV W' g p:=by
 obtain⟨v0,v1,v2,v3,v4,v5,h1,h2⟩:=h;exact⟨v0,v1,v2,v3,v4,v5,h1.below hb,fun j x hx=>(hb.cell (p:=⟨g,j,none⟩) (World.block_lt_of_cell? W _ (h2 j x hx))).trans (h2 j x hx)⟩
def z18 (p:Pol) (w:World) (e:Ending) (w':World):Prop:=Below w.heap.size w w'/\((newR p≠0/\e= .returned (.tuple #[.pointer none,.int .i64 (newR p:Nat)]))\/(newR p=0/\ ∃g,e= .returned (.tuple #[.pointer (some ⟨g,0,none⟩),.int .i64 0])/\RefV w' g p))
theorem zzu (v:Value) (p:Pol) (w:World) (h:PolV w (fun _=>False) v p) (hs:zir p) (ht:z0w p):Calls z2f 23 #[v] w (z18 p w):=by
 have hmx:=mxd;have HRt:=z2c (fun W hb=>ztm v p W (h.below (W':=W) hb) hs ht);have HV:=z2c h;obtain⟨v0,v1,v2,v3,v4,v5,rfl,⟨A0,k0,rfl,z0,h0,_⟩,⟨A1,k1,rfl,z1,h1,_⟩,⟨A2,k2,rfl,_⟩,⟨A3,k3,rfl,z3,h3,_⟩,⟨A4,k4,rfl,z4,h4,_⟩,⟨A5,k5,rfl,z5,h5,_⟩⟩:=h;by_cases hr:zco p=true;rotate_left
 ·have hn:newR p=1:=by unfold newR;rw[if_neg hr]
  rw[Bool.not_eq_true]at hr;rw[hr]at HRt;unfold z18;rw[hn];clear h0 h1 h3 h4 h5 z0 z1 z3 z4 z5 hs ht hn hr HV;go_enter Tryz.func23,Tryz.ntmps23;go_wp2_with(go_at_call 60;(with_reducible refine(HRt.out _ bel).mono ?_);rintro e W1 ⟨rfl,X1,rfl⟩)
  go_ret2;exact⟨bel,.inl ⟨by decide,rfl⟩⟩
 have hn:newR p=zhc p:=by unfold newR;rw[if_pos hr,zqo]
 unfold z18;rw[hn];rw[hr]at HRt;have HWd:=z2c (zse hr);have HRw:Hid (zhc p=_):=rfl;obtain⟨Q0,hQ0⟩: ∃Q,p.tags.any zcz=Q:=⟨_,rfl⟩;have HQ0:=z2c hQ0.symm;obtain⟨Q1,hQ1⟩: ∃Q,p.attrs.any (fun a=>zbk a.name)=Q:=⟨_,rfl⟩;have HQ1:=z2c hQ1.symm;obtain⟨Q2,hQ2⟩: ∃Q,p.forces.any (fun f=>zbk f.name)=Q:=⟨_,rfl⟩;have HQ2:=z2c hQ2.symm;obtain⟨Q3,hQ3⟩: ∃Q,p.schemes.any zhz=Q:=⟨_,rfl⟩;have HQ3:=z2c hQ3.symm;obtain⟨Q4,hQ4⟩: ∃Q,p.tags.any (zhr p)=Q:=⟨_,rfl⟩;have HQ4:=z2c hQ4.symm;obtain⟨Q5,hQ5⟩: ∃Q,p.forces.any (fun f=> !tagR p f.tag)=Q:=⟨_,rfl⟩;have HQ5:=z2c hQ5.symm;obtain⟨Q6,hQ6⟩: ∃Q,p.attrs.any (fun a=> !decide (a.tag=[42])&& !tagR p a.tag)=Q:=⟨_,rfl⟩;have HQ6:=z2c hQ6.symm;obtain⟨Q7,hQ7⟩: ∃Q,p.tags.any (zfh p)=Q:=⟨_,rfl⟩;have HQ7:=z2c hQ7.symm;obtain⟨Q8,hQ8⟩: ∃Q,p.forces.any (zh3 p)=Q:=⟨_,rfl⟩;have HQ8:=z2c hQ8.symm;obtain⟨RW,hRW⟩: ∃R,zhc p=R:=⟨_,rfl⟩;have HRW:Hid (RW=(if Q0=true then 6 else if Q1=true then 6 else if Q2=true then 6 else if Q3=true then 6 else if Q4=true then 5 else if Q5=true then 4 else if Q6=true then 4 else if Q7=true then 1 else if Q8=true then 1 else 0)):=by
  show _=_;rw[<-hRW,<-hQ0,<-hQ1,<-hQ2,<-hQ3,<-hQ4,<-hQ5,<-hQ6,<-hQ7,<-hQ8];rfl
 rw[hRW];clear hRW hQ0 hQ1 hQ2 hQ3 hQ4 hQ5 hQ6 hQ7 hQ8 HRw hn;have H0:=z2c h0;have H1:=z2c h1;have H3:=z2c h3;have H4:=z2c h4;have H5:=z2c h5;obtain⟨n0,hn0⟩: ∃n,fN p 0=n:=⟨_,rfl⟩;have HN0:Hid (p.tags.length=n0):=hn0;have hm0:n0<=9223372036854775807:=by rw[<-hn0];exact h0.2.1
 obtain⟨n1,hn1⟩: ∃n,fN p 1=n:=⟨_,rfl⟩;have HN1:Hid (p.schemes.length=n1):=hn1;have hm1:n1<=9223372036854775807:=by rw[<-hn1];exact h1.2.1
 obtain⟨n4,hn4⟩: ∃n,fN p 4=n:=⟨_,rfl⟩;have HN4:Hid (p.attrs.length=n4):=hn4;have hm4:n4<=9223372036854775807:=by rw[<-hn4];exact h4.2.1
 obtain⟨n5,hn5⟩: ∃n,fN p 5=n:=⟨_,rfl⟩;have HN5:Hid (p.forces.length=n5):=hn5;have hm5:n5<=9223372036854775807:=by rw[<-hn5];exact h5.2.1
 have HIt:=z2c (fun W t (hb:Below w.heap.size w W)=>zjz t (.slice A0 (fN p 0) k0) p.tags W (Rd.belowW h0 hb));have HId:=z2c (fun W t (hb:Below w.heap.size w W)=>zjz t (.slice A3 (fN p 3) k3) p.drops W (Rd.belowW h3 hb));rw[hn0]at H0 HIt HV;rw[hn1]at H1 HV;rw[hn4]at H4 HV;rw[hn5]at H5 HV;rw[hn0,hn1,hn4,hn5]at HRt ⊢;clear h0 h1 h3 h4 h5 hn0 hn1 hn4 hn5 z0 z1 z3 z4 z5 hs ht hr;generalize hrel9:p.rel=prel at*;generalize hd9:p.depth=pd at*;generalize hnm9:p.name=pnm at*;generalize hvl9:p.value=pv at*;have HPd:=z2c hd9;have HPr:=z2c hrel9;have HPn:=z2c hnm9;have HPv:=z2c hvl9;clear hrel9 hd9 hnm9 hvl9;go_enter Tryz.func23,Tryz.ntmps23;go_upto_region 3 with(go_at_call 60;(with_reducible refine(HRt.out _ bel).mono ?_);rintro e Wa ⟨rfl,Xa,rfl⟩)
 refine zae fun W0 hW0=> ?_;obtain⟨B,hB⟩: ∃B,w.heap.size=B:=⟨_,rfl⟩;have hb0:Below w.heap.size w W0:=by rw[hW0];exact bel
 have c0:W0.cell? ⟨B,0,none⟩=some (.slice A0 n0 k0):=by rw[hW0,<-hB];simp[go_sem]
 have c1:W0.cell? ⟨B,1,none⟩=some (.slice A1 n1 k1):=by rw[hW0,<-hB];simp[go_sem]
 have c2:W0.cell? ⟨B,2,none⟩=some (.slice A2 (fN p 2) k2):=by rw[hW0,<-hB];simp[go_sem]
 have c3:W0.cell? ⟨B,3,none⟩=some (.slice A3 (fN p 3) k3):=by rw[hW0,<-hB];simp[go_sem]
 have c4:W0.cell? ⟨B,4,none⟩=some (.slice A4 n4 k4):=by rw[hW0,<-hB];simp[go_sem]
 have c5:W0.cell? ⟨B,5,none⟩=some (.slice A5 n5 k5):=by rw[hW0,<-hB];simp[go_sem]
 have c6:W0.cell? ⟨B,6,none⟩=some (.bool prel):=by rw[hW0,<-hB];simp[go_sem]
 have c7:W0.cell? ⟨B,7,none⟩=some (.int .i64 pd):=by rw[hW0,<-hB];simp[go_sem]
 have c8:W0.cell? ⟨B,8,none⟩=some (.int .i64 pnm):=by rw[hW0,<-hB];simp[go_sem]
 have c9:W0.cell? ⟨B,9,none⟩=some (.int .i64 pv):=by rw[hW0,<-hB];simp[go_sem]
 have hBl:B<W0.heap.size:=World.block_lt_of_cell? W0 _ c0;have HB0:=z2c hb0;have HB:Hid (Below W0.heap.size W0 W0):=Below.refl _ _;have HCc:Hid (∀W,Below W0.heap.size W0 W-> ∀j x,W0.cell? ⟨B,j,none⟩=some x->W.cell? ⟨B,j,none⟩=some x):=fun W hb j x hx=>(hb.cell (p:=⟨B,j,none⟩) hBl).trans hx;rw[hB];clear hW0 hb0 hB HRt;go_wp2_with fail
 go_loopw [5] (fun i wr=> ∃k:Nat,k<=n0/\i= .int .i64 (k:Nat)/\Hid (Q0=(p.tags.drop k).any zcz)/\Hid (Below W0.heap.size W0 wr)) (fun i _=>n0-(intOf i).toNat)
 case atStart=>exact⟨0,by omega,rfl,by show _=_;rw[HQ0.out,z2w],by first|exact HB.out|(show Below _ _ _;exact HB.out.trans ((bel:Below _ _ _).mono HB.out.size))⟩
 case round=>
  clear HB;obtain⟨k,hk,rfl,HK,HB⟩:=hrel;have HBw:=z2c (HB0.out.trans (HB.out.mono HB0.out.size));have hBr:B<wr.heap.size:=z2g hBl HB.out.size;have z0:=HCc.out wr HB.out 0 _ c0;have HGw:=z2c (fun W (hb:Below wr.heap.size wr W)=>HBw.out.trans (hb.mono HBw.out.size));by_cases hlt:k<n0
  ·obtain⟨b,off,hAe,hb,hc⟩: ∃b off,A0=some ⟨b,off,none⟩/\b<w.heap.size/\ ∀j u,(fC p 0)[j]? =some u->w.cell? ⟨b,off+j,none⟩=some u:=by
    obtain⟨_,_,A',c',e,h9⟩:=H0.out;cases e;obtain⟨b,off,h1,h2,h3⟩:=h9 (by omega);exact⟨b,off,h1,h2,h3⟩
   subst hAe;have hkl:k<p.tags.length:=by rw[HN0.out];exact hlt
   obtain⟨x,hx⟩: ∃x,p.tags[k]=x:=⟨_,rfl⟩;have x0:wr.cell? ⟨b,off+k,none⟩=some (.string ⟨x.toArray⟩):=(HBw.out.cell (p:=⟨b,off+k,none⟩) hb).trans (hc k (sv x) (by show(p.tags.map sv)[k]? =_;simp[hkl,hx]));have hbr:b<wr.heap.size:=z2g hb HBw.out.size;have hxm:x∈p.tags:=hx ▸ z26 hkl;have HXm:=z2c hxm;have HD:Hid (p.tags.drop k=x::p.tags.drop (k+1)):=by show _=_;rw[z2m hkl,hx]
   clear hc hx hkl hxm;have HC:=z2c (fun W=>show Calls z2f 61 #[.string ⟨x.toArray⟩] W _ from zmt x W);obtain⟨T,hT⟩: ∃T,zcz x=T:=⟨_,rfl⟩;rw[hT]at HC;have HT0:Hid (Q0=(T||(p.tags.drop (k+1)).any zcz)):=by show _=_;rw[HK.out,HD.out,z3h,<-hT]
   clear hT HD HK HXm;generalize(⟨x.toArray⟩:ByteArray)=b0 at*;cases T with
   |true=>
    have HT:Hid (Q0=true):=by show _=_;rw[HT0.out];simp
    have HRn:Hid (RW=6):=by show _=_;rw[HRW.out,HT.out];rfl
    clear HT0;go_wp2_with(go_at_call 61;(with_reducible refine(HC.out _).mono ?_);rintro e W1 ⟨rfl,X1,rfl⟩)
    go_ret2;exact⟨HBw.out.trans ((bel:Below wr.heap.size wr _).mono HBw.out.size),.inl ⟨by rw[HRn.out];decide,by rw[HRn.out];rfl⟩⟩
   |false=>
    have HT:Hid (Q0=(p.tags.drop (k+1)).any zcz):=by show _=_;rw[HT0.out];simp
    clear HT0;go_wp2_with(go_at_call 61;(with_reducible refine(HC.out _).mono ?_);rintro e W1 ⟨rfl,X1,rfl⟩)
    go_roundw
    case rel=>exact⟨k+1,by omega,by go_num,HT.out,by show Below _ _ _;exact HB.out.trans ((bel:Below wr.heap.size wr _).mono HB.out.size)⟩
    case measure=>simp[intOf];omega
  ·have HF0:Hid (Q0=false):=by show _=_;rw[HK.out,z2o (by rw[HN0.out];omega)];rfl
   go_wp2_with fail
   clear HK hlt z0 HGw HQ0;go_loopw [6] (fun i wr=> ∃k:Nat,k<=n4/\i= .int .i64 (k:Nat)/\Hid (Q1=(p.attrs.drop k).any (fun a=>zbk a.name))/\Hid (Below W0.heap.size W0 wr)) (fun i _=>n4-(intOf i).toNat)
   case atStart=>exact⟨0,by omega,rfl,by show _=_;rw[HQ1.out,z2w],by first|exact HB.out|(show Below _ _ _;exact HB.out.trans ((bel:Below _ _ _).mono HB.out.size))⟩
   case round=>
    clear HB;obtain⟨k,hk,rfl,HK,HB⟩:=hrel;have HBw:=z2c (HB0.out.trans (HB.out.mono HB0.out.size));have hBr:B<wr.heap.size:=z2g hBl HB.out.size;have z4:=HCc.out wr HB.out 4 _ c4;have HGw:=z2c (fun W (hb:Below wr.heap.size wr W)=>HBw.out.trans (hb.mono HBw.out.size));by_cases hlt:k<n4
    ·obtain⟨b,off,hAe,hb,hc⟩: ∃b off,A4=some ⟨b,off,none⟩/\b<w.heap.size/\ ∀j u,(fC p 4)[j]? =some u->w.cell? ⟨b,off+j,none⟩=some u:=by
      obtain⟨_,_,A',c',e,h9⟩:=H4.out;cases e;obtain⟨b,off,h1,h2,h3⟩:=h9 (by omega);exact⟨b,off,h1,h2,h3⟩
     subst hAe;have hkl:k<p.attrs.length:=by rw[HN4.out];exact hlt
     obtain⟨x,hx⟩: ∃x,p.attrs[k]=x:=⟨_,rfl⟩;have x0:wr.cell? ⟨b,off+k*2,none⟩=some (.string ⟨x.tag.toArray⟩):=(HBw.out.cell (p:=⟨b,off+k*2,none⟩) hb).trans (hc (k*2+0) (sv x.tag) (by show(p.attrs.flatMap Alw.cells)[_]? =_;rw[zbh Alw.cells 2 (fun _=>rfl) p.attrs k 0 hkl (by omega),hx];rfl));have x1:wr.cell? ⟨b,off+k*2+1,none⟩=some (.string ⟨x.name.toArray⟩):=(HBw.out.cell (p:=⟨b,off+k*2+1,none⟩) hb).trans ((congrArg (fun i=>w.cell? ⟨b,i,none⟩) (by omega)).trans (hc (k*2+1) (sv x.name) (by show(p.attrs.flatMap Alw.cells)[_]? =_;rw[zbh Alw.cells 2 (fun _=>rfl) p.attrs k 1 hkl (by omega),hx];rfl)));have hbr:b<wr.heap.size:=z2g hb HBw.out.size;have hxm:x∈p.attrs:=hx ▸ z26 hkl;have HXm:=z2c hxm;have HD:Hid (p.attrs.drop k=x::p.attrs.drop (k+1)):=by show _=_;rw[z2m hkl,hx]
     clear hc hx hkl hxm;have hle:x.name.length<=1000000:=by have:=(HWd.out.attrs x HXm.out).2;omega
     have HC:=z2c (fun W=>show Calls z2f 62 #[.string ⟨x.name.toArray⟩] W _ from zg9 x.name W hle);obtain⟨T,hT⟩: ∃T,zbk x.name=T:=⟨_,rfl⟩;rw[hT]at HC;have HT0:Hid (Q1=(T||(p.attrs.drop (k+1)).any (fun a=>zbk a.name))):=by show _=_;rw[HK.out,HD.out,z3h,<-hT]
     clear hT HD HK HXm;generalize(⟨x.tag.toArray⟩:ByteArray)=b0 at*;generalize(⟨x.name.toArray⟩:ByteArray)=b1 at*;cases T with
     |true=>
      have HT:Hid (Q1=true):=by show _=_;rw[HT0.out];simp
      have HRn:Hid (RW=6):=by show _=_;rw[HRW.out,HT.out,HF0.out];rfl
      clear HT0;go_wp2_with(go_at_call 62;(with_reducible refine(HC.out _).mono ?_);rintro e W1 ⟨rfl,X1,rfl⟩)
      go_ret2;exact⟨HBw.out.trans ((bel:Below wr.heap.size wr _).mono HBw.out.size),.inl ⟨by rw[HRn.out];decide,by rw[HRn.out];rfl⟩⟩
     |false=>
      have HT:Hid (Q1=(p.attrs.drop (k+1)).any (fun a=>zbk a.name)):=by show _=_;rw[HT0.out];simp
      clear HT0;go_wp2_with(go_at_call 62;(with_reducible refine(HC.out _).mono ?_);rintro e W1 ⟨rfl,X1,rfl⟩)
      go_roundw
      case rel=>exact⟨k+1,by omega,by go_num,HT.out,by show Below _ _ _;exact HB.out.trans ((bel:Below wr.heap.size wr _).mono HB.out.size)⟩
      case measure=>simp[intOf];omega
    ·have HF1:Hid (Q1=false):=by show _=_;rw[HK.out,z2o (by rw[HN4.out];omega)];rfl
     go_wp2_with fail
     clear HK hlt z4 HGw HQ1;go_loopw [7] (fun i wr=> ∃k:Nat,k<=n5/\i= .int .i64 (k:Nat)/\Hid (Q2=(p.forces.drop k).any (fun f=>zbk f.name))/\Hid (Below W0.heap.size W0 wr)) (fun i _=>n5-(intOf i).toNat)
     case atStart=>exact⟨0,by omega,rfl,by show _=_;rw[HQ2.out,z2w],by first|exact HB.out|(show Below _ _ _;exact HB.out.trans ((bel:Below _ _ _).mono HB.out.size))⟩
     case round=>
      clear HB;obtain⟨k,hk,rfl,HK,HB⟩:=hrel;have HBw:=z2c (HB0.out.trans (HB.out.mono HB0.out.size));have hBr:B<wr.heap.size:=z2g hBl HB.out.size;have z5:=HCc.out wr HB.out 5 _ c5;have HGw:=z2c (fun W (hb:Below wr.heap.size wr W)=>HBw.out.trans (hb.mono HBw.out.size));by_cases hlt:k<n5
      ·obtain⟨b,off,hAe,hb,hc⟩: ∃b off,A5=some ⟨b,off,none⟩/\b<w.heap.size/\ ∀j u,(fC p 5)[j]? =some u->w.cell? ⟨b,off+j,none⟩=some u:=by
        obtain⟨_,_,A',c',e,h9⟩:=H5.out;cases e;obtain⟨b,off,h1,h2,h3⟩:=h9 (by omega);exact⟨b,off,h1,h2,h3⟩
       subst hAe;have hkl:k<p.forces.length:=by rw[HN5.out];exact hlt
       obtain⟨x,hx⟩: ∃x,p.forces[k]=x:=⟨_,rfl⟩;have x0:wr.cell? ⟨b,off+k*3,none⟩=some (.string ⟨x.tag.toArray⟩):=(HBw.out.cell (p:=⟨b,off+k*3,none⟩) hb).trans (hc (k*3+0) (sv x.tag) (by show(p.forces.flatMap Frc.cells)[_]? =_;rw[zbh Frc.cells 3 (fun _=>rfl) p.forces k 0 hkl (by omega),hx];rfl));have x1:wr.cell? ⟨b,off+k*3+1,none⟩=some (.string ⟨x.name.toArray⟩):=(HBw.out.cell (p:=⟨b,off+k*3+1,none⟩) hb).trans ((congrArg (fun i=>w.cell? ⟨b,i,none⟩) (by omega)).trans (hc (k*3+1) (sv x.name) (by show(p.forces.flatMap Frc.cells)[_]? =_;rw[zbh Frc.cells 3 (fun _=>rfl) p.forces k 1 hkl (by omega),hx];rfl)));have x2:wr.cell? ⟨b,off+k*3+2,none⟩=some (.string ⟨x.value.toArray⟩):=(HBw.out.cell (p:=⟨b,off+k*3+2,none⟩) hb).trans ((congrArg (fun i=>w.cell? ⟨b,i,none⟩) (by omega)).trans (hc (k*3+2) (sv x.value) (by show(p.forces.flatMap Frc.cells)[_]? =_;rw[zbh Frc.cells 3 (fun _=>rfl) p.forces k 2 hkl (by omega),hx];rfl)));have hbr:b<wr.heap.size:=z2g hb HBw.out.size;have hxm:x∈p.forces:=hx ▸ z26 hkl;have HXm:=z2c hxm;have HD:Hid (p.forces.drop k=x::p.forces.drop (k+1)):=by show _=_;rw[z2m hkl,hx]
       clear hc hx hkl hxm;have hle:x.name.length<=1000000:=by have:=(HWd.out.forces x HXm.out).2;omega
       have HC:=z2c (fun W=>show Calls z2f 62 #[.string ⟨x.name.toArray⟩] W _ from zg9 x.name W hle);obtain⟨T,hT⟩: ∃T,zbk x.name=T:=⟨_,rfl⟩;rw[hT]at HC;have HT0:Hid (Q2=(T||(p.forces.drop (k+1)).any (fun f=>zbk f.name))):=by show _=_;rw[HK.out,HD.out,z3h,<-hT]
       clear hT HD HK HXm;generalize(⟨x.tag.toArray⟩:ByteArray)=b0 at*;generalize(⟨x.name.toArray⟩:ByteArray)=b1 at*;generalize(⟨x.value.toArray⟩:ByteArray)=b2 at*;cases T with
       |true=>
        have HT:Hid (Q2=true):=by show _=_;rw[HT0.out];simp
        have HRn:Hid (RW=6):=by show _=_;rw[HRW.out,HT.out,HF0.out,HF1.out];rfl
        clear HT0;go_wp2_with(go_at_call 62;(with_reducible refine(HC.out _).mono ?_);rintro e W1 ⟨rfl,X1,rfl⟩)
        go_ret2;exact⟨HBw.out.trans ((bel:Below wr.heap.size wr _).mono HBw.out.size),.inl ⟨by rw[HRn.out];decide,by rw[HRn.out];rfl⟩⟩
       |false=>
        have HT:Hid (Q2=(p.forces.drop (k+1)).any (fun f=>zbk f.name)):=by show _=_;rw[HT0.out];simp
        clear HT0;go_wp2_with(go_at_call 62;(with_reducible refine(HC.out _).mono ?_);rintro e W1 ⟨rfl,X1,rfl⟩)
        go_roundw
        case rel=>exact⟨k+1,by omega,by go_num,HT.out,by show Below _ _ _;exact HB.out.trans ((bel:Below wr.heap.size wr _).mono HB.out.size)⟩
        case measure=>simp[intOf];omega
      ·have HF2:Hid (Q2=false):=by show _=_;rw[HK.out,z2o (by rw[HN5.out];omega)];rfl
       go_wp2_with fail
       clear HK hlt z5 HGw HQ2;go_loopw [8] (fun i wr=> ∃k:Nat,k<=n1/\i= .int .i64 (k:Nat)/\Hid (Q3=(p.schemes.drop k).any zhz)/\Hid (Below W0.heap.size W0 wr)) (fun i _=>n1-(intOf i).toNat)
       case atStart=>exact⟨0,by omega,rfl,by show _=_;rw[HQ3.out,z2w],by first|exact HB.out|(show Below _ _ _;exact HB.out.trans ((bel:Below _ _ _).mono HB.out.size))⟩
       case round=>
        clear HB;obtain⟨k,hk,rfl,HK,HB⟩:=hrel;have HBw:=z2c (HB0.out.trans (HB.out.mono HB0.out.size));have hBr:B<wr.heap.size:=z2g hBl HB.out.size;have z1:=HCc.out wr HB.out 1 _ c1;have HGw:=z2c (fun W (hb:Below wr.heap.size wr W)=>HBw.out.trans (hb.mono HBw.out.size));by_cases hlt:k<n1
        ·obtain⟨b,off,hAe,hb,hc⟩: ∃b off,A1=some ⟨b,off,none⟩/\b<w.heap.size/\ ∀j u,(fC p 1)[j]? =some u->w.cell? ⟨b,off+j,none⟩=some u:=by
          obtain⟨_,_,A',c',e,h9⟩:=H1.out;cases e;obtain⟨b,off,h1,h2,h3⟩:=h9 (by omega);exact⟨b,off,h1,h2,h3⟩
         subst hAe;have hkl:k<p.schemes.length:=by rw[HN1.out];exact hlt
         obtain⟨x,hx⟩: ∃x,p.schemes[k]=x:=⟨_,rfl⟩;have x0:wr.cell? ⟨b,off+k,none⟩=some (.string ⟨x.toArray⟩):=(HBw.out.cell (p:=⟨b,off+k,none⟩) hb).trans (hc k (sv x) (by show(p.schemes.map sv)[k]? =_;simp[hkl,hx]));have hbr:b<wr.heap.size:=z2g hb HBw.out.size;have hxm:x∈p.schemes:=hx ▸ z26 hkl;have HXm:=z2c hxm;have HD:Hid (p.schemes.drop k=x::p.schemes.drop (k+1)):=by show _=_;rw[z2m hkl,hx]
         clear hc hx hkl hxm;have HC:=z2c (fun(W:World) c (hc:c=(([[106,97,118,97,115,99,114,105,112,116],[118,98,115,99,114,105,112,116],[100,97,116,97]]:List Bs).map sv).toArray)=>show Calls z2f 63 #[.string ⟨x.toArray⟩,.slice (some ⟨W.heap.size,0,none⟩) 3 3] (W.alloc (.cells c 9)) (Ret (.bool (zhz x)) (W.alloc (.cells c 9)))from zjz x (.slice (some ⟨W.heap.size,0,none⟩) 3 3) [[106,97,118,97,115,99,114,105,112,116],[118,98,115,99,114,105,112,116],[100,97,116,97]] (W.alloc (.cells c 9)) (zxw (e:=9) (n:=3) rfl hc rfl (by decide)));obtain⟨T,hT⟩: ∃T,zhz x=T:=⟨_,rfl⟩;rw[hT]at HC;have HT0:Hid (Q3=(T||(p.schemes.drop (k+1)).any zhz)):=by show _=_;rw[HK.out,HD.out,z3h,<-hT]
         clear hT HD HK HXm;generalize(⟨x.toArray⟩:ByteArray)=b0 at*;cases T with
         |true=>
          have HT:Hid (Q3=true):=by show _=_;rw[HT0.out];simp
          have HRn:Hid (RW=6):=by show _=_;rw[HRW.out,HT.out,HF0.out,HF1.out,HF2.out];rfl
          clear HT0;go_wp2_with(go_at_call 63;(refine(HC.out wr _ rfl).mono ?_);rintro e W1 ⟨rfl,X1,rfl⟩)
          go_ret2;exact⟨HBw.out.trans ((bel:Below wr.heap.size wr _).mono HBw.out.size),.inl ⟨by rw[HRn.out];decide,by rw[HRn.out];rfl⟩⟩
         |false=>
          have HT:Hid (Q3=(p.schemes.drop (k+1)).any zhz):=by show _=_;rw[HT0.out];simp
          clear HT0;go_wp2_with(go_at_call 63;(refine(HC.out wr _ rfl).mono ?_);rintro e W1 ⟨rfl,X1,rfl⟩)
          go_roundw
          case rel=>exact⟨k+1,by omega,by go_num,HT.out,by show Below _ _ _;exact HB.out.trans ((bel:Below wr.heap.size wr _).mono HB.out.size)⟩
          case measure=>simp[intOf];omega
        ·have HF3:Hid (Q3=false):=by show _=_;rw[HK.out,z2o (by rw[HN1.out];omega)];rfl
         go_wp2_with fail
         clear HK hlt z1 HGw HQ3;go_loopw [9] (fun i wr=> ∃k:Nat,k<=n0/\i= .int .i64 (k:Nat)/\Hid (Q4=(p.tags.drop k).any (zhr p))/\Hid (Below W0.heap.size W0 wr)) (fun i _=>n0-(intOf i).toNat)
         case atStart=>exact⟨0,by omega,rfl,by show _=_;rw[HQ4.out,z2w],by first|exact HB.out|(show Below _ _ _;exact HB.out.trans ((bel:Below _ _ _).mono HB.out.size))⟩
         case round=>
          clear HB;obtain⟨k,hk,rfl,HK,HB⟩:=hrel;have HBw:=z2c (HB0.out.trans (HB.out.mono HB0.out.size));have hBr:B<wr.heap.size:=z2g hBl HB.out.size;have z0:=HCc.out wr HB.out 0 _ c0;have z3:=HCc.out wr HB.out 3 _ c3;have HGw:=z2c (fun W (hb:Below wr.heap.size wr W)=>HBw.out.trans (hb.mono HBw.out.size));by_cases hlt:k<n0
          ·obtain⟨b,off,hAe,hb,hc⟩: ∃b off,A0=some ⟨b,off,none⟩/\b<w.heap.size/\ ∀j u,(fC p 0)[j]? =some u->w.cell? ⟨b,off+j,none⟩=some u:=by
            obtain⟨_,_,A',c',e,h9⟩:=H0.out;cases e;obtain⟨b,off,h1,h2,h3⟩:=h9 (by omega);exact⟨b,off,h1,h2,h3⟩
           subst hAe;have hkl:k<p.tags.length:=by rw[HN0.out];exact hlt
           obtain⟨x,hx⟩: ∃x,p.tags[k]=x:=⟨_,rfl⟩;have x0:wr.cell? ⟨b,off+k,none⟩=some (.string ⟨x.toArray⟩):=(HBw.out.cell (p:=⟨b,off+k,none⟩) hb).trans (hc k (sv x) (by show(p.tags.map sv)[k]? =_;simp[hkl,hx]));have hbr:b<wr.heap.size:=z2g hb HBw.out.size;have hxm:x∈p.tags:=hx ▸ z26 hkl;have HXm:=z2c hxm;have HD:Hid (p.tags.drop k=x::p.tags.drop (k+1)):=by show _=_;rw[z2m hkl,hx]
           clear hc hx hkl hxm;have HC:=z2c (fun W hb=>show Calls z2f 63 #[.string ⟨x.toArray⟩,.slice A3 (fN p 3) k3] W (Ret (.bool (zhr p x)) W)from HId.out W x (HGw.out W hb));obtain⟨T,hT⟩: ∃T,zhr p x=T:=⟨_,rfl⟩;rw[hT]at HC;have HT0:Hid (Q4=(T||(p.tags.drop (k+1)).any (zhr p))):=by show _=_;rw[HK.out,HD.out,z3h,<-hT]
           clear hT HD HK HXm;generalize(⟨x.toArray⟩:ByteArray)=b0 at*;cases T with
           |true=>
            have HT:Hid (Q4=true):=by show _=_;rw[HT0.out];simp
            have HRn:Hid (RW=5):=by show _=_;rw[HRW.out,HT.out,HF0.out,HF1.out,HF2.out,HF3.out];rfl
            clear HT0;go_upto_region 27 with fail
            refine zad (by kernel_rfl) (by kernel_rfl) ?_;repeat(go_big_quiet_step((go_at_call 63;with_reducible exact Calls.grow_of (HC.out _ bel))))
            refine wpQuiet_nil ?_;intro _ hw';obtain⟨nq,hw''⟩:=hw';subst hw'';go_wp2_with fail
            go_ret2;exact⟨HBw.out.trans ((bel:Below wr.heap.size wr _).mono HBw.out.size),.inl ⟨by rw[HRn.out];decide,by rw[HRn.out];rfl⟩⟩
           |false=>
            have HT:Hid (Q4=(p.tags.drop (k+1)).any (zhr p)):=by show _=_;rw[HT0.out];simp
            clear HT0;go_upto_region 27 with fail
            refine zad (by kernel_rfl) (by kernel_rfl) ?_;repeat(go_big_quiet_step((go_at_call 63;with_reducible exact Calls.grow_of (HC.out _ bel))))
            refine wpQuiet_nil ?_;intro _ hw';obtain⟨nq,hw''⟩:=hw';subst hw'';go_wp2_with fail
            go_roundw
            case rel=>exact⟨k+1,by omega,by go_num,HT.out,by show Below _ _ _;exact HB.out.trans ((bel:Below wr.heap.size wr _).mono HB.out.size)⟩
            case measure=>simp[intOf];omega
          ·have HF4:Hid (Q4=false):=by show _=_;rw[HK.out,z2o (by rw[HN0.out];omega)];rfl
           go_wp2_with fail
           clear HK hlt z0 z3 HGw HQ4;go_loopw [10] (fun i wr=> ∃k:Nat,k<=n5/\i= .int .i64 (k:Nat)/\Hid (Q5=(p.forces.drop k).any (fun f=> !tagR p f.tag))/\Hid (Below W0.heap.size W0 wr)) (fun i _=>n5-(intOf i).toNat)
           case atStart=>exact⟨0,by omega,rfl,by show _=_;rw[HQ5.out,z2w],by first|exact HB.out|(show Below _ _ _;exact HB.out.trans ((bel:Below _ _ _).mono HB.out.size))⟩
           case round=>
            clear HB;obtain⟨k,hk,rfl,HK,HB⟩:=hrel;have HBw:=z2c (HB0.out.trans (HB.out.mono HB0.out.size));have hBr:B<wr.heap.size:=z2g hBl HB.out.size;have z5:=HCc.out wr HB.out 5 _ c5;have z0:=HCc.out wr HB.out 0 _ c0;have HGw:=z2c (fun W (hb:Below wr.heap.size wr W)=>HBw.out.trans (hb.mono HBw.out.size));by_cases hlt:k<n5
            ·obtain⟨b,off,hAe,hb,hc⟩: ∃b off,A5=some ⟨b,off,none⟩/\b<w.heap.size/\ ∀j u,(fC p 5)[j]? =some u->w.cell? ⟨b,off+j,none⟩=some u:=by
              obtain⟨_,_,A',c',e,h9⟩:=H5.out;cases e;obtain⟨b,off,h1,h2,h3⟩:=h9 (by omega);exact⟨b,off,h1,h2,h3⟩
             subst hAe;have hkl:k<p.forces.length:=by rw[HN5.out];exact hlt
             obtain⟨x,hx⟩: ∃x,p.forces[k]=x:=⟨_,rfl⟩;have x0:wr.cell? ⟨b,off+k*3,none⟩=some (.string ⟨x.tag.toArray⟩):=(HBw.out.cell (p:=⟨b,off+k*3,none⟩) hb).trans (hc (k*3+0) (sv x.tag) (by show(p.forces.flatMap Frc.cells)[_]? =_;rw[zbh Frc.cells 3 (fun _=>rfl) p.forces k 0 hkl (by omega),hx];rfl));have x1:wr.cell? ⟨b,off+k*3+1,none⟩=some (.string ⟨x.name.toArray⟩):=(HBw.out.cell (p:=⟨b,off+k*3+1,none⟩) hb).trans ((congrArg (fun i=>w.cell? ⟨b,i,none⟩) (by omega)).trans (hc (k*3+1) (sv x.name) (by show(p.forces.flatMap Frc.cells)[_]? =_;rw[zbh Frc.cells 3 (fun _=>rfl) p.forces k 1 hkl (by omega),hx];rfl)));have x2:wr.cell? ⟨b,off+k*3+2,none⟩=some (.string ⟨x.value.toArray⟩):=(HBw.out.cell (p:=⟨b,off+k*3+2,none⟩) hb).trans ((congrArg (fun i=>w.cell? ⟨b,i,none⟩) (by omega)).trans (hc (k*3+2) (sv x.value) (by show(p.forces.flatMap Frc.cells)[_]? =_;rw[zbh Frc.cells 3 (fun _=>rfl) p.forces k 2 hkl (by omega),hx];rfl)));have hbr:b<wr.heap.size:=z2g hb HBw.out.size;have hxm:x∈p.forces:=hx ▸ z26 hkl;have HXm:=z2c hxm;have HD:Hid (p.forces.drop k=x::p.forces.drop (k+1)):=by show _=_;rw[z2m hkl,hx]
             clear hc hx hkl hxm;have HC:=z2c (fun W hb=>show Calls z2f 63 #[.string ⟨x.tag.toArray⟩,.slice A0 n0 k0] W (Ret (.bool (tagR p x.tag)) W)from HIt.out W x.tag (HGw.out W hb));obtain⟨T,hT⟩: ∃T,tagR p x.tag=T:=⟨_,rfl⟩;rw[hT]at HC;have HT0:Hid (Q5=(!T||(p.forces.drop (k+1)).any (fun f=> !tagR p f.tag))):=by show _=_;rw[HK.out,HD.out,z3h,<-hT]
             clear hT HD HK HXm;generalize(⟨x.tag.toArray⟩:ByteArray)=b0 at*;generalize(⟨x.name.toArray⟩:ByteArray)=b1 at*;generalize(⟨x.value.toArray⟩:ByteArray)=b2 at*;cases T with
             |true=>
              have HT:Hid (Q5=(p.forces.drop (k+1)).any (fun f=> !tagR p f.tag)):=by show _=_;rw[HT0.out];simp
              clear HT0;go_upto_region 32 with fail
              refine zad (by kernel_rfl) (by kernel_rfl) ?_;repeat(go_big_quiet_step((go_at_call 63;with_reducible exact Calls.grow_of (HC.out _ bel))))
              refine wpQuiet_nil ?_;intro _ hw';obtain⟨nq,hw''⟩:=hw';subst hw'';go_wp2_with fail
              go_roundw
              case rel=>exact⟨k+1,by omega,by go_num,HT.out,by show Below _ _ _;exact HB.out.trans ((bel:Below wr.heap.size wr _).mono HB.out.size)⟩
              case measure=>simp[intOf];omega
             |false=>
              have HT:Hid (Q5=true):=by show _=_;rw[HT0.out];simp
              have HRn:Hid (RW=4):=by show _=_;rw[HRW.out,HT.out,HF0.out,HF1.out,HF2.out,HF3.out,HF4.out];rfl
              clear HT0;go_upto_region 32 with fail
              refine zad (by kernel_rfl) (by kernel_rfl) ?_;repeat(go_big_quiet_step((go_at_call 63;with_reducible exact Calls.grow_of (HC.out _ bel))))
              refine wpQuiet_nil ?_;intro _ hw';obtain⟨nq,hw''⟩:=hw';subst hw'';go_wp2_with fail
              go_ret2;exact⟨HBw.out.trans ((bel:Below wr.heap.size wr _).mono HBw.out.size),.inl ⟨by rw[HRn.out];decide,by rw[HRn.out];rfl⟩⟩
            ·have HF5:Hid (Q5=false):=by show _=_;rw[HK.out,z2o (by rw[HN5.out];omega)];rfl
             go_wp2_with fail
             clear HK hlt z5 z0 HGw HQ5;go_loopw [11] (fun i wr=> ∃k:Nat,k<=n4/\i= .int .i64 (k:Nat)/\Hid (Q6=(p.attrs.drop k).any (fun a=> !decide (a.tag=[42])&& !tagR p a.tag))/\Hid (Below W0.heap.size W0 wr)) (fun i _=>n4-(intOf i).toNat)
             case atStart=>exact⟨0,by omega,rfl,by show _=_;rw[HQ6.out,z2w],by first|exact HB.out|(show Below _ _ _;exact HB.out.trans ((bel:Below _ _ _).mono HB.out.size))⟩
             case round=>
              clear HB;obtain⟨k,hk,rfl,HK,HB⟩:=hrel;have HBw:=z2c (HB0.out.trans (HB.out.mono HB0.out.size));have hBr:B<wr.heap.size:=z2g hBl HB.out.size;have z4:=HCc.out wr HB.out 4 _ c4;have z0:=HCc.out wr HB.out 0 _ c0;have HGw:=z2c (fun W (hb:Below wr.heap.size wr W)=>HBw.out.trans (hb.mono HBw.out.size));by_cases hlt:k<n4
              ·obtain⟨b,off,hAe,hb,hc⟩: ∃b off,A4=some ⟨b,off,none⟩/\b<w.heap.size/\ ∀j u,(fC p 4)[j]? =some u->w.cell? ⟨b,off+j,none⟩=some u:=by
                obtain⟨_,_,A',c',e,h9⟩:=H4.out;cases e;obtain⟨b,off,h1,h2,h3⟩:=h9 (by omega);exact⟨b,off,h1,h2,h3⟩
               subst hAe;have hkl:k<p.attrs.length:=by rw[HN4.out];exact hlt
               obtain⟨x,hx⟩: ∃x,p.attrs[k]=x:=⟨_,rfl⟩;have x0:wr.cell? ⟨b,off+k*2,none⟩=some (.string ⟨x.tag.toArray⟩):=(HBw.out.cell (p:=⟨b,off+k*2,none⟩) hb).trans (hc (k*2+0) (sv x.tag) (by show(p.attrs.flatMap Alw.cells)[_]? =_;rw[zbh Alw.cells 2 (fun _=>rfl) p.attrs k 0 hkl (by omega),hx];rfl));have x1:wr.cell? ⟨b,off+k*2+1,none⟩=some (.string ⟨x.name.toArray⟩):=(HBw.out.cell (p:=⟨b,off+k*2+1,none⟩) hb).trans ((congrArg (fun i=>w.cell? ⟨b,i,none⟩) (by omega)).trans (hc (k*2+1) (sv x.name) (by show(p.attrs.flatMap Alw.cells)[_]? =_;rw[zbh Alw.cells 2 (fun _=>rfl) p.attrs k 1 hkl (by omega),hx];rfl)));have hbr:b<wr.heap.size:=z2g hb HBw.out.size;have hxm:x∈p.attrs:=hx ▸ z26 hkl;have HXm:=z2c hxm;have HD:Hid (p.attrs.drop k=x::p.attrs.drop (k+1)):=by show _=_;rw[z2m hkl,hx]
               clear hc hx hkl hxm;have HC:=z2c (fun W hb=>show Calls z2f 63 #[.string ⟨x.tag.toArray⟩,.slice A0 n0 k0] W (Ret (.bool (tagR p x.tag)) W)from HIt.out W x.tag (HGw.out W hb));have hq:((⟨x.tag.toArray⟩:ByteArray).toList==[42])=decide (x.tag=[42]):=by rw[zcd]
               obtain⟨T,hT⟩: ∃T,tagR p x.tag=T:=⟨_,rfl⟩;rw[hT]at HC;obtain⟨S,hS⟩: ∃S,decide (x.tag=[42])=S:=⟨_,rfl⟩;rw[hS]at hq;have HT0:Hid (Q6=((!S&& !T)||(p.attrs.drop (k+1)).any (fun a=> !decide (a.tag=[42])&& !tagR p a.tag))):=by show _=_;rw[HK.out,HD.out,z3h,<-hT,<-hS]
               clear hT hS HD HK HXm;generalize(⟨x.tag.toArray⟩:ByteArray)=b0 at*;generalize(⟨x.name.toArray⟩:ByteArray)=b1 at*;have hS0:Below wr.heap.size wr wr.drew:=bel;cases S with
               |true=>
                have HT:Hid (Q6=(p.attrs.drop (k+1)).any (fun a=> !decide (a.tag=[42])&& !tagR p a.tag)):=by show _=_;rw[HT0.out];simp
                clear HT0;go_upto_region 37 with fail
                refine zak 18 [(0,true),(1,true),(2,true),(3,true),(4,true),(5,true),(6,true),(7,true),(8,true),(9,true),(10,true),(11,true),(12,true),(13,true),(14,true),(15,true),(16,true),(17,true)] (fun V=>Below wr.heap.size wr V) hmx (by kernel_rfl) (by kernel_rfl) (by kernel_rfl) (by decide) rfl (fun c a d v w h=>by first|exact h|(obtain⟨x,y⟩:=(h:_/\_);cases d<;>exact⟨x,y⟩)) (by kernel_rfl) (by exact hS0) ?_;refine zaa (v:= .pointer (some ⟨B,4,none⟩)) 112 rfl rfl rfl (fun W hW=>by simp[execOp,go_sem]) ?_;simp only[Act.put,z2b,z2e,z2d];refine zaa (v:= .slice (some ⟨b,off,none⟩) n4 k4) 113 rfl rfl rfl (fun W hW=>by have d:=(hW.cell (p:=⟨B,4,none⟩) hBr).trans z4;simp[execOp,go_sem,d]) ?_;simp only[Act.put,z2b,z2e,z2d];refine zaa (v:= .int .i64 (k:Nat)) 114 rfl rfl rfl (fun W hW=>by simp[execOp,go_sem]) ?_;simp only[Act.put,z2b,z2e,z2d];refine zaa (v:= .pointer (some ⟨b,off+k*2,none⟩)) 115 rfl rfl rfl (fun W hW=>by simp[execOp,go_sem,hlt];try omega) ?_;simp only[Act.put,z2b,z2e,z2d];refine zaa (v:= .pointer (some ⟨b,off+k*2,none⟩)) 116 rfl rfl rfl (fun W hW=>by simp[execOp,go_sem]) ?_;simp only[Act.put,z2b,z2e,z2d];refine zaa (v:= .string b0) 117 rfl rfl rfl (fun W hW=>by have d:=(hW.cell (p:=⟨b,off+k*2,none⟩) hbr).trans x0;simp[execOp,go_sem,d]) ?_;simp only[Act.put,z2b,z2e,z2d];refine zaa (v:= .bool false) 118 rfl rfl rfl (fun W hW=>by simp[execOp,go_sem,hq]) ?_;simp only[Act.put,z2b,z2e,z2d];refine zaa (v:= .bool false) 119 rfl rfl rfl (fun W hW=>by simp[execOp,go_sem]) ?_;simp only[Act.put,z2b,z2e,z2d];refine zaj 120 rfl rfl rfl ?_;simp only[Act.put,z2b,z2e,z2d];refine zaj 121 rfl rfl rfl ?_;simp only[Act.put,z2b,z2e,z2d];refine zaj 122 rfl rfl rfl ?_;simp only[Act.put,z2b,z2e,z2d];refine zaj 123 rfl rfl rfl ?_;simp only[Act.put,z2b,z2e,z2d];refine zaj 124 rfl rfl rfl ?_;simp only[Act.put,z2b,z2e,z2d];refine zaj 125 rfl rfl rfl ?_;simp only[Act.put,z2b,z2e,z2d];refine zaj 126 rfl rfl rfl ?_;simp only[Act.put,z2b,z2e,z2d];refine zaj 127 rfl rfl rfl ?_;simp only[Act.put,z2b,z2e,z2d];refine zaj 128 rfl rfl rfl ?_;simp only[Act.put,z2b,z2e,z2d];refine zaj 129 rfl rfl rfl ?_;simp only[Act.put,z2b,z2e,z2d];dsimp only[zbq,z4l];go_wp2_with fail
                go_roundw
                case rel=>exact⟨k+1,by omega,by go_num,HT.out,by show Below _ _ _;exact HB.out.trans ((bel:Below wr.heap.size wr _).mono HB.out.size)⟩
                case measure=>simp[intOf];omega
               |false=>
                cases T with
                |true=>
                 have HT:Hid (Q6=(p.attrs.drop (k+1)).any (fun a=> !decide (a.tag=[42])&& !tagR p a.tag)):=by show _=_;rw[HT0.out];simp
                 clear HT0;go_upto_region 37 with fail
                 refine zak 17 [(0,true),(1,true),(2,true),(3,true),(4,true),(5,true),(6,true),(7,true),(8,true),(9,true),(10,true),(11,true),(12,true),(13,true),(14,true),(15,true),(16,false)] (fun V=>Below wr.heap.size wr V) hmx (by kernel_rfl) (by kernel_rfl) (by kernel_rfl) (by decide) rfl (fun c a d v w h=>by first|exact h|(obtain⟨x,y⟩:=(h:_/\_);cases d<;>exact⟨x,y⟩)) (by kernel_rfl) (by exact hS0) ?_;refine zaa (v:= .pointer (some ⟨B,4,none⟩)) 112 rfl rfl rfl (fun W hW=>by simp[execOp,go_sem]) ?_;simp only[Act.put,z2b,z2e,z2d];refine zaa (v:= .slice (some ⟨b,off,none⟩) n4 k4) 113 rfl rfl rfl (fun W hW=>by have d:=(hW.cell (p:=⟨B,4,none⟩) hBr).trans z4;simp[execOp,go_sem,d]) ?_;simp only[Act.put,z2b,z2e,z2d];refine zaa (v:= .int .i64 (k:Nat)) 114 rfl rfl rfl (fun W hW=>by simp[execOp,go_sem]) ?_;simp only[Act.put,z2b,z2e,z2d];refine zaa (v:= .pointer (some ⟨b,off+k*2,none⟩)) 115 rfl rfl rfl (fun W hW=>by simp[execOp,go_sem,hlt];try omega) ?_;simp only[Act.put,z2b,z2e,z2d];refine zaa (v:= .pointer (some ⟨b,off+k*2,none⟩)) 116 rfl rfl rfl (fun W hW=>by simp[execOp,go_sem]) ?_;simp only[Act.put,z2b,z2e,z2d];refine zaa (v:= .string b0) 117 rfl rfl rfl (fun W hW=>by have d:=(hW.cell (p:=⟨b,off+k*2,none⟩) hbr).trans x0;simp[execOp,go_sem,d]) ?_;simp only[Act.put,z2b,z2e,z2d];refine zaa (v:= .bool true) 118 rfl rfl rfl (fun W hW=>by simp[execOp,go_sem,hq]) ?_;simp only[Act.put,z2b,z2e,z2d];refine zaa (v:= .bool true) 119 rfl rfl rfl (fun W hW=>by simp[execOp,go_sem]) ?_;simp only[Act.put,z2b,z2e,z2d];refine zaa (v:= .pointer (some ⟨B,4,none⟩)) 120 rfl rfl rfl (fun W hW=>by simp[execOp,go_sem]) ?_;simp only[Act.put,z2b,z2e,z2d];refine zaa (v:= .slice (some ⟨b,off,none⟩) n4 k4) 121 rfl rfl rfl (fun W hW=>by have d:=(hW.cell (p:=⟨B,4,none⟩) hBr).trans z4;simp[execOp,go_sem,d]) ?_;simp only[Act.put,z2b,z2e,z2d];refine zaa (v:= .int .i64 (k:Nat)) 122 rfl rfl rfl (fun W hW=>by simp[execOp,go_sem]) ?_;simp only[Act.put,z2b,z2e,z2d];refine zaa (v:= .pointer (some ⟨b,off+k*2,none⟩)) 123 rfl rfl rfl (fun W hW=>by simp[execOp,go_sem,hlt];try omega) ?_;simp only[Act.put,z2b,z2e,z2d];refine zaa (v:= .pointer (some ⟨b,off+k*2,none⟩)) 124 rfl rfl rfl (fun W hW=>by simp[execOp,go_sem]) ?_;simp only[Act.put,z2b,z2e,z2d];refine zaa (v:= .string b0) 125 rfl rfl rfl (fun W hW=>by have d:=(hW.cell (p:=⟨b,off+k*2,none⟩) hbr).trans x0;simp[execOp,go_sem,d]) ?_;simp only[Act.put,z2b,z2e,z2d];refine zaa (v:= .pointer (some ⟨B,0,none⟩)) 126 rfl rfl rfl (fun W hW=>by simp[execOp,go_sem]) ?_;simp only[Act.put,z2b,z2e,z2d];refine zaa (v:= .slice A0 n0 k0) 127 rfl rfl rfl (fun W hW=>by have d:=(hW.cell (p:=⟨B,0,none⟩) hBr).trans z0;simp[execOp,go_sem,d]) ?_;simp only[Act.put,z2b,z2e,z2d];refine zai rfl rfl fun Kc hKc=> ?_;unfold Oper.wp;simp[execOp,go_sem];refine(HC.out _ hS0).mono ?_;rintro e Wk1 ⟨rfl,Xk1,hXk1⟩;have hk1:Below wr.heap.size wr Wk1:=hS0.trans ((show Below wr.drew.heap.size wr.drew Wk1 by rw[hXk1];exact bel).mono hS0.size);clear hXk1;show Kc _ _;apply hKc;refine⟨hk1, ?_⟩;dsimp only[zbq,z4l];go_wp2_with fail
                 go_roundw
                 case rel=>exact⟨k+1,by omega,by go_num,HT.out,by show Below _ _ _;exact HB.out.trans (hk1.mono HB.out.size)⟩
                 case measure=>simp[intOf];omega
                |false=>
                 have HT:Hid (Q6=true):=by show _=_;rw[HT0.out];simp
                 have HRn:Hid (RW=4):=by show _=_;rw[HRW.out,HT.out,HF0.out,HF1.out,HF2.out,HF3.out,HF4.out,HF5.out];rfl
                 clear HT0;go_upto_region 37 with fail
                 refine zak 17 [(0,true),(1,true),(2,true),(3,true),(4,true),(5,true),(6,true),(7,true),(8,true),(9,true),(10,true),(11,true),(12,true),(13,true),(14,true),(15,true),(16,false)] (fun V=>Below wr.heap.size wr V) hmx (by kernel_rfl) (by kernel_rfl) (by kernel_rfl) (by decide) rfl (fun c a d v w h=>by first|exact h|(obtain⟨x,y⟩:=(h:_/\_);cases d<;>exact⟨x,y⟩)) (by kernel_rfl) (by exact hS0) ?_;refine zaa (v:= .pointer (some ⟨B,4,none⟩)) 112 rfl rfl rfl (fun W hW=>by simp[execOp,go_sem]) ?_;simp only[Act.put,z2b,z2e,z2d];refine zaa (v:= .slice (some ⟨b,off,none⟩) n4 k4) 113 rfl rfl rfl (fun W hW=>by have d:=(hW.cell (p:=⟨B,4,none⟩) hBr).trans z4;simp[execOp,go_sem,d]) ?_;simp only[Act.put,z2b,z2e,z2d];refine zaa (v:= .int .i64 (k:Nat)) 114 rfl rfl rfl (fun W hW=>by simp[execOp,go_sem]) ?_;simp only[Act.put,z2b,z2e,z2d];refine zaa (v:= .pointer (some ⟨b,off+k*2,none⟩)) 115 rfl rfl rfl (fun W hW=>by simp[execOp,go_sem,hlt];try omega) ?_;simp only[Act.put,z2b,z2e,z2d];refine zaa (v:= .pointer (some ⟨b,off+k*2,none⟩)) 116 rfl rfl rfl (fun W hW=>by simp[execOp,go_sem]) ?_;simp only[Act.put,z2b,z2e,z2d];refine zaa (v:= .string b0) 117 rfl rfl rfl (fun W hW=>by have d:=(hW.cell (p:=⟨b,off+k*2,none⟩) hbr).trans x0;simp[execOp,go_sem,d]) ?_;simp only[Act.put,z2b,z2e,z2d];refine zaa (v:= .bool true) 118 rfl rfl rfl (fun W hW=>by simp[execOp,go_sem,hq]) ?_;simp only[Act.put,z2b,z2e,z2d];refine zaa (v:= .bool true) 119 rfl rfl rfl (fun W hW=>by simp[execOp,go_sem]) ?_;simp only[Act.put,z2b,z2e,z2d];refine zaa (v:= .pointer (some ⟨B,4,none⟩)) 120 rfl rfl rfl (fun W hW=>by simp[execOp,go_sem]) ?_;simp only[Act.put,z2b,z2e,z2d];refine zaa (v:= .slice (some ⟨b,off,none⟩) n4 k4) 121 rfl rfl rfl (fun W hW=>by have d:=(hW.cell (p:=⟨B,4,none⟩) hBr).trans z4;simp[execOp,go_sem,d]) ?_;simp only[Act.put,z2b,z2e,z2d];refine zaa (v:= .int .i64 (k:Nat)) 122 rfl rfl rfl (fun W hW=>by simp[execOp,go_sem]) ?_;simp only[Act.put,z2b,z2e,z2d];refine zaa (v:= .pointer (some ⟨b,off+k*2,none⟩)) 123 rfl rfl rfl (fun W hW=>by simp[execOp,go_sem,hlt];try omega) ?_;simp only[Act.put,z2b,z2e,z2d];refine zaa (v:= .pointer (some ⟨b,off+k*2,none⟩)) 124 rfl rfl rfl (fun W hW=>by simp[execOp,go_sem]) ?_;simp only[Act.put,z2b,z2e,z2d];refine zaa (v:= .string b0) 125 rfl rfl rfl (fun W hW=>by have d:=(hW.cell (p:=⟨b,off+k*2,none⟩) hbr).trans x0;simp[execOp,go_sem,d]) ?_;simp only[Act.put,z2b,z2e,z2d];refine zaa (v:= .pointer (some ⟨B,0,none⟩)) 126 rfl rfl rfl (fun W hW=>by simp[execOp,go_sem]) ?_;simp only[Act.put,z2b,z2e,z2d];refine zaa (v:= .slice A0 n0 k0) 127 rfl rfl rfl (fun W hW=>by have d:=(hW.cell (p:=⟨B,0,none⟩) hBr).trans z0;simp[execOp,go_sem,d]) ?_;simp only[Act.put,z2b,z2e,z2d];refine zai rfl rfl fun Kc hKc=> ?_;unfold Oper.wp;simp[execOp,go_sem];refine(HC.out _ hS0).mono ?_;rintro e Wk1 ⟨rfl,Xk1,hXk1⟩;have hk1:Below wr.heap.size wr Wk1:=hS0.trans ((show Below wr.drew.heap.size wr.drew Wk1 by rw[hXk1];exact bel).mono hS0.size);clear hXk1;show Kc _ _;apply hKc;refine⟨hk1, ?_⟩;dsimp only[zbq,z4l];go_wp2_with fail
                 go_ret2;exact⟨HBw.out.trans (hk1.mono HBw.out.size),.inl ⟨by rw[HRn.out];decide,by rw[HRn.out];rfl⟩⟩
              ·have HF6:Hid (Q6=false):=by show _=_;rw[HK.out,z2o (by rw[HN4.out];omega)];rfl
               go_wp2_with fail
               clear HK hlt z4 z0 HGw HQ6;go_loopw [12] (fun i wr=> ∃k:Nat,k<=n0/\i= .int .i64 (k:Nat)/\Hid (Q7=(p.tags.drop k).any (zfh p))/\Hid (Below W0.heap.size W0 wr)) (fun i _=>n0-(intOf i).toNat)
               case atStart=>exact⟨0,by omega,rfl,by show _=_;rw[HQ7.out,z2w],by first|exact HB.out|(show Below _ _ _;exact HB.out.trans ((bel:Below _ _ _).mono HB.out.size))⟩
               case round=>
                clear HB;obtain⟨k,hk,rfl,HK,HB⟩:=hrel;have HBw:=z2c (HB0.out.trans (HB.out.mono HB0.out.size));have hBr:B<wr.heap.size:=z2g hBl HB.out.size;have z0:=HCc.out wr HB.out 0 _ c0;have z8:=HCc.out wr HB.out 8 _ c8;have HGw:=z2c (fun W (hb:Below wr.heap.size wr W)=>HBw.out.trans (hb.mono HBw.out.size));by_cases hlt:k<n0
                ·obtain⟨b,off,hAe,hb,hc⟩: ∃b off,A0=some ⟨b,off,none⟩/\b<w.heap.size/\ ∀j u,(fC p 0)[j]? =some u->w.cell? ⟨b,off+j,none⟩=some u:=by
                  obtain⟨_,_,A',c',e,h9⟩:=H0.out;cases e;obtain⟨b,off,h1,h2,h3⟩:=h9 (by omega);exact⟨b,off,h1,h2,h3⟩
                 subst hAe;have hkl:k<p.tags.length:=by rw[HN0.out];exact hlt
                 obtain⟨x,hx⟩: ∃x,p.tags[k]=x:=⟨_,rfl⟩;have x0:wr.cell? ⟨b,off+k,none⟩=some (.string ⟨x.toArray⟩):=(HBw.out.cell (p:=⟨b,off+k,none⟩) hb).trans (hc k (sv x) (by show(p.tags.map sv)[k]? =_;simp[hkl,hx]));have hbr:b<wr.heap.size:=z2g hb HBw.out.size;have hxm:x∈p.tags:=hx ▸ z26 hkl;have HXm:=z2c hxm;have HD:Hid (p.tags.drop k=x::p.tags.drop (k+1)):=by show _=_;rw[z2m hkl,hx]
                 clear hc hx hkl hxm;have hq:decide (pnm<((⟨x.toArray⟩:ByteArray).size:Int))=zfh p x:=by unfold zfh;rw[HPn.out];congr 1
                 have HT0:Hid (Q7=(zfh p x||(p.tags.drop (k+1)).any (zfh p))):=by show _=_;rw[HK.out,HD.out,z3h]
                 generalize zfh p x=T at*;clear HD HK HXm;generalize(⟨x.toArray⟩:ByteArray)=b0 at*;cases T with
                 |true=>
                  have HT:Hid (Q7=true):=by show _=_;rw[HT0.out];simp
                  have HRn:Hid (RW=1):=by show _=_;rw[HRW.out,HT.out,HF0.out,HF1.out,HF2.out,HF3.out,HF4.out,HF5.out,HF6.out];rfl
                  clear HT0;go_upto_region 42 with fail
                  refine zad (by kernel_rfl) (by kernel_rfl) ?_;repeat(go_big_quiet_step(fail))
                  refine wpQuiet_nil ?_;intro _ hw';obtain⟨nq,hw''⟩:=hw';subst hw'';go_wp2_with fail
                  go_ret2;exact⟨HBw.out.trans ((bel:Below wr.heap.size wr _).mono HBw.out.size),.inl ⟨by rw[HRn.out];decide,by rw[HRn.out];rfl⟩⟩
                 |false=>
                  have HT:Hid (Q7=(p.tags.drop (k+1)).any (zfh p)):=by show _=_;rw[HT0.out];simp
                  clear HT0;go_upto_region 42 with fail
                  refine zad (by kernel_rfl) (by kernel_rfl) ?_;repeat(go_big_quiet_step(fail))
                  refine wpQuiet_nil ?_;intro _ hw';obtain⟨nq,hw''⟩:=hw';subst hw'';go_wp2_with fail
                  go_roundw
                  case rel=>exact⟨k+1,by omega,by go_num,HT.out,by show Below _ _ _;exact HB.out.trans ((bel:Below wr.heap.size wr _).mono HB.out.size)⟩
                  case measure=>simp[intOf];omega
                ·have HF7:Hid (Q7=false):=by show _=_;rw[HK.out,z2o (by rw[HN0.out];omega)];rfl
                 go_wp2_with fail
                 clear HK hlt z0 z8 HGw HQ7;go_loopw [13] (fun i wr=> ∃k:Nat,k<=n5/\i= .int .i64 (k:Nat)/\Hid (Q8=(p.forces.drop k).any (zh3 p))/\Hid (Below W0.heap.size W0 wr)) (fun i _=>n5-(intOf i).toNat)
                 case atStart=>exact⟨0,by omega,rfl,by show _=_;rw[HQ8.out,z2w],by first|exact HB.out|(show Below _ _ _;exact HB.out.trans ((bel:Below _ _ _).mono HB.out.size))⟩
                 case round=>
                  clear HB;obtain⟨k,hk,rfl,HK,HB⟩:=hrel;have HBw:=z2c (HB0.out.trans (HB.out.mono HB0.out.size));have hBr:B<wr.heap.size:=z2g hBl HB.out.size;have z5:=HCc.out wr HB.out 5 _ c5;have z8:=HCc.out wr HB.out 8 _ c8;have z9:=HCc.out wr HB.out 9 _ c9;have HGw:=z2c (fun W (hb:Below wr.heap.size wr W)=>HBw.out.trans (hb.mono HBw.out.size));by_cases hlt:k<n5
                  ·obtain⟨b,off,hAe,hb,hc⟩: ∃b off,A5=some ⟨b,off,none⟩/\b<w.heap.size/\ ∀j u,(fC p 5)[j]? =some u->w.cell? ⟨b,off+j,none⟩=some u:=by
                    obtain⟨_,_,A',c',e,h9⟩:=H5.out;cases e;obtain⟨b,off,h1,h2,h3⟩:=h9 (by omega);exact⟨b,off,h1,h2,h3⟩
                   subst hAe;have hkl:k<p.forces.length:=by rw[HN5.out];exact hlt
                   obtain⟨x,hx⟩: ∃x,p.forces[k]=x:=⟨_,rfl⟩;have x0:wr.cell? ⟨b,off+k*3,none⟩=some (.string ⟨x.tag.toArray⟩):=(HBw.out.cell (p:=⟨b,off+k*3,none⟩) hb).trans (hc (k*3+0) (sv x.tag) (by show(p.forces.flatMap Frc.cells)[_]? =_;rw[zbh Frc.cells 3 (fun _=>rfl) p.forces k 0 hkl (by omega),hx];rfl));have x1:wr.cell? ⟨b,off+k*3+1,none⟩=some (.string ⟨x.name.toArray⟩):=(HBw.out.cell (p:=⟨b,off+k*3+1,none⟩) hb).trans ((congrArg (fun i=>w.cell? ⟨b,i,none⟩) (by omega)).trans (hc (k*3+1) (sv x.name) (by show(p.forces.flatMap Frc.cells)[_]? =_;rw[zbh Frc.cells 3 (fun _=>rfl) p.forces k 1 hkl (by omega),hx];rfl)));have x2:wr.cell? ⟨b,off+k*3+2,none⟩=some (.string ⟨x.value.toArray⟩):=(HBw.out.cell (p:=⟨b,off+k*3+2,none⟩) hb).trans ((congrArg (fun i=>w.cell? ⟨b,i,none⟩) (by omega)).trans (hc (k*3+2) (sv x.value) (by show(p.forces.flatMap Frc.cells)[_]? =_;rw[zbh Frc.cells 3 (fun _=>rfl) p.forces k 2 hkl (by omega),hx];rfl)));have hbr:b<wr.heap.size:=z2g hb HBw.out.size;have hxm:x∈p.forces:=hx ▸ z26 hkl;have HXm:=z2c hxm;have HD:Hid (p.forces.drop k=x::p.forces.drop (k+1)):=by show _=_;rw[z2m hkl,hx]
                   clear hc hx hkl hxm;have hq1:decide (pnm<((⟨x.name.toArray⟩:ByteArray).size:Int))=decide (p.name<(x.name.length:Int)):=by rw[HPn.out];congr 1
                   have hq2:decide (pv<((⟨x.value.toArray⟩:ByteArray).size:Int))=decide (p.value<(x.value.length:Int)):=by rw[HPv.out];congr 1
                   have HT0:Hid (Q8=((decide (p.name<(x.name.length:Int))||decide (p.value<(x.value.length:Int)))||(p.forces.drop (k+1)).any (zh3 p))):=by show _=_;rw[HK.out,HD.out,z3h];rfl
                   generalize decide (p.name<(x.name.length:Int))=S at*;generalize decide (p.value<(x.value.length:Int))=T at*;clear HD HK HXm;generalize(⟨x.tag.toArray⟩:ByteArray)=b0 at*;generalize(⟨x.name.toArray⟩:ByteArray)=b1 at*;generalize(⟨x.value.toArray⟩:ByteArray)=b2 at*;have hS0:Below wr.heap.size wr wr.drew:=bel;cases S with
                   |true=>
                    have HT:Hid (Q8=true):=by show _=_;rw[HT0.out];simp
                    have HRn:Hid (RW=1):=by show _=_;rw[HRW.out,HT.out,HF0.out,HF1.out,HF2.out,HF3.out,HF4.out,HF5.out,HF6.out,HF7.out];rfl
                    clear HT0;go_upto_region 47 with fail
                    refine zak 21 [(0,true),(1,true),(2,true),(3,true),(4,true),(5,true),(6,true),(7,true),(8,true),(9,true),(10,true),(11,true),(12,true),(13,true),(14,true),(15,true),(16,true),(17,true),(18,true),(19,true),(20,true)] (fun V=>Below wr.heap.size wr V) hmx (by kernel_rfl) (by kernel_rfl) (by kernel_rfl) (by decide) rfl (fun c a d v w h=>by first|exact h|(obtain⟨x,y⟩:=(h:_/\_);cases d<;>exact⟨x,y⟩)) (by kernel_rfl) (by exact hS0) ?_;refine zaa (v:= .pointer (some ⟨B,5,none⟩)) 154 rfl rfl rfl (fun W hW=>by simp[execOp,go_sem]) ?_;simp only[Act.put,z2b,z2e,z2d];refine zaa (v:= .slice (some ⟨b,off,none⟩) n5 k5) 155 rfl rfl rfl (fun W hW=>by have d:=(hW.cell (p:=⟨B,5,none⟩) hBr).trans z5;simp[execOp,go_sem,d]) ?_;simp only[Act.put,z2b,z2e,z2d];refine zaa (v:= .int .i64 (k:Nat)) 156 rfl rfl rfl (fun W hW=>by simp[execOp,go_sem]) ?_;simp only[Act.put,z2b,z2e,z2d];refine zaa (v:= .pointer (some ⟨b,off+k*3,none⟩)) 157 rfl rfl rfl (fun W hW=>by simp[execOp,go_sem,hlt];try omega) ?_;simp only[Act.put,z2b,z2e,z2d];refine zaa (v:= .pointer (some ⟨b,off+k*3+1,none⟩)) 158 rfl rfl rfl (fun W hW=>by simp[execOp,go_sem]) ?_;simp only[Act.put,z2b,z2e,z2d];refine zaa (v:= .string b1) 159 rfl rfl rfl (fun W hW=>by have d:=(hW.cell (p:=⟨b,off+k*3+1,none⟩) hbr).trans x1;simp[execOp,go_sem,d]) ?_;simp only[Act.put,z2b,z2e,z2d];refine zaa (v:= .int .i64 b1.size) 160 rfl rfl rfl (fun W hW=>by simp[execOp,go_sem]) ?_;simp only[Act.put,z2b,z2e,z2d];refine zaa (v:= .pointer (some ⟨B,8,none⟩)) 161 rfl rfl rfl (fun W hW=>by simp[execOp,go_sem]) ?_;simp only[Act.put,z2b,z2e,z2d];refine zaa (v:= .int .i64 pnm) 162 rfl rfl rfl (fun W hW=>by have d:=(hW.cell (p:=⟨B,8,none⟩) hBr).trans z8;simp[execOp,go_sem,d]) ?_;simp only[Act.put,z2b,z2e,z2d];refine zaa (v:= .bool true) 163 rfl rfl rfl (fun W hW=>by simp[execOp,go_sem,hq1]) ?_;simp only[Act.put,z2b,z2e,z2d];refine zaa (v:= .bool true) 164 rfl rfl rfl (fun W hW=>by simp[execOp,go_sem]) ?_;simp only[Act.put,z2b,z2e,z2d];refine zaj 165 rfl rfl rfl ?_;simp only[Act.put,z2b,z2e,z2d];refine zaj 166 rfl rfl rfl ?_;simp only[Act.put,z2b,z2e,z2d];refine zaj 167 rfl rfl rfl ?_;simp only[Act.put,z2b,z2e,z2d];refine zaj 168 rfl rfl rfl ?_;simp only[Act.put,z2b,z2e,z2d];refine zaj 169 rfl rfl rfl ?_;simp only[Act.put,z2b,z2e,z2d];refine zaj 170 rfl rfl rfl ?_;simp only[Act.put,z2b,z2e,z2d];refine zaj 171 rfl rfl rfl ?_;simp only[Act.put,z2b,z2e,z2d];refine zaj 172 rfl rfl rfl ?_;simp only[Act.put,z2b,z2e,z2d];refine zaj 173 rfl rfl rfl ?_;simp only[Act.put,z2b,z2e,z2d];refine zaj 174 rfl rfl rfl ?_;simp only[Act.put,z2b,z2e,z2d];dsimp only[zbq,z4l];go_wp2_with fail
                    go_ret2;exact⟨HBw.out.trans ((bel:Below wr.heap.size wr _).mono HBw.out.size),.inl ⟨by rw[HRn.out];decide,by rw[HRn.out];rfl⟩⟩
                   |false=>
                    cases T with
                    |true=>
                     have HT:Hid (Q8=true):=by show _=_;rw[HT0.out];simp
                     have HRn:Hid (RW=1):=by show _=_;rw[HRW.out,HT.out,HF0.out,HF1.out,HF2.out,HF3.out,HF4.out,HF5.out,HF6.out,HF7.out];rfl
                     clear HT0;go_upto_region 47 with fail
                     refine zak 21 [(0,true),(1,true),(2,true),(3,true),(4,true),(5,true),(6,true),(7,true),(8,true),(9,true),(10,true),(11,true),(12,true),(13,true),(14,true),(15,true),(16,true),(17,true),(18,true),(19,true),(20,true)] (fun V=>Below wr.heap.size wr V) hmx (by kernel_rfl) (by kernel_rfl) (by kernel_rfl) (by decide) rfl (fun c a d v w h=>by first|exact h|(obtain⟨x,y⟩:=(h:_/\_);cases d<;>exact⟨x,y⟩)) (by kernel_rfl) (by exact hS0) ?_;refine zaa (v:= .pointer (some ⟨B,5,none⟩)) 154 rfl rfl rfl (fun W hW=>by simp[execOp,go_sem]) ?_;simp only[Act.put,z2b,z2e,z2d];refine zaa (v:= .slice (some ⟨b,off,none⟩) n5 k5) 155 rfl rfl rfl (fun W hW=>by have d:=(hW.cell (p:=⟨B,5,none⟩) hBr).trans z5;simp[execOp,go_sem,d]) ?_;simp only[Act.put,z2b,z2e,z2d];refine zaa (v:= .int .i64 (k:Nat)) 156 rfl rfl rfl (fun W hW=>by simp[execOp,go_sem]) ?_;simp only[Act.put,z2b,z2e,z2d];refine zaa (v:= .pointer (some ⟨b,off+k*3,none⟩)) 157 rfl rfl rfl (fun W hW=>by simp[execOp,go_sem,hlt];try omega) ?_;simp only[Act.put,z2b,z2e,z2d];refine zaa (v:= .pointer (some ⟨b,off+k*3+1,none⟩)) 158 rfl rfl rfl (fun W hW=>by simp[execOp,go_sem]) ?_;simp only[Act.put,z2b,z2e,z2d];refine zaa (v:= .string b1) 159 rfl rfl rfl (fun W hW=>by have d:=(hW.cell (p:=⟨b,off+k*3+1,none⟩) hbr).trans x1;simp[execOp,go_sem,d]) ?_;simp only[Act.put,z2b,z2e,z2d];refine zaa (v:= .int .i64 b1.size) 160 rfl rfl rfl (fun W hW=>by simp[execOp,go_sem]) ?_;simp only[Act.put,z2b,z2e,z2d];refine zaa (v:= .pointer (some ⟨B,8,none⟩)) 161 rfl rfl rfl (fun W hW=>by simp[execOp,go_sem]) ?_;simp only[Act.put,z2b,z2e,z2d];refine zaa (v:= .int .i64 pnm) 162 rfl rfl rfl (fun W hW=>by have d:=(hW.cell (p:=⟨B,8,none⟩) hBr).trans z8;simp[execOp,go_sem,d]) ?_;simp only[Act.put,z2b,z2e,z2d];refine zaa (v:= .bool false) 163 rfl rfl rfl (fun W hW=>by simp[execOp,go_sem,hq1]) ?_;simp only[Act.put,z2b,z2e,z2d];refine zaa (v:= .bool false) 164 rfl rfl rfl (fun W hW=>by simp[execOp,go_sem]) ?_;simp only[Act.put,z2b,z2e,z2d];refine zaa (v:= .pointer (some ⟨B,5,none⟩)) 165 rfl rfl rfl (fun W hW=>by simp[execOp,go_sem]) ?_;simp only[Act.put,z2b,z2e,z2d];refine zaa (v:= .slice (some ⟨b,off,none⟩) n5 k5) 166 rfl rfl rfl (fun W hW=>by have d:=(hW.cell (p:=⟨B,5,none⟩) hBr).trans z5;simp[execOp,go_sem,d]) ?_;simp only[Act.put,z2b,z2e,z2d];refine zaa (v:= .int .i64 (k:Nat)) 167 rfl rfl rfl (fun W hW=>by simp[execOp,go_sem]) ?_;simp only[Act.put,z2b,z2e,z2d];refine zaa (v:= .pointer (some ⟨b,off+k*3,none⟩)) 168 rfl rfl rfl (fun W hW=>by simp[execOp,go_sem,hlt];try omega) ?_;simp only[Act.put,z2b,z2e,z2d];refine zaa (v:= .pointer (some ⟨b,off+k*3+2,none⟩)) 169 rfl rfl rfl (fun W hW=>by simp[execOp,go_sem]) ?_;simp only[Act.put,z2b,z2e,z2d];refine zaa (v:= .string b2) 170 rfl rfl rfl (fun W hW=>by have d:=(hW.cell (p:=⟨b,off+k*3+2,none⟩) hbr).trans x2;simp[execOp,go_sem,d]) ?_;simp only[Act.put,z2b,z2e,z2d];refine zaa (v:= .int .i64 b2.size) 171 rfl rfl rfl (fun W hW=>by simp[execOp,go_sem]) ?_;simp only[Act.put,z2b,z2e,z2d];refine zaa (v:= .pointer (some ⟨B,9,none⟩)) 172 rfl rfl rfl (fun W hW=>by simp[execOp,go_sem]) ?_;simp only[Act.put,z2b,z2e,z2d];refine zaa (v:= .int .i64 pv) 173 rfl rfl rfl (fun W hW=>by have d:=(hW.cell (p:=⟨B,9,none⟩) hBr).trans z9;simp[execOp,go_sem,d]) ?_;simp only[Act.put,z2b,z2e,z2d];refine zaa (v:= .bool true) 174 rfl rfl rfl (fun W hW=>by simp[execOp,go_sem,hq2]) ?_;simp only[Act.put,z2b,z2e,z2d];dsimp only[zbq,z4l];go_wp2_with fail
                     go_ret2;exact⟨HBw.out.trans ((bel:Below wr.heap.size wr _).mono HBw.out.size),.inl ⟨by rw[HRn.out];decide,by rw[HRn.out];rfl⟩⟩
                    |false=>
                     have HT:Hid (Q8=(p.forces.drop (k+1)).any (zh3 p)):=by show _=_;rw[HT0.out];simp
                     clear HT0;go_upto_region 47 with fail
                     refine zak 21 [(0,true),(1,true),(2,true),(3,true),(4,true),(5,true),(6,true),(7,true),(8,true),(9,true),(10,true),(11,true),(12,true),(13,true),(14,true),(15,true),(16,true),(17,true),(18,true),(19,true),(20,true)] (fun V=>Below wr.heap.size wr V) hmx (by kernel_rfl) (by kernel_rfl) (by kernel_rfl) (by decide) rfl (fun c a d v w h=>by first|exact h|(obtain⟨x,y⟩:=(h:_/\_);cases d<;>exact⟨x,y⟩)) (by kernel_rfl) (by exact hS0) ?_;refine zaa (v:= .pointer (some ⟨B,5,none⟩)) 154 rfl rfl rfl (fun W hW=>by simp[execOp,go_sem]) ?_;simp only[Act.put,z2b,z2e,z2d];refine zaa (v:= .slice (some ⟨b,off,none⟩) n5 k5) 155 rfl rfl rfl (fun W hW=>by have d:=(hW.cell (p:=⟨B,5,none⟩) hBr).trans z5;simp[execOp,go_sem,d]) ?_;simp only[Act.put,z2b,z2e,z2d];refine zaa (v:= .int .i64 (k:Nat)) 156 rfl rfl rfl (fun W hW=>by simp[execOp,go_sem]) ?_;simp only[Act.put,z2b,z2e,z2d];refine zaa (v:= .pointer (some ⟨b,off+k*3,none⟩)) 157 rfl rfl rfl (fun W hW=>by simp[execOp,go_sem,hlt];try omega) ?_;simp only[Act.put,z2b,z2e,z2d];refine zaa (v:= .pointer (some ⟨b,off+k*3+1,none⟩)) 158 rfl rfl rfl (fun W hW=>by simp[execOp,go_sem]) ?_;simp only[Act.put,z2b,z2e,z2d];refine zaa (v:= .string b1) 159 rfl rfl rfl (fun W hW=>by have d:=(hW.cell (p:=⟨b,off+k*3+1,none⟩) hbr).trans x1;simp[execOp,go_sem,d]) ?_;simp only[Act.put,z2b,z2e,z2d];refine zaa (v:= .int .i64 b1.size) 160 rfl rfl rfl (fun W hW=>by simp[execOp,go_sem]) ?_;simp only[Act.put,z2b,z2e,z2d];refine zaa (v:= .pointer (some ⟨B,8,none⟩)) 161 rfl rfl rfl (fun W hW=>by simp[execOp,go_sem]) ?_;simp only[Act.put,z2b,z2e,z2d];refine zaa (v:= .int .i64 pnm) 162 rfl rfl rfl (fun W hW=>by have d:=(hW.cell (p:=⟨B,8,none⟩) hBr).trans z8;simp[execOp,go_sem,d]) ?_;simp only[Act.put,z2b,z2e,z2d];refine zaa (v:= .bool false) 163 rfl rfl rfl (fun W hW=>by simp[execOp,go_sem,hq1]) ?_;simp only[Act.put,z2b,z2e,z2d];refine zaa (v:= .bool false) 164 rfl rfl rfl (fun W hW=>by simp[execOp,go_sem]) ?_;simp only[Act.put,z2b,z2e,z2d];refine zaa (v:= .pointer (some ⟨B,5,none⟩)) 165 rfl rfl rfl (fun W hW=>by simp[execOp,go_sem]) ?_;simp only[Act.put,z2b,z2e,z2d];refine zaa (v:= .slice (some ⟨b,off,none⟩) n5 k5) 166 rfl rfl rfl (fun W hW=>by have d:=(hW.cell (p:=⟨B,5,none⟩) hBr).trans z5;simp[execOp,go_sem,d]) ?_;simp only[Act.put,z2b,z2e,z2d];refine zaa (v:= .int .i64 (k:Nat)) 167 rfl rfl rfl (fun W hW=>by simp[execOp,go_sem]) ?_;simp only[Act.put,z2b,z2e,z2d];refine zaa (v:= .pointer (some ⟨b,off+k*3,none⟩)) 168 rfl rfl rfl (fun W hW=>by simp[execOp,go_sem,hlt];try omega) ?_;simp only[Act.put,z2b,z2e,z2d];refine zaa (v:= .pointer (some ⟨b,off+k*3+2,none⟩)) 169 rfl rfl rfl (fun W hW=>by simp[execOp,go_sem]) ?_;simp only[Act.put,z2b,z2e,z2d];refine zaa (v:= .string b2) 170 rfl rfl rfl (fun W hW=>by have d:=(hW.cell (p:=⟨b,off+k*3+2,none⟩) hbr).trans x2;simp[execOp,go_sem,d]) ?_;simp only[Act.put,z2b,z2e,z2d];refine zaa (v:= .int .i64 b2.size) 171 rfl rfl rfl (fun W hW=>by simp[execOp,go_sem]) ?_;simp only[Act.put,z2b,z2e,z2d];refine zaa (v:= .pointer (some ⟨B,9,none⟩)) 172 rfl rfl rfl (fun W hW=>by simp[execOp,go_sem]) ?_;simp only[Act.put,z2b,z2e,z2d];refine zaa (v:= .int .i64 pv) 173 rfl rfl rfl (fun W hW=>by have d:=(hW.cell (p:=⟨B,9,none⟩) hBr).trans z9;simp[execOp,go_sem,d]) ?_;simp only[Act.put,z2b,z2e,z2d];refine zaa (v:= .bool false) 174 rfl rfl rfl (fun W hW=>by simp[execOp,go_sem,hq2]) ?_;simp only[Act.put,z2b,z2e,z2d];dsimp only[zbq,z4l];go_wp2_with fail
                     go_roundw
                     case rel=>exact⟨k+1,by omega,by go_num,HT.out,by show Below _ _ _;exact HB.out.trans ((bel:Below wr.heap.size wr _).mono HB.out.size)⟩
                     case measure=>simp[intOf];omega
                  ·have HF8:Hid (Q8=false):=by show _=_;rw[HK.out,z2o (by rw[HN5.out];omega)];rfl
                   have HRn:Hid (RW=0):=by show _=_;rw[HRW.out,HF0.out,HF1.out,HF2.out,HF3.out,HF4.out,HF5.out,HF6.out,HF7.out,HF8.out];rfl
                   have y0:=HCc.out wr HB.out 0 _ c0;have y1:=HCc.out wr HB.out 1 _ c1;have y2:=HCc.out wr HB.out 2 _ c2;have y3:=HCc.out wr HB.out 3 _ c3;have y4:=HCc.out wr HB.out 4 _ c4;have y5:=HCc.out wr HB.out 5 _ c5;have y6:=HCc.out wr HB.out 6 _ c6;have y7:=HCc.out wr HB.out 7 _ c7;have y8:=HCc.out wr HB.out 8 _ c8;have y9:=HCc.out wr HB.out 9 _ c9;have HVw:=z2c (HV.out.below HBw.out);go_wp2_with fail
                   go_ret2;refine⟨HBw.out.trans ((bel:Below wr.heap.size wr _).mono HBw.out.size),.inr ⟨HRn.out,_,rfl, ?_⟩⟩;refine⟨_,_,_,_,_,_,by rw[HPr.out,HPd.out,HPn.out,HPv.out];exact HVw.out.below bel,fun j x hx=> ?_⟩;rw[HPr.out,HPd.out,HPn.out,HPv.out]at hx;have h9:=zaf (W:=wr) (t:=120) (c:= #[.slice A0 n0 k0,.slice A1 n1 k1,.slice A2 (fN p 2) k2,.slice A3 (fN p 3) k3,.slice A4 n4 k4,.slice A5 n5 k5,.bool prel,.int .i64 pd,.int .i64 pnm,.int .i64 pv]) (ad:=⟨wr.heap.size,0,none⟩) rfl j x hx;rw[Addr.add_lit,Nat.zero_add]at h9;exact h9
end Go.Proofs.YtiikamobcmgekaaGreatDoor
