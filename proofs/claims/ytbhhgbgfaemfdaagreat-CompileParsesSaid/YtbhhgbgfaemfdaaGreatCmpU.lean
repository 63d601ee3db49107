/- The walk of alike of chapter 10: rules tell what the reference's rules of that policy tell. (written by gen_alike.py) -/
import Derived.BigRegion
import Derived.Test.YtbhhgbgfaemfdaaGreatCmpM
import Derived.Test.YtbhhgbgfaemfdaaGreatC3
import Derived.Test.YtbhhgbgfaemfdaaGreatRG
import Derived.Test.YtbhhgbgfaemfdaaGreatCmpK
import Derived.Test.YtbhhgbgfaemfdaaGreatCmpN
import Derived.Test.YtbhhgbgfaemfdaaGreatRiE
namespace Go.Proofs.YtbhhgbgfaemfdaaGreat
set_option maxRecDepth 100000
set_option maxHeartbeats 32000000
open Go.RowKit
attribute [local go_sem] Oper.semAt_some
def RefV (W:World) (g:Nat) (p:Pol):Prop:= ∃v0 v1 v2 v3 v4 v5,PolV W (fun _=>False) (.agg #[v0,v1,v2,v3,v4,v5,.bool p.rel,.int .i64 p.depth,.int .i64 p.name,.int .i64 p.value]) p/\ ∀j x,[v0,v1,v2,v3,v4,v5,.bool p.rel,.int .i64 p.depth,.int .i64 p.name,.int .i64 p.value][j]? =some x->W.cell? ⟨g,j,none⟩=some x
theorem RefV.below {W W':World} {g:Nat} {p:Pol} (h:RefV W g p) (hb:Below W.heap.size W W'):RefV W' g p:=by
 obtain⟨v0,v1,v2,v3,v4,v5,h1,h2⟩:=h
 exact⟨v0,v1,v2,v3,v4,v5,h1.below hb,fun j x hx=>(hb.cell (p:=⟨g,j,none⟩) (World.block_lt_of_cell? W _ (h2 j x hx))).trans (h2 j x hx)⟩
def RNewP (p:Pol) (w:World) (e:Ending) (w':World):Prop:=Below w.heap.size w w'/\((newR p≠0/\e= .returned (.tuple #[.pointer none,.int .i64 (newR p:Nat)]))\/(newR p=0/\ ∃g,e= .returned (.tuple #[.pointer (some ⟨g,0,none⟩),.int .i64 0])/\RefV w' g p))
theorem rnew_any (v:Value) (p:Pol) (w:World) (h:PolV w (fun _=>False) v p) (hs:PolSm p) (ht:PolTx p):Calls Tryz.prog 20 #[v] w (RNewP p w):=by
 have hmx:Tryz.prog.follows .mixedOrders=true:=by kernel_rfl
 have HRt:=Lib.hid (fun W hb=>rright_any v p W (h.below (W':=W) hb) hs ht)
 have HV:=Lib.hid h
 obtain⟨v0,v1,v2,v3,v4,v5,rfl,⟨A0,k0,rfl,z0,h0,_⟩,⟨A1,k1,rfl,z1,h1,_⟩,⟨A2,k2,rfl,_⟩,⟨A3,k3,rfl,z3,h3,_⟩,⟨A4,k4,rfl,z4,h4,_⟩,⟨A5,k5,rfl,z5,h5,_⟩⟩:=h
 by_cases hr:rightP p=true
 rotate_left
 ·have hn:newR p=1:=by unfold newR;rw[if_neg hr]
  rw[Bool.not_eq_true]at hr
  rw[hr]at HRt
  unfold RNewP
  rw[hn]
  clear h0 h1 h3 h4 h5 z0 z1 z3 z4 z5 hs ht hn hr HV
  go_enter Tryz.func20,Tryz.ntmps20
  go_wp2_with(go_at_call 39;(with_reducible refine(HRt.out _ bel).mono ?_);rintro e W1 ⟨rfl,X1,rfl⟩)
  go_ret2
  exact⟨bel,.inl ⟨by decide,rfl⟩⟩
 have hn:newR p=refWrong p:=by unfold newR;rw[if_pos hr,refWrong_eq]
 unfold RNewP
 rw[hn]
 rw[hr]at HRt
 have HWd:=Lib.hid (right_wd hr)
 have HRw:Hid (refWrong p=_):=rfl
 obtain⟨Q0,hQ0⟩: ∃Q,p.tags.any deniedB=Q:=⟨_,rfl⟩
 have HQ0:=Lib.hid hQ0.symm
 obtain⟨Q1,hQ1⟩: ∃Q,p.attrs.any (fun a=>unsafeB a.name)=Q:=⟨_,rfl⟩
 have HQ1:=Lib.hid hQ1.symm
 obtain⟨Q2,hQ2⟩: ∃Q,p.forces.any (fun f=>unsafeB f.name)=Q:=⟨_,rfl⟩
 have HQ2:=Lib.hid hQ2.symm
 obtain⟨Q3,hQ3⟩: ∃Q,p.schemes.any runsB=Q:=⟨_,rfl⟩
 have HQ3:=Lib.hid hQ3.symm
 obtain⟨Q4,hQ4⟩: ∃Q,p.tags.any (dropR p)=Q:=⟨_,rfl⟩
 have HQ4:=Lib.hid hQ4.symm
 obtain⟨Q5,hQ5⟩: ∃Q,p.forces.any (fun f=> !tagR p f.tag)=Q:=⟨_,rfl⟩
 have HQ5:=Lib.hid hQ5.symm
 obtain⟨Q6,hQ6⟩: ∃Q,p.attrs.any (fun a=> !decide (a.tag=[42])&& !tagR p a.tag)=Q:=⟨_,rfl⟩
 have HQ6:=Lib.hid hQ6.symm
 obtain⟨Q7,hQ7⟩: ∃Q,p.tags.any (longB p)=Q:=⟨_,rfl⟩
 have HQ7:=Lib.hid hQ7.symm
 obtain⟨Q8,hQ8⟩: ∃Q,p.forces.any (overB p)=Q:=⟨_,rfl⟩
 have HQ8:=Lib.hid hQ8.symm
 obtain⟨RW,hRW⟩: ∃R,refWrong p=R:=⟨_,rfl⟩
 have HRW:Hid (RW=(if Q0=true then 6 else if Q1=true then 6 else if Q2=true then 6 else if Q3=true then 6 else if Q4=true then 5 else if Q5=true then 4 else if Q6=true then 4 else if Q7=true then 1 else if Q8=true then 1 else 0)):=by
  show _=_
  rw[<-hRW,<-hQ0,<-hQ1,<-hQ2,<-hQ3,<-hQ4,<-hQ5,<-hQ6,<-hQ7,<-hQ8]
  rfl
 rw[hRW]
 clear hRW hQ0 hQ1 hQ2 hQ3 hQ4 hQ5 hQ6 hQ7 hQ8 HRw hn
 have H0:=Lib.hid h0
 have H1:=Lib.hid h1
 have H3:=Lib.hid h3
 have H4:=Lib.hid h4
 have H5:=Lib.hid h5
 obtain⟨n0,hn0⟩: ∃n,fN p 0=n:=⟨_,rfl⟩
 have HN0:Hid (p.tags.length=n0):=hn0
 have hm0:n0<=9223372036854775807:=by rw[<-hn0];exact h0.2.1
 obtain⟨n1,hn1⟩: ∃n,fN p 1=n:=⟨_,rfl⟩
 have HN1:Hid (p.schemes.length=n1):=hn1
 have hm1:n1<=9223372036854775807:=by rw[<-hn1];exact h1.2.1
 obtain⟨n4,hn4⟩: ∃n,fN p 4=n:=⟨_,rfl⟩
 have HN4:Hid (p.attrs.length=n4):=hn4
 have hm4:n4<=9223372036854775807:=by rw[<-hn4];exact h4.2.1
 obtain⟨n5,hn5⟩: ∃n,fN p 5=n:=⟨_,rfl⟩
 have HN5:Hid (p.forces.length=n5):=hn5
 have hm5:n5<=9223372036854775807:=by rw[<-hn5];exact h5.2.1
 have HIt:=Lib.hid (fun W t (hb:Below w.heap.size w W)=>rin_any t (.slice A0 (fN p 0) k0) p.tags W (Rd.belowW h0 hb))
 have HId:=Lib.hid (fun W t (hb:Below w.heap.size w W)=>rin_any t (.slice A3 (fN p 3) k3) p.drops W (Rd.belowW h3 hb))
 rw[hn0]at H0 HIt HV
 rw[hn1]at H1 HV
 rw[hn4]at H4 HV
 rw[hn5]at H5 HV
 rw[hn0,hn1,hn4,hn5]at HRt ⊢
 clear h0 h1 h3 h4 h5 hn0 hn1 hn4 hn5 z0 z1 z3 z4 z5 hs ht hr
 generalize hrel9:p.rel=prel at*
 generalize hd9:p.depth=pd at*
 generalize hnm9:p.name=pnm at*
 generalize hvl9:p.value=pv at*
 have HPd:=Lib.hid hd9
 have HPr:=Lib.hid hrel9
 have HPn:=Lib.hid hnm9
 have HPv:=Lib.hid hvl9
 clear hrel9 hd9 hnm9 hvl9
 go_enter Tryz.func20,Tryz.ntmps20
 go_upto_region 3 with(go_at_call 39;(with_reducible refine(HRt.out _ bel).mono ?_);rintro e Wa ⟨rfl,Xa,rfl⟩)
 refine name_world fun W0 hW0=> ?_
 obtain⟨B,hB⟩: ∃B,w.heap.size=B:=⟨_,rfl⟩
 have hb0:Below w.heap.size w W0:=by rw[hW0];exact bel
 have c0:W0.cell? ⟨B,0,none⟩=some (.slice A0 n0 k0):=by rw[hW0,<-hB];simp[go_sem]
 have c1:W0.cell? ⟨B,1,none⟩=some (.slice A1 n1 k1):=by rw[hW0,<-hB];simp[go_sem]
 have c2:W0.cell? ⟨B,2,none⟩=some (.slice A2 (fN p 2) k2):=by rw[hW0,<-hB];simp[go_sem]
 have c3:W0.cell? ⟨B,3,none⟩=some (.slice A3 (fN p 3) k3):=by rw[hW0,<-hB];simp[go_sem]
 have c4:W0.cell? ⟨B,4,none⟩=some (.slice A4 n4 k4):=by rw[hW0,<-hB];simp[go_sem]
 have c5:W0.cell? ⟨B,5,none⟩=some (.slice A5 n5 k5):=by rw[hW0,<-hB];simp[go_sem]
 have c6:W0.cell? ⟨B,6,none⟩=some (.bool prel):=by rw[hW0,<-hB];simp[go_sem]
 have c7:W0.cell? ⟨B,7,none⟩=some (.int .i64 pd):=by rw[hW0,<-hB];simp[go_sem]
 have c8:W0.cell? ⟨B,8,none⟩=some (.int .i64 pnm):=by rw[hW0,<-hB];simp[go_sem]
 have c9:W0.cell? ⟨B,9,none⟩=some (.int .i64 pv):=by rw[hW0,<-hB];simp[go_sem]
 have hBl:B<W0.heap.size:=World.block_lt_of_cell? W0 _ c0
 have HB0:=Lib.hid hb0
 have HB:Hid (Below W0.heap.size W0 W0):=Below.refl _ _
 have HCc:Hid (∀W,Below W0.heap.size W0 W-> ∀j x,W0.cell? ⟨B,j,none⟩=some x->W.cell? ⟨B,j,none⟩=some x):=fun W hb j x hx=>(hb.cell (p:=⟨B,j,none⟩) hBl).trans hx
 rw[hB]
 clear hW0 hb0 hB HRt
 go_wp2_with fail
 go_loopw [5] (fun i wr=> ∃k:Nat,k<=n0/\i= .int .i64 (k:Nat)/\Hid (Q0=(p.tags.drop k).any deniedB)/\Hid (Below W0.heap.size W0 wr)) (fun i _=>n0-(intOf i).toNat)
 case atStart=>exact⟨0,by omega,rfl,by show _=_;rw[HQ0.out,List.drop_zero],by first|exact HB.out|(show Below _ _ _;exact HB.out.trans ((bel:Below _ _ _).mono HB.out.size))⟩
 case round=>
  clear HB
  obtain⟨k,hk,rfl,HK,HB⟩:=hrel
  have HBw:=Lib.hid (HB0.out.trans (HB.out.mono HB0.out.size))
  have hBr:B<wr.heap.size:=Nat.lt_of_lt_of_le hBl HB.out.size
  have z0:=HCc.out wr HB.out 0 _ c0
  have HGw:=Lib.hid (fun W (hb:Below wr.heap.size wr W)=>HBw.out.trans (hb.mono HBw.out.size))
  by_cases hlt:k<n0
  ·obtain⟨b,off,hAe,hb,hc⟩: ∃b off,A0=some ⟨b,off,none⟩/\b<w.heap.size/\ ∀j u,(fC p 0)[j]? =some u->w.cell? ⟨b,off+j,none⟩=some u:=by
    obtain⟨_,_,A',c',e,h9⟩:=H0.out
    cases e
    obtain⟨b,off,h1,h2,h3⟩:=h9 (by omega)
    exact⟨b,off,h1,h2,h3⟩
   subst hAe
   have hkl:k<p.tags.length:=by rw[HN0.out];exact hlt
   obtain⟨x,hx⟩: ∃x,p.tags[k]=x:=⟨_,rfl⟩
   have x0:wr.cell? ⟨b,off+k,none⟩=some (.string ⟨x.toArray⟩):=(HBw.out.cell (p:=⟨b,off+k,none⟩) hb).trans (hc k (sv x) (by show(p.tags.map sv)[k]? =_;simp[hkl,hx]))
   have hbr:b<wr.heap.size:=Nat.lt_of_lt_of_le hb HBw.out.size
   have hxm:x∈p.tags:=hx ▸ List.getElem_mem hkl
   have HXm:=Lib.hid hxm
   have HD:Hid (p.tags.drop k=x::p.tags.drop (k+1)):=by show _=_;rw[List.drop_eq_getElem_cons hkl,hx]
   clear hc hx hkl hxm
   have HC:=Lib.hid (fun W=>show Calls Tryz.prog 23 #[.string ⟨x.toArray⟩] W _ from rdenied10_any x W)
   obtain⟨T,hT⟩: ∃T,deniedB x=T:=⟨_,rfl⟩
   rw[hT]at HC
   have HT0:Hid (Q0=(T||(p.tags.drop (k+1)).any deniedB)):=by show _=_;rw[HK.out,HD.out,List.any_cons,<-hT]
   clear hT HD HK HXm
   generalize(⟨x.toArray⟩:ByteArray)=b0 at*
   cases T with
   |true=>
    have HT:Hid (Q0=true):=by show _=_;rw[HT0.out];simp
    have HRn:Hid (RW=6):=by show _=_;rw[HRW.out,HT.out];rfl
    clear HT0
    go_wp2_with(go_at_call 23;(with_reducible refine(HC.out _).mono ?_);rintro e W1 ⟨rfl,X1,rfl⟩)
    go_ret2
    exact⟨HBw.out.trans ((bel:Below wr.heap.size wr _).mono HBw.out.size),.inl ⟨by rw[HRn.out];decide,by rw[HRn.out];rfl⟩⟩
   |false=>
    have HT:Hid (Q0=(p.tags.drop (k+1)).any deniedB):=by show _=_;rw[HT0.out];simp
    clear HT0
    go_wp2_with(go_at_call 23;(with_reducible refine(HC.out _).mono ?_);rintro e W1 ⟨rfl,X1,rfl⟩)
    go_roundw
    case rel=>exact⟨k+1,by omega,by go_num,HT.out,by show Below _ _ _;exact HB.out.trans ((bel:Below wr.heap.size wr _).mono HB.out.size)⟩
    case measure=>simp[intOf];omega
  ·have HF0:Hid (Q0=false):=by show _=_;rw[HK.out,List.drop_eq_nil_of_le (by rw[HN0.out];omega)];rfl
   go_wp2_with fail
   clear HK hlt z0 HGw HQ0
   go_loopw [6] (fun i wr=> ∃k:Nat,k<=n4/\i= .int .i64 (k:Nat)/\Hid (Q1=(p.attrs.drop k).any (fun a=>unsafeB a.name))/\Hid (Below W0.heap.size W0 wr)) (fun i _=>n4-(intOf i).toNat)
   case atStart=>exact⟨0,by omega,rfl,by show _=_;rw[HQ1.out,List.drop_zero],by first|exact HB.out|(show Below _ _ _;exact HB.out.trans ((bel:Below _ _ _).mono HB.out.size))⟩
   case round=>
    clear HB
    obtain⟨k,hk,rfl,HK,HB⟩:=hrel
    have HBw:=Lib.hid (HB0.out.trans (HB.out.mono HB0.out.size))
    have hBr:B<wr.heap.size:=Nat.lt_of_lt_of_le hBl HB.out.size
    have z4:=HCc.out wr HB.out 4 _ c4
    have HGw:=Lib.hid (fun W (hb:Below wr.heap.size wr W)=>HBw.out.trans (hb.mono HBw.out.size))
    by_cases hlt:k<n4
    ·obtain⟨b,off,hAe,hb,hc⟩: ∃b off,A4=some ⟨b,off,none⟩/\b<w.heap.size/\ ∀j u,(fC p 4)[j]? =some u->w.cell? ⟨b,off+j,none⟩=some u:=by
      obtain⟨_,_,A',c',e,h9⟩:=H4.out
      cases e
      obtain⟨b,off,h1,h2,h3⟩:=h9 (by omega)
      exact⟨b,off,h1,h2,h3⟩
     subst hAe
     have hkl:k<p.attrs.length:=by rw[HN4.out];exact hlt
     obtain⟨x,hx⟩: ∃x,p.attrs[k]=x:=⟨_,rfl⟩
     have x0:wr.cell? ⟨b,off+k*2,none⟩=some (.string ⟨x.tag.toArray⟩):=(HBw.out.cell (p:=⟨b,off+k*2,none⟩) hb).trans (hc (k*2+0) (sv x.tag) (by show(p.attrs.flatMap Alw.cells)[_]? =_;rw[flat_atC Alw.cells 2 (fun _=>rfl) p.attrs k 0 hkl (by omega),hx];rfl))
     have x1:wr.cell? ⟨b,off+k*2+1,none⟩=some (.string ⟨x.name.toArray⟩):=(HBw.out.cell (p:=⟨b,off+k*2+1,none⟩) hb).trans ((congrArg (fun i=>w.cell? ⟨b,i,none⟩) (by omega)).trans (hc (k*2+1) (sv x.name) (by show(p.attrs.flatMap Alw.cells)[_]? =_;rw[flat_atC Alw.cells 2 (fun _=>rfl) p.attrs k 1 hkl (by omega),hx];rfl)))
     have hbr:b<wr.heap.size:=Nat.lt_of_lt_of_le hb HBw.out.size
     have hxm:x∈p.attrs:=hx ▸ List.getElem_mem hkl
     have HXm:=Lib.hid hxm
     have HD:Hid (p.attrs.drop k=x::p.attrs.drop (k+1)):=by show _=_;rw[List.drop_eq_getElem_cons hkl,hx]
     clear hc hx hkl hxm
     have hle:x.name.length<=1000000:=by have:=(HWd.out.attrs x HXm.out).2;omega
     have HC:=Lib.hid (fun W=>show Calls Tryz.prog 24 #[.string ⟨x.name.toArray⟩] W _ from runsafe10_any x.name W hle)
     obtain⟨T,hT⟩: ∃T,unsafeB x.name=T:=⟨_,rfl⟩
     rw[hT]at HC
     have HT0:Hid (Q1=(T||(p.attrs.drop (k+1)).any (fun a=>unsafeB a.name))):=by show _=_;rw[HK.out,HD.out,List.any_cons,<-hT]
     clear hT HD HK HXm
     generalize(⟨x.tag.toArray⟩:ByteArray)=b0 at*
     generalize(⟨x.name.toArray⟩:ByteArray)=b1 at*
     cases T with
     |true=>
      have HT:Hid (Q1=true):=by show _=_;rw[HT0.out];simp
      have HRn:Hid (RW=6):=by show _=_;rw[HRW.out,HT.out,HF0.out];rfl
      clear HT0
      go_wp2_with(go_at_call 24;(with_reducible refine(HC.out _).mono ?_);rintro e W1 ⟨rfl,X1,rfl⟩)
      go_ret2
      exact⟨HBw.out.trans ((bel:Below wr.heap.size wr _).mono HBw.out.size),.inl ⟨by rw[HRn.out];decide,by rw[HRn.out];rfl⟩⟩
     |false=>
      have HT:Hid (Q1=(p.attrs.drop (k+1)).any (fun a=>unsafeB a.name)):=by show _=_;rw[HT0.out];simp
      clear HT0
      go_wp2_with(go_at_call 24;(with_reducible refine(HC.out _).mono ?_);rintro e W1 ⟨rfl,X1,rfl⟩)
      go_roundw
      case rel=>exact⟨k+1,by omega,by go_num,HT.out,by show Below _ _ _;exact HB.out.trans ((bel:Below wr.heap.size wr _).mono HB.out.size)⟩
      case measure=>simp[intOf];omega
    ·have HF1:Hid (Q1=false):=by show _=_;rw[HK.out,List.drop_eq_nil_of_le (by rw[HN4.out];omega)];rfl
     go_wp2_with fail
     clear HK hlt z4 HGw HQ1
     go_loopw [7] (fun i wr=> ∃k:Nat,k<=n5/\i= .int .i64 (k:Nat)/\Hid (Q2=(p.forces.drop k).any (fun f=>unsafeB f.name))/\Hid (Below W0.heap.size W0 wr)) (fun i _=>n5-(intOf i).toNat)
     case atStart=>exact⟨0,by omega,rfl,by show _=_;rw[HQ2.out,List.drop_zero],by first|exact HB.out|(show Below _ _ _;exact HB.out.trans ((bel:Below _ _ _).mono HB.out.size))⟩
     case round=>
      clear HB
      obtain⟨k,hk,rfl,HK,HB⟩:=hrel
      have HBw:=Lib.hid (HB0.out.trans (HB.out.mono HB0.out.size))
      have hBr:B<wr.heap.size:=Nat.lt_of_lt_of_le hBl HB.out.size
      have z5:=HCc.out wr HB.out 5 _ c5
      have HGw:=Lib.hid (fun W (hb:Below wr.heap.size wr W)=>HBw.out.trans (hb.mono HBw.out.size))
      by_cases hlt:k<n5
      ·obtain⟨b,off,hAe,hb,hc⟩: ∃b off,A5=some ⟨b,off,none⟩/\b<w.heap.size/\ ∀j u,(fC p 5)[j]? =some u->w.cell? ⟨b,off+j,none⟩=some u:=by
        obtain⟨_,_,A',c',e,h9⟩:=H5.out
        cases e
        obtain⟨b,off,h1,h2,h3⟩:=h9 (by omega)
        exact⟨b,off,h1,h2,h3⟩
       subst hAe
       have hkl:k<p.forces.length:=by rw[HN5.out];exact hlt
       obtain⟨x,hx⟩: ∃x,p.forces[k]=x:=⟨_,rfl⟩
       have x0:wr.cell? ⟨b,off+k*3,none⟩=some (.string ⟨x.tag.toArray⟩):=(HBw.out.cell (p:=⟨b,off+k*3,none⟩) hb).trans (hc (k*3+0) (sv x.tag) (by show(p.forces.flatMap Frc.cells)[_]? =_;rw[flat_atC Frc.cells 3 (fun _=>rfl) p.forces k 0 hkl (by omega),hx];rfl))
       have x1:wr.cell? ⟨b,off+k*3+1,none⟩=some (.string ⟨x.name.toArray⟩):=(HBw.out.cell (p:=⟨b,off+k*3+1,none⟩) hb).trans ((congrArg (fun i=>w.cell? ⟨b,i,none⟩) (by omega)).trans (hc (k*3+1) (sv x.name) (by show(p.forces.flatMap Frc.cells)[_]? =_;rw[flat_atC Frc.cells 3 (fun _=>rfl) p.forces k 1 hkl (by omega),hx];rfl)))
       have x2:wr.cell? ⟨b,off+k*3+2,none⟩=some (.string ⟨x.value.toArray⟩):=(HBw.out.cell (p:=⟨b,off+k*3+2,none⟩) hb).trans ((congrArg (fun i=>w.cell? ⟨b,i,none⟩) (by omega)).trans (hc (k*3+2) (sv x.value) (by show(p.forces.flatMap Frc.cells)[_]? =_;rw[flat_atC Frc.cells 3 (fun _=>rfl) p.forces k 2 hkl (by omega),hx];rfl)))
       have hbr:b<wr.heap.size:=Nat.lt_of_lt_of_le hb HBw.out.size
       have hxm:x∈p.forces:=hx ▸ List.getElem_mem hkl
       have HXm:=Lib.hid hxm
       have HD:Hid (p.forces.drop k=x::p.forces.drop (k+1)):=by show _=_;rw[List.drop_eq_getElem_cons hkl,hx]
       clear hc hx hkl hxm
       have hle:x.name.length<=1000000:=by have:=(HWd.out.forces x HXm.out).2;omega
       have HC:=Lib.hid (fun W=>show Calls Tryz.prog 24 #[.string ⟨x.name.toArray⟩] W _ from runsafe10_any x.name W hle)
       obtain⟨T,hT⟩: ∃T,unsafeB x.name=T:=⟨_,rfl⟩
       rw[hT]at HC
       have HT0:Hid (Q2=(T||(p.forces.drop (k+1)).any (fun f=>unsafeB f.name))):=by show _=_;rw[HK.out,HD.out,List.any_cons,<-hT]
       clear hT HD HK HXm
       generalize(⟨x.tag.toArray⟩:ByteArray)=b0 at*
       generalize(⟨x.name.toArray⟩:ByteArray)=b1 at*
       generalize(⟨x.value.toArray⟩:ByteArray)=b2 at*
       cases T with
       |true=>
        have HT:Hid (Q2=true):=by show _=_;rw[HT0.out];simp
        have HRn:Hid (RW=6):=by show _=_;rw[HRW.out,HT.out,HF0.out,HF1.out];rfl
        clear HT0
        go_wp2_with(go_at_call 24;(with_reducible refine(HC.out _).mono ?_);rintro e W1 ⟨rfl,X1,rfl⟩)
        go_ret2
        exact⟨HBw.out.trans ((bel:Below wr.heap.size wr _).mono HBw.out.size),.inl ⟨by rw[HRn.out];decide,by rw[HRn.out];rfl⟩⟩
       |false=>
        have HT:Hid (Q2=(p.forces.drop (k+1)).any (fun f=>unsafeB f.name)):=by show _=_;rw[HT0.out];simp
        clear HT0
        go_wp2_with(go_at_call 24;(with_reducible refine(HC.out _).mono ?_);rintro e W1 ⟨rfl,X1,rfl⟩)
        go_roundw
        case rel=>exact⟨k+1,by omega,by go_num,HT.out,by show Below _ _ _;exact HB.out.trans ((bel:Below wr.heap.size wr _).mono HB.out.size)⟩
        case measure=>simp[intOf];omega
      ·have HF2:Hid (Q2=false):=by show _=_;rw[HK.out,List.drop_eq_nil_of_le (by rw[HN5.out];omega)];rfl
       go_wp2_with fail
       clear HK hlt z5 HGw HQ2
       go_loopw [8] (fun i wr=> ∃k:Nat,k<=n1/\i= .int .i64 (k:Nat)/\Hid (Q3=(p.schemes.drop k).any runsB)/\Hid (Below W0.heap.size W0 wr)) (fun i _=>n1-(intOf i).toNat)
       case atStart=>exact⟨0,by omega,rfl,by show _=_;rw[HQ3.out,List.drop_zero],by first|exact HB.out|(show Below _ _ _;exact HB.out.trans ((bel:Below _ _ _).mono HB.out.size))⟩
       case round=>
        clear HB
        obtain⟨k,hk,rfl,HK,HB⟩:=hrel
        have HBw:=Lib.hid (HB0.out.trans (HB.out.mono HB0.out.size))
        have hBr:B<wr.heap.size:=Nat.lt_of_lt_of_le hBl HB.out.size
        have z1:=HCc.out wr HB.out 1 _ c1
        have HGw:=Lib.hid (fun W (hb:Below wr.heap.size wr W)=>HBw.out.trans (hb.mono HBw.out.size))
        by_cases hlt:k<n1
        ·obtain⟨b,off,hAe,hb,hc⟩: ∃b off,A1=some ⟨b,off,none⟩/\b<w.heap.size/\ ∀j u,(fC p 1)[j]? =some u->w.cell? ⟨b,off+j,none⟩=some u:=by
          obtain⟨_,_,A',c',e,h9⟩:=H1.out
          cases e
          obtain⟨b,off,h1,h2,h3⟩:=h9 (by omega)
          exact⟨b,off,h1,h2,h3⟩
         subst hAe
         have hkl:k<p.schemes.length:=by rw[HN1.out];exact hlt
         obtain⟨x,hx⟩: ∃x,p.schemes[k]=x:=⟨_,rfl⟩
         have x0:wr.cell? ⟨b,off+k,none⟩=some (.string ⟨x.toArray⟩):=(HBw.out.cell (p:=⟨b,off+k,none⟩) hb).trans (hc k (sv x) (by show(p.schemes.map sv)[k]? =_;simp[hkl,hx]))
         have hbr:b<wr.heap.size:=Nat.lt_of_lt_of_le hb HBw.out.size
         have hxm:x∈p.schemes:=hx ▸ List.getElem_mem hkl
         have HXm:=Lib.hid hxm
         have HD:Hid (p.schemes.drop k=x::p.schemes.drop (k+1)):=by show _=_;rw[List.drop_eq_getElem_cons hkl,hx]
         clear hc hx hkl hxm
         have HC:=Lib.hid (fun(W:World) c (hc:c=(([[106,97,118,97,115,99,114,105,112,116],[118,98,115,99,114,105,112,116],[100,97,116,97]]:List Bs).map sv).toArray)=>show Calls Tryz.prog 40 #[.string ⟨x.toArray⟩,.slice (some ⟨W.heap.size,0,none⟩) 3 3] (W.alloc (.cells c 9)) (Ret (.bool (runsB x)) (W.alloc (.cells c 9)))from rin_any x (.slice (some ⟨W.heap.size,0,none⟩) 3 3) [[106,97,118,97,115,99,114,105,112,116],[118,98,115,99,114,105,112,116],[100,97,116,97]] (W.alloc (.cells c 9)) (litR_rd (e:=9) (n:=3) rfl hc rfl (by decide)))
         obtain⟨T,hT⟩: ∃T,runsB x=T:=⟨_,rfl⟩
         rw[hT]at HC
         have HT0:Hid (Q3=(T||(p.schemes.drop (k+1)).any runsB)):=by show _=_;rw[HK.out,HD.out,List.any_cons,<-hT]
         clear hT HD HK HXm
         generalize(⟨x.toArray⟩:ByteArray)=b0 at*
         cases T with
         |true=>
          have HT:Hid (Q3=true):=by show _=_;rw[HT0.out];simp
          have HRn:Hid (RW=6):=by show _=_;rw[HRW.out,HT.out,HF0.out,HF1.out,HF2.out];rfl
          clear HT0
          go_wp2_with(go_at_call 40;(refine(HC.out wr _ rfl).mono ?_);rintro e W1 ⟨rfl,X1,rfl⟩)
          go_ret2
          exact⟨HBw.out.trans ((bel:Below wr.heap.size wr _).mono HBw.out.size),.inl ⟨by rw[HRn.out];decide,by rw[HRn.out];rfl⟩⟩
         |false=>
          have HT:Hid (Q3=(p.schemes.drop (k+1)).any runsB):=by show _=_;rw[HT0.out];simp
          clear HT0
          go_wp2_with(go_at_call 40;(refine(HC.out wr _ rfl).mono ?_);rintro e W1 ⟨rfl,X1,rfl⟩)
          go_roundw
          case rel=>exact⟨k+1,by omega,by go_num,HT.out,by show Below _ _ _;exact HB.out.trans ((bel:Below wr.heap.size wr _).mono HB.out.size)⟩
          case measure=>simp[intOf];omega
        ·have HF3:Hid (Q3=false):=by show _=_;rw[HK.out,List.drop_eq_nil_of_le (by rw[HN1.out];omega)];rfl
         go_wp2_with fail
         clear HK hlt z1 HGw HQ3
         go_loopw [9] (fun i wr=> ∃k:Nat,k<=n0/\i= .int .i64 (k:Nat)/\Hid (Q4=(p.tags.drop k).any (dropR p))/\Hid (Below W0.heap.size W0 wr)) (fun i _=>n0-(intOf i).toNat)
         case atStart=>exact⟨0,by omega,rfl,by show _=_;rw[HQ4.out,List.drop_zero],by first|exact HB.out|(show Below _ _ _;exact HB.out.trans ((bel:Below _ _ _).mono HB.out.size))⟩
         case round=>
          clear HB
          obtain⟨k,hk,rfl,HK,HB⟩:=hrel
          have HBw:=Lib.hid (HB0.out.trans (HB.out.mono HB0.out.size))
          have hBr:B<wr.heap.size:=Nat.lt_of_lt_of_le hBl HB.out.size
          have z0:=HCc.out wr HB.out 0 _ c0
          have z3:=HCc.out wr HB.out 3 _ c3
          have HGw:=Lib.hid (fun W (hb:Below wr.heap.size wr W)=>HBw.out.trans (hb.mono HBw.out.size))
          by_cases hlt:k<n0
          ·obtain⟨b,off,hAe,hb,hc⟩: ∃b off,A0=some ⟨b,off,none⟩/\b<w.heap.size/\ ∀j u,(fC p 0)[j]? =some u->w.cell? ⟨b,off+j,none⟩=some u:=by
            obtain⟨_,_,A',c',e,h9⟩:=H0.out
            cases e
            obtain⟨b,off,h1,h2,h3⟩:=h9 (by omega)
            exact⟨b,off,h1,h2,h3⟩
           subst hAe
           have hkl:k<p.tags.length:=by rw[HN0.out];exact hlt
           obtain⟨x,hx⟩: ∃x,p.tags[k]=x:=⟨_,rfl⟩
           have x0:wr.cell? ⟨b,off+k,none⟩=some (.string ⟨x.toArray⟩):=(HBw.out.cell (p:=⟨b,off+k,none⟩) hb).trans (hc k (sv x) (by show(p.tags.map sv)[k]? =_;simp[hkl,hx]))
           have hbr:b<wr.heap.size:=Nat.lt_of_lt_of_le hb HBw.out.size
           have hxm:x∈p.tags:=hx ▸ List.getElem_mem hkl
           have HXm:=Lib.hid hxm
           have HD:Hid (p.tags.drop k=x::p.tags.drop (k+1)):=by show _=_;rw[List.drop_eq_getElem_cons hkl,hx]
           clear hc hx hkl hxm
           have HC:=Lib.hid (fun W hb=>show Calls Tryz.prog 40 #[.string ⟨x.toArray⟩,.slice A3 (fN p 3) k3] W (Ret (.bool (dropR p x)) W)from HId.out W x (HGw.out W hb))
           obtain⟨T,hT⟩: ∃T,dropR p x=T:=⟨_,rfl⟩
           rw[hT]at HC
           have HT0:Hid (Q4=(T||(p.tags.drop (k+1)).any (dropR p))):=by show _=_;rw[HK.out,HD.out,List.any_cons,<-hT]
           clear hT HD HK HXm
           generalize(⟨x.toArray⟩:ByteArray)=b0 at*
           cases T with
           |true=>
            have HT:Hid (Q4=true):=by show _=_;rw[HT0.out];simp
            have HRn:Hid (RW=5):=by show _=_;rw[HRW.out,HT.out,HF0.out,HF1.out,HF2.out,HF3.out];rfl
            clear HT0
            go_upto_region 27 with fail
            refine wp_region_grow (by kernel_rfl) (by kernel_rfl) ?_
            repeat(go_big_quiet_step((go_at_call 40;with_reducible exact Calls.grow_of (HC.out _ bel))))
            refine wpQuiet_nil ?_
            intro _ hw';obtain⟨nq,hw''⟩:=hw';subst hw''
            go_wp2_with fail
            go_ret2
            exact⟨HBw.out.trans ((bel:Below wr.heap.size wr _).mono HBw.out.size),.inl ⟨by rw[HRn.out];decide,by rw[HRn.out];rfl⟩⟩
           |false=>
            have HT:Hid (Q4=(p.tags.drop (k+1)).any (dropR p)):=by show _=_;rw[HT0.out];simp
            clear HT0
            go_upto_region 27 with fail
            refine wp_region_grow (by kernel_rfl) (by kernel_rfl) ?_
            repeat(go_big_quiet_step((go_at_call 40;with_reducible exact Calls.grow_of (HC.out _ bel))))
            refine wpQuiet_nil ?_
            intro _ hw';obtain⟨nq,hw''⟩:=hw';subst hw''
            go_wp2_with fail
            go_roundw
            case rel=>exact⟨k+1,by omega,by go_num,HT.out,by show Below _ _ _;exact HB.out.trans ((bel:Below wr.heap.size wr _).mono HB.out.size)⟩
            case measure=>simp[intOf];omega
          ·have HF4:Hid (Q4=false):=by show _=_;rw[HK.out,List.drop_eq_nil_of_le (by rw[HN0.out];omega)];rfl
           go_wp2_with fail
           clear HK hlt z0 z3 HGw HQ4
           go_loopw [10] (fun i wr=> ∃k:Nat,k<=n5/\i= .int .i64 (k:Nat)/\Hid (Q5=(p.forces.drop k).any (fun f=> !tagR p f.tag))/\Hid (Below W0.heap.size W0 wr)) (fun i _=>n5-(intOf i).toNat)
           case atStart=>exact⟨0,by omega,rfl,by show _=_;rw[HQ5.out,List.drop_zero],by first|exact HB.out|(show Below _ _ _;exact HB.out.trans ((bel:Below _ _ _).mono HB.out.size))⟩
           case round=>
            clear HB
            obtain⟨k,hk,rfl,HK,HB⟩:=hrel
            have HBw:=Lib.hid (HB0.out.trans (HB.out.mono HB0.out.size))
            have hBr:B<wr.heap.size:=Nat.lt_of_lt_of_le hBl HB.out.size
            have z5:=HCc.out wr HB.out 5 _ c5
            have z0:=HCc.out wr HB.out 0 _ c0
            have HGw:=Lib.hid (fun W (hb:Below wr.heap.size wr W)=>HBw.out.trans (hb.mono HBw.out.size))
            by_cases hlt:k<n5
            ·obtain⟨b,off,hAe,hb,hc⟩: ∃b off,A5=some ⟨b,off,none⟩/\b<w.heap.size/\ ∀j u,(fC p 5)[j]? =some u->w.cell? ⟨b,off+j,none⟩=some u:=by
              obtain⟨_,_,A',c',e,h9⟩:=H5.out
              cases e
              obtain⟨b,off,h1,h2,h3⟩:=h9 (by omega)
              exact⟨b,off,h1,h2,h3⟩
             subst hAe
             have hkl:k<p.forces.length:=by rw[HN5.out];exact hlt
             obtain⟨x,hx⟩: ∃x,p.forces[k]=x:=⟨_,rfl⟩
             have x0:wr.cell? ⟨b,off+k*3,none⟩=some (.string ⟨x.tag.toArray⟩):=(HBw.out.cell (p:=⟨b,off+k*3,none⟩) hb).trans (hc (k*3+0) (sv x.tag) (by show(p.forces.flatMap Frc.cells)[_]? =_;rw[flat_atC Frc.cells 3 (fun _=>rfl) p.forces k 0 hkl (by omega),hx];rfl))
             have x1:wr.cell? ⟨b,off+k*3+1,none⟩=some (.string ⟨x.name.toArray⟩):=(HBw.out.cell (p:=⟨b,off+k*3+1,none⟩) hb).trans ((congrArg (fun i=>w.cell? ⟨b,i,none⟩) (by omega)).trans (hc (k*3+1) (sv x.name) (by show(p.forces.flatMap Frc.cells)[_]? =_;rw[flat_atC Frc.cells 3 (fun _=>rfl) p.forces k 1 hkl (by omega),hx];rfl)))
             have x2:wr.cell? ⟨b,off+k*3+2,none⟩=some (.string ⟨x.value.toArray⟩):=(HBw.out.cell (p:=⟨b,off+k*3+2,none⟩) hb).trans ((congrArg (fun i=>w.cell? ⟨b,i,none⟩) (by omega)).trans (hc (k*3+2) (sv x.value) (by show(p.forces.flatMap Frc.cells)[_]? =_;rw[flat_atC Frc.cells 3 (fun _=>rfl) p.forces k 2 hkl (by omega),hx];rfl)))
             have hbr:b<wr.heap.size:=Nat.lt_of_lt_of_le hb HBw.out.size
             have hxm:x∈p.forces:=hx ▸ List.getElem_mem hkl
             have HXm:=Lib.hid hxm
             have HD:Hid (p.forces.drop k=x::p.forces.drop (k+1)):=by show _=_;rw[List.drop_eq_getElem_cons hkl,hx]
             clear hc hx hkl hxm
             have HC:=Lib.hid (fun W hb=>show Calls Tryz.prog 40 #[.string ⟨x.tag.toArray⟩,.slice A0 n0 k0] W (Ret (.bool (tagR p x.tag)) W)from HIt.out W x.tag (HGw.out W hb))
             obtain⟨T,hT⟩: ∃T,tagR p x.tag=T:=⟨_,rfl⟩
             rw[hT]at HC
             have HT0:Hid (Q5=(!T||(p.forces.drop (k+1)).any (fun f=> !tagR p f.tag))):=by show _=_;rw[HK.out,HD.out,List.any_cons,<-hT]
             clear hT HD HK HXm
             generalize(⟨x.tag.toArray⟩:ByteArray)=b0 at*
             generalize(⟨x.name.toArray⟩:ByteArray)=b1 at*
             generalize(⟨x.value.toArray⟩:ByteArray)=b2 at*
             cases T with
             |true=>
              have HT:Hid (Q5=(p.forces.drop (k+1)).any (fun f=> !tagR p f.tag)):=by show _=_;rw[HT0.out];simp
              clear HT0
              go_upto_region 32 with fail
              refine wp_region_grow (by kernel_rfl) (by kernel_rfl) ?_
              repeat(go_big_quiet_step((go_at_call 40;with_reducible exact Calls.grow_of (HC.out _ bel))))
              refine wpQuiet_nil ?_
              intro _ hw';obtain⟨nq,hw''⟩:=hw';subst hw''
              go_wp2_with fail
              go_roundw
              case rel=>exact⟨k+1,by omega,by go_num,HT.out,by show Below _ _ _;exact HB.out.trans ((bel:Below wr.heap.size wr _).mono HB.out.size)⟩
              case measure=>simp[intOf];omega
             |false=>
              have HT:Hid (Q5=true):=by show _=_;rw[HT0.out];simp
              have HRn:Hid (RW=4):=by show _=_;rw[HRW.out,HT.out,HF0.out,HF1.out,HF2.out,HF3.out,HF4.out];rfl
              clear HT0
              go_upto_region 32 with fail
              refine wp_region_grow (by kernel_rfl) (by kernel_rfl) ?_
              repeat(go_big_quiet_step((go_at_call 40;with_reducible exact Calls.grow_of (HC.out _ bel))))
              refine wpQuiet_nil ?_
              intro _ hw';obtain⟨nq,hw''⟩:=hw';subst hw''
              go_wp2_with fail
              go_ret2
              exact⟨HBw.out.trans ((bel:Below wr.heap.size wr _).mono HBw.out.size),.inl ⟨by rw[HRn.out];decide,by rw[HRn.out];rfl⟩⟩
            ·have HF5:Hid (Q5=false):=by show _=_;rw[HK.out,List.drop_eq_nil_of_le (by rw[HN5.out];omega)];rfl
             go_wp2_with fail
             clear HK hlt z5 z0 HGw HQ5
             go_loopw [11] (fun i wr=> ∃k:Nat,k<=n4/\i= .int .i64 (k:Nat)/\Hid (Q6=(p.attrs.drop k).any (fun a=> !decide (a.tag=[42])&& !tagR p a.tag))/\Hid (Below W0.heap.size W0 wr)) (fun i _=>n4-(intOf i).toNat)
             case atStart=>exact⟨0,by omega,rfl,by show _=_;rw[HQ6.out,List.drop_zero],by first|exact HB.out|(show Below _ _ _;exact HB.out.trans ((bel:Below _ _ _).mono HB.out.size))⟩
             case round=>
              clear HB
              obtain⟨k,hk,rfl,HK,HB⟩:=hrel
              have HBw:=Lib.hid (HB0.out.trans (HB.out.mono HB0.out.size))
              have hBr:B<wr.heap.size:=Nat.lt_of_lt_of_le hBl HB.out.size
              have z4:=HCc.out wr HB.out 4 _ c4
              have z0:=HCc.out wr HB.out 0 _ c0
              have HGw:=Lib.hid (fun W (hb:Below wr.heap.size wr W)=>HBw.out.trans (hb.mono HBw.out.size))
              by_cases hlt:k<n4
              ·obtain⟨b,off,hAe,hb,hc⟩: ∃b off,A4=some ⟨b,off,none⟩/\b<w.heap.size/\ ∀j u,(fC p 4)[j]? =some u->w.cell? ⟨b,off+j,none⟩=some u:=by
                obtain⟨_,_,A',c',e,h9⟩:=H4.out
                cases e
                obtain⟨b,off,h1,h2,h3⟩:=h9 (by omega)
                exact⟨b,off,h1,h2,h3⟩
               subst hAe
               have hkl:k<p.attrs.length:=by rw[HN4.out];exact hlt
               obtain⟨x,hx⟩: ∃x,p.attrs[k]=x:=⟨_,rfl⟩
               have x0:wr.cell? ⟨b,off+k*2,none⟩=some (.string ⟨x.tag.toArray⟩):=(HBw.out.cell (p:=⟨b,off+k*2,none⟩) hb).trans (hc (k*2+0) (sv x.tag) (by show(p.attrs.flatMap Alw.cells)[_]? =_;rw[flat_atC Alw.cells 2 (fun _=>rfl) p.attrs k 0 hkl (by omega),hx];rfl))
               have x1:wr.cell? ⟨b,off+k*2+1,none⟩=some (.string ⟨x.name.toArray⟩):=(HBw.out.cell (p:=⟨b,off+k*2+1,none⟩) hb).trans ((congrArg (fun i=>w.cell? ⟨b,i,none⟩) (by omega)).trans (hc (k*2+1) (sv x.name) (by show(p.attrs.flatMap Alw.cells)[_]? =_;rw[flat_atC Alw.cells 2 (fun _=>rfl) p.attrs k 1 hkl (by omega),hx];rfl)))
               have hbr:b<wr.heap.size:=Nat.lt_of_lt_of_le hb HBw.out.size
               have hxm:x∈p.attrs:=hx ▸ List.getElem_mem hkl
               have HXm:=Lib.hid hxm
               have HD:Hid (p.attrs.drop k=x::p.attrs.drop (k+1)):=by show _=_;rw[List.drop_eq_getElem_cons hkl,hx]
               clear hc hx hkl hxm
               have HC:=Lib.hid (fun W hb=>show Calls Tryz.prog 40 #[.string ⟨x.tag.toArray⟩,.slice A0 n0 k0] W (Ret (.bool (tagR p x.tag)) W)from HIt.out W x.tag (HGw.out W hb))
               have hq:((⟨x.tag.toArray⟩:ByteArray).toList==[42])=decide (x.tag=[42]):=by rw[ba_bqD]
               obtain⟨T,hT⟩: ∃T,tagR p x.tag=T:=⟨_,rfl⟩
               rw[hT]at HC
               obtain⟨S,hS⟩: ∃S,decide (x.tag=[42])=S:=⟨_,rfl⟩
               rw[hS]at hq
               have HT0:Hid (Q6=((!S&& !T)||(p.attrs.drop (k+1)).any (fun a=> !decide (a.tag=[42])&& !tagR p a.tag))):=by show _=_;rw[HK.out,HD.out,List.any_cons,<-hT,<-hS]
               clear hT hS HD HK HXm
               generalize(⟨x.tag.toArray⟩:ByteArray)=b0 at*
               generalize(⟨x.name.toArray⟩:ByteArray)=b1 at*
               have hS0:Below wr.heap.size wr wr.drew:=bel
               cases S with
               |true=>
                have HT:Hid (Q6=(p.attrs.drop (k+1)).any (fun a=> !decide (a.tag=[42])&& !tagR p a.tag)):=by show _=_;rw[HT0.out];simp
                clear HT0
                go_upto_region 37 with fail
                refine wp_region_row 18 [(0,true),(1,true),(2,true),(3,true),(4,true),(5,true),(6,true),(7,true),(8,true),(9,true),(10,true),(11,true),(12,true),(13,true),(14,true),(15,true),(16,true),(17,true)] (fun V=>Below wr.heap.size wr V) hmx (by kernel_rfl) (by kernel_rfl) (by kernel_rfl) (by decide) rfl (fun c a d v w h=>by first|exact h|(obtain⟨x,y⟩:=(h:_/\_);cases d<;>exact⟨x,y⟩)) (by kernel_rfl) (by exact hS0) ?_
                refine wpRow_readD (v:= .pointer (some ⟨B,4,none⟩)) 112 rfl rfl rfl (fun W hW=>by simp[execOp,go_sem]) ?_
                simp only[Act.put,List.setIfInBounds_toArray,List.set_cons_succ,List.set_cons_zero]
                refine wpRow_readD (v:= .slice (some ⟨b,off,none⟩) n4 k4) 113 rfl rfl rfl (fun W hW=>by have d:=(hW.cell (p:=⟨B,4,none⟩) hBr).trans z4;simp[execOp,go_sem,d]) ?_
                simp only[Act.put,List.setIfInBounds_toArray,List.set_cons_succ,List.set_cons_zero]
                refine wpRow_readD (v:= .int .i64 (k:Nat)) 114 rfl rfl rfl (fun W hW=>by simp[execOp,go_sem]) ?_
                simp only[Act.put,List.setIfInBounds_toArray,List.set_cons_succ,List.set_cons_zero]
                refine wpRow_readD (v:= .pointer (some ⟨b,off+k*2,none⟩)) 115 rfl rfl rfl (fun W hW=>by simp[execOp,go_sem,hlt];try omega) ?_
                simp only[Act.put,List.setIfInBounds_toArray,List.set_cons_succ,List.set_cons_zero]
                refine wpRow_readD (v:= .pointer (some ⟨b,off+k*2,none⟩)) 116 rfl rfl rfl (fun W hW=>by simp[execOp,go_sem]) ?_
                simp only[Act.put,List.setIfInBounds_toArray,List.set_cons_succ,List.set_cons_zero]
                refine wpRow_readD (v:= .string b0) 117 rfl rfl rfl (fun W hW=>by have d:=(hW.cell (p:=⟨b,off+k*2,none⟩) hbr).trans x0;simp[execOp,go_sem,d]) ?_
                simp only[Act.put,List.setIfInBounds_toArray,List.set_cons_succ,List.set_cons_zero]
                refine wpRow_readD (v:= .bool false) 118 rfl rfl rfl (fun W hW=>by simp[execOp,go_sem,hq]) ?_
                simp only[Act.put,List.setIfInBounds_toArray,List.set_cons_succ,List.set_cons_zero]
                refine wpRow_readD (v:= .bool false) 119 rfl rfl rfl (fun W hW=>by simp[execOp,go_sem]) ?_
                simp only[Act.put,List.setIfInBounds_toArray,List.set_cons_succ,List.set_cons_zero]
                refine wpRow_skip 120 rfl rfl rfl ?_
                simp only[Act.put,List.setIfInBounds_toArray,List.set_cons_succ,List.set_cons_zero]
                refine wpRow_skip 121 rfl rfl rfl ?_
                simp only[Act.put,List.setIfInBounds_toArray,List.set_cons_succ,List.set_cons_zero]
                refine wpRow_skip 122 rfl rfl rfl ?_
                simp only[Act.put,List.setIfInBounds_toArray,List.set_cons_succ,List.set_cons_zero]
                refine wpRow_skip 123 rfl rfl rfl ?_
                simp only[Act.put,List.setIfInBounds_toArray,List.set_cons_succ,List.set_cons_zero]
                refine wpRow_skip 124 rfl rfl rfl ?_
                simp only[Act.put,List.setIfInBounds_toArray,List.set_cons_succ,List.set_cons_zero]
                refine wpRow_skip 125 rfl rfl rfl ?_
                simp only[Act.put,List.setIfInBounds_toArray,List.set_cons_succ,List.set_cons_zero]
                refine wpRow_skip 126 rfl rfl rfl ?_
                simp only[Act.put,List.setIfInBounds_toArray,List.set_cons_succ,List.set_cons_zero]
                refine wpRow_skip 127 rfl rfl rfl ?_
                simp only[Act.put,List.setIfInBounds_toArray,List.set_cons_succ,List.set_cons_zero]
                refine wpRow_skip 128 rfl rfl rfl ?_
                simp only[Act.put,List.setIfInBounds_toArray,List.set_cons_succ,List.set_cons_zero]
                refine wpRow_skip 129 rfl rfl rfl ?_
                simp only[Act.put,List.setIfInBounds_toArray,List.set_cons_succ,List.set_cons_zero]
                dsimp only[wpRow,List.drop]
                go_wp2_with fail
                go_roundw
                case rel=>exact⟨k+1,by omega,by go_num,HT.out,by show Below _ _ _;exact HB.out.trans ((bel:Below wr.heap.size wr _).mono HB.out.size)⟩
                case measure=>simp[intOf];omega
               |false=>
                cases T with
                |true=>
                 have HT:Hid (Q6=(p.attrs.drop (k+1)).any (fun a=> !decide (a.tag=[42])&& !tagR p a.tag)):=by show _=_;rw[HT0.out];simp
                 clear HT0
                 go_upto_region 37 with fail
                 refine wp_region_row 17 [(0,true),(1,true),(2,true),(3,true),(4,true),(5,true),(6,true),(7,true),(8,true),(9,true),(10,true),(11,true),(12,true),(13,true),(14,true),(15,true),(16,false)] (fun V=>Below wr.heap.size wr V) hmx (by kernel_rfl) (by kernel_rfl) (by kernel_rfl) (by decide) rfl (fun c a d v w h=>by first|exact h|(obtain⟨x,y⟩:=(h:_/\_);cases d<;>exact⟨x,y⟩)) (by kernel_rfl) (by exact hS0) ?_
                 refine wpRow_readD (v:= .pointer (some ⟨B,4,none⟩)) 112 rfl rfl rfl (fun W hW=>by simp[execOp,go_sem]) ?_
                 simp only[Act.put,List.setIfInBounds_toArray,List.set_cons_succ,List.set_cons_zero]
                 refine wpRow_readD (v:= .slice (some ⟨b,off,none⟩) n4 k4) 113 rfl rfl rfl (fun W hW=>by have d:=(hW.cell (p:=⟨B,4,none⟩) hBr).trans z4;simp[execOp,go_sem,d]) ?_
                 simp only[Act.put,List.setIfInBounds_toArray,List.set_cons_succ,List.set_cons_zero]
                 refine wpRow_readD (v:= .int .i64 (k:Nat)) 114 rfl rfl rfl (fun W hW=>by simp[execOp,go_sem]) ?_
                 simp only[Act.put,List.setIfInBounds_toArray,List.set_cons_succ,List.set_cons_zero]
                 refine wpRow_readD (v:= .pointer (some ⟨b,off+k*2,none⟩)) 115 rfl rfl rfl (fun W hW=>by simp[execOp,go_sem,hlt];try omega) ?_
                 simp only[Act.put,List.setIfInBounds_toArray,List.set_cons_succ,List.set_cons_zero]
                 refine wpRow_readD (v:= .pointer (some ⟨b,off+k*2,none⟩)) 116 rfl rfl rfl (fun W hW=>by simp[execOp,go_sem]) ?_
                 simp only[Act.put,List.setIfInBounds_toArray,List.set_cons_succ,List.set_cons_zero]
                 refine wpRow_readD (v:= .string b0) 117 rfl rfl rfl (fun W hW=>by have d:=(hW.cell (p:=⟨b,off+k*2,none⟩) hbr).trans x0;simp[execOp,go_sem,d]) ?_
                 simp only[Act.put,List.setIfInBounds_toArray,List.set_cons_succ,List.set_cons_zero]
                 refine wpRow_readD (v:= .bool true) 118 rfl rfl rfl (fun W hW=>by simp[execOp,go_sem,hq]) ?_
                 simp only[Act.put,List.setIfInBounds_toArray,List.set_cons_succ,List.set_cons_zero]
                 refine wpRow_readD (v:= .bool true) 119 rfl rfl rfl (fun W hW=>by simp[execOp,go_sem]) ?_
                 simp only[Act.put,List.setIfInBounds_toArray,List.set_cons_succ,List.set_cons_zero]
                 refine wpRow_readD (v:= .pointer (some ⟨B,4,none⟩)) 120 rfl rfl rfl (fun W hW=>by simp[execOp,go_sem]) ?_
                 simp only[Act.put,List.setIfInBounds_toArray,List.set_cons_succ,List.set_cons_zero]
                 refine wpRow_readD (v:= .slice (some ⟨b,off,none⟩) n4 k4) 121 rfl rfl rfl (fun W hW=>by have d:=(hW.cell (p:=⟨B,4,none⟩) hBr).trans z4;simp[execOp,go_sem,d]) ?_
                 simp only[Act.put,List.setIfInBounds_toArray,List.set_cons_succ,List.set_cons_zero]
                 refine wpRow_readD (v:= .int .i64 (k:Nat)) 122 rfl rfl rfl (fun W hW=>by simp[execOp,go_sem]) ?_
                 simp only[Act.put,List.setIfInBounds_toArray,List.set_cons_succ,List.set_cons_zero]
                 refine wpRow_readD (v:= .pointer (some ⟨b,off+k*2,none⟩)) 123 rfl rfl rfl (fun W hW=>by simp[execOp,go_sem,hlt];try omega) ?_
                 simp only[Act.put,List.setIfInBounds_toArray,List.set_cons_succ,List.set_cons_zero]
                 refine wpRow_readD (v:= .pointer (some ⟨b,off+k*2,none⟩)) 124 rfl rfl rfl (fun W hW=>by simp[execOp,go_sem]) ?_
                 simp only[Act.put,List.setIfInBounds_toArray,List.set_cons_succ,List.set_cons_zero]
                 refine wpRow_readD (v:= .string b0) 125 rfl rfl rfl (fun W hW=>by have d:=(hW.cell (p:=⟨b,off+k*2,none⟩) hbr).trans x0;simp[execOp,go_sem,d]) ?_
                 simp only[Act.put,List.setIfInBounds_toArray,List.set_cons_succ,List.set_cons_zero]
                 refine wpRow_readD (v:= .pointer (some ⟨B,0,none⟩)) 126 rfl rfl rfl (fun W hW=>by simp[execOp,go_sem]) ?_
                 simp only[Act.put,List.setIfInBounds_toArray,List.set_cons_succ,List.set_cons_zero]
                 refine wpRow_readD (v:= .slice A0 n0 k0) 127 rfl rfl rfl (fun W hW=>by have d:=(hW.cell (p:=⟨B,0,none⟩) hBr).trans z0;simp[execOp,go_sem,d]) ?_
                 simp only[Act.put,List.setIfInBounds_toArray,List.set_cons_succ,List.set_cons_zero]
                 refine wpRow_op rfl rfl fun Kc hKc=> ?_
                 unfold Oper.wp
                 simp[execOp,go_sem]
                 refine(HC.out _ hS0).mono ?_
                 rintro e Wk1 ⟨rfl,Xk1,hXk1⟩;have hk1:Below wr.heap.size wr Wk1:=hS0.trans ((show Below wr.drew.heap.size wr.drew Wk1 by rw[hXk1];exact bel).mono hS0.size);clear hXk1
                 show Kc _ _
                 apply hKc
                 refine⟨hk1, ?_⟩
                 dsimp only[wpRow,List.drop]
                 go_wp2_with fail
                 go_roundw
                 case rel=>exact⟨k+1,by omega,by go_num,HT.out,by show Below _ _ _;exact HB.out.trans (hk1.mono HB.out.size)⟩
                 case measure=>simp[intOf];omega
                |false=>
                 have HT:Hid (Q6=true):=by show _=_;rw[HT0.out];simp
                 have HRn:Hid (RW=4):=by show _=_;rw[HRW.out,HT.out,HF0.out,HF1.out,HF2.out,HF3.out,HF4.out,HF5.out];rfl
                 clear HT0
                 go_upto_region 37 with fail
                 refine wp_region_row 17 [(0,true),(1,true),(2,true),(3,true),(4,true),(5,true),(6,true),(7,true),(8,true),(9,true),(10,true),(11,true),(12,true),(13,true),(14,true),(15,true),(16,false)] (fun V=>Below wr.heap.size wr V) hmx (by kernel_rfl) (by kernel_rfl) (by kernel_rfl) (by decide) rfl (fun c a d v w h=>by first|exact h|(obtain⟨x,y⟩:=(h:_/\_);cases d<;>exact⟨x,y⟩)) (by kernel_rfl) (by exact hS0) ?_
                 refine wpRow_readD (v:= .pointer (some ⟨B,4,none⟩)) 112 rfl rfl rfl (fun W hW=>by simp[execOp,go_sem]) ?_
                 simp only[Act.put,List.setIfInBounds_toArray,List.set_cons_succ,List.set_cons_zero]
                 refine wpRow_readD (v:= .slice (some ⟨b,off,none⟩) n4 k4) 113 rfl rfl rfl (fun W hW=>by have d:=(hW.cell (p:=⟨B,4,none⟩) hBr).trans z4;simp[execOp,go_sem,d]) ?_
                 simp only[Act.put,List.setIfInBounds_toArray,List.set_cons_succ,List.set_cons_zero]
                 refine wpRow_readD (v:= .int .i64 (k:Nat)) 114 rfl rfl rfl (fun W hW=>by simp[execOp,go_sem]) ?_
                 simp only[Act.put,List.setIfInBounds_toArray,List.set_cons_succ,List.set_cons_zero]
                 refine wpRow_readD (v:= .pointer (some ⟨b,off+k*2,none⟩)) 115 rfl rfl rfl (fun W hW=>by simp[execOp,go_sem,hlt];try omega) ?_
                 simp only[Act.put,List.setIfInBounds_toArray,List.set_cons_succ,List.set_cons_zero]
                 refine wpRow_readD (v:= .pointer (some ⟨b,off+k*2,none⟩)) 116 rfl rfl rfl (fun W hW=>by simp[execOp,go_sem]) ?_
                 simp only[Act.put,List.setIfInBounds_toArray,List.set_cons_succ,List.set_cons_zero]
                 refine wpRow_readD (v:= .string b0) 117 rfl rfl rfl (fun W hW=>by have d:=(hW.cell (p:=⟨b,off+k*2,none⟩) hbr).trans x0;simp[execOp,go_sem,d]) ?_
                 simp only[Act.put,List.setIfInBounds_toArray,List.set_cons_succ,List.set_cons_zero]
                 refine wpRow_readD (v:= .bool true) 118 rfl rfl rfl (fun W hW=>by simp[execOp,go_sem,hq]) ?_
                 simp only[Act.put,List.setIfInBounds_toArray,List.set_cons_succ,List.set_cons_zero]
                 refine wpRow_readD (v:= .bool true) 119 rfl rfl rfl (fun W hW=>by simp[execOp,go_sem]) ?_
                 simp only[Act.put,List.setIfInBounds_toArray,List.set_cons_succ,List.set_cons_zero]
                 refine wpRow_readD (v:= .pointer (some ⟨B,4,none⟩)) 120 rfl rfl rfl (fun W hW=>by simp[execOp,go_sem]) ?_
                 simp only[Act.put,List.setIfInBounds_toArray,List.set_cons_succ,List.set_cons_zero]
                 refine wpRow_readD (v:= .slice (some ⟨b,off,none⟩) n4 k4) 121 rfl rfl rfl (fun W hW=>by have d:=(hW.cell (p:=⟨B,4,none⟩) hBr).trans z4;simp[execOp,go_sem,d]) ?_
                 simp only[Act.put,List.setIfInBounds_toArray,List.set_cons_succ,List.set_cons_zero]
                 refine wpRow_readD (v:= .int .i64 (k:Nat)) 122 rfl rfl rfl (fun W hW=>by simp[execOp,go_sem]) ?_
                 simp only[Act.put,List.setIfInBounds_toArray,List.set_cons_succ,List.set_cons_zero]
                 refine wpRow_readD (v:= .pointer (some ⟨b,off+k*2,none⟩)) 123 rfl rfl rfl (fun W hW=>by simp[execOp,go_sem,hlt];try omega) ?_
                 simp only[Act.put,List.setIfInBounds_toArray,List.set_cons_succ,List.set_cons_zero]
                 refine wpRow_readD (v:= .pointer (some ⟨b,off+k*2,none⟩)) 124 rfl rfl rfl (fun W hW=>by simp[execOp,go_sem]) ?_
                 simp only[Act.put,List.setIfInBounds_toArray,List.set_cons_succ,List.set_cons_zero]
                 refine wpRow_readD (v:= .string b0) 125 rfl rfl rfl (fun W hW=>by have d:=(hW.cell (p:=⟨b,off+k*2,none⟩) hbr).trans x0;simp[execOp,go_sem,d]) ?_
                 simp only[Act.put,List.setIfInBounds_toArray,List.set_cons_succ,List.set_cons_zero]
                 refine wpRow_readD (v:= .pointer (some ⟨B,0,none⟩)) 126 rfl rfl rfl (fun W hW=>by simp[execOp,go_sem]) ?_
                 simp only[Act.put,List.setIfInBounds_toArray,List.set_cons_succ,List.set_cons_zero]
                 refine wpRow_readD (v:= .slice A0 n0 k0) 127 rfl rfl rfl (fun W hW=>by have d:=(hW.cell (p:=⟨B,0,none⟩) hBr).trans z0;simp[execOp,go_sem,d]) ?_
                 simp only[Act.put,List.setIfInBounds_toArray,List.set_cons_succ,List.set_cons_zero]
                 refine wpRow_op rfl rfl fun Kc hKc=> ?_
                 unfold Oper.wp
                 simp[execOp,go_sem]
                 refine(HC.out _ hS0).mono ?_
                 rintro e Wk1 ⟨rfl,Xk1,hXk1⟩;have hk1:Below wr.heap.size wr Wk1:=hS0.trans ((show Below wr.drew.heap.size wr.drew Wk1 by rw[hXk1];exact bel).mono hS0.size);clear hXk1
                 show Kc _ _
                 apply hKc
                 refine⟨hk1, ?_⟩
                 dsimp only[wpRow,List.drop]
                 go_wp2_with fail
                 go_ret2
                 exact⟨HBw.out.trans (hk1.mono HBw.out.size),.inl ⟨by rw[HRn.out];decide,by rw[HRn.out];rfl⟩⟩
              ·have HF6:Hid (Q6=false):=by show _=_;rw[HK.out,List.drop_eq_nil_of_le (by rw[HN4.out];omega)];rfl
               go_wp2_with fail
               clear HK hlt z4 z0 HGw HQ6
               go_loopw [12] (fun i wr=> ∃k:Nat,k<=n0/\i= .int .i64 (k:Nat)/\Hid (Q7=(p.tags.drop k).any (longB p))/\Hid (Below W0.heap.size W0 wr)) (fun i _=>n0-(intOf i).toNat)
               case atStart=>exact⟨0,by omega,rfl,by show _=_;rw[HQ7.out,List.drop_zero],by first|exact HB.out|(show Below _ _ _;exact HB.out.trans ((bel:Below _ _ _).mono HB.out.size))⟩
               case round=>
                clear HB
                obtain⟨k,hk,rfl,HK,HB⟩:=hrel
                have HBw:=Lib.hid (HB0.out.trans (HB.out.mono HB0.out.size))
                have hBr:B<wr.heap.size:=Nat.lt_of_lt_of_le hBl HB.out.size
                have z0:=HCc.out wr HB.out 0 _ c0
                have z8:=HCc.out wr HB.out 8 _ c8
                have HGw:=Lib.hid (fun W (hb:Below wr.heap.size wr W)=>HBw.out.trans (hb.mono HBw.out.size))
                by_cases hlt:k<n0
                ·obtain⟨b,off,hAe,hb,hc⟩: ∃b off,A0=some ⟨b,off,none⟩/\b<w.heap.size/\ ∀j u,(fC p 0)[j]? =some u->w.cell? ⟨b,off+j,none⟩=some u:=by
                  obtain⟨_,_,A',c',e,h9⟩:=H0.out
                  cases e
                  obtain⟨b,off,h1,h2,h3⟩:=h9 (by omega)
                  exact⟨b,off,h1,h2,h3⟩
                 subst hAe
                 have hkl:k<p.tags.length:=by rw[HN0.out];exact hlt
                 obtain⟨x,hx⟩: ∃x,p.tags[k]=x:=⟨_,rfl⟩
                 have x0:wr.cell? ⟨b,off+k,none⟩=some (.string ⟨x.toArray⟩):=(HBw.out.cell (p:=⟨b,off+k,none⟩) hb).trans (hc k (sv x) (by show(p.tags.map sv)[k]? =_;simp[hkl,hx]))
                 have hbr:b<wr.heap.size:=Nat.lt_of_lt_of_le hb HBw.out.size
                 have hxm:x∈p.tags:=hx ▸ List.getElem_mem hkl
                 have HXm:=Lib.hid hxm
                 have HD:Hid (p.tags.drop k=x::p.tags.drop (k+1)):=by show _=_;rw[List.drop_eq_getElem_cons hkl,hx]
                 clear hc hx hkl hxm
                 have hq:decide (pnm<((⟨x.toArray⟩:ByteArray).size:Int))=longB p x:=by unfold longB;rw[HPn.out];congr 1
                 have HT0:Hid (Q7=(longB p x||(p.tags.drop (k+1)).any (longB p))):=by show _=_;rw[HK.out,HD.out,List.any_cons]
                 generalize longB p x=T at*
                 clear HD HK HXm
                 generalize(⟨x.toArray⟩:ByteArray)=b0 at*
                 cases T with
                 |true=>
                  have HT:Hid (Q7=true):=by show _=_;rw[HT0.out];simp
                  have HRn:Hid (RW=1):=by show _=_;rw[HRW.out,HT.out,HF0.out,HF1.out,HF2.out,HF3.out,HF4.out,HF5.out,HF6.out];rfl
                  clear HT0
                  go_upto_region 42 with fail
                  refine wp_region_grow (by kernel_rfl) (by kernel_rfl) ?_
                  repeat(go_big_quiet_step(fail))
                  refine wpQuiet_nil ?_
                  intro _ hw';obtain⟨nq,hw''⟩:=hw';subst hw''
                  go_wp2_with fail
                  go_ret2
                  exact⟨HBw.out.trans ((bel:Below wr.heap.size wr _).mono HBw.out.size),.inl ⟨by rw[HRn.out];decide,by rw[HRn.out];rfl⟩⟩
                 |false=>
                  have HT:Hid (Q7=(p.tags.drop (k+1)).any (longB p)):=by show _=_;rw[HT0.out];simp
                  clear HT0
                  go_upto_region 42 with fail
                  refine wp_region_grow (by kernel_rfl) (by kernel_rfl) ?_
                  repeat(go_big_quiet_step(fail))
                  refine wpQuiet_nil ?_
                  intro _ hw';obtain⟨nq,hw''⟩:=hw';subst hw''
                  go_wp2_with fail
                  go_roundw
                  case rel=>exact⟨k+1,by omega,by go_num,HT.out,by show Below _ _ _;exact HB.out.trans ((bel:Below wr.heap.size wr _).mono HB.out.size)⟩
                  case measure=>simp[intOf];omega
                ·have HF7:Hid (Q7=false):=by show _=_;rw[HK.out,List.drop_eq_nil_of_le (by rw[HN0.out];omega)];rfl
                 go_wp2_with fail
                 clear HK hlt z0 z8 HGw HQ7
                 go_loopw [13] (fun i wr=> ∃k:Nat,k<=n5/\i= .int .i64 (k:Nat)/\Hid (Q8=(p.forces.drop k).any (overB p))/\Hid (Below W0.heap.size W0 wr)) (fun i _=>n5-(intOf i).toNat)
                 case atStart=>exact⟨0,by omega,rfl,by show _=_;rw[HQ8.out,List.drop_zero],by first|exact HB.out|(show Below _ _ _;exact HB.out.trans ((bel:Below _ _ _).mono HB.out.size))⟩
                 case round=>
                  clear HB
                  obtain⟨k,hk,rfl,HK,HB⟩:=hrel
                  have HBw:=Lib.hid (HB0.out.trans (HB.out.mono HB0.out.size))
                  have hBr:B<wr.heap.size:=Nat.lt_of_lt_of_le hBl HB.out.size
                  have z5:=HCc.out wr HB.out 5 _ c5
                  have z8:=HCc.out wr HB.out 8 _ c8
                  have z9:=HCc.out wr HB.out 9 _ c9
                  have HGw:=Lib.hid (fun W (hb:Below wr.heap.size wr W)=>HBw.out.trans (hb.mono HBw.out.size))
                  by_cases hlt:k<n5
                  ·obtain⟨b,off,hAe,hb,hc⟩: ∃b off,A5=some ⟨b,off,none⟩/\b<w.heap.size/\ ∀j u,(fC p 5)[j]? =some u->w.cell? ⟨b,off+j,none⟩=some u:=by
                    obtain⟨_,_,A',c',e,h9⟩:=H5.out
                    cases e
                    obtain⟨b,off,h1,h2,h3⟩:=h9 (by omega)
                    exact⟨b,off,h1,h2,h3⟩
                   subst hAe
                   have hkl:k<p.forces.length:=by rw[HN5.out];exact hlt
                   obtain⟨x,hx⟩: ∃x,p.forces[k]=x:=⟨_,rfl⟩
                   have x0:wr.cell? ⟨b,off+k*3,none⟩=some (.string ⟨x.tag.toArray⟩):=(HBw.out.cell (p:=⟨b,off+k*3,none⟩) hb).trans (hc (k*3+0) (sv x.tag) (by show(p.forces.flatMap Frc.cells)[_]? =_;rw[flat_atC Frc.cells 3 (fun _=>rfl) p.forces k 0 hkl (by omega),hx];rfl))
                   have x1:wr.cell? ⟨b,off+k*3+1,none⟩=some (.string ⟨x.name.toArray⟩):=(HBw.out.cell (p:=⟨b,off+k*3+1,none⟩) hb).trans ((congrArg (fun i=>w.cell? ⟨b,i,none⟩) (by omega)).trans (hc (k*3+1) (sv x.name) (by show(p.forces.flatMap Frc.cells)[_]? =_;rw[flat_atC Frc.cells 3 (fun _=>rfl) p.forces k 1 hkl (by omega),hx];rfl)))
                   have x2:wr.cell? ⟨b,off+k*3+2,none⟩=some (.string ⟨x.value.toArray⟩):=(HBw.out.cell (p:=⟨b,off+k*3+2,none⟩) hb).trans ((congrArg (fun i=>w.cell? ⟨b,i,none⟩) (by omega)).trans (hc (k*3+2) (sv x.value) (by show(p.forces.flatMap Frc.cells)[_]? =_;rw[flat_atC Frc.cells 3 (fun _=>rfl) p.forces k 2 hkl (by omega),hx];rfl)))
                   have hbr:b<wr.heap.size:=Nat.lt_of_lt_of_le hb HBw.out.size
                   have hxm:x∈p.forces:=hx ▸ List.getElem_mem hkl
                   have HXm:=Lib.hid hxm
                   have HD:Hid (p.forces.drop k=x::p.forces.drop (k+1)):=by show _=_;rw[List.drop_eq_getElem_cons hkl,hx]
                   clear hc hx hkl hxm
                   have hq1:decide (pnm<((⟨x.name.toArray⟩:ByteArray).size:Int))=decide (p.name<(x.name.length:Int)):=by rw[HPn.out];congr 1
                   have hq2:decide (pv<((⟨x.value.toArray⟩:ByteArray).size:Int))=decide (p.value<(x.value.length:Int)):=by rw[HPv.out];congr 1
                   have HT0:Hid (Q8=((decide (p.name<(x.name.length:Int))||decide (p.value<(x.value.length:Int)))||(p.forces.drop (k+1)).any (overB p))):=by show _=_;rw[HK.out,HD.out,List.any_cons];rfl
                   generalize decide (p.name<(x.name.length:Int))=S at*
                   generalize decide (p.value<(x.value.length:Int))=T at*
                   clear HD HK HXm
                   generalize(⟨x.tag.toArray⟩:ByteArray)=b0 at*
                   generalize(⟨x.name.toArray⟩:ByteArray)=b1 at*
                   generalize(⟨x.value.toArray⟩:ByteArray)=b2 at*
                   have hS0:Below wr.heap.size wr wr.drew:=bel
                   cases S with
                   |true=>
                    have HT:Hid (Q8=true):=by show _=_;rw[HT0.out];simp
                    have HRn:Hid (RW=1):=by show _=_;rw[HRW.out,HT.out,HF0.out,HF1.out,HF2.out,HF3.out,HF4.out,HF5.out,HF6.out,HF7.out];rfl
                    clear HT0
                    go_upto_region 47 with fail
                    refine wp_region_row 21 [(0,true),(1,true),(2,true),(3,true),(4,true),(5,true),(6,true),(7,true),(8,true),(9,true),(10,true),(11,true),(12,true),(13,true),(14,true),(15,true),(16,true),(17,true),(18,true),(19,true),(20,true)] (fun V=>Below wr.heap.size wr V) hmx (by kernel_rfl) (by kernel_rfl) (by kernel_rfl) (by decide) rfl (fun c a d v w h=>by first|exact h|(obtain⟨x,y⟩:=(h:_/\_);cases d<;>exact⟨x,y⟩)) (by kernel_rfl) (by exact hS0) ?_
                    refine wpRow_readD (v:= .pointer (some ⟨B,5,none⟩)) 154 rfl rfl rfl (fun W hW=>by simp[execOp,go_sem]) ?_
                    simp only[Act.put,List.setIfInBounds_toArray,List.set_cons_succ,List.set_cons_zero]
                    refine wpRow_readD (v:= .slice (some ⟨b,off,none⟩) n5 k5) 155 rfl rfl rfl (fun W hW=>by have d:=(hW.cell (p:=⟨B,5,none⟩) hBr).trans z5;simp[execOp,go_sem,d]) ?_
                    simp only[Act.put,List.setIfInBounds_toArray,List.set_cons_succ,List.set_cons_zero]
                    refine wpRow_readD (v:= .int .i64 (k:Nat)) 156 rfl rfl rfl (fun W hW=>by simp[execOp,go_sem]) ?_
                    simp only[Act.put,List.setIfInBounds_toArray,List.set_cons_succ,List.set_cons_zero]
                    refine wpRow_readD (v:= .pointer (some ⟨b,off+k*3,none⟩)) 157 rfl rfl rfl (fun W hW=>by simp[execOp,go_sem,hlt];try omega) ?_
                    simp only[Act.put,List.setIfInBounds_toArray,List.set_cons_succ,List.set_cons_zero]
                    refine wpRow_readD (v:= .pointer (some ⟨b,off+k*3+1,none⟩)) 158 rfl rfl rfl (fun W hW=>by simp[execOp,go_sem]) ?_
                    simp only[Act.put,List.setIfInBounds_toArray,List.set_cons_succ,List.set_cons_zero]
                    refine wpRow_readD (v:= .string b1) 159 rfl rfl rfl (fun W hW=>by have d:=(hW.cell (p:=⟨b,off+k*3+1,none⟩) hbr).trans x1;simp[execOp,go_sem,d]) ?_
                    simp only[Act.put,List.setIfInBounds_toArray,List.set_cons_succ,List.set_cons_zero]
                    refine wpRow_readD (v:= .int .i64 b1.size) 160 rfl rfl rfl (fun W hW=>by simp[execOp,go_sem]) ?_
                    simp only[Act.put,List.setIfInBounds_toArray,List.set_cons_succ,List.set_cons_zero]
                    refine wpRow_readD (v:= .pointer (some ⟨B,8,none⟩)) 161 rfl rfl rfl (fun W hW=>by simp[execOp,go_sem]) ?_
                    simp only[Act.put,List.setIfInBounds_toArray,List.set_cons_succ,List.set_cons_zero]
                    refine wpRow_readD (v:= .int .i64 pnm) 162 rfl rfl rfl (fun W hW=>by have d:=(hW.cell (p:=⟨B,8,none⟩) hBr).trans z8;simp[execOp,go_sem,d]) ?_
                    simp only[Act.put,List.setIfInBounds_toArray,List.set_cons_succ,List.set_cons_zero]
                    refine wpRow_readD (v:= .bool true) 163 rfl rfl rfl (fun W hW=>by simp[execOp,go_sem,hq1]) ?_
                    simp only[Act.put,List.setIfInBounds_toArray,List.set_cons_succ,List.set_cons_zero]
                    refine wpRow_readD (v:= .bool true) 164 rfl rfl rfl (fun W hW=>by simp[execOp,go_sem]) ?_
                    simp only[Act.put,List.setIfInBounds_toArray,List.set_cons_succ,List.set_cons_zero]
                    refine wpRow_skip 165 rfl rfl rfl ?_
                    simp only[Act.put,List.setIfInBounds_toArray,List.set_cons_succ,List.set_cons_zero]
                    refine wpRow_skip 166 rfl rfl rfl ?_
                    simp only[Act.put,List.setIfInBounds_toArray,List.set_cons_succ,List.set_cons_zero]
                    refine wpRow_skip 167 rfl rfl rfl ?_
                    simp only[Act.put,List.setIfInBounds_toArray,List.set_cons_succ,List.set_cons_zero]
                    refine wpRow_skip 168 rfl rfl rfl ?_
                    simp only[Act.put,List.setIfInBounds_toArray,List.set_cons_succ,List.set_cons_zero]
                    refine wpRow_skip 169 rfl rfl rfl ?_
                    simp only[Act.put,List.setIfInBounds_toArray,List.set_cons_succ,List.set_cons_zero]
                    refine wpRow_skip 170 rfl rfl rfl ?_
                    simp only[Act.put,List.setIfInBounds_toArray,List.set_cons_succ,List.set_cons_zero]
                    refine wpRow_skip 171 rfl rfl rfl ?_
                    simp only[Act.put,List.setIfInBounds_toArray,List.set_cons_succ,List.set_cons_zero]
                    refine wpRow_skip 172 rfl rfl rfl ?_
                    simp only[Act.put,List.setIfInBounds_toArray,List.set_cons_succ,List.set_cons_zero]
                    refine wpRow_skip 173 rfl rfl rfl ?_
                    simp only[Act.put,List.setIfInBounds_toArray,List.set_cons_succ,List.set_cons_zero]
                    refine wpRow_skip 174 rfl rfl rfl ?_
                    simp only[Act.put,List.setIfInBounds_toArray,List.set_cons_succ,List.set_cons_zero]
                    dsimp only[wpRow,List.drop]
                    go_wp2_with fail
                    go_ret2
                    exact⟨HBw.out.trans ((bel:Below wr.heap.size wr _).mono HBw.out.size),.inl ⟨by rw[HRn.out];decide,by rw[HRn.out];rfl⟩⟩
                   |false=>
                    cases T with
                    |true=>
                     have HT:Hid (Q8=true):=by show _=_;rw[HT0.out];simp
                     have HRn:Hid (RW=1):=by show _=_;rw[HRW.out,HT.out,HF0.out,HF1.out,HF2.out,HF3.out,HF4.out,HF5.out,HF6.out,HF7.out];rfl
                     clear HT0
                     go_upto_region 47 with fail
                     refine wp_region_row 21 [(0,true),(1,true),(2,true),(3,true),(4,true),(5,true),(6,true),(7,true),(8,true),(9,true),(10,true),(11,true),(12,true),(13,true),(14,true),(15,true),(16,true),(17,true),(18,true),(19,true),(20,true)] (fun V=>Below wr.heap.size wr V) hmx (by kernel_rfl) (by kernel_rfl) (by kernel_rfl) (by decide) rfl (fun c a d v w h=>by first|exact h|(obtain⟨x,y⟩:=(h:_/\_);cases d<;>exact⟨x,y⟩)) (by kernel_rfl) (by exact hS0) ?_
                     refine wpRow_readD (v:= .pointer (some ⟨B,5,none⟩)) 154 rfl rfl rfl (fun W hW=>by simp[execOp,go_sem]) ?_
                     simp only[Act.put,List.setIfInBounds_toArray,List.set_cons_succ,List.set_cons_zero]
                     refine wpRow_readD (v:= .slice (some ⟨b,off,none⟩) n5 k5) 155 rfl rfl rfl (fun W hW=>by have d:=(hW.cell (p:=⟨B,5,none⟩) hBr).trans z5;simp[execOp,go_sem,d]) ?_
                     simp only[Act.put,List.setIfInBounds_toArray,List.set_cons_succ,List.set_cons_zero]
                     refine wpRow_readD (v:= .int .i64 (k:Nat)) 156 rfl rfl rfl (fun W hW=>by simp[execOp,go_sem]) ?_
                     simp only[Act.put,List.setIfInBounds_toArray,List.set_cons_succ,List.set_cons_zero]
                     refine wpRow_readD (v:= .pointer (some ⟨b,off+k*3,none⟩)) 157 rfl rfl rfl (fun W hW=>by simp[execOp,go_sem,hlt];try omega) ?_
                     simp only[Act.put,List.setIfInBounds_toArray,List.set_cons_succ,List.set_cons_zero]
                     refine wpRow_readD (v:= .pointer (some ⟨b,off+k*3+1,none⟩)) 158 rfl rfl rfl (fun W hW=>by simp[execOp,go_sem]) ?_
                     simp only[Act.put,List.setIfInBounds_toArray,List.set_cons_succ,List.set_cons_zero]
                     refine wpRow_readD (v:= .string b1) 159 rfl rfl rfl (fun W hW=>by have d:=(hW.cell (p:=⟨b,off+k*3+1,none⟩) hbr).trans x1;simp[execOp,go_sem,d]) ?_
                     simp only[Act.put,List.setIfInBounds_toArray,List.set_cons_succ,List.set_cons_zero]
                     refine wpRow_readD (v:= .int .i64 b1.size) 160 rfl rfl rfl (fun W hW=>by simp[execOp,go_sem]) ?_
                     simp only[Act.put,List.setIfInBounds_toArray,List.set_cons_succ,List.set_cons_zero]
                     refine wpRow_readD (v:= .pointer (some ⟨B,8,none⟩)) 161 rfl rfl rfl (fun W hW=>by simp[execOp,go_sem]) ?_
                     simp only[Act.put,List.setIfInBounds_toArray,List.set_cons_succ,List.set_cons_zero]
                     refine wpRow_readD (v:= .int .i64 pnm) 162 rfl rfl rfl (fun W hW=>by have d:=(hW.cell (p:=⟨B,8,none⟩) hBr).trans z8;simp[execOp,go_sem,d]) ?_
                     simp only[Act.put,List.setIfInBounds_toArray,List.set_cons_succ,List.set_cons_zero]
                     refine wpRow_readD (v:= .bool false) 163 rfl rfl rfl (fun W hW=>by simp[execOp,go_sem,hq1]) ?_
                     simp only[Act.put,List.setIfInBounds_toArray,List.set_cons_succ,List.set_cons_zero]
                     refine wpRow_readD (v:= .bool false) 164 rfl rfl rfl (fun W hW=>by simp[execOp,go_sem]) ?_
                     simp only[Act.put,List.setIfInBounds_toArray,List.set_cons_succ,List.set_cons_zero]
                     refine wpRow_readD (v:= .pointer (some ⟨B,5,none⟩)) 165 rfl rfl rfl (fun W hW=>by simp[execOp,go_sem]) ?_
                     simp only[Act.put,List.setIfInBounds_toArray,List.set_cons_succ,List.set_cons_zero]
                     refine wpRow_readD (v:= .slice (some ⟨b,off,none⟩) n5 k5) 166 rfl rfl rfl (fun W hW=>by have d:=(hW.cell (p:=⟨B,5,none⟩) hBr).trans z5;simp[execOp,go_sem,d]) ?_
                     simp only[Act.put,List.setIfInBounds_toArray,List.set_cons_succ,List.set_cons_zero]
                     refine wpRow_readD (v:= .int .i64 (k:Nat)) 167 rfl rfl rfl (fun W hW=>by simp[execOp,go_sem]) ?_
                     simp only[Act.put,List.setIfInBounds_toArray,List.set_cons_succ,List.set_cons_zero]
                     refine wpRow_readD (v:= .pointer (some ⟨b,off+k*3,none⟩)) 168 rfl rfl rfl (fun W hW=>by simp[execOp,go_sem,hlt];try omega) ?_
                     simp only[Act.put,List.setIfInBounds_toArray,List.set_cons_succ,List.set_cons_zero]
                     refine wpRow_readD (v:= .pointer (some ⟨b,off+k*3+2,none⟩)) 169 rfl rfl rfl (fun W hW=>by simp[execOp,go_sem]) ?_
                     simp only[Act.put,List.setIfInBounds_toArray,List.set_cons_succ,List.set_cons_zero]
                     refine wpRow_readD (v:= .string b2) 170 rfl rfl rfl (fun W hW=>by have d:=(hW.cell (p:=⟨b,off+k*3+2,none⟩) hbr).trans x2;simp[execOp,go_sem,d]) ?_
                     simp only[Act.put,List.setIfInBounds_toArray,List.set_cons_succ,List.set_cons_zero]
                     refine wpRow_readD (v:= .int .i64 b2.size) 171 rfl rfl rfl (fun W hW=>by simp[execOp,go_sem]) ?_
                     simp only[Act.put,List.setIfInBounds_toArray,List.set_cons_succ,List.set_cons_zero]
                     refine wpRow_readD (v:= .pointer (some ⟨B,9,none⟩)) 172 rfl rfl rfl (fun W hW=>by simp[execOp,go_sem]) ?_
                     simp only[Act.put,List.setIfInBounds_toArray,List.set_cons_succ,List.set_cons_zero]
                     refine wpRow_readD (v:= .int .i64 pv) 173 rfl rfl rfl (fun W hW=>by have d:=(hW.cell (p:=⟨B,9,none⟩) hBr).trans z9;simp[execOp,go_sem,d]) ?_
                     simp only[Act.put,List.setIfInBounds_toArray,List.set_cons_succ,List.set_cons_zero]
                     refine wpRow_readD (v:= .bool true) 174 rfl rfl rfl (fun W hW=>by simp[execOp,go_sem,hq2]) ?_
                     simp only[Act.put,List.setIfInBounds_toArray,List.set_cons_succ,List.set_cons_zero]
                     dsimp only[wpRow,List.drop]
                     go_wp2_with fail
                     go_ret2
                     exact⟨HBw.out.trans ((bel:Below wr.heap.size wr _).mono HBw.out.size),.inl ⟨by rw[HRn.out];decide,by rw[HRn.out];rfl⟩⟩
                    |false=>
                     have HT:Hid (Q8=(p.forces.drop (k+1)).any (overB p)):=by show _=_;rw[HT0.out];simp
                     clear HT0
                     go_upto_region 47 with fail
                     refine wp_region_row 21 [(0,true),(1,true),(2,true),(3,true),(4,true),(5,true),(6,true),(7,true),(8,true),(9,true),(10,true),(11,true),(12,true),(13,true),(14,true),(15,true),(16,true),(17,true),(18,true),(19,true),(20,true)] (fun V=>Below wr.heap.size wr V) hmx (by kernel_rfl) (by kernel_rfl) (by kernel_rfl) (by decide) rfl (fun c a d v w h=>by first|exact h|(obtain⟨x,y⟩:=(h:_/\_);cases d<;>exact⟨x,y⟩)) (by kernel_rfl) (by exact hS0) ?_
                     refine wpRow_readD (v:= .pointer (some ⟨B,5,none⟩)) 154 rfl rfl rfl (fun W hW=>by simp[execOp,go_sem]) ?_
                     simp only[Act.put,List.setIfInBounds_toArray,List.set_cons_succ,List.set_cons_zero]
                     refine wpRow_readD (v:= .slice (some ⟨b,off,none⟩) n5 k5) 155 rfl rfl rfl (fun W hW=>by have d:=(hW.cell (p:=⟨B,5,none⟩) hBr).trans z5;simp[execOp,go_sem,d]) ?_
                     simp only[Act.put,List.setIfInBounds_toArray,List.set_cons_succ,List.set_cons_zero]
                     refine wpRow_readD (v:= .int .i64 (k:Nat)) 156 rfl rfl rfl (fun W hW=>by simp[execOp,go_sem]) ?_
                     simp only[Act.put,List.setIfInBounds_toArray,List.set_cons_succ,List.set_cons_zero]
                     refine wpRow_readD (v:= .pointer (some ⟨b,off+k*3,none⟩)) 157 rfl rfl rfl (fun W hW=>by simp[execOp,go_sem,hlt];try omega) ?_
                     simp only[Act.put,List.setIfInBounds_toArray,List.set_cons_succ,List.set_cons_zero]
                     refine wpRow_readD (v:= .pointer (some ⟨b,off+k*3+1,none⟩)) 158 rfl rfl rfl (fun W hW=>by simp[execOp,go_sem]) ?_
                     simp only[Act.put,List.setIfInBounds_toArray,List.set_cons_succ,List.set_cons_zero]
                     refine wpRow_readD (v:= .string b1) 159 rfl rfl rfl (fun W hW=>by have d:=(hW.cell (p:=⟨b,off+k*3+1,none⟩) hbr).trans x1;simp[execOp,go_sem,d]) ?_
                     simp only[Act.put,List.setIfInBounds_toArray,List.set_cons_succ,List.set_cons_zero]
                     refine wpRow_readD (v:= .int .i64 b1.size) 160 rfl rfl rfl (fun W hW=>by simp[execOp,go_sem]) ?_
                     simp only[Act.put,List.setIfInBounds_toArray,List.set_cons_succ,List.set_cons_zero]
                     refine wpRow_readD (v:= .pointer (some ⟨B,8,none⟩)) 161 rfl rfl rfl (fun W hW=>by simp[execOp,go_sem]) ?_
                     simp only[Act.put,List.setIfInBounds_toArray,List.set_cons_succ,List.set_cons_zero]
                     refine wpRow_readD (v:= .int .i64 pnm) 162 rfl rfl rfl (fun W hW=>by have d:=(hW.cell (p:=⟨B,8,none⟩) hBr).trans z8;simp[execOp,go_sem,d]) ?_
                     simp only[Act.put,List.setIfInBounds_toArray,List.set_cons_succ,List.set_cons_zero]
                     refine wpRow_readD (v:= .bool false) 163 rfl rfl rfl (fun W hW=>by simp[execOp,go_sem,hq1]) ?_
                     simp only[Act.put,List.setIfInBounds_toArray,List.set_cons_succ,List.set_cons_zero]
                     refine wpRow_readD (v:= .bool false) 164 rfl rfl rfl (fun W hW=>by simp[execOp,go_sem]) ?_
                     simp only[Act.put,List.setIfInBounds_toArray,List.set_cons_succ,List.set_cons_zero]
                     refine wpRow_readD (v:= .pointer (some ⟨B,5,none⟩)) 165 rfl rfl rfl (fun W hW=>by simp[execOp,go_sem]) ?_
                     simp only[Act.put,List.setIfInBounds_toArray,List.set_cons_succ,List.set_cons_zero]
                     refine wpRow_readD (v:= .slice (some ⟨b,off,none⟩) n5 k5) 166 rfl rfl rfl (fun W hW=>by have d:=(hW.cell (p:=⟨B,5,none⟩) hBr).trans z5;simp[execOp,go_sem,d]) ?_
                     simp only[Act.put,List.setIfInBounds_toArray,List.set_cons_succ,List.set_cons_zero]
                     refine wpRow_readD (v:= .int .i64 (k:Nat)) 167 rfl rfl rfl (fun W hW=>by simp[execOp,go_sem]) ?_
                     simp only[Act.put,List.setIfInBounds_toArray,List.set_cons_succ,List.set_cons_zero]
                     refine wpRow_readD (v:= .pointer (some ⟨b,off+k*3,none⟩)) 168 rfl rfl rfl (fun W hW=>by simp[execOp,go_sem,hlt];try omega) ?_
                     simp only[Act.put,List.setIfInBounds_toArray,List.set_cons_succ,List.set_cons_zero]
                     refine wpRow_readD (v:= .pointer (some ⟨b,off+k*3+2,none⟩)) 169 rfl rfl rfl (fun W hW=>by simp[execOp,go_sem]) ?_
                     simp only[Act.put,List.setIfInBounds_toArray,List.set_cons_succ,List.set_cons_zero]
                     refine wpRow_readD (v:= .string b2) 170 rfl rfl rfl (fun W hW=>by have d:=(hW.cell (p:=⟨b,off+k*3+2,none⟩) hbr).trans x2;simp[execOp,go_sem,d]) ?_
                     simp only[Act.put,List.setIfInBounds_toArray,List.set_cons_succ,List.set_cons_zero]
                     refine wpRow_readD (v:= .int .i64 b2.size) 171 rfl rfl rfl (fun W hW=>by simp[execOp,go_sem]) ?_
                     simp only[Act.put,List.setIfInBounds_toArray,List.set_cons_succ,List.set_cons_zero]
                     refine wpRow_readD (v:= .pointer (some ⟨B,9,none⟩)) 172 rfl rfl rfl (fun W hW=>by simp[execOp,go_sem]) ?_
                     simp only[Act.put,List.setIfInBounds_toArray,List.set_cons_succ,List.set_cons_zero]
                     refine wpRow_readD (v:= .int .i64 pv) 173 rfl rfl rfl (fun W hW=>by have d:=(hW.cell (p:=⟨B,9,none⟩) hBr).trans z9;simp[execOp,go_sem,d]) ?_
                     simp only[Act.put,List.setIfInBounds_toArray,List.set_cons_succ,List.set_cons_zero]
                     refine wpRow_readD (v:= .bool false) 174 rfl rfl rfl (fun W hW=>by simp[execOp,go_sem,hq2]) ?_
                     simp only[Act.put,List.setIfInBounds_toArray,List.set_cons_succ,List.set_cons_zero]
                     dsimp only[wpRow,List.drop]
                     go_wp2_with fail
                     go_roundw
                     case rel=>exact⟨k+1,by omega,by go_num,HT.out,by show Below _ _ _;exact HB.out.trans ((bel:Below wr.heap.size wr _).mono HB.out.size)⟩
                     case measure=>simp[intOf];omega
                  ·have HF8:Hid (Q8=false):=by show _=_;rw[HK.out,List.drop_eq_nil_of_le (by rw[HN5.out];omega)];rfl
                   have HRn:Hid (RW=0):=by show _=_;rw[HRW.out,HF0.out,HF1.out,HF2.out,HF3.out,HF4.out,HF5.out,HF6.out,HF7.out,HF8.out];rfl
                   have y0:=HCc.out wr HB.out 0 _ c0
                   have y1:=HCc.out wr HB.out 1 _ c1
                   have y2:=HCc.out wr HB.out 2 _ c2
                   have y3:=HCc.out wr HB.out 3 _ c3
                   have y4:=HCc.out wr HB.out 4 _ c4
                   have y5:=HCc.out wr HB.out 5 _ c5
                   have y6:=HCc.out wr HB.out 6 _ c6
                   have y7:=HCc.out wr HB.out 7 _ c7
                   have y8:=HCc.out wr HB.out 8 _ c8
                   have y9:=HCc.out wr HB.out 9 _ c9
                   have HVw:=Lib.hid (HV.out.below HBw.out)
                   go_wp2_with fail
                   go_ret2
                   refine⟨HBw.out.trans ((bel:Below wr.heap.size wr _).mono HBw.out.size),.inr ⟨HRn.out,_,rfl, ?_⟩⟩
                   refine⟨_,_,_,_,_,_,by rw[HPr.out,HPd.out,HPn.out,HPv.out];exact HVw.out.below bel,fun j x hx=> ?_⟩
                   rw[HPr.out,HPd.out,HPn.out,HPv.out]at hx
                   have h9:=new_cells (W:=wr) (t:=73) (c:= #[.slice A0 n0 k0,.slice A1 n1 k1,.slice A2 (fN p 2) k2,.slice A3 (fN p 3) k3,.slice A4 n4 k4,.slice A5 n5 k5,.bool prel,.int .i64 pd,.int .i64 pnm,.int .i64 pv]) (ad:=⟨wr.heap.size,0,none⟩) rfl j x hx
                   rw[Addr.add_lit,Nat.zero_add]at h9
                   exact h9
theorem rtags_any (g:Nat) (p:Pol) (t:Bs) (w:World) (h:RefV w g p):Calls Tryz.prog 41 #[.pointer (some ⟨g,0,none⟩),sv t] w (Ret (.bool (tagR p t)) w):=by
 obtain⟨v0,v1,v2,v3,v4,v5,⟨_,_,_,_,_,_,e,⟨A0,k0,rfl,_,h0,_⟩,⟨A1,k1,rfl,_,h1,_⟩,⟨A2,k2,rfl,_,h2,_⟩,⟨A3,k3,rfl,_,h3,_⟩,_,_⟩,hc⟩:=h
 cases e
 have x:=hc 0 _ rfl
 have hl:=World.block_lt_of_cell? w _ x
 have HI:=Lib.hid (show Calls Tryz.prog 40 #[sv t,.slice A0 (fN p 0) k0] w (Ret (.bool (tagR p t)) w)from rin_any t _ p.tags w h0)
 generalize tagR p t=T at*
 generalize sv t=s at*
 clear hc h0 h1 h2 h3
 go_enter Tryz.func41,Tryz.ntmps41
 go_wp2_with(go_at_call 40;(with_reducible refine HI.out.mono ?_);rintro e W1 ⟨rfl,X1,rfl⟩)
 go_ret
 exact Ret.of rfl bel
theorem rschemes_any (g:Nat) (p:Pol) (t:Bs) (w:World) (h:RefV w g p):Calls Tryz.prog 42 #[.pointer (some ⟨g,0,none⟩),sv t] w (Ret (.bool (schR p t)) w):=by
 obtain⟨v0,v1,v2,v3,v4,v5,⟨_,_,_,_,_,_,e,⟨A0,k0,rfl,_,h0,_⟩,⟨A1,k1,rfl,_,h1,_⟩,⟨A2,k2,rfl,_,h2,_⟩,⟨A3,k3,rfl,_,h3,_⟩,_,_⟩,hc⟩:=h
 cases e
 have x:=hc 1 _ rfl
 have hl:=World.block_lt_of_cell? w _ x
 have HI:=Lib.hid (show Calls Tryz.prog 40 #[sv t,.slice A1 (fN p 1) k1] w (Ret (.bool (schR p t)) w)from rin_any t _ p.schemes w h1)
 generalize schR p t=T at*
 generalize sv t=s at*
 clear hc h0 h1 h2 h3
 go_enter Tryz.func42,Tryz.ntmps42
 go_wp2_with(go_at_call 40;(with_reducible refine HI.out.mono ?_);rintro e W1 ⟨rfl,X1,rfl⟩)
 go_ret
 exact Ret.of rfl bel
theorem rcss_any (g:Nat) (p:Pol) (t:Bs) (w:World) (h:RefV w g p):Calls Tryz.prog 43 #[.pointer (some ⟨g,0,none⟩),sv t] w (Ret (.bool (cssR p t)) w):=by
 obtain⟨v0,v1,v2,v3,v4,v5,⟨_,_,_,_,_,_,e,⟨A0,k0,rfl,_,h0,_⟩,⟨A1,k1,rfl,_,h1,_⟩,⟨A2,k2,rfl,_,h2,_⟩,⟨A3,k3,rfl,_,h3,_⟩,_,_⟩,hc⟩:=h
 cases e
 have x:=hc 2 _ rfl
 have hl:=World.block_lt_of_cell? w _ x
 have HI:=Lib.hid (show Calls Tryz.prog 40 #[sv t,.slice A2 (fN p 2) k2] w (Ret (.bool (cssR p t)) w)from rin_any t _ p.css w h2)
 generalize cssR p t=T at*
 generalize sv t=s at*
 clear hc h0 h1 h2 h3
 go_enter Tryz.func43,Tryz.ntmps43
 go_wp2_with(go_at_call 40;(with_reducible refine HI.out.mono ?_);rintro e W1 ⟨rfl,X1,rfl⟩)
 go_ret
 exact Ret.of rfl bel
theorem rdrops_any (g:Nat) (p:Pol) (t:Bs) (w:World) (h:RefV w g p):Calls Tryz.prog 44 #[.pointer (some ⟨g,0,none⟩),sv t] w (Ret (.bool (dropR p t)) w):=by
 obtain⟨v0,v1,v2,v3,v4,v5,⟨_,_,_,_,_,_,e,⟨A0,k0,rfl,_,h0,_⟩,⟨A1,k1,rfl,_,h1,_⟩,⟨A2,k2,rfl,_,h2,_⟩,⟨A3,k3,rfl,_,h3,_⟩,_,_⟩,hc⟩:=h
 cases e
 have x:=hc 3 _ rfl
 have hl:=World.block_lt_of_cell? w _ x
 have HI:=Lib.hid (show Calls Tryz.prog 40 #[sv t,.slice A3 (fN p 3) k3] w (Ret (.bool (dropR p t)) w)from rin_any t _ p.drops w h3)
 generalize dropR p t=T at*
 generalize sv t=s at*
 clear hc h0 h1 h2 h3
 go_enter Tryz.func44,Tryz.ntmps44
 go_wp2_with(go_at_call 40;(with_reducible refine HI.out.mono ?_);rintro e W1 ⟨rfl,X1,rfl⟩)
 go_ret
 exact Ret.of rfl bel
theorem rattr_any (g:Nat) (p:Pol) (t n:Bs) (w:World) (h:RefV w g p):Calls Tryz.prog 45 #[.pointer (some ⟨g,0,none⟩),sv t,sv n] w (Ret (.bool (attrR p t n)) w):=by
 have hmx:Tryz.prog.follows .mixedOrders=true:=by kernel_rfl
 rw[<-attr_ref]
 have HG:=Lib.hid (fun W (hb:Below w.heap.size w W)=>show Calls Tryz.prog 41 #[.pointer (some ⟨g,0,none⟩),.string ⟨t.toArray⟩] W (Ret (.bool (tagR p t)) W)from rtags_any g p t W (h.below hb))
 obtain⟨v0,v1,v2,v3,v4,v5,⟨_,_,_,_,_,_,e,_,_,_,_,⟨A4,k4,rfl,_,h4,_⟩,_⟩,hc⟩:=h
 cases e
 have x4:=hc 4 _ rfl
 have hl:=World.block_lt_of_cell? w _ x4
 have H4:=Lib.hid h4
 obtain⟨n4,hn4⟩: ∃n,fN p 4=n:=⟨_,rfl⟩
 have HN:Hid (p.attrs.length=n4):=hn4
 have hm:n4<=9223372036854775807:=by rw[<-hn4];exact h4.2.1
 rw[hn4]at H4 x4
 have HQ:Hid (attrQ p t n=(p.attrs.any (fun a=>decide (a.name=n)&&(decide (a.tag=[42])||decide (a.tag=t)))&&tagR p t)):=rfl
 obtain⟨Q,hQ⟩: ∃Q,attrQ p t n=Q:=⟨_,rfl⟩
 rw[hQ]at HQ ⊢
 have HP:Hid (p.attrs.any (fun a=>decide (a.name=n)&&(decide (a.tag=[42])||decide (a.tag=t)))=(false||(p.attrs.drop 0).any (fun a=>decide (a.name=n)&&(decide (a.tag=[42])||decide (a.tag=t))))):=by show _=_;rw[List.drop_zero];rfl
 obtain⟨R,hR⟩: ∃R,p.attrs.any (fun a=>decide (a.name=n)&&(decide (a.tag=[42])||decide (a.tag=t)))=R:=⟨_,rfl⟩
 rw[hR]at HQ HP
 obtain⟨T,hT⟩: ∃T,tagR p t=T:=⟨_,rfl⟩
 rw[hT]at HQ HG
 have HEq:=Lib.hid (fun x:Bs=>show((⟨x.toArray⟩:ByteArray).toList==[42])=decide (x=[42]) by rw[ba_bqD])
 have HEt:=Lib.hid (fun x:Bs=>show((⟨x.toArray⟩:ByteArray).toList==(⟨t.toArray⟩:ByteArray).toList)=decide (x=t) by rw[ba_bq])
 have HEn:=Lib.hid (fun x:Bs=>show((⟨x.toArray⟩:ByteArray).toList==(⟨n.toArray⟩:ByteArray).toList)=decide (x=n) by rw[ba_bq])
 clear hc h4 hn4 hQ hR hT
 unfold sv
 generalize(⟨t.toArray⟩:ByteArray)=tb at*
 generalize(⟨n.toArray⟩:ByteArray)=nb at*
 go_enter Tryz.func45,Tryz.ntmps45
 go_wp2_with fail
 go_loopw [7,8] (fun o i wr=> ∃(k:Nat) (O:Bool),k<=n4/\i= .int .i64 (k:Nat)/\o= .bool O/\Hid (R=(O||(p.attrs.drop k).any (fun a=>decide (a.name=n)&&(decide (a.tag=[42])||decide (a.tag=t)))))/\Hid (Below w.heap.size w wr)) (fun _ i _=>n4-(intOf i).toNat)
 case atStart=>exact⟨0,false,by omega,rfl,rfl,HP.out,by show Below _ _ _;exact bel⟩
 case round=>
  clear HP
  obtain⟨k,O,hk,rfl,rfl,HK,HB⟩:=hrel
  have z4:=(HB.out.cell (p:=⟨g,4,none⟩) hl).trans x4
  have hgr:g<wr.heap.size:=Nat.lt_of_lt_of_le hl HB.out.size
  by_cases hlt:k<n4
  ·obtain⟨b,off,hAe,hb,hcc⟩: ∃b off,A4=some ⟨b,off,none⟩/\b<w.heap.size/\ ∀j u,(fC p 4)[j]? =some u->w.cell? ⟨b,off+j,none⟩=some u:=by
    obtain⟨_,_,A',c',e,h9⟩:=H4.out
    cases e
    obtain⟨b,off,h1,h2,h3⟩:=h9 (by omega)
    exact⟨b,off,h1,h2,h3⟩
   subst hAe
   have hkl:k<p.attrs.length:=by rw[HN.out];exact hlt
   obtain⟨x,hx⟩: ∃x,p.attrs[k]=x:=⟨_,rfl⟩
   have x0:wr.cell? ⟨b,off+k*2,none⟩=some (.string ⟨x.tag.toArray⟩):=(HB.out.cell (p:=⟨b,off+k*2,none⟩) hb).trans (hcc (k*2+0) (sv x.tag) (by show(p.attrs.flatMap Alw.cells)[_]? =_;rw[flat_atC Alw.cells 2 (fun _=>rfl) p.attrs k 0 hkl (by omega),hx];rfl))
   have x1:wr.cell? ⟨b,off+k*2+1,none⟩=some (.string ⟨x.name.toArray⟩):=(HB.out.cell (p:=⟨b,off+k*2+1,none⟩) hb).trans ((congrArg (fun i=>w.cell? ⟨b,i,none⟩) (by omega)).trans (hcc (k*2+1) (sv x.name) (by show(p.attrs.flatMap Alw.cells)[_]? =_;rw[flat_atC Alw.cells 2 (fun _=>rfl) p.attrs k 1 hkl (by omega),hx];rfl)))
   have hbr:b<wr.heap.size:=Nat.lt_of_lt_of_le hb HB.out.size
   have HD:Hid (p.attrs.drop k=x::p.attrs.drop (k+1)):=by show _=_;rw[List.drop_eq_getElem_cons hkl,hx]
   have q1:=HEq.out x.tag
   have q2:=HEt.out x.tag
   have q3:=HEn.out x.name
   have HT:Hid (R=((O||(decide (x.name=n)&&(decide (x.tag=[42])||decide (x.tag=t))))||(p.attrs.drop (k+1)).any (fun a=>decide (a.name=n)&&(decide (a.tag=[42])||decide (a.tag=t))))):=by show _=_;rw[HK.out,HD.out,List.any_cons,Bool.or_assoc]
   generalize decide (x.name=n)=D1 at*
   generalize decide (x.tag=[42])=D2 at*
   generalize decide (x.tag=t)=D3 at*
   clear hcc hx hkl HK HD
   generalize(⟨x.tag.toArray⟩:ByteArray)=b0 at*
   generalize(⟨x.name.toArray⟩:ByteArray)=b1 at*
   cases O<;>cases D1<;>cases D2
   all_goals
    go_wp2_with fail
    go_roundw
    case rel=>exact⟨k+1,_,by omega,by go_num,rfl,HT.out,by show Below _ _ _;exact HB.out.trans ((bel:Below wr.heap.size wr _).mono HB.out.size)⟩
    case measure=>simp[intOf];omega
  ·have HF:Hid (R=O):=by show _=_;rw[HK.out,List.drop_eq_nil_of_le (by rw[HN.out];omega)];simp
   have HGw:=Lib.hid (fun W (hb:Below wr.heap.size wr W)=>HB.out.trans (hb.mono HB.out.size))
   cases O
   all_goals
    go_wp2_with(go_at_call 41;(with_reducible refine(HG.out _ (HGw.out _ bel)).mono ?_);rintro e W1 ⟨rfl,X1,rfl⟩)
    go_ret
    exact Ret.of (by rw[HQ.out,HF.out];rfl) (HB.out.trans ((bel:Below wr.heap.size wr _).mono HB.out.size))
def frest (p:Pol) (t:Bs) (k:Nat):List (Bs × Bs):=((p.forces.drop k).filter (fun f=>decide (f.tag=t))).map fun f=>(f.name,f.value)
theorem frest_zero (p:Pol) (t:Bs):forcedR p t=[]++frest p t 0:=by unfold forcedR frest;rw[List.drop_zero];rfl
theorem frest_step {p:Pol} {t:Bs} {k:Nat} {x:Frc} (h:p.forces.drop k=x::p.forces.drop (k+1)):frest p t k=if decide (x.tag=t)=true then(x.name,x.value)::frest p t (k+1)else frest p t (k+1):=by
 unfold frest
 rw[h,List.filter_cons]
 split<;>rfl
theorem rforced_any (g:Nat) (p:Pol) (t:Bs) (w:World) (h:RefV w g p) (hn:p.forces.length<=1000000):Calls Tryz.prog 47 #[.pointer (some ⟨g,0,none⟩),sv t] w (RetF w (forcedR p t)):=by
 have hmx:Tryz.prog.follows .mixedOrders=true:=by kernel_rfl
 obtain⟨v0,v1,v2,v3,v4,v5,⟨_,_,_,_,_,_,e,_,_,_,_,_,⟨A5,k5,rfl,_,h5,_⟩⟩,hc⟩:=h
 cases e
 have x5:=hc 5 _ rfl
 have hl:=World.block_lt_of_cell? w _ x5
 have H5:=Lib.hid h5
 obtain⟨n5,hn5⟩: ∃n,fN p 5=n:=⟨_,rfl⟩
 have HN:Hid (p.forces.length=n5):=hn5
 have hm:n5<=1000000:=by rw[<-hn5];exact hn
 rw[hn5]at H5 x5
 obtain⟨F,hF⟩: ∃F,forcedR p t=F:=⟨_,rfl⟩
 have HF:Hid (F=[]++frest p t 0):=by show _=_;rw[<-hF];exact frest_zero p t
 rw[hF]
 have HEt:=Lib.hid (fun x:Bs=>show((⟨x.toArray⟩:ByteArray).toList==(⟨t.toArray⟩:ByteArray).toList)=decide (x=t) by rw[ba_bq])
 clear hc h5 hn5 hF hn
 unfold sv
 generalize(⟨t.toArray⟩:ByteArray)=tb at*
 go_enter Tryz.func47,Tryz.ntmps47
 go_wp2_with fail
 go_loopw [5,6] (fun v i wr=> ∃(k:Nat) (d:List (Bs × Bs)),k<=n5/\i= .int .i64 (k:Nat)/\d.length<=k/\Hid (F=d++frest p t k)/\Hid (wr.ownsRow w.heap.size 33 2 v d.length (d.flatMap prC))/\Hid (Below w.heap.size w wr)) (fun _ i _=>n5-(intOf i).toNat)
 case atStart=>exact⟨0,[],by omega,rfl,Nat.le_refl _,HF.out,⟨rfl,.inl ⟨rfl,rfl⟩⟩,by show Below _ _ _;exact bel⟩
 case round=>
  clear HF
  obtain⟨k,d,hk,rfl,hd,HK,HO,HB⟩:=hrel
  have z5:=(HB.out.cell (p:=⟨g,5,none⟩) hl).trans x5
  have hgr:g<wr.heap.size:=Nat.lt_of_lt_of_le hl HB.out.size
  by_cases hlt:k<n5
  ·obtain⟨b,off,hAe,hb,hcc⟩: ∃b off,A5=some ⟨b,off,none⟩/\b<w.heap.size/\ ∀j u,(fC p 5)[j]? =some u->w.cell? ⟨b,off+j,none⟩=some u:=by
    obtain⟨_,_,A',c',e,h9⟩:=H5.out
    cases e
    obtain⟨b,off,h1,h2,h3⟩:=h9 (by omega)
    exact⟨b,off,h1,h2,h3⟩
   subst hAe
   have hkl:k<p.forces.length:=by rw[HN.out];exact hlt
   obtain⟨x,hx⟩: ∃x,p.forces[k]=x:=⟨_,rfl⟩
   have e0:w.cell? ⟨b,off+k*3,none⟩=some (.string ⟨x.tag.toArray⟩):=hcc (k*3+0) (sv x.tag) (by show(p.forces.flatMap Frc.cells)[_]? =_;rw[flat_atC Frc.cells 3 (fun _=>rfl) p.forces k 0 hkl (by omega),hx];rfl)
   have e1:w.cell? ⟨b,off+k*3+1,none⟩=some (.string ⟨x.name.toArray⟩):=(congrArg (fun i=>w.cell? ⟨b,i,none⟩) (by omega)).trans (hcc (k*3+1) (sv x.name) (by show(p.forces.flatMap Frc.cells)[_]? =_;rw[flat_atC Frc.cells 3 (fun _=>rfl) p.forces k 1 hkl (by omega),hx];rfl))
   have e2:w.cell? ⟨b,off+k*3+2,none⟩=some (.string ⟨x.value.toArray⟩):=(congrArg (fun i=>w.cell? ⟨b,i,none⟩) (by omega)).trans (hcc (k*3+2) (sv x.value) (by show(p.forces.flatMap Frc.cells)[_]? =_;rw[flat_atC Frc.cells 3 (fun _=>rfl) p.forces k 2 hkl (by omega),hx];rfl))
   have x0:=(HB.out.cell (p:=⟨b,off+k*3,none⟩) hb).trans e0
   have hbr:b<wr.heap.size:=Nat.lt_of_lt_of_le hb HB.out.size
   have hq:=HEt.out x.tag
   have HS:=Lib.hid (frest_step (t:=t) (List.drop_eq_getElem_cons hkl ▸ hx ▸ rfl:p.forces.drop k=x::p.forces.drop (k+1)))
   obtain⟨D,hD⟩: ∃D,decide (x.tag=t)=D:=⟨_,rfl⟩
   rw[hD]at hq HS
   have HP:Hid ([Value.string ⟨x.name.toArray⟩,.string ⟨x.value.toArray⟩]=prC (x.name,x.value)):=rfl
   clear hcc hx hkl hD
   generalize(⟨x.tag.toArray⟩:ByteArray)=b0 at*
   generalize(⟨x.name.toArray⟩:ByteArray)=b1 at*
   generalize(⟨x.value.toArray⟩:ByteArray)=b2 at*
   obtain⟨AL,cL,rfl,_⟩:=own_cap HO.out
   cases D with
   |false=>
    have HT:Hid (F=d++frest p t (k+1)):=by show _=_;rw[HK.out,HS.out];rfl
    clear HK HS
    go_wp2_with fail
    go_roundw
    case rel=>exact⟨k+1,d,by omega,by go_num,by omega,HT.out,own_below HO.out bel,by show Below _ _ _;exact HB.out.trans ((bel:Below wr.heap.size wr _).mono HB.out.size)⟩
    case measure=>simp[intOf];omega
   |true=>
    have HT:Hid (F=(d++[(x.name,x.value)])++frest p t (k+1)):=by show _=_;rw[HK.out,HS.out];simp
    clear HK HS
    go_upto_region 6 with fail
    have hS0:Below w.heap.size w wr.drew:=HB.out.trans ((bel:Below wr.heap.size wr _).mono HB.out.size)
    refine wp_region_row 22 [(0,true),(1,true),(2,true),(3,true),(4,true),(5,true),(6,true),(7,true),(8,true),(9,true),(10,true),(11,true),(12,true),(13,true),(14,true),(15,true),(16,true),(17,true),(18,true),(19,true),(20,false),(21,false)] (fun V=>Below w.heap.size w V) hmx (by kernel_rfl) (by kernel_rfl) (by kernel_rfl) (by decide) rfl (fun c a d v w h=>by first|exact h|(obtain⟨x,y⟩:=(h:_/\_);cases d<;>exact⟨x,y⟩)) (by kernel_rfl) (by exact hS0) ?_
    refine wpRow_readD (v:= .slice AL d.length cL) 28 rfl rfl rfl (fun W hW=>by simp[execOp,go_sem]) ?_
    simp only[Act.put,List.setIfInBounds_toArray,List.set_cons_succ,List.set_cons_zero]
    refine wpRow_readD (v:= .pointer (some ⟨g,0,none⟩)) 29 rfl rfl rfl (fun W hW=>by simp[execOp,go_sem]) ?_
    simp only[Act.put,List.setIfInBounds_toArray,List.set_cons_succ,List.set_cons_zero]
    refine wpRow_readD (v:= .pointer (some ⟨g,0,none⟩)) 30 rfl rfl rfl (fun W hW=>by simp[execOp,go_sem]) ?_
    simp only[Act.put,List.setIfInBounds_toArray,List.set_cons_succ,List.set_cons_zero]
    refine wpRow_readD (v:= .pointer (some ⟨g,0,none⟩)) 31 rfl rfl rfl (fun W hW=>by simp[execOp,go_sem]) ?_
    simp only[Act.put,List.setIfInBounds_toArray,List.set_cons_succ,List.set_cons_zero]
    refine wpRow_readD (v:= .pointer (some ⟨g,5,none⟩)) 32 rfl rfl rfl (fun W hW=>by simp[execOp,go_sem]) ?_
    simp only[Act.put,List.setIfInBounds_toArray,List.set_cons_succ,List.set_cons_zero]
    refine wpRow_readD (v:= .slice (some ⟨b,off,none⟩) n5 k5) 33 rfl rfl rfl (fun W hW=>by have q:=(hW.cell (p:=⟨g,5,none⟩) hl).trans x5;simp[execOp,go_sem,q]) ?_
    simp only[Act.put,List.setIfInBounds_toArray,List.set_cons_succ,List.set_cons_zero]
    refine wpRow_readD (v:= .int .i64 (k:Nat)) 34 rfl rfl rfl (fun W hW=>by simp[execOp,go_sem]) ?_
    simp only[Act.put,List.setIfInBounds_toArray,List.set_cons_succ,List.set_cons_zero]
    refine wpRow_readD (v:= .pointer (some ⟨b,off+k*3,none⟩)) 35 rfl rfl rfl (fun W hW=>by simp[execOp,go_sem,hlt];try omega) ?_
    simp only[Act.put,List.setIfInBounds_toArray,List.set_cons_succ,List.set_cons_zero]
    refine wpRow_readD (v:= .pointer (some ⟨b,off+k*3+1,none⟩)) 36 rfl rfl rfl (fun W hW=>by simp[execOp,go_sem]) ?_
    simp only[Act.put,List.setIfInBounds_toArray,List.set_cons_succ,List.set_cons_zero]
    refine wpRow_readD (v:= .string b1) 37 rfl rfl rfl (fun W hW=>by have q:=(hW.cell (p:=⟨b,off+k*3+1,none⟩) hb).trans e1;simp[execOp,go_sem,q]) ?_
    simp only[Act.put,List.setIfInBounds_toArray,List.set_cons_succ,List.set_cons_zero]
    refine wpRow_readD (v:= .pointer (some ⟨g,0,none⟩)) 38 rfl rfl rfl (fun W hW=>by simp[execOp,go_sem]) ?_
    simp only[Act.put,List.setIfInBounds_toArray,List.set_cons_succ,List.set_cons_zero]
    refine wpRow_readD (v:= .pointer (some ⟨g,0,none⟩)) 39 rfl rfl rfl (fun W hW=>by simp[execOp,go_sem]) ?_
    simp only[Act.put,List.setIfInBounds_toArray,List.set_cons_succ,List.set_cons_zero]
    refine wpRow_readD (v:= .pointer (some ⟨g,0,none⟩)) 40 rfl rfl rfl (fun W hW=>by simp[execOp,go_sem]) ?_
    simp only[Act.put,List.setIfInBounds_toArray,List.set_cons_succ,List.set_cons_zero]
    refine wpRow_readD (v:= .pointer (some ⟨g,5,none⟩)) 41 rfl rfl rfl (fun W hW=>by simp[execOp,go_sem]) ?_
    simp only[Act.put,List.setIfInBounds_toArray,List.set_cons_succ,List.set_cons_zero]
    refine wpRow_readD (v:= .slice (some ⟨b,off,none⟩) n5 k5) 42 rfl rfl rfl (fun W hW=>by have q:=(hW.cell (p:=⟨g,5,none⟩) hl).trans x5;simp[execOp,go_sem,q]) ?_
    simp only[Act.put,List.setIfInBounds_toArray,List.set_cons_succ,List.set_cons_zero]
    refine wpRow_readD (v:= .int .i64 (k:Nat)) 43 rfl rfl rfl (fun W hW=>by simp[execOp,go_sem]) ?_
    simp only[Act.put,List.setIfInBounds_toArray,List.set_cons_succ,List.set_cons_zero]
    refine wpRow_readD (v:= .pointer (some ⟨b,off+k*3,none⟩)) 44 rfl rfl rfl (fun W hW=>by simp[execOp,go_sem,hlt];try omega) ?_
    simp only[Act.put,List.setIfInBounds_toArray,List.set_cons_succ,List.set_cons_zero]
    refine wpRow_readD (v:= .pointer (some ⟨b,off+k*3+2,none⟩)) 45 rfl rfl rfl (fun W hW=>by simp[execOp,go_sem]) ?_
    simp only[Act.put,List.setIfInBounds_toArray,List.set_cons_succ,List.set_cons_zero]
    refine wpRow_readD (v:= .string b2) 46 rfl rfl rfl (fun W hW=>by have q:=(hW.cell (p:=⟨b,off+k*3+2,none⟩) hb).trans e2;simp[execOp,go_sem,q]) ?_
    simp only[Act.put,List.setIfInBounds_toArray,List.set_cons_succ,List.set_cons_zero]
    refine wpRow_readD (v:= .agg #[.string b1,.string b2]) 47 rfl rfl rfl (fun W hW=>by simp[execOp,go_sem]) ?_
    simp only[Act.put,List.setIfInBounds_toArray,List.set_cons_succ,List.set_cons_zero]
    refine wpRow_op rfl rfl fun Kc hKc=> ?_
    unfold Oper.wp
    simp[execOp,go_sem]
    apply hKc
    have hw1:Below wr.heap.size wr (wr.drew.alloc (.cells #[.string b1,.string b2] 33)):=bel
    have hS1:Below w.heap.size w (wr.drew.alloc (.cells #[.string b1,.string b2] 33)):=HB.out.trans (hw1.mono HB.out.size)
    have ho1:=own_below HO.out hw1
    have hnw: ∀j u,[Value.string b1,.string b2][j]? =some u->(wr.drew.alloc (.cells #[.string b1,.string b2] 33)).cell? ((⟨wr.heap.size,0,none⟩:Addr).add j)=some u:=new_cells (W:=wr.drew) (c:= #[.string b1,.string b2]) (ad:=⟨wr.heap.size,0,none⟩) rfl
    refine⟨hS1, ?_⟩
    try simp only[Act.put,List.setIfInBounds_toArray,List.set_cons_succ,List.set_cons_zero]
    refine wpRow_op rfl rfl fun Kc hKc=> ?_
    refine op_src (n:=d.length) (xs:=d.flatMap prC) rfl _ _ 29 rfl sltT w rfl ho1 hS1 1 [.string b1,.string b2] (.inr ⟨⟨wr.heap.size,0,none⟩,1,rfl,hnw⟩) rfl (by simp[Value.oneCell']) (by unfold maxLen;omega) (by omega) ?_
    intro v6 W6 ho6 _ hB6
    apply hKc
    refine⟨hB6.out, ?_⟩
    try simp only[Act.put,List.setIfInBounds_toArray]
    dsimp only[wpRow,List.drop]
    have HO6:=Lib.hid ho6
    clear ho6 hnw ho1 hS1 hw1 hS0 e0 e1 e2
    go_wp2_with fail
    go_roundw
    case rel=>exact⟨k+1,d++[(x.name,x.value)],by omega,by go_num,by rw[List.length_append];exact Nat.add_le_add_right hd 1,HT.out,by show World.ownsRow _ _ _ _ _ _ _;have h9:=HO6.out;rw[HP.out]at h9;rw[List.length_append,List.flatMap_append];simpa using h9,hB6.out⟩
    case measure=>simp[intOf];omega
  ·have hkn:k=n5:=by omega
   have HE:Hid (F=d):=by show _=_;rw[HK.out];unfold frest;rw[List.drop_eq_nil_of_le (by rw[HN.out];omega)];simp
   obtain⟨AL,cL,rfl,_⟩:=own_cap HO.out
   go_wp2_with fail
   go_ret
   unfold RetF
   rw[HE.out]
   exact⟨AL,cL,rfl,HB.out.trans ((bel:Below wr.heap.size wr _).mono HB.out.size),(Rd.own HO.out).belowW bel⟩
theorem eq_atr (a b c d:ByteArray) (w:World):(Op.equalIn 10000 33 (.agg #[.string a,.string b]) (.agg #[.string c,.string d])).run Tryz.prog w= .ok ((a.toList==c.toList)&&(b.toList==d.toList)) w:=by
 have h2:Tryz.prog.underlying 33=some (.struct (Tryz.prog.fieldsOf 33)):=by kernel_rfl
 have h3:Tryz.prog.stoodInHeld 33=false:=by kernel_rfl
 rw[run_equalIn_agg _ _ _ _ _ h2 h3]
 simp only[Program.fieldsOf,Tryz.underlying33]
 cases h1:(a.toList==c.toList)<;>cases h4:(b.toList==d.toList)<;>simp[go_sem,Tryz.underlying9,h1,h4]
@[go_sem high] theorem neq_atr (a b c d:ByteArray) (w:World):(binOp .neq 33 (.agg #[.string a,.string b]) (.agg #[.string c,.string d])).run Tryz.prog w= .ok (.bool (!((a.toList==c.toList)&&(b.toList==d.toList)))) w:=by
 rw[run_neq_struct,eq_atr];rfl
@[go_sem] theorem guard_atr:Tryz.prog.eqGuardType Tryz.prog.depth 33=false:=by kernel_rfl
theorem rsameat_any (A1 A2:Option Addr) (n1 n2 c1 c2:Nat) (l m:List (Bs × Bs)) (w:World) (h:Rd w (.slice A1 n1 c1) l.length 2 (l.flatMap prC)) (hu:Rd w (.slice A2 n2 c2) m.length 2 (m.flatMap prC)):Calls Tryz.prog 46 #[.slice A1 n1 c1,.slice A2 n2 c2] w (Ret (.bool (decide (l=m))) w):=by
 have hmx:Tryz.prog.follows .mixedOrders=true:=by kernel_rfl
 obtain⟨_,hm1,_,_,e1,h4⟩:=h
 cases e1
 obtain⟨_,hm2,_,_,e2,g4⟩:=hu
 cases e2
 have H4:=Lib.hid h4
 have G4:=Lib.hid g4
 obtain⟨n,hn⟩: ∃n,l.length=n:=⟨_,rfl⟩
 obtain⟨k2,hk2⟩: ∃n,m.length=n:=⟨_,rfl⟩
 have HN:=Lib.hid hn
 have HM:=Lib.hid hk2
 obtain⟨Q,hQ⟩: ∃Q,decide (l=m)=Q:=⟨_,rfl⟩
 have HQ:=Lib.hid hQ.symm
 rw[hQ]
 rw[hn]at hm1 H4 ⊢
 rw[hk2]at hm2 G4 ⊢
 clear h4 g4 hn hk2 hQ
 by_cases hne:n=k2
 rotate_left
 ·have b0:((n:Int) !=k2)=true:=by simp;omega
  have HF:Hid (Q=false):=by show _=_;rw[HQ.out];exact decide_eq_false fun e=>hne (by rw[<-HN.out,<-HM.out,e])
  clear hne H4 G4
  go_enter Tryz.func46,Tryz.ntmps46
  go_wp2_with fail
  go_ret
  exact Ret.of (by rw[HF.out];rfl) bel
 subst hne
 have b0:((n:Int) !=n)=false:=by simp
 go_enter Tryz.func46,Tryz.ntmps46
 go_wp2_with fail
 go_loopw [5] (fun i wr=> ∃k:Nat,k<=n/\i= .int .i64 (k:Nat)/\Hid (l.take k=m.take k)/\Hid (Below w.heap.size w wr)) (fun i _=>n-(intOf i).toNat)
 case atStart=>exact⟨0,by omega,rfl,by show _=_;simp,by show Below _ _ _;exact bel⟩
 case round=>
  obtain⟨k,hk,rfl,HK,HB⟩:=hrel
  by_cases hlt:k<n
  ·obtain⟨b,off,rfl,hb,hc⟩:=H4.out (by omega)
   obtain⟨b',off',rfl,hb',hc'⟩:=G4.out (by omega)
   have hkl:k<l.length:=by rw[HN.out];exact hlt
   have hkm:k<m.length:=by rw[HM.out];exact hlt
   obtain⟨x,hx⟩: ∃x,l[k]=x:=⟨_,rfl⟩
   obtain⟨y,hy⟩: ∃y,m[k]=y:=⟨_,rfl⟩
   have x0:wr.cell? ⟨b,off+k*2,none⟩=some (.string ⟨x.1.toArray⟩):=(HB.out.cell (p:=⟨b,off+k*2,none⟩) hb).trans (hc (k*2+0) (sv x.1) (by rw[flat_atC prC 2 (fun _=>rfl) l k 0 hkl (by omega),hx];rfl))
   have x1:wr.cell? ⟨b,off+k*2+1,none⟩=some (.string ⟨x.2.toArray⟩):=(HB.out.cell (p:=⟨b,off+k*2+1,none⟩) hb).trans ((congrArg (fun i=>w.cell? ⟨b,i,none⟩) (by omega)).trans (hc (k*2+1) (sv x.2) (by rw[flat_atC prC 2 (fun _=>rfl) l k 1 hkl (by omega),hx];rfl)))
   have y0:wr.cell? ⟨b',off'+k*2,none⟩=some (.string ⟨y.1.toArray⟩):=(HB.out.cell (p:=⟨b',off'+k*2,none⟩) hb').trans (hc' (k*2+0) (sv y.1) (by rw[flat_atC prC 2 (fun _=>rfl) m k 0 hkm (by omega),hy];rfl))
   have y1:wr.cell? ⟨b',off'+k*2+1,none⟩=some (.string ⟨y.2.toArray⟩):=(HB.out.cell (p:=⟨b',off'+k*2+1,none⟩) hb').trans ((congrArg (fun i=>w.cell? ⟨b',i,none⟩) (by omega)).trans (hc' (k*2+1) (sv y.2) (by rw[flat_atC prC 2 (fun _=>rfl) m k 1 hkm (by omega),hy];rfl)))
   have hbr:b<wr.heap.size:=Nat.lt_of_lt_of_le hb HB.out.size
   have hbr':b'<wr.heap.size:=Nat.lt_of_lt_of_le hb' HB.out.size
   have hq:(((⟨x.1.toArray⟩:ByteArray).toList==(⟨y.1.toArray⟩:ByteArray).toList)&&((⟨x.2.toArray⟩:ByteArray).toList==(⟨y.2.toArray⟩:ByteArray).toList))=decide (x=y):=by
    rw[ba_bq,ba_bq]
    obtain⟨x1,x2⟩:=x
    obtain⟨y1,y2⟩:=y
    rw[Bool.eq_iff_iff];simp
   have hlx:l[k]? =some x:=by simp[hkl,hx]
   have hmy:m[k]? =some y:=by simp[hkm,hy]
   have HLX:=Lib.hid hlx
   have HMY:=Lib.hid hmy
   clear hc hc' hx hy hkl hkm hlx hmy
   generalize(⟨x.1.toArray⟩:ByteArray)=a0 at*
   generalize(⟨x.2.toArray⟩:ByteArray)=a1 at*
   generalize(⟨y.1.toArray⟩:ByteArray)=d0 at*
   generalize(⟨y.2.toArray⟩:ByteArray)=d1 at*
   by_cases he:x=y
   ·rw[decide_eq_true he]at hq
    have HT:Hid (l.take (k+1)=m.take (k+1)):=take_moreL HLX.out (by rw[he];exact HMY.out) HK.out
    clear he HK
    go_wp2_with fail
    go_region
    go_wp2_with fail
    go_roundw
    case rel=>exact⟨k+1,by omega,by go_num,HT.out,by show Below _ _ _;exact HB.out.trans ((bel:Below wr.heap.size wr _).mono HB.out.size)⟩
    case measure=>simp[intOf];omega
   ·rw[decide_eq_false he]at hq
    have HF:Hid (Q=false):=by show _=_;rw[HQ.out];exact decide_eq_false fun e=>he (by have h1:=HLX.out;have h2:=HMY.out;rw[e]at h1;exact Option.some.inj (h1.symm.trans h2))
    clear he HK
    go_wp2_with fail
    go_region
    go_wp2_with fail
    go_ret
    exact Ret.of (by rw[HF.out];rfl) (HB.out.trans ((bel:Below wr.heap.size wr _).mono HB.out.size))
  ·have HF:Hid (Q=true):=by
    show _=_
    rw[HQ.out]
    refine decide_eq_true ?_
    have h9:=HK.out
    rwa[List.take_of_length_le (by rw[HN.out];omega),List.take_of_length_le (by rw[HM.out];omega)]at h9
   go_wp2_with fail
   go_ret
   exact Ret.of (by rw[HF.out];rfl) (HB.out.trans ((bel:Below wr.heap.size wr _).mono HB.out.size))
def askL (p:Pol) (s t:Bs):List Bs:=[s,t]++p.tags++p.drops++p.css
theorem ask_len {p:Pol} {s t:Bs} (hw:PolWd p) (hs:s.length<=200) (ht:t.length<=200) {x:Bs} (hx:x∈askL p s t):x.length<=200:=by
 unfold askL at hx
 simp only[List.mem_append,List.mem_cons,List.not_mem_nil,or_false]at hx
 rcases hx with(((rfl|rfl)|h)|h)|h
 ·exact hs
 ·exact ht
 ·have:=hw.tags x h;omega
 ·have:=hw.drops x h;omega
 ·have:=hw.css x h;omega
theorem alike_any (g gx:Nat) (p:Pol) (s t:Bs) (w:World) (h:RulesV w g p) (hx:RefV w gx p) (hwd:PolWd p) (hfew:p.tags.length<=200/\p.drops.length<=200/\p.css.length<=200/\p.forces.length<=200) (hs:s.length<=200) (ht:t.length<=200):
  Calls Tryz.prog 21 #[.pointer (some ⟨g,0,none⟩),.pointer (some ⟨gx,0,none⟩),sv s,sv t] w (Ret (.bool true) w):=by
 have hmx:Tryz.prog.follows .mixedOrders=true:=by kernel_rfl
 have HR:=Lib.hid (fun W (hb:Below w.heap.size w W)=>h.below hb)
 have HX:=Lib.hid (fun W (hb:Below w.heap.size w W)=>hx.below hb)
 have HL:=Lib.hid (limits10_any g p w h)
 have HRe:=Lib.hid (fun W (hb:Below w.heap.size w W)=>relative_any g p W (h.below hb))
 have HAk:=Lib.hid (fun x (hx:x∈askL p s t)=>ask_len hwd hs ht hx)
 have HFw:=Lib.hid hfew.2.2.2
 have hls:s.length<=maxLen:=by unfold maxLen;omega
 have hlt:t.length<=maxLen:=by unfold maxLen;omega
 obtain⟨v0,v1,v2,v3,v4,v5,⟨_,_,_,_,_,_,e,⟨A0,k0,rfl,n0,h0,_⟩,_,⟨A2,k2,rfl,n2,h2,_⟩,⟨A3,k3,rfl,n3,h3,_⟩,⟨A4,k4,rfl,_⟩,⟨A5,k5,rfl,_⟩⟩,hc⟩:=hx
 cases e
 have x0:=hc 0 _ rfl
 have x2:=hc 2 _ rfl
 have x3:=hc 3 _ rfl
 have x6:=hc 6 _ rfl
 have x7:=hc 7 _ rfl
 have x8:=hc 8 _ rfl
 have x9:=hc 9 _ rfl
 have hl:=World.block_lt_of_cell? w _ x0
 have hlg:=h.lt
 have b0:fN p 0<=200:=hfew.1
 have b3:fN p 3<=200:=hfew.2.1
 have b2:fN p 2<=200:=hfew.2.2.1
 have HN0:=Lib.hid (fun W (hb:Below w.heap.size w W)=>news_rd h0 n0.1 hb)
 have HN2:=Lib.hid (fun W (hb:Below w.heap.size w W)=>news_rd h2 n2.1 hb)
 have HN3:=Lib.hid (fun W (hb:Below w.heap.size w W)=>news_rd h3 n3.1 hb)
 have HZ0:=Lib.hid h0.1
 have HZ2:=Lib.hid h2.1
 have HZ3:=Lib.hid h3.1
 have HSv:Hid (sv s= .string ⟨s.toArray⟩/\sv t= .string ⟨t.toArray⟩):=⟨rfl,rfl⟩
 have HAs:=Lib.hid (fun W x (hb:Below w.heap.size w W) (hx:x.length<=maxLen)=>show Calls Tryz.prog 16 #[.pointer (some ⟨g,0,none⟩),.string ⟨s.toArray⟩,sv x] W (Ret (.bool (attrR p s x)) W)from attr_any g p s x W (h.below hb) hls hx)
 have HAt:=Lib.hid (fun W x (hb:Below w.heap.size w W) (hx:x.length<=maxLen)=>show Calls Tryz.prog 16 #[.pointer (some ⟨g,0,none⟩),sv x,.string ⟨t.toArray⟩] W (Ret (.bool (attrR p x t)) W)from attr_any g p x t W (h.below hb) hx hlt)
 have HBs:=Lib.hid (fun W x (hb:Below w.heap.size w W)=>show Calls Tryz.prog 45 #[.pointer (some ⟨gx,0,none⟩),.string ⟨s.toArray⟩,sv x] W (Ret (.bool (attrR p s x)) W)from rattr_any gx p s x W (HX.out W hb))
 have HBt:=Lib.hid (fun W x (hb:Below w.heap.size w W)=>show Calls Tryz.prog 45 #[.pointer (some ⟨gx,0,none⟩),sv x,.string ⟨t.toArray⟩] W (Ret (.bool (attrR p x t)) W)from rattr_any gx p x t W (HX.out W hb))
 have HLi:Hid ([Value.string ⟨s.toArray⟩,.string ⟨t.toArray⟩]++fC p 0++fC p 3++fC p 2=(askL p s t).map sv):=by
  show _=_
  unfold askL
  simp[fC,sv]
 have HLn:Hid (2+fN p 0+fN p 3+fN p 2=(askL p s t).length):=by
  show _=_
  unfold askL
  simp[fN];omega
 clear hc h0 h2 h3 n0 n2 n3 h hwd hfew hs ht hls hlt
 generalize askL p s t=L at*
 unfold sv
 generalize(⟨s.toArray⟩:ByteArray)=sb at*
 generalize(⟨t.toArray⟩:ByteArray)=tb at*
 generalize p.rel=rl at*
 generalize p.depth=dp at*
 generalize p.name=nm at*
 generalize p.value=vl at*
 go_enter Tryz.func21,Tryz.ntmps21
 go_upto_region 2 with(go_at_call 10;(with_reducible refine HL.out.mono ?_);rintro e W1 ⟨rfl,X1,hX1⟩;have hb1:Below w.heap.size w W1:=(by rw[hX1];exact bel);have HB1:=Lib.hid hb1;clear hX1 hb1)
 have hS0:Below w.heap.size w W1.drew:=HB1.out.trans ((bel:Below W1.heap.size W1 _).mono HB1.out.size)
 refine wp_region_row 34 [(0,true),(1,true),(2,true),(3,true),(4,true),(5,true),(6,true),(7,true),(8,true),(9,true),(10,true),(11,true),(12,true),(13,true),(14,true),(15,true),(16,true),(17,true),(18,true),(19,true),(20,true),(21,true),(22,true),(23,true),(24,true),(25,true),(26,true),(28,true),(29,true),(30,true),(31,true),(32,true),(27,false),(33,true)] (fun V=>Below w.heap.size w V) hmx (by kernel_rfl) (by kernel_rfl) (by kernel_rfl) (by decide) rfl (fun c a d v w h=>by first|exact h|(obtain⟨x,y⟩:=(h:_/\_);cases d<;>exact⟨x,y⟩)) (by kernel_rfl) (by exact hS0) ?_
 refine wpRow_readD (v:= .int .i64 dp) 22 rfl rfl rfl (fun W hW=>by simp[execOp,go_sem]) ?_
 simp only[Act.put,List.setIfInBounds_toArray,List.set_cons_succ,List.set_cons_zero]
 refine wpRow_readD (v:= .pointer (some ⟨gx,0,none⟩)) 23 rfl rfl rfl (fun W hW=>by simp[execOp,go_sem]) ?_
 simp only[Act.put,List.setIfInBounds_toArray,List.set_cons_succ,List.set_cons_zero]
 refine wpRow_readD (v:= .pointer (some ⟨gx,0,none⟩)) 24 rfl rfl rfl (fun W hW=>by simp[execOp,go_sem]) ?_
 simp only[Act.put,List.setIfInBounds_toArray,List.set_cons_succ,List.set_cons_zero]
 refine wpRow_readD (v:= .pointer (some ⟨gx,0,none⟩)) 25 rfl rfl rfl (fun W hW=>by simp[execOp,go_sem]) ?_
 simp only[Act.put,List.setIfInBounds_toArray,List.set_cons_succ,List.set_cons_zero]
 refine wpRow_readD (v:= .pointer (some ⟨gx,7,none⟩)) 26 rfl rfl rfl (fun W hW=>by simp[execOp,go_sem]) ?_
 simp only[Act.put,List.setIfInBounds_toArray,List.set_cons_succ,List.set_cons_zero]
 refine wpRow_readD (v:= .int .i64 dp) 27 rfl rfl rfl (fun W hW=>by have q:=(hW.cell (p:=⟨gx,7,none⟩) hl).trans x7;simp[execOp,go_sem,q]) ?_
 simp only[Act.put,List.setIfInBounds_toArray,List.set_cons_succ,List.set_cons_zero]
 refine wpRow_readD (v:= .bool false) 28 rfl rfl rfl (fun W hW=>by simp[execOp,go_sem]) ?_
 simp only[Act.put,List.setIfInBounds_toArray,List.set_cons_succ,List.set_cons_zero]
 refine wpRow_readD (v:= .bool false) 29 rfl rfl rfl (fun W hW=>by simp[execOp,go_sem]) ?_
 simp only[Act.put,List.setIfInBounds_toArray,List.set_cons_succ,List.set_cons_zero]
 refine wpRow_readD (v:= .int .i64 nm) 30 rfl rfl rfl (fun W hW=>by simp[execOp,go_sem]) ?_
 simp only[Act.put,List.setIfInBounds_toArray,List.set_cons_succ,List.set_cons_zero]
 refine wpRow_readD (v:= .pointer (some ⟨gx,0,none⟩)) 31 rfl rfl rfl (fun W hW=>by simp[execOp,go_sem]) ?_
 simp only[Act.put,List.setIfInBounds_toArray,List.set_cons_succ,List.set_cons_zero]
 refine wpRow_readD (v:= .pointer (some ⟨gx,0,none⟩)) 32 rfl rfl rfl (fun W hW=>by simp[execOp,go_sem]) ?_
 simp only[Act.put,List.setIfInBounds_toArray,List.set_cons_succ,List.set_cons_zero]
 refine wpRow_readD (v:= .pointer (some ⟨gx,0,none⟩)) 33 rfl rfl rfl (fun W hW=>by simp[execOp,go_sem]) ?_
 simp only[Act.put,List.setIfInBounds_toArray,List.set_cons_succ,List.set_cons_zero]
 refine wpRow_readD (v:= .pointer (some ⟨gx,8,none⟩)) 34 rfl rfl rfl (fun W hW=>by simp[execOp,go_sem]) ?_
 simp only[Act.put,List.setIfInBounds_toArray,List.set_cons_succ,List.set_cons_zero]
 refine wpRow_readD (v:= .int .i64 nm) 35 rfl rfl rfl (fun W hW=>by have q:=(hW.cell (p:=⟨gx,8,none⟩) hl).trans x8;simp[execOp,go_sem,q]) ?_
 simp only[Act.put,List.setIfInBounds_toArray,List.set_cons_succ,List.set_cons_zero]
 refine wpRow_readD (v:= .bool false) 36 rfl rfl rfl (fun W hW=>by simp[execOp,go_sem]) ?_
 simp only[Act.put,List.setIfInBounds_toArray,List.set_cons_succ,List.set_cons_zero]
 refine wpRow_readD (v:= .bool false) 37 rfl rfl rfl (fun W hW=>by simp[execOp,go_sem]) ?_
 simp only[Act.put,List.setIfInBounds_toArray,List.set_cons_succ,List.set_cons_zero]
 refine wpRow_readD (v:= .bool false) 38 rfl rfl rfl (fun W hW=>by simp[execOp,go_sem]) ?_
 simp only[Act.put,List.setIfInBounds_toArray,List.set_cons_succ,List.set_cons_zero]
 refine wpRow_readD (v:= .int .i64 vl) 39 rfl rfl rfl (fun W hW=>by simp[execOp,go_sem]) ?_
 simp only[Act.put,List.setIfInBounds_toArray,List.set_cons_succ,List.set_cons_zero]
 refine wpRow_readD (v:= .pointer (some ⟨gx,0,none⟩)) 40 rfl rfl rfl (fun W hW=>by simp[execOp,go_sem]) ?_
 simp only[Act.put,List.setIfInBounds_toArray,List.set_cons_succ,List.set_cons_zero]
 refine wpRow_readD (v:= .pointer (some ⟨gx,0,none⟩)) 41 rfl rfl rfl (fun W hW=>by simp[execOp,go_sem]) ?_
 simp only[Act.put,List.setIfInBounds_toArray,List.set_cons_succ,List.set_cons_zero]
 refine wpRow_readD (v:= .pointer (some ⟨gx,0,none⟩)) 42 rfl rfl rfl (fun W hW=>by simp[execOp,go_sem]) ?_
 simp only[Act.put,List.setIfInBounds_toArray,List.set_cons_succ,List.set_cons_zero]
 refine wpRow_readD (v:= .pointer (some ⟨gx,9,none⟩)) 43 rfl rfl rfl (fun W hW=>by simp[execOp,go_sem]) ?_
 simp only[Act.put,List.setIfInBounds_toArray,List.set_cons_succ,List.set_cons_zero]
 refine wpRow_readD (v:= .int .i64 vl) 44 rfl rfl rfl (fun W hW=>by have q:=(hW.cell (p:=⟨gx,9,none⟩) hl).trans x9;simp[execOp,go_sem,q]) ?_
 simp only[Act.put,List.setIfInBounds_toArray,List.set_cons_succ,List.set_cons_zero]
 refine wpRow_readD (v:= .bool false) 45 rfl rfl rfl (fun W hW=>by simp[execOp,go_sem]) ?_
 simp only[Act.put,List.setIfInBounds_toArray,List.set_cons_succ,List.set_cons_zero]
 refine wpRow_readD (v:= .bool false) 46 rfl rfl rfl (fun W hW=>by simp[execOp,go_sem]) ?_
 simp only[Act.put,List.setIfInBounds_toArray,List.set_cons_succ,List.set_cons_zero]
 refine wpRow_readD (v:= .bool false) 47 rfl rfl rfl (fun W hW=>by simp[execOp,go_sem]) ?_
 simp only[Act.put,List.setIfInBounds_toArray,List.set_cons_succ,List.set_cons_zero]
 refine wpRow_readD (v:= .pointer (some ⟨g,0,none⟩)) 48 rfl rfl rfl (fun W hW=>by simp[execOp,go_sem]) ?_
 simp only[Act.put,List.setIfInBounds_toArray,List.set_cons_succ,List.set_cons_zero]
 refine wpRow_readD (v:= .pointer (some ⟨gx,0,none⟩)) 50 rfl rfl rfl (fun W hW=>by simp[execOp,go_sem]) ?_
 simp only[Act.put,List.setIfInBounds_toArray,List.set_cons_succ,List.set_cons_zero]
 refine wpRow_readD (v:= .pointer (some ⟨gx,0,none⟩)) 51 rfl rfl rfl (fun W hW=>by simp[execOp,go_sem]) ?_
 simp only[Act.put,List.setIfInBounds_toArray,List.set_cons_succ,List.set_cons_zero]
 refine wpRow_readD (v:= .pointer (some ⟨gx,0,none⟩)) 52 rfl rfl rfl (fun W hW=>by simp[execOp,go_sem]) ?_
 simp only[Act.put,List.setIfInBounds_toArray,List.set_cons_succ,List.set_cons_zero]
 refine wpRow_readD (v:= .pointer (some ⟨gx,6,none⟩)) 53 rfl rfl rfl (fun W hW=>by simp[execOp,go_sem]) ?_
 simp only[Act.put,List.setIfInBounds_toArray,List.set_cons_succ,List.set_cons_zero]
 refine wpRow_readD (v:= .bool rl) 54 rfl rfl rfl (fun W hW=>by have q:=(hW.cell (p:=⟨gx,6,none⟩) hl).trans x6;simp[execOp,go_sem,q]) ?_
 simp only[Act.put,List.setIfInBounds_toArray,List.set_cons_succ,List.set_cons_zero]
 refine wpRow_op rfl rfl fun Kc hKc=> ?_
 unfold Oper.wp
 simp[execOp,go_sem]
 refine(HRe.out _ hS0).mono ?_
 rintro e W2 ⟨rfl,X2,hX2⟩;have hk2:Below w.heap.size w W2:=hS0.trans ((show Below W1.drew.heap.size W1.drew W2 by rw[hX2];exact bel).mono hS0.size);clear hX2
 show Kc _ _
 apply hKc
 refine⟨hk2, ?_⟩
 try simp only[Act.put,List.setIfInBounds_toArray,List.set_cons_succ,List.set_cons_zero]
 refine wpRow_readD (v:= .bool false) 55 rfl rfl rfl (fun W hW=>by simp[execOp,go_sem]) ?_
 simp only[Act.put,List.setIfInBounds_toArray,List.set_cons_succ,List.set_cons_zero]
 dsimp only[wpRow,List.drop]
 go_upto_region 4 with fail
 have hT0:Below w.heap.size w W2.drew:=hk2.trans ((bel:Below W2.heap.size W2 _).mono hk2.size)
 refine wp_region_row 21 [(0,true),(1,true),(3,true),(4,true),(5,true),(6,true),(7,true),(9,true),(10,true),(11,true),(12,true),(13,true),(15,true),(16,true),(17,true),(18,true),(19,true),(2,false),(8,false),(14,false),(20,false)] (fun V=>Below w.heap.size w V) hmx (by kernel_rfl) (by kernel_rfl) (by kernel_rfl) (by decide) rfl (fun c a d v w h=>by first|exact h|(obtain⟨x,y⟩:=(h:_/\_);cases d<;>exact⟨x,y⟩)) (by kernel_rfl) (by exact hT0) ?_
 refine wpRow_readD (v:= .string sb) 57 rfl rfl rfl (fun W hW=>by simp[execOp,go_sem]) ?_
 simp only[Act.put,List.setIfInBounds_toArray,List.set_cons_succ,List.set_cons_zero]
 refine wpRow_readD (v:= .string tb) 58 rfl rfl rfl (fun W hW=>by simp[execOp,go_sem]) ?_
 simp only[Act.put,List.setIfInBounds_toArray,List.set_cons_succ,List.set_cons_zero]
 refine wpRow_readD (v:= .pointer (some ⟨gx,0,none⟩)) 60 rfl rfl rfl (fun W hW=>by simp[execOp,go_sem]) ?_
 simp only[Act.put,List.setIfInBounds_toArray,List.set_cons_succ,List.set_cons_zero]
 refine wpRow_readD (v:= .pointer (some ⟨gx,0,none⟩)) 61 rfl rfl rfl (fun W hW=>by simp[execOp,go_sem]) ?_
 simp only[Act.put,List.setIfInBounds_toArray,List.set_cons_succ,List.set_cons_zero]
 refine wpRow_readD (v:= .pointer (some ⟨gx,0,none⟩)) 62 rfl rfl rfl (fun W hW=>by simp[execOp,go_sem]) ?_
 simp only[Act.put,List.setIfInBounds_toArray,List.set_cons_succ,List.set_cons_zero]
 refine wpRow_readD (v:= .pointer (some ⟨gx,0,none⟩)) 63 rfl rfl rfl (fun W hW=>by simp[execOp,go_sem]) ?_
 simp only[Act.put,List.setIfInBounds_toArray,List.set_cons_succ,List.set_cons_zero]
 refine wpRow_readD (v:= .slice A0 (fN p 0) k0) 64 rfl rfl rfl (fun W hW=>by have q:=(hW.cell (p:=⟨gx,0,none⟩) hl).trans x0;simp[execOp,go_sem,q]) ?_
 simp only[Act.put,List.setIfInBounds_toArray,List.set_cons_succ,List.set_cons_zero]
 refine wpRow_readD (v:= .pointer (some ⟨gx,0,none⟩)) 66 rfl rfl rfl (fun W hW=>by simp[execOp,go_sem]) ?_
 simp only[Act.put,List.setIfInBounds_toArray,List.set_cons_succ,List.set_cons_zero]
 refine wpRow_readD (v:= .pointer (some ⟨gx,0,none⟩)) 67 rfl rfl rfl (fun W hW=>by simp[execOp,go_sem]) ?_
 simp only[Act.put,List.setIfInBounds_toArray,List.set_cons_succ,List.set_cons_zero]
 refine wpRow_readD (v:= .pointer (some ⟨gx,0,none⟩)) 68 rfl rfl rfl (fun W hW=>by simp[execOp,go_sem]) ?_
 simp only[Act.put,List.setIfInBounds_toArray,List.set_cons_succ,List.set_cons_zero]
 refine wpRow_readD (v:= .pointer (some ⟨gx,3,none⟩)) 69 rfl rfl rfl (fun W hW=>by simp[execOp,go_sem]) ?_
 simp only[Act.put,List.setIfInBounds_toArray,List.set_cons_succ,List.set_cons_zero]
 refine wpRow_readD (v:= .slice A3 (fN p 3) k3) 70 rfl rfl rfl (fun W hW=>by have q:=(hW.cell (p:=⟨gx,3,none⟩) hl).trans x3;simp[execOp,go_sem,q]) ?_
 simp only[Act.put,List.setIfInBounds_toArray,List.set_cons_succ,List.set_cons_zero]
 refine wpRow_readD (v:= .pointer (some ⟨gx,0,none⟩)) 72 rfl rfl rfl (fun W hW=>by simp[execOp,go_sem]) ?_
 simp only[Act.put,List.setIfInBounds_toArray,List.set_cons_succ,List.set_cons_zero]
 refine wpRow_readD (v:= .pointer (some ⟨gx,0,none⟩)) 73 rfl rfl rfl (fun W hW=>by simp[execOp,go_sem]) ?_
 simp only[Act.put,List.setIfInBounds_toArray,List.set_cons_succ,List.set_cons_zero]
 refine wpRow_readD (v:= .pointer (some ⟨gx,0,none⟩)) 74 rfl rfl rfl (fun W hW=>by simp[execOp,go_sem]) ?_
 simp only[Act.put,List.setIfInBounds_toArray,List.set_cons_succ,List.set_cons_zero]
 refine wpRow_readD (v:= .pointer (some ⟨gx,2,none⟩)) 75 rfl rfl rfl (fun W hW=>by simp[execOp,go_sem]) ?_
 simp only[Act.put,List.setIfInBounds_toArray,List.set_cons_succ,List.set_cons_zero]
 refine wpRow_readD (v:= .slice A2 (fN p 2) k2) 76 rfl rfl rfl (fun W hW=>by have q:=(hW.cell (p:=⟨gx,2,none⟩) hl).trans x2;simp[execOp,go_sem,q]) ?_
 simp only[Act.put,List.setIfInBounds_toArray,List.set_cons_succ,List.set_cons_zero]
 refine wpRow_op rfl rfl fun Kc hKc=> ?_
 unfold Oper.wp
 simp[execOp,go_sem]
 apply hKc
 have ho1:(W2.drew.alloc (.cells #[.string sb,.string tb] 9)).ownsRow W2.heap.size 9 1 (.slice (some ⟨W2.heap.size,0,none⟩) 2 2) 2 [.string sb,.string tb]:=own_lit (W:=W2.drew) (n:=2) (size:=1) rfl (by unfold maxLen;omega)
 have hv1:Below W2.heap.size W2 (W2.drew.alloc (.cells #[.string sb,.string tb] 9)):=bel
 refine⟨hk2.trans (hv1.mono hk2.size), ?_⟩
 try simp only[Act.put,List.setIfInBounds_toArray,List.set_cons_succ,List.set_cons_zero]
 refine wpRow_op rfl rfl fun Kc hKc=> ?_
 refine op_src (n:=(2)) (xs:=([Value.string sb,.string tb])) rfl _ _ 36 rfl sltS W2 rfl ho1 hv1 (fN p 0) (fC p 0) (HN0.out _ (hk2.trans (hv1.mono hk2.size))) HZ0.out (sv_oneC _) (by unfold maxLen;omega) (by omega) ?_
 intro va0 Va0 hoa0 _ hba0
 have hba0:=hba0.out
 apply hKc
 refine⟨hk2.trans (hba0.mono hk2.size), ?_⟩
 try simp only[Act.put,List.setIfInBounds_toArray]
 refine wpRow_op rfl rfl fun Kc hKc=> ?_
 refine op_src (n:=(2+fN p 0)) (xs:=([Value.string sb,.string tb]++fC p 0)) rfl _ _ 36 rfl sltS W2 rfl hoa0 hba0 (fN p 3) (fC p 3) (HN3.out _ (hk2.trans (hba0.mono hk2.size))) HZ3.out (sv_oneC _) (by unfold maxLen;omega) (by omega) ?_
 intro va1 Va1 hoa1 _ hba1
 have hba1:=hba1.out
 apply hKc
 refine⟨hk2.trans (hba1.mono hk2.size), ?_⟩
 try simp only[Act.put]
 refine wpRow_op rfl rfl fun Kc hKc=> ?_
 refine op_src (n:=(2+fN p 0+fN p 3)) (xs:=([Value.string sb,.string tb]++fC p 0++fC p 3)) rfl _ _ 36 rfl sltS W2 rfl hoa1 hba1 (fN p 2) (fC p 2) (HN2.out _ (hk2.trans (hba1.mono hk2.size))) HZ2.out (sv_oneC _) (by unfold maxLen;omega) (by omega) ?_
 intro va2 Va2 hoa2 _ hba2
 have hba2:=hba2.out
 apply hKc
 refine⟨hk2.trans (hba2.mono hk2.size), ?_⟩
 try simp only[Act.put]
 dsimp only[wpRow,List.drop]
 rw[HLi.out,HLn.out]at hoa2
 have HBv:=Lib.hid (hk2.trans (hba2.mono hk2.size))
 have HOw:=Lib.hid hoa2
 clear hba0 hba1 hba2 hoa0 hoa1 hoa2 ho1 hv1 hT0 hS0 hk2 HLi HN0 HN2 HN3 HZ0 HZ2 HZ3 x0 x2 x3 x6 x7 x8 x9 b0 b2 b3 HL HRe HB1
 obtain⟨AL,cL,rfl,_⟩:=own_cap HOw.out
 have HRd:=Lib.hid (Rd.own HOw.out)
 obtain⟨m,hm⟩: ∃m,L.length=m:=⟨_,rfl⟩
 have HM:=Lib.hid hm
 have hmm:m<=9223372036854775807:=by have:=HRd.out.2.1;rwa[hm]at this
 rw[hm]at HRd ⊢
 clear hm HOw HLn HSv
 go_wp2_with fail
 go_loopw [13] (fun i wr=> ∃k:Nat,k<=m/\i= .int .i64 (k:Nat)/\Hid (Below Va2.heap.size Va2 wr)) (fun i _=>m-(intOf i).toNat)
 case atStart=>exact⟨0,by omega,rfl,by show Below _ _ _;exact bel⟩
 case round=>
  obtain⟨k,hk,rfl,HB⟩:=hrel
  have HBw:=Lib.hid (HBv.out.trans (HB.out.mono HBv.out.size))
  by_cases hlt:k<m
  ·obtain⟨b,off,hAe,hb,hcc⟩: ∃b off,AL=some ⟨b,off,none⟩/\b<Va2.heap.size/\ ∀j u,(L.map sv)[j]? =some u->Va2.cell? ⟨b,off+j,none⟩=some u:=by
    obtain⟨_,_,A',c',e,h9⟩:=HRd.out
    cases e
    obtain⟨b,off,h1,h2,h3⟩:=h9 (by omega)
    exact⟨b,off,h1,h2,h3⟩
   subst hAe
   have hkl:k<L.length:=by rw[HM.out];exact hlt
   obtain⟨x,hx⟩: ∃x,L[k]=x:=⟨_,rfl⟩
   have y0:wr.cell? ⟨b,off+k,none⟩=some (.string ⟨x.toArray⟩):=(HB.out.cell (p:=⟨b,off+k,none⟩) hb).trans (hcc k (sv x) (by simp[hkl,hx]))
   have hbr:b<wr.heap.size:=Nat.lt_of_lt_of_le hb HB.out.size
   have hxl:x.length<=maxLen:=by have:=HAk.out x (hx ▸ List.getElem_mem hkl);unfold maxLen;omega
   have HG:=Lib.hid (fun W (hb:Below wr.heap.size wr W)=>HBw.out.trans (hb.mono HBw.out.size))
   have PTag:=Lib.hid (fun W hb=>show Calls Tryz.prog 12 #[.pointer (some ⟨g,0,none⟩),.string ⟨x.toArray⟩] W (Ret (.bool (tagR p x)) W)from tag_any g p x W (HR.out W (HG.out W hb)) hxl)
   have RTag:=Lib.hid (fun W hb=>show Calls Tryz.prog 41 #[.pointer (some ⟨gx,0,none⟩),.string ⟨x.toArray⟩] W (Ret (.bool (tagR p x)) W)from rtags_any gx p x W (HX.out W (HG.out W hb)))
   have PScheme:=Lib.hid (fun W hb=>show Calls Tryz.prog 17 #[.pointer (some ⟨g,0,none⟩),.string ⟨x.toArray⟩] W (Ret (.bool (schR p x)) W)from scheme_any g p x W (HR.out W (HG.out W hb)) hxl)
   have RScheme:=Lib.hid (fun W hb=>show Calls Tryz.prog 42 #[.pointer (some ⟨gx,0,none⟩),.string ⟨x.toArray⟩] W (Ret (.bool (schR p x)) W)from rschemes_any gx p x W (HX.out W (HG.out W hb)))
   have PCss:=Lib.hid (fun W hb=>show Calls Tryz.prog 28 #[.pointer (some ⟨g,0,none⟩),.string ⟨x.toArray⟩] W (Ret (.bool (cssR p x)) W)from css_any g p x W (HR.out W (HG.out W hb)) hxl)
   have RCss:=Lib.hid (fun W hb=>show Calls Tryz.prog 43 #[.pointer (some ⟨gx,0,none⟩),.string ⟨x.toArray⟩] W (Ret (.bool (cssR p x)) W)from rcss_any gx p x W (HX.out W (HG.out W hb)))
   have PDrop:=Lib.hid (fun W hb=>show Calls Tryz.prog 15 #[.pointer (some ⟨g,0,none⟩),.string ⟨x.toArray⟩] W (Ret (.bool (dropR p x)) W)from drop_any g p x W (HR.out W (HG.out W hb)) hxl)
   have RDrop:=Lib.hid (fun W hb=>show Calls Tryz.prog 44 #[.pointer (some ⟨gx,0,none⟩),.string ⟨x.toArray⟩] W (Ret (.bool (dropR p x)) W)from rdrops_any gx p x W (HX.out W (HG.out W hb)))
   have PAt:=Lib.hid (fun W hb=>show Calls Tryz.prog 16 #[.pointer (some ⟨g,0,none⟩),.string ⟨x.toArray⟩,.string tb] W (Ret (.bool (attrR p x t)) W)from HAt.out W x (HG.out W hb) hxl)
   have RAt:=Lib.hid (fun W hb=>show Calls Tryz.prog 45 #[.pointer (some ⟨gx,0,none⟩),.string ⟨x.toArray⟩,.string tb] W (Ret (.bool (attrR p x t)) W)from HBt.out W x (HG.out W hb))
   have PAs:=Lib.hid (fun W hb=>show Calls Tryz.prog 16 #[.pointer (some ⟨g,0,none⟩),.string sb,.string ⟨x.toArray⟩] W (Ret (.bool (attrR p s x)) W)from HAs.out W x (HG.out W hb) hxl)
   have RAs:=Lib.hid (fun W hb=>show Calls Tryz.prog 45 #[.pointer (some ⟨gx,0,none⟩),.string sb,.string ⟨x.toArray⟩] W (Ret (.bool (attrR p s x)) W)from HBs.out W x (HG.out W hb))
   have PFo:=Lib.hid (fun W hb=>show Calls Tryz.prog 11 #[.pointer (some ⟨g,0,none⟩),.string ⟨x.toArray⟩] W (RetF W (forcedR p x))from forced10_any g p x W (HR.out W (HG.out W hb)) hxl HFw.out)
   have RFo:=Lib.hid (fun W hb=>show Calls Tryz.prog 47 #[.pointer (some ⟨gx,0,none⟩),.string ⟨x.toArray⟩] W (RetF W (forcedR p x))from rforced_any gx p x W (HX.out W (HG.out W hb)) (Nat.le_trans HFw.out (by omega)))
   generalize forcedR p x=FL at*
   generalize tagR p x=T0 at*
   generalize schR p x=T1 at*
   generalize cssR p x=T2 at*
   generalize dropR p x=T3 at*
   generalize attrR p x t=T4 at*
   generalize attrR p s x=T5 at*
   clear hcc hx hkl hxl
   generalize(⟨x.toArray⟩:ByteArray)=xb at*
   go_upto_region 11 with(first
    |(go_at_call 12;(with_reducible refine(Ret.flat (PTag.out _ bel)).mono ?_);rintro e V ⟨rfl,Y,rfl⟩)
    |(go_at_call 12;(with_reducible refine(PTag.out _ bel).mono ?_);rintro e V ⟨rfl,Y,rfl⟩)
    |(go_at_call 41;(with_reducible refine(Ret.flat (RTag.out _ bel)).mono ?_);rintro e V ⟨rfl,Y,rfl⟩)
    |(go_at_call 41;(with_reducible refine(RTag.out _ bel).mono ?_);rintro e V ⟨rfl,Y,rfl⟩)
    |(go_at_call 17;(with_reducible refine(Ret.flat (PScheme.out _ bel)).mono ?_);rintro e V ⟨rfl,Y,rfl⟩)
    |(go_at_call 17;(with_reducible refine(PScheme.out _ bel).mono ?_);rintro e V ⟨rfl,Y,rfl⟩)
    |(go_at_call 42;(with_reducible refine(Ret.flat (RScheme.out _ bel)).mono ?_);rintro e V ⟨rfl,Y,rfl⟩)
    |(go_at_call 42;(with_reducible refine(RScheme.out _ bel).mono ?_);rintro e V ⟨rfl,Y,rfl⟩)
    |(go_at_call 28;(with_reducible refine(Ret.flat (PCss.out _ bel)).mono ?_);rintro e V ⟨rfl,Y,rfl⟩)
    |(go_at_call 28;(with_reducible refine(PCss.out _ bel).mono ?_);rintro e V ⟨rfl,Y,rfl⟩)
    |(go_at_call 43;(with_reducible refine(Ret.flat (RCss.out _ bel)).mono ?_);rintro e V ⟨rfl,Y,rfl⟩)
    |(go_at_call 43;(with_reducible refine(RCss.out _ bel).mono ?_);rintro e V ⟨rfl,Y,rfl⟩)
    |(go_at_call 15;(with_reducible refine(Ret.flat (PDrop.out _ bel)).mono ?_);rintro e V ⟨rfl,Y,rfl⟩)
    |(go_at_call 15;(with_reducible refine(PDrop.out _ bel).mono ?_);rintro e V ⟨rfl,Y,rfl⟩)
    |(go_at_call 44;(with_reducible refine(Ret.flat (RDrop.out _ bel)).mono ?_);rintro e V ⟨rfl,Y,rfl⟩)
    |(go_at_call 44;(with_reducible refine(RDrop.out _ bel).mono ?_);rintro e V ⟨rfl,Y,rfl⟩)
    |(go_at_call 16;(with_reducible refine(Ret.flat (PAt.out _ bel)).mono ?_);rintro e V ⟨rfl,Y,rfl⟩)
    |(go_at_call 16;(with_reducible refine(PAt.out _ bel).mono ?_);rintro e V ⟨rfl,Y,rfl⟩)
    |(go_at_call 45;(with_reducible refine(Ret.flat (RAt.out _ bel)).mono ?_);rintro e V ⟨rfl,Y,rfl⟩)
    |(go_at_call 45;(with_reducible refine(RAt.out _ bel).mono ?_);rintro e V ⟨rfl,Y,rfl⟩)
    |(go_at_call 16;(with_reducible refine(Ret.flat (PAs.out _ bel)).mono ?_);rintro e V ⟨rfl,Y,rfl⟩)
    |(go_at_call 16;(with_reducible refine(PAs.out _ bel).mono ?_);rintro e V ⟨rfl,Y,rfl⟩)
    |(go_at_call 45;(with_reducible refine(Ret.flat (RAs.out _ bel)).mono ?_);rintro e V ⟨rfl,Y,rfl⟩)
    |(go_at_call 45;(with_reducible refine(RAs.out _ bel).mono ?_);rintro e V ⟨rfl,Y,rfl⟩))
   refine name_world fun V9 hV9=> ?_
   have hv9:Below wr.heap.size wr V9:=by rw[hV9];exact bel
   have HB9:=Lib.hid hv9
   clear hV9 hv9 PTag PScheme PCss PDrop RTag RScheme RCss RDrop PAt RAt PAs RAs
   have PF1:=Lib.hid (PFo.out V9 HB9.out)
   go_wp2_with(first
    |(go_at_call 11;(with_reducible refine PF1.out.mono ?_);rintro e V10 ⟨AF,cF,rfl,hb10,hr10⟩;have HB10:=Lib.hid (HB9.out.trans (hb10.mono HB9.out.size));have HR10:=Lib.hid hr10;have PF2:=Lib.hid (RFo.out V10 HB10.out);clear hb10 hr10)
    |(go_at_call 47;(with_reducible refine PF2.out.mono ?_);rintro e V11 ⟨AG,cG,rfl,hb11,hr11⟩;have HB11:=Lib.hid (HB10.out.trans (hb11.mono HB10.out.size));have PS:=Lib.hid (show Calls Tryz.prog 46 #[.slice AF FL.length cF,.slice AG FL.length cG] V11 (Ret (.bool true) V11)from by have h9:=rsameat_any AF AG FL.length FL.length cF cG FL FL V11 (HR10.out.belowW hb11) hr11;rwa[decide_eq_true rfl]at h9);clear hb11 hr11)
    |(go_at_call 46;(with_reducible refine PS.out.mono ?_);rintro e V12 ⟨rfl,Y12,rfl⟩))
   go_roundw
   case rel=>exact⟨k+1,by omega,by go_num,by show Below _ _ _;exact HB.out.trans ((HB11.out.trans ((bel:Below V11.heap.size V11 _).mono HB11.out.size)).mono HB.out.size)⟩
   case measure=>simp[intOf];omega
  ·go_wp2_with fail
   go_ret
   exact Ret.of rfl (HBw.out.trans ((bel:Below wr.heap.size wr _).mono HBw.out.size))
end Go.Proofs.YtbhhgbgfaemfdaaGreat
