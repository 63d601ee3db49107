import Derived.Test.YtccjfanpjojbnaaGreatDoorPicI
namespace Go.Proofs.YtccjfanpjojbnaaGreatDoor
open Bool renaming eq_iff_iff→bK
open Go.Ending renaming returned→aL
open Go.IntKind renaming i64→aC
open Lib renaming hid→aA,trimB→rT
open List renaming all_cons→nO,append_assoc→cY,dropWhile_cons_of_neg→lF,dropWhile_cons_of_pos→nM
open Tryz renaming func136→xd,ntmps136→qi,prog→aE
open Go.Value renaming agg→aR,bool→aI,int→aB,pointer→aM,slice→aF,string→aD
set_option maxRecDepth 100000
set_option maxHeartbeats 8000000
open Go.RowKit Go.Shelf
def cN.agg (p:cN):Value:= aR #[sv p.url,sv p.size]
theorem IQ (u:Bs) (W:World) (hm:u.length<=9223372036854775807):Calls aE 130 #[aD ⟨u.toArray⟩,.func (.func 127) #[] #[]] W (aH (aB aC (tw dS u)) W):=by
 have:=IR ⟨u.toArray⟩ _ _ W Re (by show u.length<=_;omega);rwa[UO]at this
theorem PX (u:Bs) (W:World) (hm:u.length<=9223372036854775807):Calls aE 130 #[aD ⟨u.toArray⟩,.func (.func 128) #[] #[]] W (aH (aB aC (tw dA u)) W):=
 IR ⟨u.toArray⟩ _ _ W V8 (by show u.length<=_;omega)
theorem uY (u:Bs) (k:Nat):(⟨u.toArray⟩:ByteArray).extract k u.length=⟨(u.drop k).toArray⟩:=by
 have:=DS ⟨u.toArray⟩ k;exact this
theorem YP (u:Bs) (k:Nat):(⟨u.toArray⟩:ByteArray).extract 0 k=⟨(u.take k).toArray⟩:=RF ⟨u.toArray⟩ k
theorem X8 (s:Bs) (bs:Nat) (bw:Nat->Prop) (W:World) (hb:Boxed W bs 9 (aD ⟨s.toArray⟩)) (hg:Boxed W (bs+1) 160 (.func (.func 127) #[] #[]))
  (hbw: ¬bw bs) (hbw2: ¬bw (bs+1)) (hm:s.length<=140737488355):
  yM aE 129 #[aM (some ⟨bs,0,none⟩),aM (some ⟨bs+1,0,none⟩)] (λp=> #[cN.agg p]) (λk=>k=bs) bw (cO s) W:=by
 intro l J Jx hJ hY h0;refine callsIn_of_wp Tryz.func129 rfl trivial ?_ rfl;have hc:=hb.cell;have hf:=hb.frozen;have hgc:=hg.cell;have hlt1:=hb.lt;have hlt2:=hg.lt;have HU:=aA (λW=>IQ s W om);have hmx:=bX;have htw:=vL dS s;simp only[Tryz.ntmps129,List.size_toArray,List.length_cons,List.length_nil,Nat.reduceAdd,Nat.reduceSub,Array.replicate_succ,Array.replicate_zero,List.push_toArray,List.append_toArray,List.nil_append,List.cons_append];gi_wp2;refine DD 5 rfl kr kr  ?_;dsimp only[List.take,List.drop];repeat(gi_big_quiet_step (first|(gi_at_call 130;with_reducible exact CallsIn.grow_of (HU.out _))))
 refine wpQuietIn_nil ?_;rintro _ ⟨nq,rfl⟩;gi_wp2;clear hc hf hgc;gi_loopw [4] (λ_ wr=> ∃(u:Bs) (pre:List cN),u.length<=s.length/\Boxed wr bs 9 (aD ⟨u.toArray⟩)/\Boxed wr (bs+1) 160 (.func (.func 127) #[] #[])/\J pre wr/\Hid (pre++cO u=cO s)/\Hid (u.dropWhile dS=u)) (λ_ wr=>FH wr bs)
 case atStart=>
  refine⟨s.dropWhile dS,[],nB _ _, ?_, ?_,hJ _ _ _ h0 iX,by show _=_;rw[LF];rfl, ?_⟩
  .rw[<-tL,<-uY];exact((aJ.refl (λ_=>False) _).grow _).boxed (hb.set _) (λh=>h)
  .exact((aJ.refl (λ_=>False) _).grow _).boxed (hg.other (B':=bs) om _) (λh=>h)
  .show _=_;cases h:s.dropWhile dS with
   |nil=>rfl
   |cons c r=>rw[lF (by simp[BA h])]
 case round=>
  obtain⟨u,pre,hu,hbx,hgx,hJs,HK,HD⟩:=hrel;have hc:=hbx.cell;have hf:=hbx.frozen;have hgc:=hgx.cell;have hl1:=hbx.lt;have hl2:=hgx.lt;cases u with
  |nil=>
   have HE:Hid (pre=cO s):=by
    show _=_;rw[<-HK.out,vX,List.append_nil]
   clear HK;gi_wp2;go_end0;exact⟨⟨_,rfl⟩,.inl (HE.out ▸ hJs)⟩
  |cons c r=>
   have hs:=BA HD.out;obtain⟨q,hq⟩: ∃q,(c::r).takeWhile dA=q:=⟨_,rfl⟩;obtain⟨t,ht⟩: ∃t,(c::r).dropWhile dA=t:=⟨_,rfl⟩;have HR:=aA (vW (r:=r) hs);change Hid (cO (c::r)=if qC ((c::r).takeWhile dA)then⟨gQ ((c::r).takeWhile dA),[]⟩::cO ((c::r).dropWhile dA)else⟨(c::r).takeWhile dA,jJ [32] (dZ (((c::r).dropWhile dA).take (eX 0 ((c::r).dropWhile dA))))⟩::cO (((c::r).dropWhile dA).drop (eX 0 ((c::r).dropWhile dA))))at HR;rw[hq,ht]at HR;have htl:t.length<=r.length:=by rw[<-ht];exact yS (xD hs)
   have hrl:r.length<=140737488355:=by simp at hu;omega
   have hul:(c::r).length<=140737488355:=by omega
   have HU1:=aA (λW=>PX (c::r) W om);have e1:(⟨(c::r).toArray⟩:ByteArray).extract 0 (tw dA (c::r))=⟨q.toArray⟩:=by rw[YP,QS,hq]
   have e2:(⟨(c::r).toArray⟩:ByteArray).extract (tw dA (c::r)) (⟨(c::r).toArray⟩:ByteArray).size=⟨t.toArray⟩:=by
    have:=uY (c::r) (tw dA (c::r));rw[tL,ht]at this;exact this
   have hqn:q≠[]:=by rw[<-hq,List.takeWhile_cons_of_pos (by simp[dA,xD hs])];simp
   have hql:q.length<=(c::r).length:=by rw[<-hq];exact(List.takeWhile_sublist dA).length_le
   have hN:=vL dA (c::r);have HT1:=aA (λW=>show Calls aE 131 #[aD ⟨q.toArray⟩,aD ⟨#[44]⟩] W λe w'=>e=aL (aD ⟨(gQ q).toArray⟩)/\w'=W from by
    have:=Tryz.strings_TrimRight_one ⟨q.toArray⟩ 44 dc W (by show q.length<=_;omega);rw[show(⟨q.toArray⟩:ByteArray).data.toList=q from rfl,QH]at this;exact this)
   have htc:=QI q;have HEN:=aA (QJ q);obtain⟨U,hU⟩: ∃U:ByteArray,⟨(c::r).toArray⟩=U:=⟨_,rfl⟩;obtain⟨Q,hQ⟩: ∃Q:ByteArray,⟨q.toArray⟩=Q:=⟨_,rfl⟩;obtain⟨V,hV⟩: ∃V:ByteArray,⟨(gQ q).toArray⟩=V:=⟨_,rfl⟩;obtain⟨T,hT⟩: ∃T:ByteArray,⟨t.toArray⟩=T:=⟨_,rfl⟩;have hUs:U.size=(c::r).length:=by rw[<-hU];rfl
   have hne:=GN (a:=U) (by rw[hUs];simp);have hN2:tw dA (c::r)<=U.size:=by omega
   have hVQ:(V.toList==Q.toList)=decide (gQ q=q):=by rw[nD,<-hV,<-hQ]
   have hVQ2:(V.toList !=Q.toList)= !decide (gQ q=q):=by rw[Rk,<-hV,<-hQ]
   have hm2:U.size<=140737488355:=by omega
   have HUS:=aA hUs;rw[hU]at hbx hc e1 e2 HU1;rw[hQ]at e1 HT1;rw[hV]at HT1;rw[hT]at e2;have HV:=aA hV;have HQ:=aA hQ;have HTT:=aA hT;generalize tw dA (c::r)=N at*;clear hU hQ hV hUs hT hN hul;cases he:qC q
   .have hd1:gQ q=q:=by
     have:=HEN.out;rw[he]at this;simpa using this
    have hVe:V=Q:=by
     have h1:=HV.out;rw[hd1]at h1;rw[<-h1,HQ.out]
    subst hVe;have hdt:decide (gQ q=q)=true:=by simp[hd1]
    rw[hdt]at hVQ hVQ2;obtain⟨m,hmm⟩: ∃m,eX 0 t=m:=⟨_,rfl⟩;have hmt:=JU t 0;rw[hmm]at hmt;have HSz:=aA (λW=>show Calls aE 132 #[aD T] W (aH (aB aC (m:Nat)) W)from by
     have:=i8 ⟨t.toArray⟩ W (by show t.length<=_;omega);rw[show(⟨t.toArray⟩:ByteArray).data.toList=t from rfl,hmm,HTT.out]at this;exact this)
    have hTs:T.size=t.length:=by rw[<-HTT.out];rfl
    obtain⟨S,hS⟩: ∃S:ByteArray,⟨(t.take m).toArray⟩=S:=⟨_,rfl⟩;obtain⟨T2,hT2⟩: ∃S:ByteArray,⟨(t.drop m).toArray⟩=S:=⟨_,rfl⟩;have e3:T.extract 0 m=S:=by rw[<-HTT.out,YP,hS]
    have e4:T.extract m T.size=T2:=by rw[hTs,<-HTT.out,uY,hT2]
    have hm1:m<=T.size:=by omega
    have hm3:T.size<=140737488355:=by omega
    obtain⟨us,hus⟩: ∃us,dZ (t.take m)=us:=⟨_,rfl⟩;have hfew:=PG (t.take m);have hjl:=G6 (t.take m);have htk:(t.take m).length<=t.length:=by simp;omega
    rw[hus]at hfew hjl;obtain⟨Jn,hJn⟩: ∃S:ByteArray,⟨(jJ [32] us).toArray⟩=S:=⟨_,rfl⟩;have HF:=aA (λW=>show Calls aE 134 #[aD S] W (pA W us.length 1 (us.map sv))from by
     have:=Mk ⟨(t.take m).toArray⟩ W (by show(t.take m).length<=_;omega);rw[show(⟨(t.take m).toArray⟩:ByteArray).data.toList=t.take m from rfl,hus,hS]at this;exact this)
    have HJ:=aA (λ(W:World) (A:Option Addr) (c:Nat) (hr:Rd W (aF A us.length c) us.length 1 (us.map sv)) (hc:us.length<=c)=>show Calls aE 133 #[aF A us.length c,aD ⟨#[32]⟩] W (aH (aD Jn) W)from by
     have:=RD us [32] hr hc om om;rw[hJn]at this;exact this)
    have HS2:=aA hT2;have HJN:=aA hJn;have HTs:=aA hTs;clear hS hT2 hJn hdt hTs;gi_wp2_with (first|(gi_at_call 130;(with_reducible refine(callsIn_wide.2 (HU1.out _)).mono ?_);rintro e w' ⟨rfl,X,rfl⟩)|(gi_at_call 131;(with_reducible refine(callsIn_wide.2 (HT1.out _)).mono ?_);rintro e w' ⟨rfl,rfl⟩))
    refine OS rfl kr kr  ?_;repeat(gi_big_quiet_step (fail))
    refine wpQuietIn_nil ?_;rintro _ ⟨nq,rfl⟩;obtain⟨V5,hV5⟩: ∃V5,(((wr.grow X).alloc (Obj.cells #[aD V,aD ⟨#[]⟩] 123)).grow nq)=V5:=⟨_,rfl⟩;obtain⟨xb,hxb⟩: ∃xb,wr.heap.size+X.blocks.size=xb:=⟨_,rfl⟩;have hT5:aJ (λ_=>False) wr V5:=by rw[<-hV5];exact iX
    have hxh:V5.heap[xb]? =some (.cells #[aD V,aD ⟨#[]⟩] 123):=by
     rw[<-hV5];exact WZ _ _ (Ko (by simp[World.grow,<-hxb]))
    have hx0:V5.cell? ⟨xb,0,none⟩=some (aD V):=by simp[World.cell?,hxh]
    have hx1:V5.cell? ⟨xb,1,none⟩=some (aD ⟨#[]⟩):=by simp[World.cell?,hxh]
    have hxf0:V5.frozen? ⟨xb,0,none⟩=false:=by simp[World.frozen?,hxh]
    have hxf1:V5.frozen? ⟨xb,1,none⟩=false:=by simp[World.frozen?,hxh]
    have hxl:xb<V5.heap.size:=(Array.getElem?_eq_some_iff.1 hxh).1;have hxw:wr.heap.size<=xb:=by omega
    rw[hV5,hxb];have hbx5:=hT5.boxed hbx (λh=>h);have hgx5:=hT5.boxed hgx (λh=>h);have hc5:=hbx5.cell;have hf5:=hbx5.frozen;have hgc5:=hgx5.cell;have hl5:=hbx5.lt;have hl6:=hgx5.lt;have hnb1: ¬(xb=bs):=by omega
    have hnb2: ¬(bs=xb):=by omega
    have hT5b:=hT5.mono (pw:=λk=>k=bs) (λk h=>h.elim);have hbx0:=hbx;clear hV5 hxb hc hf hgc hxh;gi_wp2_with (first|(gi_at_call 132;(with_reducible refine(callsIn_wide.2 (HSz.out _)).mono ?_);rintro e w' ⟨rfl,X2,rfl⟩)|(gi_at_call 134;(with_reducible refine(callsIn_wide.2 (HF.out _)).mono ?_);rintro e w' ⟨A3,c3,X3,rfl,rfl,hc3,hr3⟩)|(gi_at_call 133;(with_reducible refine(callsIn_wide.2 (HJ.out _ _ _ hr3 hc3)).mono ?_);clear hr3 hc3;rintro e w' ⟨rfl,X4,rfl⟩))
    obtain⟨x,hx⟩: ∃x:cN,x=⟨q,jJ [32] us⟩:=⟨_,rfl⟩;obtain⟨l2,hl2⟩: ∃l2,l2=t.drop m:=⟨_,rfl⟩;have HX:Hid (pre++[x]++cO l2=cO s):=by
     show _=_;rw[hx,hl2,<-HK.out,HR.out,if_neg (by simp[he]),hmm,hus,cY];rfl
    have HA:Hid (#[cN.agg x]= #[aR #[aD V,aD Jn]]):=by
     show _=_;rw[hx,cN.agg,sv,sv,HQ.out,HJN.out]
    have HL2:Hid (⟨l2.toArray⟩=T2):=by show _=_;rw[hl2];exact HS2.out
    have hll:l2.length<=r.length:=by rw[hl2,List.length_drop];omega
    clear hx hl2;refine pS (hY pre x _ ⟨_,HX.out⟩ (hJ _ _ _ hJs iX)) (by rw[HA.out]) ?_;rintro e W3 (⟨rfl,hJ3,ht3⟩|⟨rfl,hJx⟩)
    .refine⟨_,rfl, ?_⟩;have hb3:=ht3.boxed (t:=9) (v:= aD T2) (by repeat(first|with_reducible assumption|(with_reducible refine @Boxed.set _ _ _ ?_ _ ?_;rotate_left)|(with_reducible refine Boxed.oth ?_ (by first|omega|(simp[go_sem]<;>omega)) _)|with_reducible refine Boxed.grow' ?_ _|with_reducible refine Boxed.alloc ?_ _|with_reducible refine Boxed.drew' ?_)) hbw;have hg3:=ht3.boxed (t:=160) (v:= .func (.func 127) #[] #[]) (by repeat(first|with_reducible assumption|(with_reducible refine @Boxed.set _ _ _ ?_ _ ?_;rotate_left)|(with_reducible refine Boxed.oth ?_ (by first|omega|(simp[go_sem]<;>omega)) _)|with_reducible refine Boxed.grow' ?_ _|with_reducible refine Boxed.alloc ?_ _|with_reducible refine Boxed.drew' ?_)) hbw2;have hc3:=hb3.cell;have hf3:=hb3.frozen;have hgc3:=hg3.cell;have hl3:=hb3.lt;have hl4:=hg3.lt;rw[<-HL2.out]at hb3 hc3;have HU2:=aA (λW=>IQ l2 W om);have htw2:=vL dS l2;clear hbx hgx;go_simp
     gi_wp2;refine DD 5 rfl kr kr  ?_;dsimp only[List.take,List.drop];repeat(gi_big_quiet_step (first|(gi_at_call 130;with_reducible exact CallsIn.grow_of (HU2.out _))))
     refine wpQuietIn_nil ?_;rintro _ ⟨nq,rfl⟩;gi_wp2;go_roundw
     case rel=>
      refine⟨l2.dropWhile dS,pre++[x], ?_, ?_, ?_,hJ _ _ _ hJ3 iX, ?_, ?_⟩
      .have:=nB dS l2;simp at hu;omega
      .rw[<-tL,<-uY];exact((aJ.refl (λ_=>False) _).grow _).boxed (hb3.set _) (λh=>h)
      .exact((aJ.refl (λ_=>False) _).grow _).boxed (hg3.other (B':=bs) om _) (λh=>h)
      .show _=_;rw[LF];exact HX.out
      .show _=_;cases h:l2.dropWhile dS with
       |nil=>rfl
       |cons c r=>rw[lF (by simp[BA h])]
     case measure=>
      have h1:=zT (((aJ.refl (λ_=>False) _).grow nq).boxed (hb3.set (aD ((⟨l2.toArray⟩:ByteArray).extract (tw dS l2) l2.length))) (λh=>h));have h2:=zT hbx0;rw[uY,tL]at h1;rw[h2,HUS.out];have h3:=nB dS l2;first
      |(rw[uY,tL,h1];show(l2.dropWhile dS).length<_;simp;omega)
      |(rw[h1];show(l2.dropWhile dS).length<_;simp;omega)
    .refine⟨_,rfl, ?_⟩;go_simp
     gi_wp2;refine bodyPost_ret (results_none rfl _ _ _) rfl ?_;exact⟨⟨_,rfl⟩,.inr ⟨pre,_,⟨_,HX.out⟩,hJx⟩⟩
   .have hd1:decide (gQ q=q)=false:=by
     have:=HEN.out;rw[he]at this;simpa using this.symm
    rw[hd1]at hVQ hVQ2;gi_wp2_with (first|(gi_at_call 130;(with_reducible refine(callsIn_wide.2 (HU1.out _)).mono ?_);rintro e w' ⟨rfl,X,rfl⟩)|(gi_at_call 131;(with_reducible refine(callsIn_wide.2 (HT1.out _)).mono ?_);rintro e w' ⟨rfl,rfl⟩))
    refine OS rfl kr kr  ?_;repeat(gi_big_quiet_step (fail))
    refine wpQuietIn_nil ?_;rintro _ ⟨nq,rfl⟩;gi_wp2;have hbx0:=hbx;clear hc hf hgc;obtain⟨x,hx⟩: ∃x:cN,x=⟨gQ q,[]⟩:=⟨_,rfl⟩;obtain⟨l2,hl2⟩: ∃l2,l2=t:=⟨_,rfl⟩;have HX:Hid (pre++[x]++cO l2=cO s):=by
     show _=_;rw[hx,hl2,<-HK.out,HR.out,if_pos he,cY];rfl
    have HA:Hid (#[cN.agg x]= #[aR #[aD V,aD ⟨#[]⟩]]):=by
     show _=_;rw[hx,cN.agg,sv,sv,<-HV.out]
    have HL2:Hid (⟨l2.toArray⟩=T):=by show _=_;rw[hl2];exact HTT.out
    have hll:l2.length<=r.length:=by rw[hl2];exact htl
    clear hx hl2;refine pS (hY pre x _ ⟨_,HX.out⟩ (hJ _ _ _ hJs iX)) (by rw[HA.out]) ?_;rintro e W3 (⟨rfl,hJ3,ht3⟩|⟨rfl,hJx⟩)
    .refine⟨_,rfl, ?_⟩;have hb3:=ht3.boxed (t:=9) (v:= aD T) (by repeat(first|with_reducible assumption|(with_reducible refine @Boxed.set _ _ _ ?_ _ ?_;rotate_left)|(with_reducible refine Boxed.oth ?_ (by first|omega|(simp[go_sem]<;>omega)) _)|with_reducible refine Boxed.grow' ?_ _|with_reducible refine Boxed.alloc ?_ _|with_reducible refine Boxed.drew' ?_)) hbw;have hg3:=ht3.boxed (t:=160) (v:= .func (.func 127) #[] #[]) (by repeat(first|with_reducible assumption|(with_reducible refine @Boxed.set _ _ _ ?_ _ ?_;rotate_left)|(with_reducible refine Boxed.oth ?_ (by first|omega|(simp[go_sem]<;>omega)) _)|with_reducible refine Boxed.grow' ?_ _|with_reducible refine Boxed.alloc ?_ _|with_reducible refine Boxed.drew' ?_)) hbw2;have hc3:=hb3.cell;have hf3:=hb3.frozen;have hgc3:=hg3.cell;have hl3:=hb3.lt;have hl4:=hg3.lt;rw[<-HL2.out]at hb3 hc3;have HU2:=aA (λW=>IQ l2 W om);have htw2:=vL dS l2;clear hbx hgx;go_simp
     gi_wp2;refine DD 5 rfl kr kr  ?_;dsimp only[List.take,List.drop];repeat(gi_big_quiet_step (first|(gi_at_call 130;with_reducible exact CallsIn.grow_of (HU2.out _))))
     refine wpQuietIn_nil ?_;rintro _ ⟨nq,rfl⟩;gi_wp2;go_roundw
     case rel=>
      refine⟨l2.dropWhile dS,pre++[x], ?_, ?_, ?_,hJ _ _ _ hJ3 iX, ?_, ?_⟩
      .have:=nB dS l2;simp at hu;omega
      .rw[<-tL,<-uY];exact((aJ.refl (λ_=>False) _).grow _).boxed (hb3.set _) (λh=>h)
      .exact((aJ.refl (λ_=>False) _).grow _).boxed (hg3.other (B':=bs) om _) (λh=>h)
      .show _=_;rw[LF];exact HX.out
      .show _=_;cases h:l2.dropWhile dS with
       |nil=>rfl
       |cons c r=>rw[lF (by simp[BA h])]
     case measure=>
      have h1:=zT (((aJ.refl (λ_=>False) _).grow nq).boxed (hb3.set (aD ((⟨l2.toArray⟩:ByteArray).extract (tw dS l2) l2.length))) (λh=>h));have h2:=zT hbx0;rw[uY,tL]at h1;rw[h2,HUS.out];have h3:=nB dS l2;first
      |(rw[uY,tL,h1];show(l2.dropWhile dS).length<_;simp;omega)
      |(rw[h1];show(l2.dropWhile dS).length<_;simp;omega)
    .refine⟨_,rfl, ?_⟩;go_simp
     gi_wp2;refine bodyPost_ret (results_none rfl _ _ _) rfl ?_;exact⟨⟨_,rfl⟩,.inr ⟨pre,_,⟨_,HX.out⟩,hJx⟩⟩
theorem U4:jX aE 118 123 (aR #[aD ⟨#[]⟩,aD ⟨#[]⟩]) 2 32:=⟨by kernel_rfl,by kernel_rfl,by kernel_rfl,by decide⟩
def cN.cells (p:cN):List Value:=[sv p.url,sv p.size]
def TW (l:List cN):List Value:=l.flatMap cN.cells
theorem Dq: ∀(n:Nat) (l:Bs),l.length<=n->(cO l).length<=l.length:=by
 intro n;induction n with
 |zero=>intro l h;obtain rfl:l=[]:=List.eq_nil_of_length_eq_zero om;simp[vX]
 |succ n ih=>
  intro l h;cases l with
  |nil=>simp[vX]
  |cons c r=>
   cases hs:dS c
   .have h1:=yS (r:=r) (xD hs);have hr:r.length<=n:=by simpa using h
    rw[vW hs];split
    .have:=ih _ (Nat.le_trans h1 hr);simp at*;omega
    .have h2:(((c::r).dropWhile (λc=> !bB c)).drop (eX 0 ((c::r).dropWhile (λc=> !bB c)))).length<=r.length:=by rw[List.length_drop];omega
     have:=ih _ (Nat.le_trans h2 hr);simp at*;omega
   .rw[uF hs];have:=ih r (by simpa using h);simp;omega
theorem V9 (s:Bs) (W:World):Calls aE 76 #[aD ⟨s.toArray⟩] W λe w'=>e=aL (.func (.func 129) #[] #[aM (some ⟨W.heap.size,0,none⟩),aM (some ⟨W.heap.size+1,0,none⟩)])/\(W.alloc (.cells #[aD ⟨s.toArray⟩] 9)).alloc (.cells #[.func (.func 127) #[] #[]] 160)=w':=by
 go_enter Tryz.func76,Tryz.ntmps76;go_wp2
 go_ret;exact⟨rfl,rfl⟩
theorem Rd.pic {w:World} {A:Option Addr} {m c:Nat} {l:List cN} (h:Rd w (aF A m c) l.length 2 (TW l)) (k:Nat) (hk:k<l.length):
  ∃b off,A=some ⟨b,off,none⟩/\b<w.heap.size/\w.cell? ⟨b,off+k*2,none⟩=some (sv l[k].url)/\w.cell? ⟨b,off+k*2+1,none⟩=some (sv l[k].size):=by
 obtain⟨b,off,rfl,hb,hc⟩:=Rd.flat (n:=2) (cells:=cN.cells) (λ_=>rfl) h k hk;exact⟨b,off,rfl,hb,hc 0 _ om rfl,hc 1 _ om rfl⟩
theorem Di (A:Option Addr) (n c:Nat) (l:List cN) (w:World) (h:Rd w (aF A n c) l.length 2 (TW l)) (hl:l.length<=1000000) (ht:(mF l).length<=140737488355) (he: ∀p∈l,p.url.length<=140737488355/\p.size.length<=140737488355):
  Calls aE 78 #[aF A n c] w (aH (aD ⟨(mF l).toArray⟩) w):=by
 have HR:=aA h;obtain⟨_,hm,A',c',heq,_⟩:=h;cases heq;have HE:=aA he;have HT:=aA ht;clear he ht;go_enter Tryz.func78,Tryz.ntmps78;go_wp2_with fail
 go_loopw [3,8] (λv i wr=> ∃(k:Nat) (X:Gr),k<=l.length/\i=aB aC k/\wr=w.grow X/\(w.grow X).ownsRow w.heap.size 9 1 v k (((l.take k).map mP).map sv)) (λ_ i _=>l.length-(intOf i).toNat)
 case atStart=>exact⟨0,_,by omega,rfl,(kW w).symm,by rw[kW];exact World.ownsRow_nil _ _ _ _⟩
 case round=>
  obtain⟨k,X,hk,rfl,rfl,hown⟩:=hrel;by_cases hlt:k<l.length
  .obtain⟨b,off,rfl,hb,c0,c1⟩:=(HR.out.grow X).pic k hlt;have HL:=aA (show((l.take (k+1)).map mP).map sv=((l.take k).map mP).map sv++[sv (mP l[k])] by rw[List.take_succ_eq_append_getElem hlt,List.map_append,List.map_append];rfl);obtain⟨h1,h2⟩:=HE.out _ (List.getElem_mem hlt);have HPe:Hid (mP l[k]=if l[k].size=[]then l[k].url else l[k].url++32::l[k].size):=rfl;generalize l[k]=p at*;have hb2:b<(w.grow X).heap.size+1:=by omega
   obtain⟨U,hU⟩: ∃U:ByteArray,⟨p.url.toArray⟩=U:=⟨_,rfl⟩;obtain⟨Z,hZ⟩: ∃U:ByteArray,⟨p.size.toArray⟩=U:=⟨_,rfl⟩;simp only[sv,hU,hZ]at c0 c1;have hZe:Z.toList.isEmpty=decide (p.size=[]):=by rw[tN,<-hZ]
   have HU:=aA hU;have HZ:=aA hZ;have hus:U.size<=140737488355:=by rw[<-hU];exact h1
   have hzs:Z.size<=140737488355:=by rw[<-hZ];exact h2
   clear hU hZ h1 h2;by_cases hz:p.size=[]
   .have HV:=aA (show sv (mP p)=aD U by rw[HPe.out,if_pos hz,sv,HU.out]);rw[show decide (p.size=[])=true by simp[hz]]at hZe;go_wp2_with(at_builtin;go_loud(refine rK rfl _ _ 44 rfl JX w rfl ((hown.alloc _).alloc _) aG ⟨_,0,none⟩ 1 1 [aD U] rfl rfl (eR (c:= #[aD U]) (by simp[go_sem])) (by simp[Value.oneCell']) (by unfold maxLen;omega) om ?_);intro v' Y hown' _)
    go_roundw
    case rel=>exact⟨k+1,Y,by omega,by go_num,rfl,by rw[HL.out,HV.out];exact hown'⟩
    case measure=>simp[intOf];omega
   .have HV:=aA (show sv (mP p)=aD (U++(⟨#[32]⟩++Z)) by
     rw[HPe.out,if_neg hz,sv,<-HU.out,<-HZ.out,show(⟨#[32]⟩:ByteArray)=⟨([32]:Bs).toArray⟩from rfl,xW,xW];rfl)
    rw[show decide (p.size=[])=false by simp[hz]]at hZe;go_wp2_with(at_builtin;go_loud(refine rK rfl _ _ 44 rfl JX w rfl ((hown.alloc _).alloc _) aG ⟨_,0,none⟩ 1 1 [aD (U++(⟨#[32]⟩++Z))] rfl rfl (eR (c:= #[aD (U++(⟨#[32]⟩++Z))]) (by simp[go_sem])) (by simp[Value.oneCell']) (by unfold maxLen;omega) om ?_);intro v' Y hown' _)
    go_roundw
    case rel=>exact⟨k+1,Y,by omega,by go_num,rfl,by rw[HL.out,HV.out];exact hown'⟩
    case measure=>simp[intOf];omega
  .obtain rfl:k=l.length:=by omega
   rw[List.take_length]at hown;have hrd:=Rd.own hown;obtain⟨A1,c1,rfl,hc1⟩:=dF hown;have HJ:=aA (RD (l.map mP) [44,32] (A:=A1) (n:=l.length) (c:=c1) (by rw[List.length_map];exact hrd) (by rw[List.length_map];exact hc1) (by show(mF l).length<=_;have:=HT.out;omega) (by rw[List.length_map];omega));go_wp2_with(go_at_call 133;(with_reducible refine HJ.out.mono ?_);rintro e w' ⟨rfl,Y,rfl⟩)
   go_ret;exact aH.of rfl aG
theorem YH (s:Bs) (w:World) (hm:s.length<=9223372036854775807):
  Calls aE 170 #[aD ⟨s.toArray⟩] w (aH (Value.tuple #[aD ⟨(s.dropWhile aQ).toArray⟩,aI (decide (1<=tw aQ s)&&decide (tw aQ s<=9))]) w):=
 Ny ⟨s.toArray⟩ w (by show s.length<=_;omega)
theorem i7 (s:Bs) (h:s≠[]):nS s=((decide (1<=tw aQ s)&&decide (tw aQ s<=9))&&match s.dropWhile aQ with
   |[119]=>(s.takeWhile aQ).any (λc=>decide (c.toNat≠48))
   |46::r=>decide (1<=tw aQ r)&&decide (tw aQ r<=9)&&vS (r.dropWhile aQ)
   |t=>vS t):=by
 rw[nS,if_neg h];show(if tw aQ s<1\/9<tw aQ s then false else _)=_;split
 .rename_i h1;symm;rw[Bool.and_eq_false_iff];left;simp;omega
 .rename_i h1;rw[show(decide (1<=tw aQ s)&&decide (tw aQ s<=9))=true by simp;omega,Bool.true_and];rfl
theorem Fc (d:Bs) (hd:d.all aQ=true):(decide (rT (d++[119]) 48=[119]))= !d.any (λc=>decide (c.toNat≠48)):=by
 have h1:Lib.trimRightB (d++[119]) 48=d++[119]:=by
  unfold Lib.trimRightB;rw[List.reverse_append,List.reverse_singleton,List.singleton_append,lF dc];simp
 unfold rT;rw[h1];unfold Lib.trimLeftB;clear h1;induction d with
 |nil=>rfl
 |cons c d ih=>
  simp only[nO,Bool.and_eq_true]at hd;rw[List.cons_append,List.any_cons];by_cases h:c=48
  .rw[nM (by simp[h]),ih hd.2,h];rfl
  .have h2:c.toNat≠48:=λe=>h (UInt8.toNat_inj.1 e);rw[lF (by simp[h])];simp[h2]
theorem QY (t:Bs):vS t=decide (t=[120]):=by
 unfold vS;split<;>simp_all
def xP:Bs->Bool
 |c::_=>decide (c.toNat=46)
 |[]=>false
theorem Nw (t:Bs):Lib.hasPrefix t [46]=xP t:=by
 unfold Lib.hasPrefix;cases t with
 |nil=>rfl
 |cons c r=>rw[bK];simp[List.isPrefixOf,xP,<-UInt8.toNat_inj];exact eq_comm
theorem i6 (s:Bs) (w:World) (hm:s.length<=9223372036854775807):Calls aE 136 #[aD ⟨s.toArray⟩] w (aH (aI (nS s)) w):=by
 obtain⟨S,hS⟩: ∃S:ByteArray,⟨s.toArray⟩=S:=⟨_,rfl⟩;obtain⟨R,hR⟩: ∃S:ByteArray,⟨(s.dropWhile aQ).toArray⟩=S:=⟨_,rfl⟩;have HD:=aA (λW=>YH s W hm);have hSe:S.toList.isEmpty=decide (s=[]):=by rw[tN,<-hS]
 have hRw:(R.toList==[119])=decide (s.dropWhile aQ=[119]):=by rw[<-hR,ByteArray.toList_eq,bK];simp
 have hRx:(R.toList==[120])=decide (s.dropWhile aQ=[120]):=by rw[<-hR,ByteArray.toList_eq,bK];simp
 rw[hS,hR]at HD;rw[hS];by_cases hs:s=[]
 .have HX:=aA (show nS s=true by rw[nS,if_pos hs]);rw[show decide (s=[])=true by simp[hs]]at hSe;go_enter xd,qi;go_wp2_with(go_at_call 170;(with_reducible refine zG (HD.out _) λX=>?_))
  go_ret;exact aH.of (by rw[HX.out];rfl) aG
 .have HC:=aA (i7 s hs);rw[show decide (s=[])=false by simp[hs]]at hSe;cases hf:(decide (1<=tw aQ s)&&decide (tw aQ s<=9))
  .have HX:=aA (show nS s=false by rw[HC.out,hf];rfl);rw[hf]at HD;clear hf;go_enter xd,qi;go_wp2_with(go_at_call 170;(with_reducible refine zG (HD.out _) λX=>?_))
   go_ret;exact aH.of (by rw[HX.out];rfl) aG
  .rw[hf]at HD;have HC:=aA (HC.out.trans (by rw[hf,Bool.true_and]));clear hf;by_cases hw:s.dropWhile aQ=[119]
   .rw[show decide (s.dropWhile aQ=[119])=true by simp[hw]]at hRw;have HX:=aA (show nS s=(s.takeWhile aQ).any (λc=>decide (c.toNat≠48)) by rw[HC.out,hw];rfl);have hsp:s.takeWhile aQ++[119]=s:=by rw[<-hw,List.takeWhile_append_dropWhile]
    have HN:=aA (Fc (s.takeWhile aQ) List.all_takeWhile);rw[hsp]at HN;obtain⟨V,hV⟩: ∃V:ByteArray,⟨(rT s 48).toArray⟩=V:=⟨_,rfl⟩;have HT:=aA (λW=>show Calls aE 135 #[aD S,aD ⟨#[48]⟩] W (aH (aD V) W)from by
     have:=Tryz.strings_Trim_one ⟨s.toArray⟩ 48 dc W (by show s.length<=_;omega);rw[show(⟨s.toArray⟩:ByteArray).data.toList=s from rfl,hV,hS]at this;refine this.mono ?_;rintro e w' ⟨rfl,rfl|rfl⟩
     .exact aH.same rfl
     .exact aH.of rfl aG)
    have hVw:(V.toList==[119])=decide (rT s 48=[119]):=by rw[<-hV,ByteArray.toList_eq,bK];simp
    have hVw2:(V.toList !=[119])= !decide (rT s 48=[119]):=by rw[bne,hVw]
    rw[HN.out]at hVw hVw2;rw[Bool.not_not]at hVw2;clear hV hsp hw;generalize(s.takeWhile aQ).any (λc=>decide (c.toNat≠48))=q at*;go_enter xd,qi;go_wp2_with(first|(go_at_call 170;(with_reducible refine zG (HD.out _) λX=>?_))|(go_at_call 135;(with_reducible refine zG (HT.out _) λX2=>?_)))
    go_ret;exact aH.of (by rw[HX.out];rfl) aG
   .rw[show decide (s.dropWhile aQ=[119])=false by simp[hw]]at hRw;have HP:=aA (λW=>show Calls aE 24 #[aD R,aD ⟨#[46]⟩] W λe w'=>e=aL (aI (xP (s.dropWhile aQ)))/\w'=W from by
     have:=Tryz.strings_HasPrefix ⟨(s.dropWhile aQ).toArray⟩ ⟨#[46]⟩ W;rw[show(⟨(s.dropWhile aQ).toArray⟩:ByteArray).data.toList=s.dropWhile aQ from rfl,show(⟨#[46]⟩:ByteArray).data.toList=[46]from rfl,Nw,hR]at this;exact this)
    have hRs:R.size=(s.dropWhile aQ).length:=by rw[<-hR];rfl
    have hdl:=nB aQ s;cases hd:xP (s.dropWhile aQ)
    .have HX:=aA (show nS s=decide (s.dropWhile aQ=[120]) by
      rw[HC.out];split
      .contradiction
      .rename_i he;rw[he]at hd;simp[xP]at hd
      .rw[QY])
     rw[hd]at HP;generalize decide (s.dropWhile aQ=[120])=q at*;clear hRs hd hw;go_enter xd,qi;go_wp2_with(first|(go_at_call 170;(with_reducible refine zG (HD.out _) λX=>?_))|(go_at_call 24;(with_reducible refine zQ (HP.out _) ?_)))
     go_ret;exact aH.of (by rw[HX.out];rfl) aG
    .rw[hd]at HP;cases hq:s.dropWhile aQ with
     |nil=>rw[hq]at hd;simp[xP]at hd
     |cons c r=>
      rw[hq]at hd;have hc:c=46:=by
       have:c.toNat=46:=by simpa[xP]using hd
       exact UInt8.toNat_inj.1 this
      subst hc;have HX:=aA (show nS s=((decide (1<=tw aQ r)&&decide (tw aQ r<=9))&&decide (r.dropWhile aQ=[120])) by
       rw[HC.out,hq,<-QY];cases r<;>rfl)
      rw[hq]at hRs hdl;have hr1:1<=R.size:=by rw[hRs];simp
      have hR1:R.extract 1 R.size=⟨r.toArray⟩:=by
       rw[DS,<-hR,hq];rfl
      obtain⟨R2,hR2⟩: ∃S:ByteArray,⟨r.toArray⟩=S:=⟨_,rfl⟩;obtain⟨R3,hR3⟩: ∃S:ByteArray,⟨(r.dropWhile aQ).toArray⟩=S:=⟨_,rfl⟩;have hm2:R.size<=9223372036854775807:=by omega
      have HD2:=aA (λW=>YH r W (by simp at hdl;omega));have hR3x:(R3.toList==[120])=decide (r.dropWhile aQ=[120]):=by rw[<-hR3,ByteArray.toList_eq,bK];simp
      rw[hR2,hR3]at HD2;rw[hR2]at hR1;clear hR2 hR3 hRs hR hq hd hw hdl;generalize(decide (1<=tw aQ r)&&decide (tw aQ r<=9))=f at*;generalize decide (r.dropWhile aQ=[120])=q at*;cases f;all_goals
       go_enter xd,qi;go_wp2_with(first|(go_at_call 170;(with_reducible refine zG (HD.out _) λX=>?_))|(go_at_call 24;(with_reducible refine zQ (HP.out _) ?_))|(go_at_call 170;(with_reducible refine zG (HD2.out _) λX3=>?_)))
       go_ret;exact aH.of (by rw[HX.out];first|rfl|simp) aG
theorem M5 (l:Bs):decide (rT l 44=l)=match l with
  |[]=>true
  |c::r=>decide (c.toNat≠44)&& !qC (c::r):=by
 cases l with
 |nil=>rfl
 |cons c r=>
  have hr:=QJ (c::r);unfold rT;rw[QH,bK];cases he:qC (c::r)
  .rw[he]at hr;have h1:gQ (c::r)=c::r:=by simpa using hr.symm
   rw[h1];unfold Lib.trimLeftB;by_cases hc:c=44
   .rw[nM (by simp[hc])];have h2:=nB (λx=>x==44) r;constructor
    .intro h;have:=congrArg List.length (of_decide_eq_true h);simp at this;omega
    .intro h;simp[hc]at h
   .rw[lF (by simp[hc])];have h2:c.toNat≠44:=λe=>hc (UInt8.toNat_inj.1 e);simp[h2,he]
  .rw[he]at hr;have h1:gQ (c::r)≠c::r:=by simpa using hr.symm
   simp only[he,Bool.not_true,Bool.and_false,decide_eq_true_eq,Bool.false_eq_true,iff_false];intro h;have h2:=congrArg List.length h;have h3:=QI (c::r);have h4:=nB (λx=>x==44) (gQ (c::r));unfold Lib.trimLeftB at h2;have h5:(gQ (c::r)).length=(c::r).length:=by omega
   apply h1;unfold gQ at h5 ⊢;rw[List.length_reverse]at h5;have h6:=(List.dropWhile_suffix (λc:UInt8=>decide (c.toNat=44)) (l:=(c::r).reverse)).eq_of_length (by rw[h5];simp);rw[h6,List.reverse_reverse]
theorem L0 (p:UInt8->Bool) (l:Bs):l.all p=decide (tw p l=l.length):=by
 induction l with
 |nil=>rfl
 |cons c l ih=>
  cases h:p c
  .rw[AT _ h,nO,h];simp
  .rw[AS _ h,nO,h,ih];simp
theorem Bh (p:cN):mV p=(!decide (p.url=[])&&decide (rT p.url 44=p.url)&&decide (tw dA p.url=p.url.length)&&nS p.size):=by
 rw[M5,<-L0];unfold mV dA;cases p.url<;>simp
theorem Dj (p:cN) (w:World) (h1:p.url.length<=9223372036854775807) (h2:p.size.length<=9223372036854775807):Calls aE 77 #[cN.agg p] w (aH (aI (mV p)) w):=by
 have HX:=aA (Bh p);have HZ:=aA (λW=>i6 p.size W h2);have HU:=aA (λW=>PX p.url W h1);obtain⟨V,hV⟩: ∃V:ByteArray,⟨(rT p.url 44).toArray⟩=V:=⟨_,rfl⟩;obtain⟨U,hU⟩: ∃V:ByteArray,⟨p.url.toArray⟩=V:=⟨_,rfl⟩;obtain⟨S,hS⟩: ∃V:ByteArray,⟨p.size.toArray⟩=V:=⟨_,rfl⟩;have HT:=aA (λW=>show Calls aE 135 #[aD U,aD ⟨#[44]⟩] W (aH (aD V) W)from by
  have:=Tryz.strings_Trim_one ⟨p.url.toArray⟩ 44 dc W (by show p.url.length<=_;omega);rw[show(⟨p.url.toArray⟩:ByteArray).data.toList=p.url from rfl,hV,hU]at this;refine this.mono ?_;rintro e w' ⟨rfl,rfl|rfl⟩
  .exact aH.same rfl
  .exact aH.of rfl aG)
 have hUe:U.toList.isEmpty=decide (p.url=[]):=by rw[tN,<-hU]
 have hVU:(V.toList==U.toList)=decide (rT p.url 44=p.url):=by rw[nD,<-hV,<-hU]
 have hUs:U.size=p.url.length:=by rw[<-hU];rfl
 have hTU:((tw dA p.url:Int)==(U.size:Int))=decide (tw dA p.url=p.url.length):=by rw[hUs,bK];simp;omega
 have hmx:=bX;rw[hU]at HU;rw[hS]at HZ;rw[cN.agg,sv,sv,hU,hS];clear hU hS hV h1 h2 hUs;generalize mV p=R at*;generalize decide (p.url=[])=b1 at*;generalize decide (rT p.url 44=p.url)=b2 at*;generalize decide (tw dA p.url=p.url.length)=b3 at*;generalize tw dA p.url=n at*;generalize nS p.size=b4 at*;cases b1
 .cases b2
  .go_enter Tryz.func77,Tryz.ntmps77;go_wp2
   refine dV kr kr  ?_;repeat(go_big_quiet_step(first|(go_at_call 135;with_reducible exact Calls.grow_of (HT.out _))|(go_at_call 130;with_reducible exact Calls.grow_of (HU.out _))|(go_at_call 136;with_reducible exact Calls.grow_of (HZ.out _))))
   refine wpQuiet_nil ?_;rintro _ ⟨nq,rfl⟩;go_wp2
   go_ret;exact aH.of (by rw[HX.out];rfl) aG
  .cases b3;all_goals
    go_enter Tryz.func77,Tryz.ntmps77;go_wp2
    refine dV kr kr  ?_;repeat(go_big_quiet_step(first|(go_at_call 135;with_reducible exact Calls.grow_of (HT.out _))|(go_at_call 130;with_reducible exact Calls.grow_of (HU.out _))|(go_at_call 136;with_reducible exact Calls.grow_of (HZ.out _))))
    refine wpQuiet_nil ?_;rintro _ ⟨nq,rfl⟩;go_wp2
    go_ret;exact aH.of (by rw[HX.out];first|rfl|simp) aG
 .go_enter Tryz.func77,Tryz.ntmps77;go_wp2
  refine dV kr kr  ?_;repeat(go_big_quiet_step(fail))
  refine wpQuiet_nil ?_;rintro _ ⟨nq,rfl⟩;go_wp2
  go_ret;exact aH.of (by rw[HX.out];rfl) aG
