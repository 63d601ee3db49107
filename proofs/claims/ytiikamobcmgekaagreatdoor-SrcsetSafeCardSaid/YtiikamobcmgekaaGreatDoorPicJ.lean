/- The walk of a list's pictures, one behind the other. -/
import Derived.Test.YtiikamobcmgekaaGreatDoorKB
import Derived.Test.YtiikamobcmgekaaGreatDoorPicI
namespace Go.Proofs.YtiikamobcmgekaaGreatDoor
open Go.RowKit Go.Shelf
attribute [local go_sem] Oper.semAt_some
def Pic.agg (p:Pic):Value:= .agg #[sv p.url,sv p.size]
theorem until_sep (u:Bs) (W:World) (hm:u.length<=9223372036854775807):Calls Tryz.prog 32 #[.string ⟨u.toArray⟩,.func (.func 64) #[] #[]] W (Ret (.int .i64 (tw sepB u)) W):=by
 have:=until_any ⟨u.toArray⟩ _ _ W between_pred (by show u.length<=_;omega)
 rwa[not_not]at this
theorem until_nsp (u:Bs) (W:World) (hm:u.length<=9223372036854775807):Calls Tryz.prog 32 #[.string ⟨u.toArray⟩,.func (.func 33) #[] #[]] W (Ret (.int .i64 (tw nspB u)) W):=
 until_any ⟨u.toArray⟩ _ _ W space_pred (by show u.length<=_;omega)
theorem cut_from (u:Bs) (k:Nat):(⟨u.toArray⟩:ByteArray).extract k u.length=⟨(u.drop k).toArray⟩:=by
 have:=str_drop ⟨u.toArray⟩ k
 exact this
theorem cut_to (u:Bs) (k:Nat):(⟨u.toArray⟩:ByteArray).extract 0 k=⟨(u.take k).toArray⟩:=str_takeS ⟨u.toArray⟩ k
set_option maxRecDepth 100000 in
set_option maxHeartbeats 8000000 in
theorem sources2_iter (s:Bs) (bs:Nat) (bw:Nat->Prop) (W:World) (hb:Boxed W bs 9 (.string ⟨s.toArray⟩)) (hg:Boxed W (bs+1) 64 (.func (.func 64) #[] #[]))
  (hbw: ¬bw bs) (hbw2: ¬bw (bs+1)) (hm:s.length<=140737488355):
  IterAt Tryz.prog 65 #[.pointer (some ⟨bs,0,none⟩),.pointer (some ⟨bs+1,0,none⟩)] (fun p=> #[Pic.agg p]) (fun k=>k=bs) bw (picL s) W:=by
 intro l J Jx hJ hY h0
 refine callsIn_of_wp Tryz.func65 rfl trivial ?_ rfl
 have hc:=hb.cell
 have hf:=hb.frozen
 have hgc:=hg.cell
 have hlt1:=hb.lt
 have hlt2:=hg.lt
 have HU:=Lib.hid (fun W=>until_sep s W (by omega))
 have hmx:Tryz.prog.follows .mixedOrders=true:=by kernel_rfl
 have htw:=tw_le sepB s
 simp only[Tryz.ntmps65,List.size_toArray,List.length_cons,List.length_nil,Nat.reduceAdd,Nat.reduceSub,Array.replicate_succ,Array.replicate_zero,List.push_toArray,List.append_toArray,List.nil_append,List.cons_append]
 gi_wp2
 refine wpIn_region_grow_tail 5 rfl (by kernel_rfl) (by kernel_rfl) ?_
 dsimp only[List.take,List.drop]
 repeat(gi_big_quiet_step (first|(gi_at_call 32;with_reducible exact CallsIn.grow_of (HU.out _))))
 refine wpQuietIn_nil ?_
 intro _ hw';obtain⟨nq,hw''⟩:=hw';subst hw''
 gi_wp2
 clear hc hf hgc
 gi_loopw [4] (fun _ wr=> ∃(u:Bs) (pre:List Pic),u.length<=s.length/\Boxed wr bs 9 (.string ⟨u.toArray⟩)/\Boxed wr (bs+1) 64 (.func (.func 64) #[] #[])/\J pre wr/\Hid (pre++picL u=picL s)/\Hid (u.dropWhile sepB=u)) (fun _ wr=>lenAt wr bs)
 case atStart=>
  refine⟨s.dropWhile sepB,[],drop_while_len _ _, ?_, ?_,hJ _ _ _ h0 tur,by show _=_;rw[pic_drop];rfl, ?_⟩
  ·rw[<-drop_tw,<-cut_from]
   exact((Turned.refl (fun _=>False) _).grow _).boxed (hb.set _) (fun h=>h)
  ·exact((Turned.refl (fun _=>False) _).grow _).boxed (hg.other (B':=bs) (by omega) _) (fun h=>h)
  ·show _=_
   cases h:s.dropWhile sepB with
   |nil=>rfl
   |cons c r=>rw[List.dropWhile_cons_of_neg (by simp[sep_head h])]
 case round=>
  obtain⟨u,pre,hu,hbx,hgx,hJs,HK,HD⟩:=hrel
  have hc:=hbx.cell
  have hf:=hbx.frozen
  have hgc:=hgx.cell
  have hl1:=hbx.lt
  have hl2:=hgx.lt
  cases u with
  |nil=>
   have HE:Hid (pre=picL s):=by
    show _=_
    rw[<-HK.out,pic_nil,List.append_nil]
   clear HK
   gi_wp2
   go_end0
   exact⟨⟨_,rfl⟩,.inl (HE.out ▸ hJs)⟩
  |cons c r=>
   have hs:=sep_head HD.out
   obtain⟨q,hq⟩: ∃q,(c::r).takeWhile nspB=q:=⟨_,rfl⟩
   obtain⟨t,ht⟩: ∃t,(c::r).dropWhile nspB=t:=⟨_,rfl⟩
   have HR:=Lib.hid (pic_round (r:=r) hs)
   change Hid (picL (c::r)=if endsC ((c::r).takeWhile nspB)then⟨trimC ((c::r).takeWhile nspB),[]⟩::picL ((c::r).dropWhile nspB)else⟨(c::r).takeWhile nspB,joinBs [32] (wordsL (((c::r).dropWhile nspB).take (szL 0 ((c::r).dropWhile nspB))))⟩::picL (((c::r).dropWhile nspB).drop (szL 0 ((c::r).dropWhile nspB))))at HR
   rw[hq,ht]at HR
   have htl:t.length<=r.length:=by rw[<-ht];exact tail_len (sep_sp hs)
   have hrl:r.length<=140737488355:=by simp at hu;omega
   have hul:(c::r).length<=140737488355:=by omega
   have HU1:=Lib.hid (fun W=>until_nsp (c::r) W (by omega))
   have e1:(⟨(c::r).toArray⟩:ByteArray).extract 0 (tw nspB (c::r))=⟨q.toArray⟩:=by rw[cut_to,take_twS,hq]
   have e2:(⟨(c::r).toArray⟩:ByteArray).extract (tw nspB (c::r)) (⟨(c::r).toArray⟩:ByteArray).size=⟨t.toArray⟩:=by
    have:=cut_from (c::r) (tw nspB (c::r));rw[drop_tw,ht]at this;exact this
   have hqn:q≠[]:=by rw[<-hq,List.takeWhile_cons_of_pos (by simp[nspB,sep_sp hs])];simp
   have hql:q.length<=(c::r).length:=by rw[<-hq];exact(List.takeWhile_sublist nspB).length_le
   have hN:=tw_le nspB (c::r)
   have HT1:=Lib.hid (fun W=>show Calls Tryz.prog 66 #[.string ⟨q.toArray⟩,.string ⟨#[44]⟩] W fun e w'=>e= .returned (.string ⟨(trimC q).toArray⟩)/\w'=W from by
    have:=Tryz.strings_TrimRight_one ⟨q.toArray⟩ 44 (by decide) W (by show q.length<=_;omega)
    rw[show(⟨q.toArray⟩:ByteArray).data.toList=q from rfl,trimC_lib]at this;exact this)
   have htc:=trimC_len q
   have HEN:=Lib.hid (trimC_ends q)
   obtain⟨U,hU⟩: ∃U:ByteArray,⟨(c::r).toArray⟩=U:=⟨_,rfl⟩
   obtain⟨Q,hQ⟩: ∃Q:ByteArray,⟨q.toArray⟩=Q:=⟨_,rfl⟩
   obtain⟨V,hV⟩: ∃V:ByteArray,⟨(trimC q).toArray⟩=V:=⟨_,rfl⟩
   obtain⟨T,hT⟩: ∃T:ByteArray,⟨t.toArray⟩=T:=⟨_,rfl⟩
   have hUs:U.size=(c::r).length:=by rw[<-hU];rfl
   have hne:=ba_full (a:=U) (by rw[hUs];simp)
   have hN2:tw nspB (c::r)<=U.size:=by omega
   have hVQ:(V.toList==Q.toList)=decide (trimC q=q):=by rw[ba_bq,<-hV,<-hQ]
   have hVQ2:(V.toList !=Q.toList)= !decide (trimC q=q):=by rw[ba_bnq,<-hV,<-hQ]
   have hm2:U.size<=140737488355:=by omega
   have HUS:=Lib.hid hUs
   rw[hU]at hbx hc e1 e2 HU1
   rw[hQ]at e1 HT1
   rw[hV]at HT1
   rw[hT]at e2
   have HV:=Lib.hid hV
   have HQ:=Lib.hid hQ
   have HTT:=Lib.hid hT
   generalize tw nspB (c::r)=N at*
   clear hU hQ hV hUs hT hN hul
   cases he:endsC q
   ·have hd1:trimC q=q:=by
     have:=HEN.out;rw[he]at this;simpa using this
    have hVe:V=Q:=by
     have h1:=HV.out
     rw[hd1]at h1
     rw[<-h1,HQ.out]
    subst hVe
    have hdt:decide (trimC q=q)=true:=by simp[hd1]
    rw[hdt]at hVQ hVQ2
    obtain⟨m,hmm⟩: ∃m,szL 0 t=m:=⟨_,rfl⟩
    have hmt:=sz_le t 0
    rw[hmm]at hmt
    have HSz:=Lib.hid (fun W=>show Calls Tryz.prog 67 #[.string T] W (Ret (.int .i64 (m:Nat)) W)from by
     have:=size_any ⟨t.toArray⟩ W (by show t.length<=_;omega)
     rw[show(⟨t.toArray⟩:ByteArray).data.toList=t from rfl,hmm,HTT.out]at this;exact this)
    have hTs:T.size=t.length:=by rw[<-HTT.out];rfl
    obtain⟨S,hS⟩: ∃S:ByteArray,⟨(t.take m).toArray⟩=S:=⟨_,rfl⟩
    obtain⟨T2,hT2⟩: ∃S:ByteArray,⟨(t.drop m).toArray⟩=S:=⟨_,rfl⟩
    have e3:T.extract 0 m=S:=by rw[<-HTT.out,cut_to,hS]
    have e4:T.extract m T.size=T2:=by rw[hTs,<-HTT.out,cut_from,hT2]
    have hm1:m<=T.size:=by omega
    have hm3:T.size<=140737488355:=by omega
    obtain⟨us,hus⟩: ∃us,wordsL (t.take m)=us:=⟨_,rfl⟩
    have hfew:=words_few (t.take m)
    have hjl:=wordsJ_len (t.take m)
    have htk:(t.take m).length<=t.length:=by simp;omega
    rw[hus]at hfew hjl
    obtain⟨Jn,hJn⟩: ∃S:ByteArray,⟨(joinBs [32] us).toArray⟩=S:=⟨_,rfl⟩
    have HF:=Lib.hid (fun W=>show Calls Tryz.prog 68 #[.string S] W (RetS W us.length 1 (us.map sv))from by
     have:=fields_any ⟨(t.take m).toArray⟩ W (by show(t.take m).length<=_;omega)
     rw[show(⟨(t.take m).toArray⟩:ByteArray).data.toList=t.take m from rfl,hus,hS]at this;exact this)
    have HJ:=Lib.hid (fun(W:World) (A:Option Addr) (c:Nat) (hr:Rd W (.slice A us.length c) us.length 1 (us.map sv)) (hc:us.length<=c)=>show Calls Tryz.prog 43 #[.slice A us.length c,.string ⟨#[32]⟩] W (Ret (.string Jn) W)from by
     have:=strjoin_any us [32] hr hc (by omega) (by omega)
     rw[hJn]at this;exact this)
    have HS2:=Lib.hid hT2
    have HJN:=Lib.hid hJn
    have HTs:=Lib.hid hTs
    clear hS hT2 hJn hdt hTs
    gi_wp2_with (first|(gi_at_call 32;(with_reducible refine(callsIn_wide.2 (HU1.out _)).mono ?_);rintro e w' ⟨rfl,X,rfl⟩)|(gi_at_call 66;(with_reducible refine(callsIn_wide.2 (HT1.out _)).mono ?_);rintro e w' ⟨rfl,rfl⟩))
    refine wpIn_region_grow rfl (by kernel_rfl) (by kernel_rfl) ?_
    repeat(gi_big_quiet_step (fail))
    refine wpQuietIn_nil ?_
    intro _ hw';obtain⟨nq,hw''⟩:=hw';subst hw''
    obtain⟨V5,hV5⟩: ∃V5,(((wr.grow X).alloc (Obj.cells #[.string V,.string ⟨#[]⟩] 38)).grow nq)=V5:=⟨_,rfl⟩
    obtain⟨xb,hxb⟩: ∃xb,wr.heap.size+X.blocks.size=xb:=⟨_,rfl⟩
    have hT5:Turned (fun _=>False) wr V5:=by rw[<-hV5];exact tur
    have hxh:V5.heap[xb]? =some (.cells #[.string V,.string ⟨#[]⟩] 38):=by
     rw[<-hV5];exact heap_grow_old _ _ (heap_alloc_at (by simp[World.grow,<-hxb]))
    have hx0:V5.cell? ⟨xb,0,none⟩=some (.string V):=by simp[World.cell?,hxh]
    have hx1:V5.cell? ⟨xb,1,none⟩=some (.string ⟨#[]⟩):=by simp[World.cell?,hxh]
    have hxf0:V5.frozen? ⟨xb,0,none⟩=false:=by simp[World.frozen?,hxh]
    have hxf1:V5.frozen? ⟨xb,1,none⟩=false:=by simp[World.frozen?,hxh]
    have hxl:xb<V5.heap.size:=(Array.getElem?_eq_some_iff.1 hxh).1
    have hxw:wr.heap.size<=xb:=by omega
    rw[hV5,hxb]
    have hbx5:=hT5.boxed hbx (fun h=>h)
    have hgx5:=hT5.boxed hgx (fun h=>h)
    have hc5:=hbx5.cell
    have hf5:=hbx5.frozen
    have hgc5:=hgx5.cell
    have hl5:=hbx5.lt
    have hl6:=hgx5.lt
    have hnb1: ¬(xb=bs):=by omega
    have hnb2: ¬(bs=xb):=by omega
    have hT5b:=hT5.mono (pw:=fun k=>k=bs) (fun k h=>h.elim)
    have hbx0:=hbx
    clear hV5 hxb hc hf hgc hxh
    gi_wp2_with (first|(gi_at_call 67;(with_reducible refine(callsIn_wide.2 (HSz.out _)).mono ?_);rintro e w' ⟨rfl,X2,rfl⟩)|(gi_at_call 68;(with_reducible refine(callsIn_wide.2 (HF.out _)).mono ?_);rintro e w' ⟨A3,c3,X3,rfl,rfl,hc3,hr3⟩)|(gi_at_call 43;(with_reducible refine(callsIn_wide.2 (HJ.out _ _ _ hr3 hc3)).mono ?_);clear hr3 hc3;rintro e w' ⟨rfl,X4,rfl⟩))
    obtain⟨x,hx⟩: ∃x:Pic,x=⟨q,joinBs [32] us⟩:=⟨_,rfl⟩
    obtain⟨l2,hl2⟩: ∃l2,l2=t.drop m:=⟨_,rfl⟩
    have HX:Hid (pre++[x]++picL l2=picL s):=by
     show _=_
     rw[hx,hl2,<-HK.out,HR.out,if_neg (by simp[he]),hmm,hus,List.append_assoc];rfl
    have HA:Hid (#[Pic.agg x]= #[.agg #[.string V,.string Jn]]):=by
     show _=_
     rw[hx,Pic.agg,sv,sv,HQ.out,HJN.out]
    have HL2:Hid (⟨l2.toArray⟩=T2):=by show _=_;rw[hl2];exact HS2.out
    have hll:l2.length<=r.length:=by rw[hl2,List.length_drop];omega
    clear hx hl2
    refine upon_yield (hY pre x _ ⟨_,HX.out⟩ (hJ _ _ _ hJs tur)) (by rw[HA.out]) ?_
    rintro e W3 (⟨rfl,hJ3,ht3⟩|⟨rfl,hJx⟩)
    ·refine⟨_,rfl, ?_⟩
     have hb3:=ht3.boxed (t:=9) (v:= .string T2) (by repeat(first|with_reducible assumption|(with_reducible refine @Boxed.set _ _ _ ?_ _ ?_;rotate_left)|(with_reducible refine Boxed.oth ?_ (by first|omega|(simp[go_sem]<;>omega)) _)|with_reducible refine Boxed.grow' ?_ _|with_reducible refine Boxed.alloc ?_ _|with_reducible refine Boxed.drew' ?_)) hbw
     have hg3:=ht3.boxed (t:=64) (v:= .func (.func 64) #[] #[]) (by repeat(first|with_reducible assumption|(with_reducible refine @Boxed.set _ _ _ ?_ _ ?_;rotate_left)|(with_reducible refine Boxed.oth ?_ (by first|omega|(simp[go_sem]<;>omega)) _)|with_reducible refine Boxed.grow' ?_ _|with_reducible refine Boxed.alloc ?_ _|with_reducible refine Boxed.drew' ?_)) hbw2
     have hc3:=hb3.cell
     have hf3:=hb3.frozen
     have hgc3:=hg3.cell
     have hl3:=hb3.lt
     have hl4:=hg3.lt
     rw[<-HL2.out]at hb3 hc3
     have HU2:=Lib.hid (fun W=>until_sep l2 W (by omega))
     have htw2:=tw_le sepB l2
     clear hbx hgx
     go_simp
     gi_wp2
     refine wpIn_region_grow_tail 5 rfl (by kernel_rfl) (by kernel_rfl) ?_
     dsimp only[List.take,List.drop]
     repeat(gi_big_quiet_step (first|(gi_at_call 32;with_reducible exact CallsIn.grow_of (HU2.out _))))
     refine wpQuietIn_nil ?_
     intro _ hw';obtain⟨nq,hw''⟩:=hw';subst hw''
     gi_wp2
     go_roundw
     case rel=>
      refine⟨l2.dropWhile sepB,pre++[x], ?_, ?_, ?_,hJ _ _ _ hJ3 tur, ?_, ?_⟩
      ·have:=drop_while_len sepB l2;simp at hu;omega
      ·rw[<-drop_tw,<-cut_from]
       exact((Turned.refl (fun _=>False) _).grow _).boxed (hb3.set _) (fun h=>h)
      ·exact((Turned.refl (fun _=>False) _).grow _).boxed (hg3.other (B':=bs) (by omega) _) (fun h=>h)
      ·show _=_
       rw[pic_drop];exact HX.out
      ·show _=_
       cases h:l2.dropWhile sepB with
       |nil=>rfl
       |cons c r=>rw[List.dropWhile_cons_of_neg (by simp[sep_head h])]
     case measure=>
      have h1:=lenAt_boxed (((Turned.refl (fun _=>False) _).grow nq).boxed (hb3.set (.string ((⟨l2.toArray⟩:ByteArray).extract (tw sepB l2) l2.length))) (fun h=>h))
      have h2:=lenAt_boxed hbx0
      rw[cut_from,drop_tw]at h1
      rw[h2,HUS.out]
      have h3:=drop_while_len sepB l2
      first
      |(rw[cut_from,drop_tw,h1];show(l2.dropWhile sepB).length<_;simp;omega)
      |(rw[h1];show(l2.dropWhile sepB).length<_;simp;omega)
    ·refine⟨_,rfl, ?_⟩
     go_simp
     gi_wp2
     refine bodyPost_ret (results_none rfl _ _ _) rfl ?_
     exact⟨⟨_,rfl⟩,.inr ⟨pre,_,⟨_,HX.out⟩,hJx⟩⟩
   ·have hd1:decide (trimC q=q)=false:=by
     have:=HEN.out;rw[he]at this;simpa using this.symm
    rw[hd1]at hVQ hVQ2
    gi_wp2_with (first|(gi_at_call 32;(with_reducible refine(callsIn_wide.2 (HU1.out _)).mono ?_);rintro e w' ⟨rfl,X,rfl⟩)|(gi_at_call 66;(with_reducible refine(callsIn_wide.2 (HT1.out _)).mono ?_);rintro e w' ⟨rfl,rfl⟩))
    refine wpIn_region_grow rfl (by kernel_rfl) (by kernel_rfl) ?_
    repeat(gi_big_quiet_step (fail))
    refine wpQuietIn_nil ?_
    intro _ hw';obtain⟨nq,hw''⟩:=hw';subst hw''
    gi_wp2
    have hbx0:=hbx
    clear hc hf hgc
    obtain⟨x,hx⟩: ∃x:Pic,x=⟨trimC q,[]⟩:=⟨_,rfl⟩
    obtain⟨l2,hl2⟩: ∃l2,l2=t:=⟨_,rfl⟩
    have HX:Hid (pre++[x]++picL l2=picL s):=by
     show _=_
     rw[hx,hl2,<-HK.out,HR.out,if_pos he,List.append_assoc];rfl
    have HA:Hid (#[Pic.agg x]= #[.agg #[.string V,.string ⟨#[]⟩]]):=by
     show _=_
     rw[hx,Pic.agg,sv,sv,<-HV.out]
    have HL2:Hid (⟨l2.toArray⟩=T):=by show _=_;rw[hl2];exact HTT.out
    have hll:l2.length<=r.length:=by rw[hl2];exact htl
    clear hx hl2
    refine upon_yield (hY pre x _ ⟨_,HX.out⟩ (hJ _ _ _ hJs tur)) (by rw[HA.out]) ?_
    rintro e W3 (⟨rfl,hJ3,ht3⟩|⟨rfl,hJx⟩)
    ·refine⟨_,rfl, ?_⟩
     have hb3:=ht3.boxed (t:=9) (v:= .string T) (by repeat(first|with_reducible assumption|(with_reducible refine @Boxed.set _ _ _ ?_ _ ?_;rotate_left)|(with_reducible refine Boxed.oth ?_ (by first|omega|(simp[go_sem]<;>omega)) _)|with_reducible refine Boxed.grow' ?_ _|with_reducible refine Boxed.alloc ?_ _|with_reducible refine Boxed.drew' ?_)) hbw
     have hg3:=ht3.boxed (t:=64) (v:= .func (.func 64) #[] #[]) (by repeat(first|with_reducible assumption|(with_reducible refine @Boxed.set _ _ _ ?_ _ ?_;rotate_left)|(with_reducible refine Boxed.oth ?_ (by first|omega|(simp[go_sem]<;>omega)) _)|with_reducible refine Boxed.grow' ?_ _|with_reducible refine Boxed.alloc ?_ _|with_reducible refine Boxed.drew' ?_)) hbw2
     have hc3:=hb3.cell
     have hf3:=hb3.frozen
     have hgc3:=hg3.cell
     have hl3:=hb3.lt
     have hl4:=hg3.lt
     rw[<-HL2.out]at hb3 hc3
     have HU2:=Lib.hid (fun W=>until_sep l2 W (by omega))
     have htw2:=tw_le sepB l2
     clear hbx hgx
     go_simp
     gi_wp2
     refine wpIn_region_grow_tail 5 rfl (by kernel_rfl) (by kernel_rfl) ?_
     dsimp only[List.take,List.drop]
     repeat(gi_big_quiet_step (first|(gi_at_call 32;with_reducible exact CallsIn.grow_of (HU2.out _))))
     refine wpQuietIn_nil ?_
     intro _ hw';obtain⟨nq,hw''⟩:=hw';subst hw''
     gi_wp2
     go_roundw
     case rel=>
      refine⟨l2.dropWhile sepB,pre++[x], ?_, ?_, ?_,hJ _ _ _ hJ3 tur, ?_, ?_⟩
      ·have:=drop_while_len sepB l2;simp at hu;omega
      ·rw[<-drop_tw,<-cut_from]
       exact((Turned.refl (fun _=>False) _).grow _).boxed (hb3.set _) (fun h=>h)
      ·exact((Turned.refl (fun _=>False) _).grow _).boxed (hg3.other (B':=bs) (by omega) _) (fun h=>h)
      ·show _=_
       rw[pic_drop];exact HX.out
      ·show _=_
       cases h:l2.dropWhile sepB with
       |nil=>rfl
       |cons c r=>rw[List.dropWhile_cons_of_neg (by simp[sep_head h])]
     case measure=>
      have h1:=lenAt_boxed (((Turned.refl (fun _=>False) _).grow nq).boxed (hb3.set (.string ((⟨l2.toArray⟩:ByteArray).extract (tw sepB l2) l2.length))) (fun h=>h))
      have h2:=lenAt_boxed hbx0
      rw[cut_from,drop_tw]at h1
      rw[h2,HUS.out]
      have h3:=drop_while_len sepB l2
      first
      |(rw[cut_from,drop_tw,h1];show(l2.dropWhile sepB).length<_;simp;omega)
      |(rw[h1];show(l2.dropWhile sepB).length<_;simp;omega)
    ·refine⟨_,rfl, ?_⟩
     go_simp
     gi_wp2
     refine bodyPost_ret (results_none rfl _ _ _) rfl ?_
     exact⟨⟨_,rfl⟩,.inr ⟨pre,_,⟨_,HX.out⟩,hJx⟩⟩
end Go.Proofs.YtiikamobcmgekaaGreatDoor

