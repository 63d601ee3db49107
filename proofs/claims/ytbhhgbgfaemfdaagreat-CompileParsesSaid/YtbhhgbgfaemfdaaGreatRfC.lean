/- The walk of the reference's parser: names. (written by gen_rnames.py) -/
import Derived.Test.YtbhhgbgfaemfdaaGreatRfB
namespace Go.Proofs.YtbhhgbgfaemfdaaGreat
set_option maxRecDepth 100000
set_option maxHeartbeats 4000000
open Go.RowKit
attribute [local go_sem] Oper.semAt_some
theorem own_keep {W W1:World} {B:Nat} {e:TypeId} {size:Nat} {v:Value} {n:Nat} {xs:List Value} (h:W.ownsRow B e size v n xs) (hb:Below W.heap.size W W1):W1.ownsRow B e size v n xs:=by
 obtain⟨X,rfl⟩:=grow_of_below hb
 exact own_grow h X
def NamesEnd (en B:Nat) (s:Ps) (W:World) (r:Except Nat (Nat × Pol)) (e:Ending) (w':World):Prop:=match r with
 | .error i=>e= .returned (.tuple #[.int .i64 (-1),.int .i64 i])/\RPar en B s w'/\Below B W w'
 | .ok (n,q)=>e= .returned (.tuple #[.int .i64 n,.int .i64 0])/\RPar en B ⟨s.rest,q,s.told⟩ w'/\Below B W w'
theorem psj {s:Ps} {q:Pol} {i:Nat} (h:fN q i=fN s.pol i/\fC q i=fC s.pol i):rN ⟨s.rest,q,s.told⟩ i=rN s i/\rX ⟨s.rest,q,s.told⟩ i=rX s i:=by
 unfold rN rX
 split
 ·exact⟨rfl,rfl⟩
 ·exact h
theorem addK0 (tag:Bs) (p:Pol) (ws:List Bs):addK tagsT tag p ws={p with tags:=p.tags++ws}:=by
 unfold addK
 rw[if_pos rfl]
theorem addK0_row (tag:Bs) (p:Pol) (ws:List Bs) (w:Bs):fN (addK tagsT tag p (ws++[w])) 0=fN (addK tagsT tag p ws) 0+1/\fC (addK tagsT tag p (ws++[w])) 0=fC (addK tagsT tag p ws) 0++[sv w]:=by
 rw[addK0,addK0]
 constructor
 ·simp[fN];try omega
 ·simp[fC]
theorem addK0_rest (tag:Bs) (p:Pol) (ws us:List Bs) (i:Nat) (hi:i≠0):fN (addK tagsT tag p us) i=fN (addK tagsT tag p ws) i/\fC (addK tagsT tag p us) i=fC (addK tagsT tag p ws) i:=by
 rw[addK0,addK0]
 match i,hi with
 |0,h=>exact absurd rfl h
 |1,_=>exact⟨rfl,rfl⟩
 |2,_=>exact⟨rfl,rfl⟩
 |3,_=>exact⟨rfl,rfl⟩
 |4,_=>exact⟨rfl,rfl⟩
 |5,_=>exact⟨rfl,rfl⟩
 |i+6,_=>exact⟨rfl,rfl⟩
theorem addK0_nil (tag:Bs) (p:Pol):addK tagsT tag p []=p:=by rw[addK0];simp
theorem addK0_len (tag:Bs) (p:Pol) (ws:List Bs):fN (addK tagsT tag p ws) 0=fN p 0+ws.length:=by rw[addK0];simp[fN]
theorem rnames0_any (en B:Nat) (s:Ps) (W:World) (h:RPar en B s W) (hs:PsSm s):
  Calls Tryz.prog 86 #[.pointer (some ⟨B,0,none⟩),.string ⟨tagsT.toArray⟩] W (NamesEnd en B s W (nmR tagsT s.rest s.pol)):=by
 have hmx:Tryz.prog.follows .mixedOrders=true:=by kernel_rfl
 have HP:=Lib.hid h
 have hlt:=h.lt
 have HSm:=Lib.hid hs
 have hr9:=hs.rest
 obtain⟨kd,hkd⟩: ∃kd,(⟨tagsT.toArray⟩:ByteArray)=kd:=⟨_,rfl⟩
 have hkl:kd.toList=[116,97,103,115]:=by rw[<-hkd,ByteArray.toList_eq];rfl
 rw[hkd]
 obtain⟨R,hR⟩: ∃R,nmR tagsT s.rest s.pol=R:=⟨_,rfl⟩
 have HN:Hid (R=match listR tagsT s.rest with
  | .error i=> .error i
  | .ok (tag,b)=>match namesR s.rest b with
   | .error i=> .error i
   | .ok ws=> .ok (b+ws.length+1,addK tagsT tag s.pol ws)):=by show _=_;rw[<-hR];rfl
 rw[hR]
 clear hR hkd hs h
 have HN2:Hid (R=match namesR s.rest 1 with
  | .error i=> .error i
  | .ok ws=> .ok (1+ws.length+1,addK tagsT [] s.pol ws)):=HN.out
 obtain⟨tag,htag⟩: ∃tag:Bs,tag=[]:=⟨_,rfl⟩
 have HL:=Lib.hid (show Calls Tryz.prog 133 #[.pointer (some ⟨B,0,none⟩),.int .i64 1] W _ from rlist_any en B s W HP.out 1 (by omega) (by omega))
 rw[<-htag]at HN2
 clear HN htag
 go_enter Tryz.func86,Tryz.ntmps86
 go_upto_region 11 with(go_at_call 133;(with_reducible refine HL.out.mono ?_);rintro e W2 ⟨v,rfl,ho,hb2⟩;have HO:=Lib.hid ho;have HB2:=Lib.hid hb2;obtain⟨Aw,cw,rfl,_⟩:=own_cap ho;clear ho hb2)
 have HPw:=Lib.hid (HP.out.grown HB2.out)
 have HBw:=Lib.hid (HB2.out.mono (Nat.le_of_lt hlt))
 have hlt2:B<W2.heap.size:=Nat.lt_of_lt_of_le hlt HB2.out.size
 have HNr:Hid (namesR s.rest 1=if(wordsR s.rest 1).length=0\/isR s.rest (1+(wordsR s.rest 1).length) 4 semiT=false then .error (1+(wordsR s.rest 1).length)else .ok (wordsR s.rest 1)):=rfl
 have hwl:(wordsR s.rest 1).length<=s.rest.length:=by
  unfold wordsR;rw[List.length_map]
  refine Nat.le_trans (List.takeWhile_prefix _).length_le ?_
  rw[List.length_drop];omega
 obtain⟨ws,hws⟩: ∃ws,wordsR s.rest 1=ws:=⟨_,rfl⟩
 have HWs:=Lib.hid hws
 rw[hws]at HO HNr hwl
 obtain⟨n,hn⟩: ∃n,ws.length=n:=⟨_,rfl⟩
 have HNn:=Lib.hid hn
 try rw[hws]
 rw[hn]at HO HNr hwl ⊢
 obtain⟨pl,hpl⟩: ∃pl,1+n=pl:=⟨_,rfl⟩
 have HPl:=Lib.hid hpl
 have hpl9:pl<=20000:=by omega
 rw[hpl]at HNr
 have hpi:(1:Int)+(n:Int)=(pl:Int):=by omega
 rw[hpi]
 have HIs:=Lib.hid (show Calls Tryz.prog 132 #[.pointer (some ⟨B,0,none⟩),.int .i64 (pl:Nat),.int .i64 4,.string ⟨#[59]⟩] W2 _ from ris_any en B s W2 HPw.out pl 4 semiT)
 clear hws hn HL hpl hpi
 by_cases h0:n=0
 ·have HR:Hid (R= .error pl):=by show _=_;rw[HN2.out,HNr.out,if_pos (.inl h0)]
  have e0:((n:Int)==0)=true:=by simp;omega
  clear HN2 HNr h0
  go_wp2_with fail
  go_ret2
  rw[HR.out]
  exact⟨rfl,HPw.out,HBw.out⟩
 ·have e0:((n:Int)==0)=false:=by simp;omega
  cases hi:isR s.rest pl 4 semiT with
  |false=>
   have HR:Hid (R= .error pl):=by show _=_;rw[HN2.out,HNr.out,if_pos (.inr hi)]
   rw[hi]at HIs
   clear HN2 HNr h0 hi
   go_wp2_with(go_at_call 132;(with_reducible refine HIs.out.mono ?_);rintro e w' ⟨rfl,rfl⟩)
   go_ret2
   rw[HR.out]
   exact⟨rfl,HPw.out,HBw.out⟩
  |true=>
   have HR:Hid (R= .ok (pl+1,addK tagsT tag s.pol ws)):=by
    show _=_
    rw[HN2.out,HNr.out,if_neg (by rintro(h|h);exact h0 h;rw[hi]at h;cases h)]
    simp only
    rw[HNn.out,HPl.out]
   rw[hi]at HIs
   obtain⟨bw,ow,rfl⟩: ∃bw ow,Aw=some ⟨bw,ow,none⟩:=by
    obtain⟨_,_,A,c,e,h4⟩:=Rd.own HO.out
    cases e
    obtain⟨b,off,e,_⟩:=h4 (by omega)
    exact⟨b,off,e⟩
   have hbd:fN s.pol 0+n<=40000:=by have:=HSm.out.rows 0;omega
   have hbw:W.heap.size<=bw:=(HO.out.lt bw rfl).1
   have HAp:Hid (∀v b,W2.cell? ⟨B,0,none⟩=some v->v.ownBlock=some b->b≠bw):=by
    show ∀v b,_
    intro v b hv hb
    obtain⟨u,hu,hou⟩:=HP.out.row 0 (by omega)
    have h9:W2.cell? ⟨B,0,none⟩=some u:=(HB2.out.cell (p:=⟨B,0,none⟩) hlt).trans hu
    rw[hv]at h9
    cases h9
    have:=(hou.lt b hb).2
    omega
   clear HN2 HNr hi hwl h0 HP HB2
   go_wp2_with(go_at_call 132;(with_reducible refine HIs.out.mono ?_);rintro e w' ⟨rfl,rfl⟩)
   clear HIs e0
   go_loopw [10] (fun i wr=> ∃k,k<=n/\i= .int .i64 (k:Nat)/\Hid (RPar en B ⟨s.rest,addK tagsT tag s.pol (ws.take k),s.told⟩ wr)/\Hid (wr.ownsRow W.heap.size 9 1 (.slice (some ⟨bw,ow,none⟩) n cw) n (ws.map sv))/\Hid (∀v b,wr.cell? ⟨B,0,none⟩=some v->v.ownBlock=some b->b≠bw)/\Hid (Below B W wr)) (fun i _=>n-(intOf i).toNat)
   case atStart=>exact⟨0,by omega,rfl,by show RPar _ _ _ _;rw[List.take_zero,addK0_nil];exact HPw.out,HO.out,HAp.out,HBw.out⟩
   case round=>
    clear HPw HO HAp HBw
    obtain⟨k,hk,rfl,HPk,HOk,HAk,HBk⟩:=hrel
    by_cases hlt3:k<n
    rotate_left
    ·have HE:Hid (ws.take k=ws):=List.take_of_length_le (by rw[HNn.out];omega)
     go_wp2_with fail
     go_ret2
     rw[HR.out]
     rw[HE.out]at HPk
     exact⟨by simp,HPk.out,HBk.out⟩
    have hks:k<ws.length:=by rw[HNn.out];exact hlt3
    obtain⟨w,hw⟩: ∃w,ws[k]=w:=⟨_,rfl⟩
    have htk:ws.take (k+1)=ws.take k++[w]:=by rw[List.take_succ_eq_append_getElem hks,hw]
    have hcw:wr.cell? ⟨bw,ow+k,none⟩=some (sv w):=by
     obtain⟨_,_,A,c,e,h4⟩:=Rd.own HOk.out
     cases e
     obtain⟨b,off,e,_,hc⟩:=h4 (by omega)
     cases e
     exact hc k (sv w) (by simp[hks,hw])
    have hbwr:bw<wr.heap.size:=World.block_lt_of_cell? wr _ hcw
    have HTk:=Lib.hid htk
    have HSw:Hid (sv w= .string ⟨w.toArray⟩):=rfl
    rw[HSw.out]at hcw
    generalize(⟨w.toArray⟩:ByteArray)=ts at*
    obtain⟨v4,hv4,hov⟩:=HPk.out.row 0 (by omega)
    have hln:fN (addK tagsT tag s.pol (ws.take k)) 0=fN s.pol 0+k:=by rw[addK0_len,List.length_take];omega
    have hov2:wr.ownsRow (B+1) 9 1 v4 (fN (addK tagsT tag s.pol (ws.take k)) 0) (fC (addK tagsT tag s.pol (ws.take k)) 0):=hov
    obtain⟨m,hm⟩: ∃m,fN (addK tagsT tag s.pol (ws.take k)) 0=m:=⟨_,rfl⟩
    rw[hm]at hov2
    have HM:=Lib.hid hm
    have hm9:m<=40000:=by omega
    have HOv:=Lib.hid hov2
    obtain⟨A4,c4,rfl,_⟩:=own_cap hov2
    have hl4:=HPk.out.lt
    have hz:=HPk.out.fz 0
    have h26:wr.cell? ⟨B,0,none⟩=some (.slice A4 m c4):=hv4
    have hM4: ∀b,(Value.slice A4 m c4).ownBlock=some b->B+1<=b/\b≠bw:=fun b hb=>⟨(HOv.out.lt b hb).1,HAk.out _ b h26 hb⟩
    have HM4:=Lib.hid hM4
    clear hov hov2 hm hln htk hw hv4 hM4
    have i1:(0:Int)<=(k:Int):=by omega
    have i2:(k:Int)<(n:Int):=by omega
    go_upto_region 18 with fail
    have hdr:Below wr.heap.size wr wr.drew:=bel
    refine wp_region_row 12 [(0,true),(1,true),(2,true),(3,true),(4,true),(5,true),(6,true),(7,true),(8,true),(9,true),(10,false),(11,false)] (fun V=>V.cell? ⟨B,0,none⟩=some (.slice A4 m c4)/\V.cell? ⟨bw,ow+k,none⟩=some (.string ts)) hmx (by kernel_rfl) (by kernel_rfl) (by kernel_rfl) (by decide) rfl (fun c a d v w h=>by obtain⟨x,y⟩:=(h:_/\_);cases d<;>exact⟨x,y⟩) (by kernel_rfl) (by exact⟨h26,hcw⟩) ?_
    refine wpRow_readD (v:= .pointer (some ⟨B,0,none⟩)) 56 rfl rfl rfl (fun W hW=>by simp[execOp,go_sem]) ?_
    simp only[Act.put,List.setIfInBounds_toArray,List.set_cons_succ,List.set_cons_zero]
    refine wpRow_readD (v:= .pointer (some ⟨B,0,none⟩)) 57 rfl rfl rfl (fun W hW=>by simp[execOp,go_sem]) ?_
    simp only[Act.put,List.setIfInBounds_toArray,List.set_cons_succ,List.set_cons_zero]
    refine wpRow_readD (v:= .pointer (some ⟨B,0,none⟩)) 58 rfl rfl rfl (fun W hW=>by simp[execOp,go_sem]) ?_
    simp only[Act.put,List.setIfInBounds_toArray,List.set_cons_succ,List.set_cons_zero]
    refine wpRow_readD (v:= .pointer (some ⟨B,0,none⟩)) 59 rfl rfl rfl (fun W hW=>by simp[execOp,go_sem]) ?_
    simp only[Act.put,List.setIfInBounds_toArray,List.set_cons_succ,List.set_cons_zero]
    refine wpRow_readD (v:= .pointer (some ⟨B,0,none⟩)) 60 rfl rfl rfl (fun W hW=>by simp[execOp,go_sem]) ?_
    simp only[Act.put,List.setIfInBounds_toArray,List.set_cons_succ,List.set_cons_zero]
    refine wpRow_readD (v:= .slice A4 m c4) 61 rfl rfl rfl (fun W hW=>by simp[execOp,go_sem,hW.1]) ?_
    simp only[Act.put,List.setIfInBounds_toArray,List.set_cons_succ,List.set_cons_zero]
    refine wpRow_readD (v:= .slice (some ⟨bw,ow,none⟩) n cw) 62 rfl rfl rfl (fun W hW=>by simp[execOp,go_sem]) ?_
    simp only[Act.put,List.setIfInBounds_toArray,List.set_cons_succ,List.set_cons_zero]
    refine wpRow_readD (v:= .int .i64 (k:Nat)) 63 rfl rfl rfl (fun W hW=>by simp[execOp,go_sem]) ?_
    simp only[Act.put,List.setIfInBounds_toArray,List.set_cons_succ,List.set_cons_zero]
    refine wpRow_readD (v:= .pointer (some ⟨bw,ow+k,none⟩)) 64 rfl rfl rfl (fun W hW=>by simp[execOp,go_sem]<;>omega) ?_
    simp only[Act.put,List.setIfInBounds_toArray,List.set_cons_succ,List.set_cons_zero]
    refine wpRow_readD (v:= .string ts) 65 rfl rfl rfl (fun W hW=>by simp[execOp,go_sem,hW.2]) ?_
    simp only[Act.put,List.setIfInBounds_toArray,List.set_cons_succ,List.set_cons_zero]
    refine wpRow_op rfl rfl fun Kc hKc=> ?_
    unfold Oper.wp
    simp[execOp,go_sem]
    apply hKc
    have hb5:Below wr.heap.size wr (wr.drew.alloc (.cells #[.string ts] 9)):=bel
    refine⟨⟨(hb5.cell (p:=⟨B,0,none⟩) hl4).trans h26,(hb5.cell (p:=⟨bw,ow+k,none⟩) hbwr).trans hcw⟩, ?_⟩
    refine wpRow_op rfl rfl fun Kc hKc=> ?_
    refine op_at (n:=m) (size:=1) (xs:=fC (addK tagsT tag s.pol (ws.take k)) 0) (v:= .slice A4 m c4) _ _ 36 rfl sltS (B+1) rfl ((own_keep HOv.out hdr).alloc _) (by simp[go_sem]<;>omega) ⟨wr.heap.size,0,none⟩ 1 1 [.string ts] rfl (new_cells (c:= #[.string ts]) (by simp[go_sem])) rfl (by simp[Value.oneCell']) (by unfold maxLen;omega) (by omega) ?_
    intro v6 W6 ho6 hg6 hat6
    obtain⟨A6,c6,rfl,_⟩:=own_cap ho6
    have hgT:Turned (fun b=>(Value.slice A4 m c4).ownBlock=some b) (wr.drew.alloc (.cells #[.string ts] 9)) W6:=⟨hg6.os,hg6.tape,hg6.output,hg6.size,fun k hk hn=>hg6.block k hk (fun e=>hn e.symm)⟩
    have hT6:Turned (fun b=>(Value.slice A4 m c4).ownBlock=some b) wr W6:=(Turned.of_below hb5).trans hgT
    have hnM: ¬(Value.slice A4 m c4).ownBlock=some B:=fun e=>by have:=(HM4.out _ e).1;omega
    have hnb: ¬(Value.slice A4 m c4).ownBlock=some bw:=fun e=>(HM4.out _ e).2 rfl
    have k6:=(World.cell?_of_block (a:=⟨B,0,none⟩) (hT6.block _ hl4 hnM)).trans h26
    have kw:=(World.cell?_of_block (a:=⟨bw,ow+k,none⟩) (hT6.block _ hbwr hnb)).trans hcw
    have kf:=(World.frozen?_of_block (a:=⟨B,0,none⟩) (hT6.block _ hl4 hnM)).trans hz
    apply hKc
    refine⟨⟨k6,kw⟩, ?_⟩
    simp only[Act.put,List.setIfInBounds_toArray]
    have HT6:=Lib.hid hT6
    have HO6:=Lib.hid ho6
    have HA6:=Lib.hid hat6
    have hsz5:=hb5.size
    clear hg6 hgT hnM ho6 hat6 hb5 hT6 hdr
    dsimp only[wpRow,List.drop]
    go_wp2_with fail
    go_roundw
    case rel=>
     have e9:=addK0_row tag s.pol (ws.take k) w
     have h9:=HPk.out.put (j:=0) (s':=⟨s.rest,addK tagsT tag s.pol (ws.take (k+1)),s.told⟩) (by omega) h26 HT6.out (by show World.ownsRow _ _ _ _ _ (fN (addK tagsT tag s.pol (ws.take (k+1))) 0) (fC (addK tagsT tag s.pol (ws.take (k+1))) 0);rw[HTk.out,e9.1,e9.2,HM.out,HSw.out];exact HO6.out) (HA6.out.imp (fun h=>h) (fun h=>⟨_,h,by simp[go_sem]⟩)) (fun i hi hij=>psj (s:=⟨s.rest,addK tagsT tag s.pol (ws.take k),s.told⟩) (addK0_rest tag s.pol (ws.take k) (ws.take (k+1)) i hij)) rfl (by simp only[addK0]) (by simp only[addK0]) (by simp only[addK0]) (by simp only[addK0])
     refine⟨k+1,by omega,by go_num,h9.1, ?_, ?_,HBk.out.trans h9.2.1⟩
     ·show World.ownsRow _ _ _ _ _ _ _
      have ho1:=own_turned HT6.out HOk.out (fun b hb hx=>(HM4.out b hx).2 (Option.some.inj hb).symm)
      exact own_turned (Turned.setCell (pv:=fun b=>b=B) (p:=⟨B,0,none⟩) (Turned.refl _ W6) (.inr rfl) _) ho1 (fun b hb hx=>by have:=(HOk.out.lt b hb).1;omega)
     ·show ∀v b,_
      intro v b hv hb
      have hs6:(W6.setCell ⟨B,0,none⟩ (.slice A6 (m+1) c6)).cell? ⟨B,0,none⟩=some (.slice A6 (m+1) c6):=World.cell?_setCell_same _ _ _ k6
      rw[hs6]at hv
      cases hv
      rcases HA6.out with h|h
      ·exact(HM4.out b (h ▸ hb)).2
      ·rw[h]at hb
       have:=Option.some.inj hb
       simp[go_sem]at this
       omega
    case measure=>simp[intOf];omega
theorem addK1 (tag:Bs) (p:Pol) (ws:List Bs):addK schemesT tag p ws={p with schemes:=p.schemes++ws}:=by
 unfold addK
 rw[if_neg (by decide)]
 rw[if_pos rfl]
theorem addK1_row (tag:Bs) (p:Pol) (ws:List Bs) (w:Bs):fN (addK schemesT tag p (ws++[w])) 1=fN (addK schemesT tag p ws) 1+1/\fC (addK schemesT tag p (ws++[w])) 1=fC (addK schemesT tag p ws) 1++[sv w]:=by
 rw[addK1,addK1]
 constructor
 ·simp[fN];try omega
 ·simp[fC]
theorem addK1_rest (tag:Bs) (p:Pol) (ws us:List Bs) (i:Nat) (hi:i≠1):fN (addK schemesT tag p us) i=fN (addK schemesT tag p ws) i/\fC (addK schemesT tag p us) i=fC (addK schemesT tag p ws) i:=by
 rw[addK1,addK1]
 match i,hi with
 |0,_=>exact⟨rfl,rfl⟩
 |1,h=>exact absurd rfl h
 |2,_=>exact⟨rfl,rfl⟩
 |3,_=>exact⟨rfl,rfl⟩
 |4,_=>exact⟨rfl,rfl⟩
 |5,_=>exact⟨rfl,rfl⟩
 |i+6,_=>exact⟨rfl,rfl⟩
theorem addK1_nil (tag:Bs) (p:Pol):addK schemesT tag p []=p:=by rw[addK1];simp
theorem addK1_len (tag:Bs) (p:Pol) (ws:List Bs):fN (addK schemesT tag p ws) 1=fN p 1+ws.length:=by rw[addK1];simp[fN]
theorem rnames1_any (en B:Nat) (s:Ps) (W:World) (h:RPar en B s W) (hs:PsSm s):
  Calls Tryz.prog 86 #[.pointer (some ⟨B,0,none⟩),.string ⟨schemesT.toArray⟩] W (NamesEnd en B s W (nmR schemesT s.rest s.pol)):=by
 have hmx:Tryz.prog.follows .mixedOrders=true:=by kernel_rfl
 have HP:=Lib.hid h
 have hlt:=h.lt
 have HSm:=Lib.hid hs
 have hr9:=hs.rest
 obtain⟨kd,hkd⟩: ∃kd,(⟨schemesT.toArray⟩:ByteArray)=kd:=⟨_,rfl⟩
 have hkl:kd.toList=[115,99,104,101,109,101,115]:=by rw[<-hkd,ByteArray.toList_eq];rfl
 rw[hkd]
 obtain⟨R,hR⟩: ∃R,nmR schemesT s.rest s.pol=R:=⟨_,rfl⟩
 have HN:Hid (R=match listR schemesT s.rest with
  | .error i=> .error i
  | .ok (tag,b)=>match namesR s.rest b with
   | .error i=> .error i
   | .ok ws=> .ok (b+ws.length+1,addK schemesT tag s.pol ws)):=by show _=_;rw[<-hR];rfl
 rw[hR]
 clear hR hkd hs h
 have HN2:Hid (R=match namesR s.rest 1 with
  | .error i=> .error i
  | .ok ws=> .ok (1+ws.length+1,addK schemesT [] s.pol ws)):=HN.out
 obtain⟨tag,htag⟩: ∃tag:Bs,tag=[]:=⟨_,rfl⟩
 have HL:=Lib.hid (show Calls Tryz.prog 133 #[.pointer (some ⟨B,0,none⟩),.int .i64 1] W _ from rlist_any en B s W HP.out 1 (by omega) (by omega))
 rw[<-htag]at HN2
 clear HN htag
 go_enter Tryz.func86,Tryz.ntmps86
 go_upto_region 11 with(go_at_call 133;(with_reducible refine HL.out.mono ?_);rintro e W2 ⟨v,rfl,ho,hb2⟩;have HO:=Lib.hid ho;have HB2:=Lib.hid hb2;obtain⟨Aw,cw,rfl,_⟩:=own_cap ho;clear ho hb2)
 have HPw:=Lib.hid (HP.out.grown HB2.out)
 have HBw:=Lib.hid (HB2.out.mono (Nat.le_of_lt hlt))
 have hlt2:B<W2.heap.size:=Nat.lt_of_lt_of_le hlt HB2.out.size
 have HNr:Hid (namesR s.rest 1=if(wordsR s.rest 1).length=0\/isR s.rest (1+(wordsR s.rest 1).length) 4 semiT=false then .error (1+(wordsR s.rest 1).length)else .ok (wordsR s.rest 1)):=rfl
 have hwl:(wordsR s.rest 1).length<=s.rest.length:=by
  unfold wordsR;rw[List.length_map]
  refine Nat.le_trans (List.takeWhile_prefix _).length_le ?_
  rw[List.length_drop];omega
 obtain⟨ws,hws⟩: ∃ws,wordsR s.rest 1=ws:=⟨_,rfl⟩
 have HWs:=Lib.hid hws
 rw[hws]at HO HNr hwl
 obtain⟨n,hn⟩: ∃n,ws.length=n:=⟨_,rfl⟩
 have HNn:=Lib.hid hn
 try rw[hws]
 rw[hn]at HO HNr hwl ⊢
 obtain⟨pl,hpl⟩: ∃pl,1+n=pl:=⟨_,rfl⟩
 have HPl:=Lib.hid hpl
 have hpl9:pl<=20000:=by omega
 rw[hpl]at HNr
 have hpi:(1:Int)+(n:Int)=(pl:Int):=by omega
 rw[hpi]
 have HIs:=Lib.hid (show Calls Tryz.prog 132 #[.pointer (some ⟨B,0,none⟩),.int .i64 (pl:Nat),.int .i64 4,.string ⟨#[59]⟩] W2 _ from ris_any en B s W2 HPw.out pl 4 semiT)
 clear hws hn HL hpl hpi
 by_cases h0:n=0
 ·have HR:Hid (R= .error pl):=by show _=_;rw[HN2.out,HNr.out,if_pos (.inl h0)]
  have e0:((n:Int)==0)=true:=by simp;omega
  clear HN2 HNr h0
  go_wp2_with fail
  go_ret2
  rw[HR.out]
  exact⟨rfl,HPw.out,HBw.out⟩
 ·have e0:((n:Int)==0)=false:=by simp;omega
  cases hi:isR s.rest pl 4 semiT with
  |false=>
   have HR:Hid (R= .error pl):=by show _=_;rw[HN2.out,HNr.out,if_pos (.inr hi)]
   rw[hi]at HIs
   clear HN2 HNr h0 hi
   go_wp2_with(go_at_call 132;(with_reducible refine HIs.out.mono ?_);rintro e w' ⟨rfl,rfl⟩)
   go_ret2
   rw[HR.out]
   exact⟨rfl,HPw.out,HBw.out⟩
  |true=>
   have HR:Hid (R= .ok (pl+1,addK schemesT tag s.pol ws)):=by
    show _=_
    rw[HN2.out,HNr.out,if_neg (by rintro(h|h);exact h0 h;rw[hi]at h;cases h)]
    simp only
    rw[HNn.out,HPl.out]
   rw[hi]at HIs
   obtain⟨bw,ow,rfl⟩: ∃bw ow,Aw=some ⟨bw,ow,none⟩:=by
    obtain⟨_,_,A,c,e,h4⟩:=Rd.own HO.out
    cases e
    obtain⟨b,off,e,_⟩:=h4 (by omega)
    exact⟨b,off,e⟩
   have hbd:fN s.pol 1+n<=40000:=by have:=HSm.out.rows 1;omega
   have hbw:W.heap.size<=bw:=(HO.out.lt bw rfl).1
   have HAp:Hid (∀v b,W2.cell? ⟨B,1,none⟩=some v->v.ownBlock=some b->b≠bw):=by
    show ∀v b,_
    intro v b hv hb
    obtain⟨u,hu,hou⟩:=HP.out.row 1 (by omega)
    have h9:W2.cell? ⟨B,1,none⟩=some u:=(HB2.out.cell (p:=⟨B,1,none⟩) hlt).trans hu
    rw[hv]at h9
    cases h9
    have:=(hou.lt b hb).2
    omega
   clear HN2 HNr hi hwl h0 HP HB2
   go_wp2_with(go_at_call 132;(with_reducible refine HIs.out.mono ?_);rintro e w' ⟨rfl,rfl⟩)
   clear HIs e0
   go_loopw [10] (fun i wr=> ∃k,k<=n/\i= .int .i64 (k:Nat)/\Hid (RPar en B ⟨s.rest,addK schemesT tag s.pol (ws.take k),s.told⟩ wr)/\Hid (wr.ownsRow W.heap.size 9 1 (.slice (some ⟨bw,ow,none⟩) n cw) n (ws.map sv))/\Hid (∀v b,wr.cell? ⟨B,1,none⟩=some v->v.ownBlock=some b->b≠bw)/\Hid (Below B W wr)) (fun i _=>n-(intOf i).toNat)
   case atStart=>exact⟨0,by omega,rfl,by show RPar _ _ _ _;rw[List.take_zero,addK1_nil];exact HPw.out,HO.out,HAp.out,HBw.out⟩
   case round=>
    clear HPw HO HAp HBw
    obtain⟨k,hk,rfl,HPk,HOk,HAk,HBk⟩:=hrel
    by_cases hlt3:k<n
    rotate_left
    ·have HE:Hid (ws.take k=ws):=List.take_of_length_le (by rw[HNn.out];omega)
     go_wp2_with fail
     go_ret2
     rw[HR.out]
     rw[HE.out]at HPk
     exact⟨by simp,HPk.out,HBk.out⟩
    have hks:k<ws.length:=by rw[HNn.out];exact hlt3
    obtain⟨w,hw⟩: ∃w,ws[k]=w:=⟨_,rfl⟩
    have htk:ws.take (k+1)=ws.take k++[w]:=by rw[List.take_succ_eq_append_getElem hks,hw]
    have hcw:wr.cell? ⟨bw,ow+k,none⟩=some (sv w):=by
     obtain⟨_,_,A,c,e,h4⟩:=Rd.own HOk.out
     cases e
     obtain⟨b,off,e,_,hc⟩:=h4 (by omega)
     cases e
     exact hc k (sv w) (by simp[hks,hw])
    have hbwr:bw<wr.heap.size:=World.block_lt_of_cell? wr _ hcw
    have HTk:=Lib.hid htk
    have HSw:Hid (sv w= .string ⟨w.toArray⟩):=rfl
    rw[HSw.out]at hcw
    generalize(⟨w.toArray⟩:ByteArray)=ts at*
    obtain⟨v4,hv4,hov⟩:=HPk.out.row 1 (by omega)
    have hln:fN (addK schemesT tag s.pol (ws.take k)) 1=fN s.pol 1+k:=by rw[addK1_len,List.length_take];omega
    have hov2:wr.ownsRow (B+1) 9 1 v4 (fN (addK schemesT tag s.pol (ws.take k)) 1) (fC (addK schemesT tag s.pol (ws.take k)) 1):=hov
    obtain⟨m,hm⟩: ∃m,fN (addK schemesT tag s.pol (ws.take k)) 1=m:=⟨_,rfl⟩
    rw[hm]at hov2
    have HM:=Lib.hid hm
    have hm9:m<=40000:=by omega
    have HOv:=Lib.hid hov2
    obtain⟨A4,c4,rfl,_⟩:=own_cap hov2
    have hl4:=HPk.out.lt
    have hz:=HPk.out.fz 1
    have h26:wr.cell? ⟨B,1,none⟩=some (.slice A4 m c4):=hv4
    have hM4: ∀b,(Value.slice A4 m c4).ownBlock=some b->B+1<=b/\b≠bw:=fun b hb=>⟨(HOv.out.lt b hb).1,HAk.out _ b h26 hb⟩
    have HM4:=Lib.hid hM4
    clear hov hov2 hm hln htk hw hv4 hM4
    have i1:(0:Int)<=(k:Int):=by omega
    have i2:(k:Int)<(n:Int):=by omega
    go_upto_region 20 with fail
    have hdr:Below wr.heap.size wr wr.drew:=bel
    refine wp_region_row 12 [(0,true),(1,true),(2,true),(3,true),(4,true),(5,true),(6,true),(7,true),(8,true),(9,true),(10,false),(11,false)] (fun V=>V.cell? ⟨B,1,none⟩=some (.slice A4 m c4)/\V.cell? ⟨bw,ow+k,none⟩=some (.string ts)) hmx (by kernel_rfl) (by kernel_rfl) (by kernel_rfl) (by decide) rfl (fun c a d v w h=>by obtain⟨x,y⟩:=(h:_/\_);cases d<;>exact⟨x,y⟩) (by kernel_rfl) (by exact⟨h26,hcw⟩) ?_
    refine wpRow_readD (v:= .pointer (some ⟨B,0,none⟩)) 73 rfl rfl rfl (fun W hW=>by simp[execOp,go_sem]) ?_
    simp only[Act.put,List.setIfInBounds_toArray,List.set_cons_succ,List.set_cons_zero]
    refine wpRow_readD (v:= .pointer (some ⟨B,0,none⟩)) 74 rfl rfl rfl (fun W hW=>by simp[execOp,go_sem]) ?_
    simp only[Act.put,List.setIfInBounds_toArray,List.set_cons_succ,List.set_cons_zero]
    refine wpRow_readD (v:= .pointer (some ⟨B,0,none⟩)) 75 rfl rfl rfl (fun W hW=>by simp[execOp,go_sem]) ?_
    simp only[Act.put,List.setIfInBounds_toArray,List.set_cons_succ,List.set_cons_zero]
    refine wpRow_readD (v:= .pointer (some ⟨B,0,none⟩)) 76 rfl rfl rfl (fun W hW=>by simp[execOp,go_sem]) ?_
    simp only[Act.put,List.setIfInBounds_toArray,List.set_cons_succ,List.set_cons_zero]
    refine wpRow_readD (v:= .pointer (some ⟨B,1,none⟩)) 77 rfl rfl rfl (fun W hW=>by simp[execOp,go_sem]) ?_
    simp only[Act.put,List.setIfInBounds_toArray,List.set_cons_succ,List.set_cons_zero]
    refine wpRow_readD (v:= .slice A4 m c4) 78 rfl rfl rfl (fun W hW=>by simp[execOp,go_sem,hW.1]) ?_
    simp only[Act.put,List.setIfInBounds_toArray,List.set_cons_succ,List.set_cons_zero]
    refine wpRow_readD (v:= .slice (some ⟨bw,ow,none⟩) n cw) 79 rfl rfl rfl (fun W hW=>by simp[execOp,go_sem]) ?_
    simp only[Act.put,List.setIfInBounds_toArray,List.set_cons_succ,List.set_cons_zero]
    refine wpRow_readD (v:= .int .i64 (k:Nat)) 80 rfl rfl rfl (fun W hW=>by simp[execOp,go_sem]) ?_
    simp only[Act.put,List.setIfInBounds_toArray,List.set_cons_succ,List.set_cons_zero]
    refine wpRow_readD (v:= .pointer (some ⟨bw,ow+k,none⟩)) 81 rfl rfl rfl (fun W hW=>by simp[execOp,go_sem]<;>omega) ?_
    simp only[Act.put,List.setIfInBounds_toArray,List.set_cons_succ,List.set_cons_zero]
    refine wpRow_readD (v:= .string ts) 82 rfl rfl rfl (fun W hW=>by simp[execOp,go_sem,hW.2]) ?_
    simp only[Act.put,List.setIfInBounds_toArray,List.set_cons_succ,List.set_cons_zero]
    refine wpRow_op rfl rfl fun Kc hKc=> ?_
    unfold Oper.wp
    simp[execOp,go_sem]
    apply hKc
    have hb5:Below wr.heap.size wr (wr.drew.alloc (.cells #[.string ts] 9)):=bel
    refine⟨⟨(hb5.cell (p:=⟨B,1,none⟩) hl4).trans h26,(hb5.cell (p:=⟨bw,ow+k,none⟩) hbwr).trans hcw⟩, ?_⟩
    refine wpRow_op rfl rfl fun Kc hKc=> ?_
    refine op_at (n:=m) (size:=1) (xs:=fC (addK schemesT tag s.pol (ws.take k)) 1) (v:= .slice A4 m c4) _ _ 36 rfl sltS (B+1) rfl ((own_keep HOv.out hdr).alloc _) (by simp[go_sem]<;>omega) ⟨wr.heap.size,0,none⟩ 1 1 [.string ts] rfl (new_cells (c:= #[.string ts]) (by simp[go_sem])) rfl (by simp[Value.oneCell']) (by unfold maxLen;omega) (by omega) ?_
    intro v6 W6 ho6 hg6 hat6
    obtain⟨A6,c6,rfl,_⟩:=own_cap ho6
    have hgT:Turned (fun b=>(Value.slice A4 m c4).ownBlock=some b) (wr.drew.alloc (.cells #[.string ts] 9)) W6:=⟨hg6.os,hg6.tape,hg6.output,hg6.size,fun k hk hn=>hg6.block k hk (fun e=>hn e.symm)⟩
    have hT6:Turned (fun b=>(Value.slice A4 m c4).ownBlock=some b) wr W6:=(Turned.of_below hb5).trans hgT
    have hnM: ¬(Value.slice A4 m c4).ownBlock=some B:=fun e=>by have:=(HM4.out _ e).1;omega
    have hnb: ¬(Value.slice A4 m c4).ownBlock=some bw:=fun e=>(HM4.out _ e).2 rfl
    have k6:=(World.cell?_of_block (a:=⟨B,1,none⟩) (hT6.block _ hl4 hnM)).trans h26
    have kw:=(World.cell?_of_block (a:=⟨bw,ow+k,none⟩) (hT6.block _ hbwr hnb)).trans hcw
    have kf:=(World.frozen?_of_block (a:=⟨B,1,none⟩) (hT6.block _ hl4 hnM)).trans hz
    apply hKc
    refine⟨⟨k6,kw⟩, ?_⟩
    simp only[Act.put,List.setIfInBounds_toArray]
    have HT6:=Lib.hid hT6
    have HO6:=Lib.hid ho6
    have HA6:=Lib.hid hat6
    have hsz5:=hb5.size
    clear hg6 hgT hnM ho6 hat6 hb5 hT6 hdr
    dsimp only[wpRow,List.drop]
    go_wp2_with fail
    go_roundw
    case rel=>
     have e9:=addK1_row tag s.pol (ws.take k) w
     have h9:=HPk.out.put (j:=1) (s':=⟨s.rest,addK schemesT tag s.pol (ws.take (k+1)),s.told⟩) (by omega) h26 HT6.out (by show World.ownsRow _ _ _ _ _ (fN (addK schemesT tag s.pol (ws.take (k+1))) 1) (fC (addK schemesT tag s.pol (ws.take (k+1))) 1);rw[HTk.out,e9.1,e9.2,HM.out,HSw.out];exact HO6.out) (HA6.out.imp (fun h=>h) (fun h=>⟨_,h,by simp[go_sem]⟩)) (fun i hi hij=>psj (s:=⟨s.rest,addK schemesT tag s.pol (ws.take k),s.told⟩) (addK1_rest tag s.pol (ws.take k) (ws.take (k+1)) i hij)) rfl (by simp only[addK1]) (by simp only[addK1]) (by simp only[addK1]) (by simp only[addK1])
     refine⟨k+1,by omega,by go_num,h9.1, ?_, ?_,HBk.out.trans h9.2.1⟩
     ·show World.ownsRow _ _ _ _ _ _ _
      have ho1:=own_turned HT6.out HOk.out (fun b hb hx=>(HM4.out b hx).2 (Option.some.inj hb).symm)
      exact own_turned (Turned.setCell (pv:=fun b=>b=B) (p:=⟨B,1,none⟩) (Turned.refl _ W6) (.inr rfl) _) ho1 (fun b hb hx=>by have:=(HOk.out.lt b hb).1;omega)
     ·show ∀v b,_
      intro v b hv hb
      have hs6:(W6.setCell ⟨B,1,none⟩ (.slice A6 (m+1) c6)).cell? ⟨B,1,none⟩=some (.slice A6 (m+1) c6):=World.cell?_setCell_same _ _ _ k6
      rw[hs6]at hv
      cases hv
      rcases HA6.out with h|h
      ·exact(HM4.out b (h ▸ hb)).2
      ·rw[h]at hb
       have:=Option.some.inj hb
       simp[go_sem]at this
       omega
    case measure=>simp[intOf];omega
theorem addK2 (tag:Bs) (p:Pol) (ws:List Bs):addK cssT tag p ws={p with css:=p.css++ws}:=by
 unfold addK
 rw[if_neg (by decide)]
 rw[if_neg (by decide)]
 rw[if_pos rfl]
theorem addK2_row (tag:Bs) (p:Pol) (ws:List Bs) (w:Bs):fN (addK cssT tag p (ws++[w])) 2=fN (addK cssT tag p ws) 2+1/\fC (addK cssT tag p (ws++[w])) 2=fC (addK cssT tag p ws) 2++[sv w]:=by
 rw[addK2,addK2]
 constructor
 ·simp[fN];try omega
 ·simp[fC]
theorem addK2_rest (tag:Bs) (p:Pol) (ws us:List Bs) (i:Nat) (hi:i≠2):fN (addK cssT tag p us) i=fN (addK cssT tag p ws) i/\fC (addK cssT tag p us) i=fC (addK cssT tag p ws) i:=by
 rw[addK2,addK2]
 match i,hi with
 |0,_=>exact⟨rfl,rfl⟩
 |1,_=>exact⟨rfl,rfl⟩
 |2,h=>exact absurd rfl h
 |3,_=>exact⟨rfl,rfl⟩
 |4,_=>exact⟨rfl,rfl⟩
 |5,_=>exact⟨rfl,rfl⟩
 |i+6,_=>exact⟨rfl,rfl⟩
theorem addK2_nil (tag:Bs) (p:Pol):addK cssT tag p []=p:=by rw[addK2];simp
theorem addK2_len (tag:Bs) (p:Pol) (ws:List Bs):fN (addK cssT tag p ws) 2=fN p 2+ws.length:=by rw[addK2];simp[fN]
theorem rnames2_any (en B:Nat) (s:Ps) (W:World) (h:RPar en B s W) (hs:PsSm s):
  Calls Tryz.prog 86 #[.pointer (some ⟨B,0,none⟩),.string ⟨cssT.toArray⟩] W (NamesEnd en B s W (nmR cssT s.rest s.pol)):=by
 have hmx:Tryz.prog.follows .mixedOrders=true:=by kernel_rfl
 have HP:=Lib.hid h
 have hlt:=h.lt
 have HSm:=Lib.hid hs
 have hr9:=hs.rest
 obtain⟨kd,hkd⟩: ∃kd,(⟨cssT.toArray⟩:ByteArray)=kd:=⟨_,rfl⟩
 have hkl:kd.toList=[99,115,115]:=by rw[<-hkd,ByteArray.toList_eq];rfl
 rw[hkd]
 obtain⟨R,hR⟩: ∃R,nmR cssT s.rest s.pol=R:=⟨_,rfl⟩
 have HN:Hid (R=match listR cssT s.rest with
  | .error i=> .error i
  | .ok (tag,b)=>match namesR s.rest b with
   | .error i=> .error i
   | .ok ws=> .ok (b+ws.length+1,addK cssT tag s.pol ws)):=by show _=_;rw[<-hR];rfl
 rw[hR]
 clear hR hkd hs h
 have HN2:Hid (R=match namesR s.rest 1 with
  | .error i=> .error i
  | .ok ws=> .ok (1+ws.length+1,addK cssT [] s.pol ws)):=HN.out
 obtain⟨tag,htag⟩: ∃tag:Bs,tag=[]:=⟨_,rfl⟩
 have HL:=Lib.hid (show Calls Tryz.prog 133 #[.pointer (some ⟨B,0,none⟩),.int .i64 1] W _ from rlist_any en B s W HP.out 1 (by omega) (by omega))
 rw[<-htag]at HN2
 clear HN htag
 go_enter Tryz.func86,Tryz.ntmps86
 go_upto_region 11 with(go_at_call 133;(with_reducible refine HL.out.mono ?_);rintro e W2 ⟨v,rfl,ho,hb2⟩;have HO:=Lib.hid ho;have HB2:=Lib.hid hb2;obtain⟨Aw,cw,rfl,_⟩:=own_cap ho;clear ho hb2)
 have HPw:=Lib.hid (HP.out.grown HB2.out)
 have HBw:=Lib.hid (HB2.out.mono (Nat.le_of_lt hlt))
 have hlt2:B<W2.heap.size:=Nat.lt_of_lt_of_le hlt HB2.out.size
 have HNr:Hid (namesR s.rest 1=if(wordsR s.rest 1).length=0\/isR s.rest (1+(wordsR s.rest 1).length) 4 semiT=false then .error (1+(wordsR s.rest 1).length)else .ok (wordsR s.rest 1)):=rfl
 have hwl:(wordsR s.rest 1).length<=s.rest.length:=by
  unfold wordsR;rw[List.length_map]
  refine Nat.le_trans (List.takeWhile_prefix _).length_le ?_
  rw[List.length_drop];omega
 obtain⟨ws,hws⟩: ∃ws,wordsR s.rest 1=ws:=⟨_,rfl⟩
 have HWs:=Lib.hid hws
 rw[hws]at HO HNr hwl
 obtain⟨n,hn⟩: ∃n,ws.length=n:=⟨_,rfl⟩
 have HNn:=Lib.hid hn
 try rw[hws]
 rw[hn]at HO HNr hwl ⊢
 obtain⟨pl,hpl⟩: ∃pl,1+n=pl:=⟨_,rfl⟩
 have HPl:=Lib.hid hpl
 have hpl9:pl<=20000:=by omega
 rw[hpl]at HNr
 have hpi:(1:Int)+(n:Int)=(pl:Int):=by omega
 rw[hpi]
 have HIs:=Lib.hid (show Calls Tryz.prog 132 #[.pointer (some ⟨B,0,none⟩),.int .i64 (pl:Nat),.int .i64 4,.string ⟨#[59]⟩] W2 _ from ris_any en B s W2 HPw.out pl 4 semiT)
 clear hws hn HL hpl hpi
 by_cases h0:n=0
 ·have HR:Hid (R= .error pl):=by show _=_;rw[HN2.out,HNr.out,if_pos (.inl h0)]
  have e0:((n:Int)==0)=true:=by simp;omega
  clear HN2 HNr h0
  go_wp2_with fail
  go_ret2
  rw[HR.out]
  exact⟨rfl,HPw.out,HBw.out⟩
 ·have e0:((n:Int)==0)=false:=by simp;omega
  cases hi:isR s.rest pl 4 semiT with
  |false=>
   have HR:Hid (R= .error pl):=by show _=_;rw[HN2.out,HNr.out,if_pos (.inr hi)]
   rw[hi]at HIs
   clear HN2 HNr h0 hi
   go_wp2_with(go_at_call 132;(with_reducible refine HIs.out.mono ?_);rintro e w' ⟨rfl,rfl⟩)
   go_ret2
   rw[HR.out]
   exact⟨rfl,HPw.out,HBw.out⟩
  |true=>
   have HR:Hid (R= .ok (pl+1,addK cssT tag s.pol ws)):=by
    show _=_
    rw[HN2.out,HNr.out,if_neg (by rintro(h|h);exact h0 h;rw[hi]at h;cases h)]
    simp only
    rw[HNn.out,HPl.out]
   rw[hi]at HIs
   obtain⟨bw,ow,rfl⟩: ∃bw ow,Aw=some ⟨bw,ow,none⟩:=by
    obtain⟨_,_,A,c,e,h4⟩:=Rd.own HO.out
    cases e
    obtain⟨b,off,e,_⟩:=h4 (by omega)
    exact⟨b,off,e⟩
   have hbd:fN s.pol 2+n<=40000:=by have:=HSm.out.rows 2;omega
   have hbw:W.heap.size<=bw:=(HO.out.lt bw rfl).1
   have HAp:Hid (∀v b,W2.cell? ⟨B,2,none⟩=some v->v.ownBlock=some b->b≠bw):=by
    show ∀v b,_
    intro v b hv hb
    obtain⟨u,hu,hou⟩:=HP.out.row 2 (by omega)
    have h9:W2.cell? ⟨B,2,none⟩=some u:=(HB2.out.cell (p:=⟨B,2,none⟩) hlt).trans hu
    rw[hv]at h9
    cases h9
    have:=(hou.lt b hb).2
    omega
   clear HN2 HNr hi hwl h0 HP HB2
   go_wp2_with(go_at_call 132;(with_reducible refine HIs.out.mono ?_);rintro e w' ⟨rfl,rfl⟩)
   clear HIs e0
   go_loopw [10] (fun i wr=> ∃k,k<=n/\i= .int .i64 (k:Nat)/\Hid (RPar en B ⟨s.rest,addK cssT tag s.pol (ws.take k),s.told⟩ wr)/\Hid (wr.ownsRow W.heap.size 9 1 (.slice (some ⟨bw,ow,none⟩) n cw) n (ws.map sv))/\Hid (∀v b,wr.cell? ⟨B,2,none⟩=some v->v.ownBlock=some b->b≠bw)/\Hid (Below B W wr)) (fun i _=>n-(intOf i).toNat)
   case atStart=>exact⟨0,by omega,rfl,by show RPar _ _ _ _;rw[List.take_zero,addK2_nil];exact HPw.out,HO.out,HAp.out,HBw.out⟩
   case round=>
    clear HPw HO HAp HBw
    obtain⟨k,hk,rfl,HPk,HOk,HAk,HBk⟩:=hrel
    by_cases hlt3:k<n
    rotate_left
    ·have HE:Hid (ws.take k=ws):=List.take_of_length_le (by rw[HNn.out];omega)
     go_wp2_with fail
     go_ret2
     rw[HR.out]
     rw[HE.out]at HPk
     exact⟨by simp,HPk.out,HBk.out⟩
    have hks:k<ws.length:=by rw[HNn.out];exact hlt3
    obtain⟨w,hw⟩: ∃w,ws[k]=w:=⟨_,rfl⟩
    have htk:ws.take (k+1)=ws.take k++[w]:=by rw[List.take_succ_eq_append_getElem hks,hw]
    have hcw:wr.cell? ⟨bw,ow+k,none⟩=some (sv w):=by
     obtain⟨_,_,A,c,e,h4⟩:=Rd.own HOk.out
     cases e
     obtain⟨b,off,e,_,hc⟩:=h4 (by omega)
     cases e
     exact hc k (sv w) (by simp[hks,hw])
    have hbwr:bw<wr.heap.size:=World.block_lt_of_cell? wr _ hcw
    have HTk:=Lib.hid htk
    have HSw:Hid (sv w= .string ⟨w.toArray⟩):=rfl
    rw[HSw.out]at hcw
    generalize(⟨w.toArray⟩:ByteArray)=ts at*
    obtain⟨v4,hv4,hov⟩:=HPk.out.row 2 (by omega)
    have hln:fN (addK cssT tag s.pol (ws.take k)) 2=fN s.pol 2+k:=by rw[addK2_len,List.length_take];omega
    have hov2:wr.ownsRow (B+1) 9 1 v4 (fN (addK cssT tag s.pol (ws.take k)) 2) (fC (addK cssT tag s.pol (ws.take k)) 2):=hov
    obtain⟨m,hm⟩: ∃m,fN (addK cssT tag s.pol (ws.take k)) 2=m:=⟨_,rfl⟩
    rw[hm]at hov2
    have HM:=Lib.hid hm
    have hm9:m<=40000:=by omega
    have HOv:=Lib.hid hov2
    obtain⟨A4,c4,rfl,_⟩:=own_cap hov2
    have hl4:=HPk.out.lt
    have hz:=HPk.out.fz 2
    have h26:wr.cell? ⟨B,2,none⟩=some (.slice A4 m c4):=hv4
    have hM4: ∀b,(Value.slice A4 m c4).ownBlock=some b->B+1<=b/\b≠bw:=fun b hb=>⟨(HOv.out.lt b hb).1,HAk.out _ b h26 hb⟩
    have HM4:=Lib.hid hM4
    clear hov hov2 hm hln htk hw hv4 hM4
    have i1:(0:Int)<=(k:Int):=by omega
    have i2:(k:Int)<(n:Int):=by omega
    go_upto_region 22 with fail
    have hdr:Below wr.heap.size wr wr.drew:=bel
    refine wp_region_row 12 [(0,true),(1,true),(2,true),(3,true),(4,true),(5,true),(6,true),(7,true),(8,true),(9,true),(10,false),(11,false)] (fun V=>V.cell? ⟨B,2,none⟩=some (.slice A4 m c4)/\V.cell? ⟨bw,ow+k,none⟩=some (.string ts)) hmx (by kernel_rfl) (by kernel_rfl) (by kernel_rfl) (by decide) rfl (fun c a d v w h=>by obtain⟨x,y⟩:=(h:_/\_);cases d<;>exact⟨x,y⟩) (by kernel_rfl) (by exact⟨h26,hcw⟩) ?_
    refine wpRow_readD (v:= .pointer (some ⟨B,0,none⟩)) 90 rfl rfl rfl (fun W hW=>by simp[execOp,go_sem]) ?_
    simp only[Act.put,List.setIfInBounds_toArray,List.set_cons_succ,List.set_cons_zero]
    refine wpRow_readD (v:= .pointer (some ⟨B,0,none⟩)) 91 rfl rfl rfl (fun W hW=>by simp[execOp,go_sem]) ?_
    simp only[Act.put,List.setIfInBounds_toArray,List.set_cons_succ,List.set_cons_zero]
    refine wpRow_readD (v:= .pointer (some ⟨B,0,none⟩)) 92 rfl rfl rfl (fun W hW=>by simp[execOp,go_sem]) ?_
    simp only[Act.put,List.setIfInBounds_toArray,List.set_cons_succ,List.set_cons_zero]
    refine wpRow_readD (v:= .pointer (some ⟨B,0,none⟩)) 93 rfl rfl rfl (fun W hW=>by simp[execOp,go_sem]) ?_
    simp only[Act.put,List.setIfInBounds_toArray,List.set_cons_succ,List.set_cons_zero]
    refine wpRow_readD (v:= .pointer (some ⟨B,2,none⟩)) 94 rfl rfl rfl (fun W hW=>by simp[execOp,go_sem]) ?_
    simp only[Act.put,List.setIfInBounds_toArray,List.set_cons_succ,List.set_cons_zero]
    refine wpRow_readD (v:= .slice A4 m c4) 95 rfl rfl rfl (fun W hW=>by simp[execOp,go_sem,hW.1]) ?_
    simp only[Act.put,List.setIfInBounds_toArray,List.set_cons_succ,List.set_cons_zero]
    refine wpRow_readD (v:= .slice (some ⟨bw,ow,none⟩) n cw) 96 rfl rfl rfl (fun W hW=>by simp[execOp,go_sem]) ?_
    simp only[Act.put,List.setIfInBounds_toArray,List.set_cons_succ,List.set_cons_zero]
    refine wpRow_readD (v:= .int .i64 (k:Nat)) 97 rfl rfl rfl (fun W hW=>by simp[execOp,go_sem]) ?_
    simp only[Act.put,List.setIfInBounds_toArray,List.set_cons_succ,List.set_cons_zero]
    refine wpRow_readD (v:= .pointer (some ⟨bw,ow+k,none⟩)) 98 rfl rfl rfl (fun W hW=>by simp[execOp,go_sem]<;>omega) ?_
    simp only[Act.put,List.setIfInBounds_toArray,List.set_cons_succ,List.set_cons_zero]
    refine wpRow_readD (v:= .string ts) 99 rfl rfl rfl (fun W hW=>by simp[execOp,go_sem,hW.2]) ?_
    simp only[Act.put,List.setIfInBounds_toArray,List.set_cons_succ,List.set_cons_zero]
    refine wpRow_op rfl rfl fun Kc hKc=> ?_
    unfold Oper.wp
    simp[execOp,go_sem]
    apply hKc
    have hb5:Below wr.heap.size wr (wr.drew.alloc (.cells #[.string ts] 9)):=bel
    refine⟨⟨(hb5.cell (p:=⟨B,2,none⟩) hl4).trans h26,(hb5.cell (p:=⟨bw,ow+k,none⟩) hbwr).trans hcw⟩, ?_⟩
    refine wpRow_op rfl rfl fun Kc hKc=> ?_
    refine op_at (n:=m) (size:=1) (xs:=fC (addK cssT tag s.pol (ws.take k)) 2) (v:= .slice A4 m c4) _ _ 36 rfl sltS (B+1) rfl ((own_keep HOv.out hdr).alloc _) (by simp[go_sem]<;>omega) ⟨wr.heap.size,0,none⟩ 1 1 [.string ts] rfl (new_cells (c:= #[.string ts]) (by simp[go_sem])) rfl (by simp[Value.oneCell']) (by unfold maxLen;omega) (by omega) ?_
    intro v6 W6 ho6 hg6 hat6
    obtain⟨A6,c6,rfl,_⟩:=own_cap ho6
    have hgT:Turned (fun b=>(Value.slice A4 m c4).ownBlock=some b) (wr.drew.alloc (.cells #[.string ts] 9)) W6:=⟨hg6.os,hg6.tape,hg6.output,hg6.size,fun k hk hn=>hg6.block k hk (fun e=>hn e.symm)⟩
    have hT6:Turned (fun b=>(Value.slice A4 m c4).ownBlock=some b) wr W6:=(Turned.of_below hb5).trans hgT
    have hnM: ¬(Value.slice A4 m c4).ownBlock=some B:=fun e=>by have:=(HM4.out _ e).1;omega
    have hnb: ¬(Value.slice A4 m c4).ownBlock=some bw:=fun e=>(HM4.out _ e).2 rfl
    have k6:=(World.cell?_of_block (a:=⟨B,2,none⟩) (hT6.block _ hl4 hnM)).trans h26
    have kw:=(World.cell?_of_block (a:=⟨bw,ow+k,none⟩) (hT6.block _ hbwr hnb)).trans hcw
    have kf:=(World.frozen?_of_block (a:=⟨B,2,none⟩) (hT6.block _ hl4 hnM)).trans hz
    apply hKc
    refine⟨⟨k6,kw⟩, ?_⟩
    simp only[Act.put,List.setIfInBounds_toArray]
    have HT6:=Lib.hid hT6
    have HO6:=Lib.hid ho6
    have HA6:=Lib.hid hat6
    have hsz5:=hb5.size
    clear hg6 hgT hnM ho6 hat6 hb5 hT6 hdr
    dsimp only[wpRow,List.drop]
    go_wp2_with fail
    go_roundw
    case rel=>
     have e9:=addK2_row tag s.pol (ws.take k) w
     have h9:=HPk.out.put (j:=2) (s':=⟨s.rest,addK cssT tag s.pol (ws.take (k+1)),s.told⟩) (by omega) h26 HT6.out (by show World.ownsRow _ _ _ _ _ (fN (addK cssT tag s.pol (ws.take (k+1))) 2) (fC (addK cssT tag s.pol (ws.take (k+1))) 2);rw[HTk.out,e9.1,e9.2,HM.out,HSw.out];exact HO6.out) (HA6.out.imp (fun h=>h) (fun h=>⟨_,h,by simp[go_sem]⟩)) (fun i hi hij=>psj (s:=⟨s.rest,addK cssT tag s.pol (ws.take k),s.told⟩) (addK2_rest tag s.pol (ws.take k) (ws.take (k+1)) i hij)) rfl (by simp only[addK2]) (by simp only[addK2]) (by simp only[addK2]) (by simp only[addK2])
     refine⟨k+1,by omega,by go_num,h9.1, ?_, ?_,HBk.out.trans h9.2.1⟩
     ·show World.ownsRow _ _ _ _ _ _ _
      have ho1:=own_turned HT6.out HOk.out (fun b hb hx=>(HM4.out b hx).2 (Option.some.inj hb).symm)
      exact own_turned (Turned.setCell (pv:=fun b=>b=B) (p:=⟨B,2,none⟩) (Turned.refl _ W6) (.inr rfl) _) ho1 (fun b hb hx=>by have:=(HOk.out.lt b hb).1;omega)
     ·show ∀v b,_
      intro v b hv hb
      have hs6:(W6.setCell ⟨B,2,none⟩ (.slice A6 (m+1) c6)).cell? ⟨B,2,none⟩=some (.slice A6 (m+1) c6):=World.cell?_setCell_same _ _ _ k6
      rw[hs6]at hv
      cases hv
      rcases HA6.out with h|h
      ·exact(HM4.out b (h ▸ hb)).2
      ·rw[h]at hb
       have:=Option.some.inj hb
       simp[go_sem]at this
       omega
    case measure=>simp[intOf];omega
theorem addK3 (tag:Bs) (p:Pol) (ws:List Bs):addK dropT tag p ws={p with drops:=p.drops++ws}:=by
 unfold addK
 rw[if_neg (by decide)]
 rw[if_neg (by decide)]
 rw[if_neg (by decide)]
 rw[if_pos rfl]
theorem addK3_row (tag:Bs) (p:Pol) (ws:List Bs) (w:Bs):fN (addK dropT tag p (ws++[w])) 3=fN (addK dropT tag p ws) 3+1/\fC (addK dropT tag p (ws++[w])) 3=fC (addK dropT tag p ws) 3++[sv w]:=by
 rw[addK3,addK3]
 constructor
 ·simp[fN];try omega
 ·simp[fC]
theorem addK3_rest (tag:Bs) (p:Pol) (ws us:List Bs) (i:Nat) (hi:i≠3):fN (addK dropT tag p us) i=fN (addK dropT tag p ws) i/\fC (addK dropT tag p us) i=fC (addK dropT tag p ws) i:=by
 rw[addK3,addK3]
 match i,hi with
 |0,_=>exact⟨rfl,rfl⟩
 |1,_=>exact⟨rfl,rfl⟩
 |2,_=>exact⟨rfl,rfl⟩
 |3,h=>exact absurd rfl h
 |4,_=>exact⟨rfl,rfl⟩
 |5,_=>exact⟨rfl,rfl⟩
 |i+6,_=>exact⟨rfl,rfl⟩
theorem addK3_nil (tag:Bs) (p:Pol):addK dropT tag p []=p:=by rw[addK3];simp
theorem addK3_len (tag:Bs) (p:Pol) (ws:List Bs):fN (addK dropT tag p ws) 3=fN p 3+ws.length:=by rw[addK3];simp[fN]
theorem rnames3_any (en B:Nat) (s:Ps) (W:World) (h:RPar en B s W) (hs:PsSm s):
  Calls Tryz.prog 86 #[.pointer (some ⟨B,0,none⟩),.string ⟨dropT.toArray⟩] W (NamesEnd en B s W (nmR dropT s.rest s.pol)):=by
 have hmx:Tryz.prog.follows .mixedOrders=true:=by kernel_rfl
 have HP:=Lib.hid h
 have hlt:=h.lt
 have HSm:=Lib.hid hs
 have hr9:=hs.rest
 obtain⟨kd,hkd⟩: ∃kd,(⟨dropT.toArray⟩:ByteArray)=kd:=⟨_,rfl⟩
 have hkl:kd.toList=[100,114,111,112]:=by rw[<-hkd,ByteArray.toList_eq];rfl
 rw[hkd]
 obtain⟨R,hR⟩: ∃R,nmR dropT s.rest s.pol=R:=⟨_,rfl⟩
 have HN:Hid (R=match listR dropT s.rest with
  | .error i=> .error i
  | .ok (tag,b)=>match namesR s.rest b with
   | .error i=> .error i
   | .ok ws=> .ok (b+ws.length+1,addK dropT tag s.pol ws)):=by show _=_;rw[<-hR];rfl
 rw[hR]
 clear hR hkd hs h
 have HN2:Hid (R=match namesR s.rest 1 with
  | .error i=> .error i
  | .ok ws=> .ok (1+ws.length+1,addK dropT [] s.pol ws)):=HN.out
 obtain⟨tag,htag⟩: ∃tag:Bs,tag=[]:=⟨_,rfl⟩
 have HL:=Lib.hid (show Calls Tryz.prog 133 #[.pointer (some ⟨B,0,none⟩),.int .i64 1] W _ from rlist_any en B s W HP.out 1 (by omega) (by omega))
 rw[<-htag]at HN2
 clear HN htag
 go_enter Tryz.func86,Tryz.ntmps86
 go_upto_region 11 with(go_at_call 133;(with_reducible refine HL.out.mono ?_);rintro e W2 ⟨v,rfl,ho,hb2⟩;have HO:=Lib.hid ho;have HB2:=Lib.hid hb2;obtain⟨Aw,cw,rfl,_⟩:=own_cap ho;clear ho hb2)
 have HPw:=Lib.hid (HP.out.grown HB2.out)
 have HBw:=Lib.hid (HB2.out.mono (Nat.le_of_lt hlt))
 have hlt2:B<W2.heap.size:=Nat.lt_of_lt_of_le hlt HB2.out.size
 have HNr:Hid (namesR s.rest 1=if(wordsR s.rest 1).length=0\/isR s.rest (1+(wordsR s.rest 1).length) 4 semiT=false then .error (1+(wordsR s.rest 1).length)else .ok (wordsR s.rest 1)):=rfl
 have hwl:(wordsR s.rest 1).length<=s.rest.length:=by
  unfold wordsR;rw[List.length_map]
  refine Nat.le_trans (List.takeWhile_prefix _).length_le ?_
  rw[List.length_drop];omega
 obtain⟨ws,hws⟩: ∃ws,wordsR s.rest 1=ws:=⟨_,rfl⟩
 have HWs:=Lib.hid hws
 rw[hws]at HO HNr hwl
 obtain⟨n,hn⟩: ∃n,ws.length=n:=⟨_,rfl⟩
 have HNn:=Lib.hid hn
 try rw[hws]
 rw[hn]at HO HNr hwl ⊢
 obtain⟨pl,hpl⟩: ∃pl,1+n=pl:=⟨_,rfl⟩
 have HPl:=Lib.hid hpl
 have hpl9:pl<=20000:=by omega
 rw[hpl]at HNr
 have hpi:(1:Int)+(n:Int)=(pl:Int):=by omega
 rw[hpi]
 have HIs:=Lib.hid (show Calls Tryz.prog 132 #[.pointer (some ⟨B,0,none⟩),.int .i64 (pl:Nat),.int .i64 4,.string ⟨#[59]⟩] W2 _ from ris_any en B s W2 HPw.out pl 4 semiT)
 clear hws hn HL hpl hpi
 by_cases h0:n=0
 ·have HR:Hid (R= .error pl):=by show _=_;rw[HN2.out,HNr.out,if_pos (.inl h0)]
  have e0:((n:Int)==0)=true:=by simp;omega
  clear HN2 HNr h0
  go_wp2_with fail
  go_ret2
  rw[HR.out]
  exact⟨rfl,HPw.out,HBw.out⟩
 ·have e0:((n:Int)==0)=false:=by simp;omega
  cases hi:isR s.rest pl 4 semiT with
  |false=>
   have HR:Hid (R= .error pl):=by show _=_;rw[HN2.out,HNr.out,if_pos (.inr hi)]
   rw[hi]at HIs
   clear HN2 HNr h0 hi
   go_wp2_with(go_at_call 132;(with_reducible refine HIs.out.mono ?_);rintro e w' ⟨rfl,rfl⟩)
   go_ret2
   rw[HR.out]
   exact⟨rfl,HPw.out,HBw.out⟩
  |true=>
   have HR:Hid (R= .ok (pl+1,addK dropT tag s.pol ws)):=by
    show _=_
    rw[HN2.out,HNr.out,if_neg (by rintro(h|h);exact h0 h;rw[hi]at h;cases h)]
    simp only
    rw[HNn.out,HPl.out]
   rw[hi]at HIs
   obtain⟨bw,ow,rfl⟩: ∃bw ow,Aw=some ⟨bw,ow,none⟩:=by
    obtain⟨_,_,A,c,e,h4⟩:=Rd.own HO.out
    cases e
    obtain⟨b,off,e,_⟩:=h4 (by omega)
    exact⟨b,off,e⟩
   have hbd:fN s.pol 3+n<=40000:=by have:=HSm.out.rows 3;omega
   have hbw:W.heap.size<=bw:=(HO.out.lt bw rfl).1
   have HAp:Hid (∀v b,W2.cell? ⟨B,3,none⟩=some v->v.ownBlock=some b->b≠bw):=by
    show ∀v b,_
    intro v b hv hb
    obtain⟨u,hu,hou⟩:=HP.out.row 3 (by omega)
    have h9:W2.cell? ⟨B,3,none⟩=some u:=(HB2.out.cell (p:=⟨B,3,none⟩) hlt).trans hu
    rw[hv]at h9
    cases h9
    have:=(hou.lt b hb).2
    omega
   clear HN2 HNr hi hwl h0 HP HB2
   go_wp2_with(go_at_call 132;(with_reducible refine HIs.out.mono ?_);rintro e w' ⟨rfl,rfl⟩)
   clear HIs e0
   go_loopw [10] (fun i wr=> ∃k,k<=n/\i= .int .i64 (k:Nat)/\Hid (RPar en B ⟨s.rest,addK dropT tag s.pol (ws.take k),s.told⟩ wr)/\Hid (wr.ownsRow W.heap.size 9 1 (.slice (some ⟨bw,ow,none⟩) n cw) n (ws.map sv))/\Hid (∀v b,wr.cell? ⟨B,3,none⟩=some v->v.ownBlock=some b->b≠bw)/\Hid (Below B W wr)) (fun i _=>n-(intOf i).toNat)
   case atStart=>exact⟨0,by omega,rfl,by show RPar _ _ _ _;rw[List.take_zero,addK3_nil];exact HPw.out,HO.out,HAp.out,HBw.out⟩
   case round=>
    clear HPw HO HAp HBw
    obtain⟨k,hk,rfl,HPk,HOk,HAk,HBk⟩:=hrel
    by_cases hlt3:k<n
    rotate_left
    ·have HE:Hid (ws.take k=ws):=List.take_of_length_le (by rw[HNn.out];omega)
     go_wp2_with fail
     go_ret2
     rw[HR.out]
     rw[HE.out]at HPk
     exact⟨by simp,HPk.out,HBk.out⟩
    have hks:k<ws.length:=by rw[HNn.out];exact hlt3
    obtain⟨w,hw⟩: ∃w,ws[k]=w:=⟨_,rfl⟩
    have htk:ws.take (k+1)=ws.take k++[w]:=by rw[List.take_succ_eq_append_getElem hks,hw]
    have hcw:wr.cell? ⟨bw,ow+k,none⟩=some (sv w):=by
     obtain⟨_,_,A,c,e,h4⟩:=Rd.own HOk.out
     cases e
     obtain⟨b,off,e,_,hc⟩:=h4 (by omega)
     cases e
     exact hc k (sv w) (by simp[hks,hw])
    have hbwr:bw<wr.heap.size:=World.block_lt_of_cell? wr _ hcw
    have HTk:=Lib.hid htk
    have HSw:Hid (sv w= .string ⟨w.toArray⟩):=rfl
    rw[HSw.out]at hcw
    generalize(⟨w.toArray⟩:ByteArray)=ts at*
    obtain⟨v4,hv4,hov⟩:=HPk.out.row 3 (by omega)
    have hln:fN (addK dropT tag s.pol (ws.take k)) 3=fN s.pol 3+k:=by rw[addK3_len,List.length_take];omega
    have hov2:wr.ownsRow (B+1) 9 1 v4 (fN (addK dropT tag s.pol (ws.take k)) 3) (fC (addK dropT tag s.pol (ws.take k)) 3):=hov
    obtain⟨m,hm⟩: ∃m,fN (addK dropT tag s.pol (ws.take k)) 3=m:=⟨_,rfl⟩
    rw[hm]at hov2
    have HM:=Lib.hid hm
    have hm9:m<=40000:=by omega
    have HOv:=Lib.hid hov2
    obtain⟨A4,c4,rfl,_⟩:=own_cap hov2
    have hl4:=HPk.out.lt
    have hz:=HPk.out.fz 3
    have h26:wr.cell? ⟨B,3,none⟩=some (.slice A4 m c4):=hv4
    have hM4: ∀b,(Value.slice A4 m c4).ownBlock=some b->B+1<=b/\b≠bw:=fun b hb=>⟨(HOv.out.lt b hb).1,HAk.out _ b h26 hb⟩
    have HM4:=Lib.hid hM4
    clear hov hov2 hm hln htk hw hv4 hM4
    have i1:(0:Int)<=(k:Int):=by omega
    have i2:(k:Int)<(n:Int):=by omega
    go_upto_region 24 with fail
    have hdr:Below wr.heap.size wr wr.drew:=bel
    refine wp_region_row 12 [(0,true),(1,true),(2,true),(3,true),(4,true),(5,true),(6,true),(7,true),(8,true),(9,true),(10,false),(11,false)] (fun V=>V.cell? ⟨B,3,none⟩=some (.slice A4 m c4)/\V.cell? ⟨bw,ow+k,none⟩=some (.string ts)) hmx (by kernel_rfl) (by kernel_rfl) (by kernel_rfl) (by decide) rfl (fun c a d v w h=>by obtain⟨x,y⟩:=(h:_/\_);cases d<;>exact⟨x,y⟩) (by kernel_rfl) (by exact⟨h26,hcw⟩) ?_
    refine wpRow_readD (v:= .pointer (some ⟨B,0,none⟩)) 107 rfl rfl rfl (fun W hW=>by simp[execOp,go_sem]) ?_
    simp only[Act.put,List.setIfInBounds_toArray,List.set_cons_succ,List.set_cons_zero]
    refine wpRow_readD (v:= .pointer (some ⟨B,0,none⟩)) 108 rfl rfl rfl (fun W hW=>by simp[execOp,go_sem]) ?_
    simp only[Act.put,List.setIfInBounds_toArray,List.set_cons_succ,List.set_cons_zero]
    refine wpRow_readD (v:= .pointer (some ⟨B,0,none⟩)) 109 rfl rfl rfl (fun W hW=>by simp[execOp,go_sem]) ?_
    simp only[Act.put,List.setIfInBounds_toArray,List.set_cons_succ,List.set_cons_zero]
    refine wpRow_readD (v:= .pointer (some ⟨B,0,none⟩)) 110 rfl rfl rfl (fun W hW=>by simp[execOp,go_sem]) ?_
    simp only[Act.put,List.setIfInBounds_toArray,List.set_cons_succ,List.set_cons_zero]
    refine wpRow_readD (v:= .pointer (some ⟨B,3,none⟩)) 111 rfl rfl rfl (fun W hW=>by simp[execOp,go_sem]) ?_
    simp only[Act.put,List.setIfInBounds_toArray,List.set_cons_succ,List.set_cons_zero]
    refine wpRow_readD (v:= .slice A4 m c4) 112 rfl rfl rfl (fun W hW=>by simp[execOp,go_sem,hW.1]) ?_
    simp only[Act.put,List.setIfInBounds_toArray,List.set_cons_succ,List.set_cons_zero]
    refine wpRow_readD (v:= .slice (some ⟨bw,ow,none⟩) n cw) 113 rfl rfl rfl (fun W hW=>by simp[execOp,go_sem]) ?_
    simp only[Act.put,List.setIfInBounds_toArray,List.set_cons_succ,List.set_cons_zero]
    refine wpRow_readD (v:= .int .i64 (k:Nat)) 114 rfl rfl rfl (fun W hW=>by simp[execOp,go_sem]) ?_
    simp only[Act.put,List.setIfInBounds_toArray,List.set_cons_succ,List.set_cons_zero]
    refine wpRow_readD (v:= .pointer (some ⟨bw,ow+k,none⟩)) 115 rfl rfl rfl (fun W hW=>by simp[execOp,go_sem]<;>omega) ?_
    simp only[Act.put,List.setIfInBounds_toArray,List.set_cons_succ,List.set_cons_zero]
    refine wpRow_readD (v:= .string ts) 116 rfl rfl rfl (fun W hW=>by simp[execOp,go_sem,hW.2]) ?_
    simp only[Act.put,List.setIfInBounds_toArray,List.set_cons_succ,List.set_cons_zero]
    refine wpRow_op rfl rfl fun Kc hKc=> ?_
    unfold Oper.wp
    simp[execOp,go_sem]
    apply hKc
    have hb5:Below wr.heap.size wr (wr.drew.alloc (.cells #[.string ts] 9)):=bel
    refine⟨⟨(hb5.cell (p:=⟨B,3,none⟩) hl4).trans h26,(hb5.cell (p:=⟨bw,ow+k,none⟩) hbwr).trans hcw⟩, ?_⟩
    refine wpRow_op rfl rfl fun Kc hKc=> ?_
    refine op_at (n:=m) (size:=1) (xs:=fC (addK dropT tag s.pol (ws.take k)) 3) (v:= .slice A4 m c4) _ _ 36 rfl sltS (B+1) rfl ((own_keep HOv.out hdr).alloc _) (by simp[go_sem]<;>omega) ⟨wr.heap.size,0,none⟩ 1 1 [.string ts] rfl (new_cells (c:= #[.string ts]) (by simp[go_sem])) rfl (by simp[Value.oneCell']) (by unfold maxLen;omega) (by omega) ?_
    intro v6 W6 ho6 hg6 hat6
    obtain⟨A6,c6,rfl,_⟩:=own_cap ho6
    have hgT:Turned (fun b=>(Value.slice A4 m c4).ownBlock=some b) (wr.drew.alloc (.cells #[.string ts] 9)) W6:=⟨hg6.os,hg6.tape,hg6.output,hg6.size,fun k hk hn=>hg6.block k hk (fun e=>hn e.symm)⟩
    have hT6:Turned (fun b=>(Value.slice A4 m c4).ownBlock=some b) wr W6:=(Turned.of_below hb5).trans hgT
    have hnM: ¬(Value.slice A4 m c4).ownBlock=some B:=fun e=>by have:=(HM4.out _ e).1;omega
    have hnb: ¬(Value.slice A4 m c4).ownBlock=some bw:=fun e=>(HM4.out _ e).2 rfl
    have k6:=(World.cell?_of_block (a:=⟨B,3,none⟩) (hT6.block _ hl4 hnM)).trans h26
    have kw:=(World.cell?_of_block (a:=⟨bw,ow+k,none⟩) (hT6.block _ hbwr hnb)).trans hcw
    have kf:=(World.frozen?_of_block (a:=⟨B,3,none⟩) (hT6.block _ hl4 hnM)).trans hz
    apply hKc
    refine⟨⟨k6,kw⟩, ?_⟩
    simp only[Act.put,List.setIfInBounds_toArray]
    have HT6:=Lib.hid hT6
    have HO6:=Lib.hid ho6
    have HA6:=Lib.hid hat6
    have hsz5:=hb5.size
    clear hg6 hgT hnM ho6 hat6 hb5 hT6 hdr
    dsimp only[wpRow,List.drop]
    go_wp2_with fail
    go_roundw
    case rel=>
     have e9:=addK3_row tag s.pol (ws.take k) w
     have h9:=HPk.out.put (j:=3) (s':=⟨s.rest,addK dropT tag s.pol (ws.take (k+1)),s.told⟩) (by omega) h26 HT6.out (by show World.ownsRow _ _ _ _ _ (fN (addK dropT tag s.pol (ws.take (k+1))) 3) (fC (addK dropT tag s.pol (ws.take (k+1))) 3);rw[HTk.out,e9.1,e9.2,HM.out,HSw.out];exact HO6.out) (HA6.out.imp (fun h=>h) (fun h=>⟨_,h,by simp[go_sem]⟩)) (fun i hi hij=>psj (s:=⟨s.rest,addK dropT tag s.pol (ws.take k),s.told⟩) (addK3_rest tag s.pol (ws.take k) (ws.take (k+1)) i hij)) rfl (by simp only[addK3]) (by simp only[addK3]) (by simp only[addK3]) (by simp only[addK3])
     refine⟨k+1,by omega,by go_num,h9.1, ?_, ?_,HBk.out.trans h9.2.1⟩
     ·show World.ownsRow _ _ _ _ _ _ _
      have ho1:=own_turned HT6.out HOk.out (fun b hb hx=>(HM4.out b hx).2 (Option.some.inj hb).symm)
      exact own_turned (Turned.setCell (pv:=fun b=>b=B) (p:=⟨B,3,none⟩) (Turned.refl _ W6) (.inr rfl) _) ho1 (fun b hb hx=>by have:=(HOk.out.lt b hb).1;omega)
     ·show ∀v b,_
      intro v b hv hb
      have hs6:(W6.setCell ⟨B,3,none⟩ (.slice A6 (m+1) c6)).cell? ⟨B,3,none⟩=some (.slice A6 (m+1) c6):=World.cell?_setCell_same _ _ _ k6
      rw[hs6]at hv
      cases hv
      rcases HA6.out with h|h
      ·exact(HM4.out b (h ▸ hb)).2
      ·rw[h]at hb
       have:=Option.some.inj hb
       simp[go_sem]at this
       omega
    case measure=>simp[intOf];omega
theorem addK4 (tag:Bs) (p:Pol) (ws:List Bs):addK attrsT tag p ws={p with attrs:=p.attrs++ws.map (fun n=>⟨tag,n⟩)}:=by
 unfold addK
 rw[if_neg (by decide)]
 rw[if_neg (by decide)]
 rw[if_neg (by decide)]
 rw[if_neg (by decide)]
theorem addK4_row (tag:Bs) (p:Pol) (ws:List Bs) (w:Bs):fN (addK attrsT tag p (ws++[w])) 4=fN (addK attrsT tag p ws) 4+1/\fC (addK attrsT tag p (ws++[w])) 4=fC (addK attrsT tag p ws) 4++[sv tag,sv w]:=by
 rw[addK4,addK4]
 constructor
 ·simp[fN];try omega
 ·simp[fC,Alw.cells]
theorem addK4_rest (tag:Bs) (p:Pol) (ws us:List Bs) (i:Nat) (hi:i≠4):fN (addK attrsT tag p us) i=fN (addK attrsT tag p ws) i/\fC (addK attrsT tag p us) i=fC (addK attrsT tag p ws) i:=by
 rw[addK4,addK4]
 match i,hi with
 |0,_=>exact⟨rfl,rfl⟩
 |1,_=>exact⟨rfl,rfl⟩
 |2,_=>exact⟨rfl,rfl⟩
 |3,_=>exact⟨rfl,rfl⟩
 |4,h=>exact absurd rfl h
 |5,_=>exact⟨rfl,rfl⟩
 |i+6,_=>exact⟨rfl,rfl⟩
theorem addK4_nil (tag:Bs) (p:Pol):addK attrsT tag p []=p:=by rw[addK4];simp
theorem addK4_len (tag:Bs) (p:Pol) (ws:List Bs):fN (addK attrsT tag p ws) 4=fN p 4+ws.length:=by rw[addK4];simp[fN]
theorem rnames4_any (en B:Nat) (s:Ps) (W:World) (h:RPar en B s W) (hs:PsSm s):
  Calls Tryz.prog 86 #[.pointer (some ⟨B,0,none⟩),.string ⟨attrsT.toArray⟩] W (NamesEnd en B s W (nmR attrsT s.rest s.pol)):=by
 have hmx:Tryz.prog.follows .mixedOrders=true:=by kernel_rfl
 have HP:=Lib.hid h
 have hlt:=h.lt
 have HSm:=Lib.hid hs
 have hr9:=hs.rest
 obtain⟨kd,hkd⟩: ∃kd,(⟨attrsT.toArray⟩:ByteArray)=kd:=⟨_,rfl⟩
 have hkl:kd.toList=[97,116,116,114,115]:=by rw[<-hkd,ByteArray.toList_eq];rfl
 rw[hkd]
 obtain⟨R,hR⟩: ∃R,nmR attrsT s.rest s.pol=R:=⟨_,rfl⟩
 have HN:Hid (R=match listR attrsT s.rest with
  | .error i=> .error i
  | .ok (tag,b)=>match namesR s.rest b with
   | .error i=> .error i
   | .ok ws=> .ok (b+ws.length+1,addK attrsT tag s.pol ws)):=by show _=_;rw[<-hR];rfl
 rw[hR]
 clear hR hkd hs h
 have HI:=Lib.hid (fun(i k:Nat) (t:Bs)=>ris_any en B s W HP.out i k t)
 have HI1:=Lib.hid (show Calls Tryz.prog 132 #[.pointer (some ⟨B,0,none⟩),.int .i64 1,.int .i64 1,.string ⟨#[]⟩] W _ from HI.out 1 1 [])
 have HI2:=Lib.hid (show Calls Tryz.prog 132 #[.pointer (some ⟨B,0,none⟩),.int .i64 1,.int .i64 4,.string ⟨#[42]⟩] W _ from HI.out 1 4 [42])
 have HI3:=Lib.hid (show Calls Tryz.prog 132 #[.pointer (some ⟨B,0,none⟩),.int .i64 2,.int .i64 4,.string ⟨#[58]⟩] W _ from HI.out 2 4 [58])
 have HLi:Hid (listR attrsT s.rest=match headR s.rest with
  | .error i=> .error i
  | .ok t=> .ok (t,3)):=rfl
 have HHd:Hid (headR s.rest=if(!isR s.rest 1 1 []&& !isR s.rest 1 4 [42])=true then .error 1 else if isR s.rest 2 4 [58]=false then .error 2 else .ok (textR s.rest 1)):=rfl
 obtain⟨D1,hD1⟩: ∃D,isR s.rest 1 1 []=D:=⟨_,rfl⟩
 obtain⟨D2,hD2⟩: ∃D,isR s.rest 1 4 [42]=D:=⟨_,rfl⟩
 obtain⟨D3,hD3⟩: ∃D,isR s.rest 2 4 [58]=D:=⟨_,rfl⟩
 have hin:(D1||D2)=true->1<s.rest.length:=by
  intro hd
  rcases Nat.lt_or_ge 1 s.rest.length with h|h
  ·exact h
  ·rw[<-hD1,<-hD2,isR_out h,isR_out h]at hd;cases hd
 rw[hD1]at HI1 HHd
 rw[hD2]at HI2 HHd
 rw[hD3]at HI3 HHd
 clear HI hD1 hD2 hD3
 by_cases hh:(D1||D2)=true
 rotate_left
 ·obtain⟨rfl,rfl⟩:=Bool.or_eq_false_iff.1 (Bool.eq_false_iff.2 hh)
  have HR:Hid (R= .error 1):=by show _=_;rw[HN.out,HLi.out,HHd.out];rfl
  clear HN HLi HHd hh hin
  go_enter Tryz.func86,Tryz.ntmps86
  go_wp2_with(first|(go_at_call 132;(with_reducible refine HI1.out.mono ?_);rintro e w' ⟨rfl,rfl⟩)|(go_at_call 132;(with_reducible refine HI2.out.mono ?_);rintro e w' ⟨rfl,rfl⟩))
  go_ret2
  rw[HR.out]
  exact⟨rfl,HP.out,Below.refl _ _⟩
 have hlen:=hin hh
 have HH2:Hid (headR s.rest=if D3=false then .error 2 else .ok (textR s.rest 1)):=by
  show _=_
  rw[HHd.out,if_neg (by revert hh;cases D1<;>cases D2<;>simp)]
 obtain⟨A,c,hc,_,A',c',he,_,hrd,_⟩:=HP.out.rest
 cases he
 obtain⟨b1,o1,rfl,hb1,x0,x1,x2⟩:=Rd.lxAt hrd 1 hlen
 have htx:s.rest[1].text=textR s.rest 1:=by unfold textR;rw[List.drop_eq_getElem_cons hlen]
 rw[htx]at x2
 obtain⟨tag,htag⟩: ∃tag,textR s.rest 1=tag:=⟨_,rfl⟩
 rw[htag]at x2 HH2
 generalize s.rest[1].kind=xk at*
 generalize s.rest[1].at_=xa at*
 have HTg:Hid (sv tag= .string ⟨tag.toArray⟩):=rfl
 obtain⟨tg,htg⟩: ∃tg,(⟨tag.toArray⟩:ByteArray)=tg:=⟨_,rfl⟩
 rw[htg]at x2 HTg
 obtain⟨nl,hnl⟩: ∃nl,s.rest.length=nl:=⟨_,rfl⟩
 rw[hnl]at hc hlen
 have hx2:W.cell? ⟨b1,o1+3+2,none⟩=some (.string tg):=x2
 have hL1:(1:Int)<nl:=by omega
 clear HHd hrd htx htag htg hin x0 x1 x2 hnl
 cases D3 with
 |false=>
  have HR:Hid (R= .error 2):=by show _=_;rw[HN.out,HLi.out,HH2.out];rfl
  clear HN HLi HH2
  revert hh
  cases D1<;>cases D2<;>intro hh
  ·cases hh
  all_goals
   clear hh
   go_enter Tryz.func86,Tryz.ntmps86
   go_wp2_with(first|(go_at_call 132;(with_reducible refine HI1.out.mono ?_);rintro e w' ⟨rfl,rfl⟩)|(go_at_call 132;(with_reducible refine HI2.out.mono ?_);rintro e w' ⟨rfl,rfl⟩)|(go_at_call 132;(with_reducible refine HI3.out.mono ?_);rintro e w' ⟨rfl,rfl⟩))
   go_ret2
   rw[HR.out]
   exact⟨rfl,HP.out,Below.refl _ _⟩
 |true=>
  have HN2:Hid (R=match namesR s.rest 3 with
   | .error i=> .error i
   | .ok ws=> .ok (3+ws.length+1,addK attrsT tag s.pol ws)):=by show _=_;rw[HN.out,HLi.out,HH2.out];rfl
  have HL:=Lib.hid (show Calls Tryz.prog 133 #[.pointer (some ⟨B,0,none⟩),.int .i64 3] W _ from rlist_any en B s W HP.out 3 (by omega) (by omega))
  clear HN HLi HH2
  revert hh
  cases D1<;>cases D2<;>intro hh
  ·cases hh
  all_goals
   clear hh
   go_enter Tryz.func86,Tryz.ntmps86
   go_upto_region 11 with(first|(go_at_call 132;(with_reducible refine HI1.out.mono ?_);rintro e w' ⟨rfl,rfl⟩)|(go_at_call 132;(with_reducible refine HI2.out.mono ?_);rintro e w' ⟨rfl,rfl⟩)|(go_at_call 132;(with_reducible refine HI3.out.mono ?_);rintro e w' ⟨rfl,rfl⟩)|(go_at_call 133;(with_reducible refine HL.out.mono ?_);rintro e W2 ⟨v,rfl,ho,hb2⟩;have HO:=Lib.hid ho;have HB2:=Lib.hid hb2;obtain⟨Aw,cw,rfl,_⟩:=own_cap ho;clear ho hb2))
   clear hc hx2 hb1
   have HPw:=Lib.hid (HP.out.grown HB2.out)
   have HBw:=Lib.hid (HB2.out.mono (Nat.le_of_lt hlt))
   have hlt2:B<W2.heap.size:=Nat.lt_of_lt_of_le hlt HB2.out.size
   have HNr:Hid (namesR s.rest 3=if(wordsR s.rest 3).length=0\/isR s.rest (3+(wordsR s.rest 3).length) 4 semiT=false then .error (3+(wordsR s.rest 3).length)else .ok (wordsR s.rest 3)):=rfl
   have hwl:(wordsR s.rest 3).length<=s.rest.length:=by
    unfold wordsR;rw[List.length_map]
    refine Nat.le_trans (List.takeWhile_prefix _).length_le ?_
    rw[List.length_drop];omega
   obtain⟨ws,hws⟩: ∃ws,wordsR s.rest 3=ws:=⟨_,rfl⟩
   have HWs:=Lib.hid hws
   rw[hws]at HO HNr hwl
   obtain⟨n,hn⟩: ∃n,ws.length=n:=⟨_,rfl⟩
   have HNn:=Lib.hid hn
   try rw[hws]
   rw[hn]at HO HNr hwl ⊢
   obtain⟨pl,hpl⟩: ∃pl,3+n=pl:=⟨_,rfl⟩
   have HPl:=Lib.hid hpl
   have hpl9:pl<=20000:=by omega
   rw[hpl]at HNr
   have hpi:(3:Int)+(n:Int)=(pl:Int):=by omega
   rw[hpi]
   have HIs:=Lib.hid (show Calls Tryz.prog 132 #[.pointer (some ⟨B,0,none⟩),.int .i64 (pl:Nat),.int .i64 4,.string ⟨#[59]⟩] W2 _ from ris_any en B s W2 HPw.out pl 4 semiT)
   clear hws hn HL hpl hpi
   by_cases h0:n=0
   ·have HR:Hid (R= .error pl):=by show _=_;rw[HN2.out,HNr.out,if_pos (.inl h0)]
    have e0:((n:Int)==0)=true:=by simp;omega
    clear HN2 HNr h0
    go_wp2_with fail
    go_ret2
    rw[HR.out]
    exact⟨rfl,HPw.out,HBw.out⟩
   ·have e0:((n:Int)==0)=false:=by simp;omega
    cases hi:isR s.rest pl 4 semiT with
    |false=>
     have HR:Hid (R= .error pl):=by show _=_;rw[HN2.out,HNr.out,if_pos (.inr hi)]
     rw[hi]at HIs
     clear HN2 HNr h0 hi
     go_wp2_with(go_at_call 132;(with_reducible refine HIs.out.mono ?_);rintro e w' ⟨rfl,rfl⟩)
     go_ret2
     rw[HR.out]
     exact⟨rfl,HPw.out,HBw.out⟩
    |true=>
     have HR:Hid (R= .ok (pl+1,addK attrsT tag s.pol ws)):=by
      show _=_
      rw[HN2.out,HNr.out,if_neg (by rintro(h|h);exact h0 h;rw[hi]at h;cases h)]
      simp only
      rw[HNn.out,HPl.out]
     rw[hi]at HIs
     obtain⟨bw,ow,rfl⟩: ∃bw ow,Aw=some ⟨bw,ow,none⟩:=by
      obtain⟨_,_,A,c,e,h4⟩:=Rd.own HO.out
      cases e
      obtain⟨b,off,e,_⟩:=h4 (by omega)
      exact⟨b,off,e⟩
     have hbd:fN s.pol 4+n<=40000:=by have:=HSm.out.rows 4;omega
     have hbw:W.heap.size<=bw:=(HO.out.lt bw rfl).1
     have HAp:Hid (∀v b,W2.cell? ⟨B,4,none⟩=some v->v.ownBlock=some b->b≠bw):=by
      show ∀v b,_
      intro v b hv hb
      obtain⟨u,hu,hou⟩:=HP.out.row 4 (by omega)
      have h9:W2.cell? ⟨B,4,none⟩=some u:=(HB2.out.cell (p:=⟨B,4,none⟩) hlt).trans hu
      rw[hv]at h9
      cases h9
      have:=(hou.lt b hb).2
      omega
     clear HN2 HNr hi hwl h0 HP HB2
     go_wp2_with(go_at_call 132;(with_reducible refine HIs.out.mono ?_);rintro e w' ⟨rfl,rfl⟩)
     clear HIs e0
     go_loopw [10] (fun i wr=> ∃k,k<=n/\i= .int .i64 (k:Nat)/\Hid (RPar en B ⟨s.rest,addK attrsT tag s.pol (ws.take k),s.told⟩ wr)/\Hid (wr.ownsRow W.heap.size 9 1 (.slice (some ⟨bw,ow,none⟩) n cw) n (ws.map sv))/\Hid (∀v b,wr.cell? ⟨B,4,none⟩=some v->v.ownBlock=some b->b≠bw)/\Hid (Below B W wr)) (fun i _=>n-(intOf i).toNat)
     case atStart=>exact⟨0,by omega,rfl,by show RPar _ _ _ _;rw[List.take_zero,addK4_nil];exact HPw.out,HO.out,HAp.out,HBw.out⟩
     case round=>
      clear HPw HO HAp HBw
      obtain⟨k,hk,rfl,HPk,HOk,HAk,HBk⟩:=hrel
      by_cases hlt3:k<n
      rotate_left
      ·have HE:Hid (ws.take k=ws):=List.take_of_length_le (by rw[HNn.out];omega)
       go_wp2_with fail
       go_ret2
       rw[HR.out]
       rw[HE.out]at HPk
       exact⟨by simp,HPk.out,HBk.out⟩
      have hks:k<ws.length:=by rw[HNn.out];exact hlt3
      obtain⟨w,hw⟩: ∃w,ws[k]=w:=⟨_,rfl⟩
      have htk:ws.take (k+1)=ws.take k++[w]:=by rw[List.take_succ_eq_append_getElem hks,hw]
      have hcw:wr.cell? ⟨bw,ow+k,none⟩=some (sv w):=by
       obtain⟨_,_,A,c,e,h4⟩:=Rd.own HOk.out
       cases e
       obtain⟨b,off,e,_,hc⟩:=h4 (by omega)
       cases e
       exact hc k (sv w) (by simp[hks,hw])
      have hbwr:bw<wr.heap.size:=World.block_lt_of_cell? wr _ hcw
      have HTk:=Lib.hid htk
      have HSw:Hid (sv w= .string ⟨w.toArray⟩):=rfl
      rw[HSw.out]at hcw
      generalize(⟨w.toArray⟩:ByteArray)=ts at*
      obtain⟨v4,hv4,hov⟩:=HPk.out.row 4 (by omega)
      have hln:fN (addK attrsT tag s.pol (ws.take k)) 4=fN s.pol 4+k:=by rw[addK4_len,List.length_take];omega
      have hov2:wr.ownsRow (B+1) 65 2 v4 (fN (addK attrsT tag s.pol (ws.take k)) 4) (fC (addK attrsT tag s.pol (ws.take k)) 4):=hov
      obtain⟨m,hm⟩: ∃m,fN (addK attrsT tag s.pol (ws.take k)) 4=m:=⟨_,rfl⟩
      rw[hm]at hov2
      have HM:=Lib.hid hm
      have hm9:m<=40000:=by omega
      have HOv:=Lib.hid hov2
      obtain⟨A4,c4,rfl,_⟩:=own_cap hov2
      have hl4:=HPk.out.lt
      have hz:=HPk.out.fz 4
      have h26:wr.cell? ⟨B,4,none⟩=some (.slice A4 m c4):=hv4
      have hM4: ∀b,(Value.slice A4 m c4).ownBlock=some b->B+1<=b/\b≠bw:=fun b hb=>⟨(HOv.out.lt b hb).1,HAk.out _ b h26 hb⟩
      have HM4:=Lib.hid hM4
      clear hov hov2 hm hln htk hw hv4 hM4
      have i1:(0:Int)<=(k:Int):=by omega
      have i2:(k:Int)<(n:Int):=by omega
      go_upto_region 26 with fail
      have hdr:Below wr.heap.size wr wr.drew:=bel
      refine wp_region_row 14 [(0,true),(1,true),(2,true),(3,true),(4,true),(5,true),(6,true),(7,true),(8,true),(9,true),(10,true),(11,true),(12,false),(13,false)] (fun V=>V.cell? ⟨B,4,none⟩=some (.slice A4 m c4)/\V.cell? ⟨bw,ow+k,none⟩=some (.string ts)) hmx (by kernel_rfl) (by kernel_rfl) (by kernel_rfl) (by decide) rfl (fun c a d v w h=>by obtain⟨x,y⟩:=(h:_/\_);cases d<;>exact⟨x,y⟩) (by kernel_rfl) (by exact⟨h26,hcw⟩) ?_
      refine wpRow_readD (v:= .pointer (some ⟨B,0,none⟩)) 124 rfl rfl rfl (fun W hW=>by simp[execOp,go_sem]) ?_
      simp only[Act.put,List.setIfInBounds_toArray,List.set_cons_succ,List.set_cons_zero]
      refine wpRow_readD (v:= .pointer (some ⟨B,0,none⟩)) 125 rfl rfl rfl (fun W hW=>by simp[execOp,go_sem]) ?_
      simp only[Act.put,List.setIfInBounds_toArray,List.set_cons_succ,List.set_cons_zero]
      refine wpRow_readD (v:= .pointer (some ⟨B,0,none⟩)) 126 rfl rfl rfl (fun W hW=>by simp[execOp,go_sem]) ?_
      simp only[Act.put,List.setIfInBounds_toArray,List.set_cons_succ,List.set_cons_zero]
      refine wpRow_readD (v:= .pointer (some ⟨B,0,none⟩)) 127 rfl rfl rfl (fun W hW=>by simp[execOp,go_sem]) ?_
      simp only[Act.put,List.setIfInBounds_toArray,List.set_cons_succ,List.set_cons_zero]
      refine wpRow_readD (v:= .pointer (some ⟨B,4,none⟩)) 128 rfl rfl rfl (fun W hW=>by simp[execOp,go_sem]) ?_
      simp only[Act.put,List.setIfInBounds_toArray,List.set_cons_succ,List.set_cons_zero]
      refine wpRow_readD (v:= .slice A4 m c4) 129 rfl rfl rfl (fun W hW=>by simp[execOp,go_sem,hW.1]) ?_
      simp only[Act.put,List.setIfInBounds_toArray,List.set_cons_succ,List.set_cons_zero]
      refine wpRow_readD (v:= .string tg) 130 rfl rfl rfl (fun W hW=>by simp[execOp,go_sem]) ?_
      simp only[Act.put,List.setIfInBounds_toArray,List.set_cons_succ,List.set_cons_zero]
      refine wpRow_readD (v:= .slice (some ⟨bw,ow,none⟩) n cw) 131 rfl rfl rfl (fun W hW=>by simp[execOp,go_sem]) ?_
      simp only[Act.put,List.setIfInBounds_toArray,List.set_cons_succ,List.set_cons_zero]
      refine wpRow_readD (v:= .int .i64 (k:Nat)) 132 rfl rfl rfl (fun W hW=>by simp[execOp,go_sem]) ?_
      simp only[Act.put,List.setIfInBounds_toArray,List.set_cons_succ,List.set_cons_zero]
      refine wpRow_readD (v:= .pointer (some ⟨bw,ow+k,none⟩)) 133 rfl rfl rfl (fun W hW=>by simp[execOp,go_sem]<;>omega) ?_
      simp only[Act.put,List.setIfInBounds_toArray,List.set_cons_succ,List.set_cons_zero]
      refine wpRow_readD (v:= .string ts) 134 rfl rfl rfl (fun W hW=>by simp[execOp,go_sem,hW.2]) ?_
      simp only[Act.put,List.setIfInBounds_toArray,List.set_cons_succ,List.set_cons_zero]
      refine wpRow_readD (v:= .agg #[.string tg,.string ts]) 135 rfl rfl rfl (fun W hW=>by simp[execOp,go_sem]) ?_
      simp only[Act.put,List.setIfInBounds_toArray,List.set_cons_succ,List.set_cons_zero]
      refine wpRow_op rfl rfl fun Kc hKc=> ?_
      unfold Oper.wp
      simp[execOp,go_sem]
      apply hKc
      have hb5:Below wr.heap.size wr (wr.drew.alloc (.cells #[.string tg,.string ts] 65)):=bel
      refine⟨⟨(hb5.cell (p:=⟨B,4,none⟩) hl4).trans h26,(hb5.cell (p:=⟨bw,ow+k,none⟩) hbwr).trans hcw⟩, ?_⟩
      refine wpRow_op rfl rfl fun Kc hKc=> ?_
      refine op_at (n:=m) (size:=2) (xs:=fC (addK attrsT tag s.pol (ws.take k)) 4) (v:= .slice A4 m c4) _ _ 37 rfl sltA (B+1) rfl ((own_keep HOv.out hdr).alloc _) (by simp[go_sem]<;>omega) ⟨wr.heap.size,0,none⟩ 1 1 [.string tg,.string ts] rfl (new_cells (c:= #[.string tg,.string ts]) (by simp[go_sem])) rfl (by simp[Value.oneCell']) (by unfold maxLen;omega) (by omega) ?_
      intro v6 W6 ho6 hg6 hat6
      obtain⟨A6,c6,rfl,_⟩:=own_cap ho6
      have hgT:Turned (fun b=>(Value.slice A4 m c4).ownBlock=some b) (wr.drew.alloc (.cells #[.string tg,.string ts] 65)) W6:=⟨hg6.os,hg6.tape,hg6.output,hg6.size,fun k hk hn=>hg6.block k hk (fun e=>hn e.symm)⟩
      have hT6:Turned (fun b=>(Value.slice A4 m c4).ownBlock=some b) wr W6:=(Turned.of_below hb5).trans hgT
      have hnM: ¬(Value.slice A4 m c4).ownBlock=some B:=fun e=>by have:=(HM4.out _ e).1;omega
      have hnb: ¬(Value.slice A4 m c4).ownBlock=some bw:=fun e=>(HM4.out _ e).2 rfl
      have k6:=(World.cell?_of_block (a:=⟨B,4,none⟩) (hT6.block _ hl4 hnM)).trans h26
      have kw:=(World.cell?_of_block (a:=⟨bw,ow+k,none⟩) (hT6.block _ hbwr hnb)).trans hcw
      have kf:=(World.frozen?_of_block (a:=⟨B,4,none⟩) (hT6.block _ hl4 hnM)).trans hz
      apply hKc
      refine⟨⟨k6,kw⟩, ?_⟩
      simp only[Act.put,List.setIfInBounds_toArray]
      have HT6:=Lib.hid hT6
      have HO6:=Lib.hid ho6
      have HA6:=Lib.hid hat6
      have hsz5:=hb5.size
      clear hg6 hgT hnM ho6 hat6 hb5 hT6 hdr
      dsimp only[wpRow,List.drop]
      go_wp2_with fail
      go_roundw
      case rel=>
       have e9:=addK4_row tag s.pol (ws.take k) w
       have h9:=HPk.out.put (j:=4) (s':=⟨s.rest,addK attrsT tag s.pol (ws.take (k+1)),s.told⟩) (by omega) h26 HT6.out (by show World.ownsRow _ _ _ _ _ (fN (addK attrsT tag s.pol (ws.take (k+1))) 4) (fC (addK attrsT tag s.pol (ws.take (k+1))) 4);rw[HTk.out,e9.1,e9.2,HM.out,HTg.out,HSw.out];exact HO6.out) (HA6.out.imp (fun h=>h) (fun h=>⟨_,h,by simp[go_sem]⟩)) (fun i hi hij=>psj (s:=⟨s.rest,addK attrsT tag s.pol (ws.take k),s.told⟩) (addK4_rest tag s.pol (ws.take k) (ws.take (k+1)) i hij)) rfl (by simp only[addK4]) (by simp only[addK4]) (by simp only[addK4]) (by simp only[addK4])
       refine⟨k+1,by omega,by go_num,h9.1, ?_, ?_,HBk.out.trans h9.2.1⟩
       ·show World.ownsRow _ _ _ _ _ _ _
        have ho1:=own_turned HT6.out HOk.out (fun b hb hx=>(HM4.out b hx).2 (Option.some.inj hb).symm)
        exact own_turned (Turned.setCell (pv:=fun b=>b=B) (p:=⟨B,4,none⟩) (Turned.refl _ W6) (.inr rfl) _) ho1 (fun b hb hx=>by have:=(HOk.out.lt b hb).1;omega)
       ·show ∀v b,_
        intro v b hv hb
        have hs6:(W6.setCell ⟨B,4,none⟩ (.slice A6 (m+1) c6)).cell? ⟨B,4,none⟩=some (.slice A6 (m+1) c6):=World.cell?_setCell_same _ _ _ k6
        rw[hs6]at hv
        cases hv
        rcases HA6.out with h|h
        ·exact(HM4.out b (h ▸ hb)).2
        ·rw[h]at hb
         have:=Option.some.inj hb
         simp[go_sem]at this
         omega
      case measure=>simp[intOf];omega
end Go.Proofs.YtbhhgbgfaemfdaaGreat

