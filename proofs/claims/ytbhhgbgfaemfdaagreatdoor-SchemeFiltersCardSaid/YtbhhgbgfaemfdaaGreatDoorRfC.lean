/- The walk of the reference's parser: names. (written by gen_rnames.py) -/
import Derived.Test.YtbhhgbgfaemfdaaGreatDoorRfB
namespace Go.Proofs.YtbhhgbgfaemfdaaGreatDoor
open Lib renaming hid→z2g
open List renaming length_drop→z2p,length_map→z4n,length_take→z2u,setIfInBounds_toArray→z2d,set_cons_succ→z2f,set_cons_zero→z2e,takeWhile_prefix→z36,take_of_length_le→z2o,take_succ_eq_append_getElem→z28,take_zero→z4q
open Nat renaming le_of_lt→z3b,le_trans→z2k,lt_of_lt_of_le→z2h
open Option renaming some→z3n
set_option maxRecDepth 100000
set_option maxHeartbeats 4000000
open Go.RowKit
attribute [local go_sem] Oper.semAt_some
theorem zf2 {W W1:World} {B:Nat} {e:TypeId} {size:Nat} {v:Value} {n:Nat} {xs:List Value} (h:W.ownsRow B e size v n xs) (hb:Below W.heap.size W W1):W1.ownsRow B e size v n xs:=by
 obtain⟨X,rfl⟩:=za0 hb
 exact zg3 h X
def zcy (en B:Nat) (s:Ps) (W:World) (r:Except Nat (Nat × Pol)) (e:Ending) (w':World):Prop:=match r with
 | .error i=>e= .returned (.tuple #[.int .i64 (-1),.int .i64 i])/\RPar en B s w'/\Below B W w'
 | .ok (n,q)=>e= .returned (.tuple #[.int .i64 n,.int .i64 0])/\RPar en B ⟨s.rest,q,s.told⟩ w'/\Below B W w'
theorem psj {s:Ps} {q:Pol} {i:Nat} (h:fN q i=fN s.pol i/\fC q i=fC s.pol i):rN ⟨s.rest,q,s.told⟩ i=rN s i/\rX ⟨s.rest,q,s.told⟩ i=rX s i:=by
 unfold rN rX
 split
 ·exact⟨rfl,rfl⟩
 ·exact h
theorem zkx (tag:Bs) (p:Pol) (ws:List Bs):addK zb4 tag p ws={p with tags:=p.tags++ws}:=by
 unfold addK
 rw[if_pos rfl]
theorem zyh (tag:Bs) (p:Pol) (ws:List Bs) (w:Bs):fN (addK zb4 tag p (ws++[w])) 0=fN (addK zb4 tag p ws) 0+1/\fC (addK zb4 tag p (ws++[w])) 0=fC (addK zb4 tag p ws) 0++[sv w]:=by
 rw[zkx,zkx]
 constructor
 ·simp[fN];try omega
 ·simp[fC]
theorem zud (tag:Bs) (p:Pol) (ws us:List Bs) (i:Nat) (hi:i≠0):fN (addK zb4 tag p us) i=fN (addK zb4 tag p ws) i/\fC (addK zb4 tag p us) i=fC (addK zb4 tag p ws) i:=by
 rw[zkx,zkx]
 match i,hi with
 |0,h=>exact absurd rfl h
 |1,_=>exact⟨rfl,rfl⟩
 |2,_=>exact⟨rfl,rfl⟩
 |3,_=>exact⟨rfl,rfl⟩
 |4,_=>exact⟨rfl,rfl⟩
 |5,_=>exact⟨rfl,rfl⟩
 |i+6,_=>exact⟨rfl,rfl⟩
theorem zyi (tag:Bs) (p:Pol):addK zb4 tag p []=p:=by rw[zkx];simp
theorem zyj (tag:Bs) (p:Pol) (ws:List Bs):fN (addK zb4 tag p ws) 0=fN p 0+ws.length:=by rw[zkx];simp[fN]
theorem zpw (en B:Nat) (s:Ps) (W:World) (h:RPar en B s W) (hs:PsSm s):
  Calls Tryz.prog 93 #[.pointer (some ⟨B,0,none⟩),.string ⟨zb4.toArray⟩] W (zcy en B s W (nmR zb4 s.rest s.pol)):=by
 have hmx:Tryz.prog.follows .mixedOrders=true:=by kernel_rfl
 have HP:=z2g h
 have hlt:=h.lt
 have HSm:=z2g hs
 have hr9:=hs.rest
 obtain⟨kd,hkd⟩: ∃kd,(⟨zb4.toArray⟩:ByteArray)=kd:=⟨_,rfl⟩
 have hkl:kd.toList=[116,97,103,115]:=by rw[<-hkd,ByteArray.toList_eq];rfl
 rw[hkd]
 obtain⟨R,hR⟩: ∃R,nmR zb4 s.rest s.pol=R:=⟨_,rfl⟩
 have HN:Hid (R=match zhw zb4 s.rest with
  | .error i=> .error i
  | .ok (tag,b)=>match zbn s.rest b with
   | .error i=> .error i
   | .ok ws=> .ok (b+ws.length+1,addK zb4 tag s.pol ws)):=by show _=_;rw[<-hR];rfl
 rw[hR]
 clear hR hkd hs h
 have HN2:Hid (R=match zbn s.rest 1 with
  | .error i=> .error i
  | .ok ws=> .ok (1+ws.length+1,addK zb4 [] s.pol ws)):=HN.out
 obtain⟨tag,htag⟩: ∃tag:Bs,tag=[]:=⟨_,rfl⟩
 have HL:=z2g (show Calls Tryz.prog 158 #[.pointer (some ⟨B,0,none⟩),.int .i64 1] W _ from zfo en B s W HP.out 1 (by omega) (by omega))
 rw[<-htag]at HN2
 clear HN htag
 go_enter Tryz.func93,Tryz.ntmps93
 go_upto_region 11 with(go_at_call 158;(with_reducible refine HL.out.mono ?_);rintro e W2 ⟨v,rfl,ho,hb2⟩;have HO:=z2g ho;have HB2:=z2g hb2;obtain⟨Aw,cw,rfl,_⟩:=zam ho;clear ho hb2)
 have HPw:=z2g (HP.out.grown HB2.out)
 have HBw:=z2g (HB2.out.mono (z3b hlt))
 have hlt2:B<W2.heap.size:=z2h hlt HB2.out.size
 have HNr:Hid (zbn s.rest 1=if(za2 s.rest 1).length=0\/isR s.rest (1+(za2 s.rest 1).length) 4 zbr=false then .error (1+(za2 s.rest 1).length)else .ok (za2 s.rest 1)):=rfl
 have hwl:(za2 s.rest 1).length<=s.rest.length:=by
  unfold za2;rw[z4n]
  refine z2k (z36 _).length_le ?_
  rw[z2p];omega
 obtain⟨ws,hws⟩: ∃ws,za2 s.rest 1=ws:=⟨_,rfl⟩
 have HWs:=z2g hws
 rw[hws]at HO HNr hwl
 obtain⟨n,hn⟩: ∃n,ws.length=n:=⟨_,rfl⟩
 have HNn:=z2g hn
 try rw[hws]
 rw[hn]at HO HNr hwl ⊢
 obtain⟨pl,hpl⟩: ∃pl,1+n=pl:=⟨_,rfl⟩
 have HPl:=z2g hpl
 have hpl9:pl<=20000:=by omega
 rw[hpl]at HNr
 have hpi:(1:Int)+(n:Int)=(pl:Int):=by omega
 rw[hpi]
 have HIs:=z2g (show Calls Tryz.prog 157 #[.pointer (some ⟨B,0,none⟩),.int .i64 (pl:Nat),.int .i64 4,.string ⟨#[59]⟩] W2 _ from zdb en B s W2 HPw.out pl 4 zbr)
 clear hws hn HL hpl hpi
 by_cases h0:n=0
 ·have HR:Hid (R= .error pl):=by show _=_;rw[HN2.out,HNr.out,if_pos (.inl h0)]
  have e0:((n:Int)==0)=true:=by simp;omega
  clear HN2 HNr h0
  go_wp2_with fail
  go_ret2
  rw[HR.out]
  exact⟨rfl,HPw.out,HBw.out⟩
 ·have e0:((n:Int)==0)=false:=by simp;omega
  cases hi:isR s.rest pl 4 zbr with
  |false=>
   have HR:Hid (R= .error pl):=by show _=_;rw[HN2.out,HNr.out,if_pos (.inr hi)]
   rw[hi]at HIs
   clear HN2 HNr h0 hi
   go_wp2_with(go_at_call 157;(with_reducible refine HIs.out.mono ?_);rintro e w' ⟨rfl,rfl⟩)
   go_ret2
   rw[HR.out]
   exact⟨rfl,HPw.out,HBw.out⟩
  |true=>
   have HR:Hid (R= .ok (pl+1,addK zb4 tag s.pol ws)):=by
    show _=_
    rw[HN2.out,HNr.out,if_neg (by rintro(h|h);exact h0 h;rw[hi]at h;cases h)]
    simp only
    rw[HNn.out,HPl.out]
   rw[hi]at HIs
   obtain⟨bw,ow,rfl⟩: ∃bw ow,Aw=some ⟨bw,ow,none⟩:=by
    obtain⟨_,_,A,c,e,h4⟩:=Rd.own HO.out
    cases e
    obtain⟨b,off,e,_⟩:=h4 (by omega)
    exact⟨b,off,e⟩
   have hbd:fN s.pol 0+n<=40000:=by have:=HSm.out.rows 0;omega
   have hbw:W.heap.size<=bw:=(HO.out.lt bw rfl).1
   have HAp:Hid (∀v b,W2.cell? ⟨B,0,none⟩=some v->v.ownBlock=some b->b≠bw):=by
    show ∀v b,_
    intro v b hv hb
    obtain⟨u,hu,hou⟩:=HP.out.row 0 (by omega)
    have h9:W2.cell? ⟨B,0,none⟩=some u:=(HB2.out.cell (p:=⟨B,0,none⟩) hlt).trans hu
    rw[hv]at h9
    cases h9
    have:=(hou.lt b hb).2
    omega
   clear HN2 HNr hi hwl h0 HP HB2
   go_wp2_with(go_at_call 157;(with_reducible refine HIs.out.mono ?_);rintro e w' ⟨rfl,rfl⟩)
   clear HIs e0
   go_loopw [10] (fun i wr=> ∃k,k<=n/\i= .int .i64 (k:Nat)/\Hid (RPar en B ⟨s.rest,addK zb4 tag s.pol (ws.take k),s.told⟩ wr)/\Hid (wr.ownsRow W.heap.size 9 1 (.slice (some ⟨bw,ow,none⟩) n cw) n (ws.map sv))/\Hid (∀v b,wr.cell? ⟨B,0,none⟩=some v->v.ownBlock=some b->b≠bw)/\Hid (Below B W wr)) (fun i _=>n-(intOf i).toNat)
   case atStart=>exact⟨0,by omega,rfl,by show RPar _ _ _ _;rw[z4q,zyi];exact HPw.out,HO.out,HAp.out,HBw.out⟩
   case round=>
    clear HPw HO HAp HBw
    obtain⟨k,hk,rfl,HPk,HOk,HAk,HBk⟩:=hrel
    by_cases hlt3:k<n
    rotate_left
    ·have HE:Hid (ws.take k=ws):=z2o (by rw[HNn.out];omega)
     go_wp2_with fail
     go_ret2
     rw[HR.out]
     rw[HE.out]at HPk
     exact⟨by simp,HPk.out,HBk.out⟩
    have hks:k<ws.length:=by rw[HNn.out];exact hlt3
    obtain⟨w,hw⟩: ∃w,ws[k]=w:=⟨_,rfl⟩
    have htk:ws.take (k+1)=ws.take k++[w]:=by rw[z28 hks,hw]
    have hcw:wr.cell? ⟨bw,ow+k,none⟩=some (sv w):=by
     obtain⟨_,_,A,c,e,h4⟩:=Rd.own HOk.out
     cases e
     obtain⟨b,off,e,_,hc⟩:=h4 (by omega)
     cases e
     exact hc k (sv w) (by simp[hks,hw])
    have hbwr:bw<wr.heap.size:=World.block_lt_of_cell? wr _ hcw
    have HTk:=z2g htk
    have HSw:Hid (sv w= .string ⟨w.toArray⟩):=rfl
    rw[HSw.out]at hcw
    generalize(⟨w.toArray⟩:ByteArray)=ts at*
    obtain⟨v4,hv4,hov⟩:=HPk.out.row 0 (by omega)
    have hln:fN (addK zb4 tag s.pol (ws.take k)) 0=fN s.pol 0+k:=by rw[zyj,z2u];omega
    have hov2:wr.ownsRow (B+1) 9 1 v4 (fN (addK zb4 tag s.pol (ws.take k)) 0) (fC (addK zb4 tag s.pol (ws.take k)) 0):=hov
    obtain⟨m,hm⟩: ∃m,fN (addK zb4 tag s.pol (ws.take k)) 0=m:=⟨_,rfl⟩
    rw[hm]at hov2
    have HM:=z2g hm
    have hm9:m<=40000:=by omega
    have HOv:=z2g hov2
    obtain⟨A4,c4,rfl,_⟩:=zam hov2
    have hl4:=HPk.out.lt
    have hz:=HPk.out.fz 0
    have h26:wr.cell? ⟨B,0,none⟩=some (.slice A4 m c4):=hv4
    have hM4: ∀b,(Value.slice A4 m c4).ownBlock=some b->B+1<=b/\b≠bw:=fun b hb=>⟨(HOv.out.lt b hb).1,HAk.out _ b h26 hb⟩
    have HM4:=z2g hM4
    clear hov hov2 hm hln htk hw hv4 hM4
    have i1:(0:Int)<=(k:Int):=by omega
    have i2:(k:Int)<(n:Int):=by omega
    go_upto_region 18 with fail
    have hdr:Below wr.heap.size wr wr.drew:=bel
    refine zai 12 [(0,true),(1,true),(2,true),(3,true),(4,true),(5,true),(6,true),(7,true),(8,true),(9,true),(10,false),(11,false)] (fun V=>V.cell? ⟨B,0,none⟩=some (.slice A4 m c4)/\V.cell? ⟨bw,ow+k,none⟩=some (.string ts)) hmx (by kernel_rfl) (by kernel_rfl) (by kernel_rfl) (by decide) rfl (fun c a d v w h=>by obtain⟨x,y⟩:=(h:_/\_);cases d<;>exact⟨x,y⟩) (by kernel_rfl) (by exact⟨h26,hcw⟩) ?_
    refine zaa (v:= .pointer (some ⟨B,0,none⟩)) 56 rfl rfl rfl (fun W hW=>by simp[execOp,go_sem]) ?_
    simp only[Act.put,z2d,z2f,z2e]
    refine zaa (v:= .pointer (some ⟨B,0,none⟩)) 57 rfl rfl rfl (fun W hW=>by simp[execOp,go_sem]) ?_
    simp only[Act.put,z2d,z2f,z2e]
    refine zaa (v:= .pointer (some ⟨B,0,none⟩)) 58 rfl rfl rfl (fun W hW=>by simp[execOp,go_sem]) ?_
    simp only[Act.put,z2d,z2f,z2e]
    refine zaa (v:= .pointer (some ⟨B,0,none⟩)) 59 rfl rfl rfl (fun W hW=>by simp[execOp,go_sem]) ?_
    simp only[Act.put,z2d,z2f,z2e]
    refine zaa (v:= .pointer (some ⟨B,0,none⟩)) 60 rfl rfl rfl (fun W hW=>by simp[execOp,go_sem]) ?_
    simp only[Act.put,z2d,z2f,z2e]
    refine zaa (v:= .slice A4 m c4) 61 rfl rfl rfl (fun W hW=>by simp[execOp,go_sem,hW.1]) ?_
    simp only[Act.put,z2d,z2f,z2e]
    refine zaa (v:= .slice (some ⟨bw,ow,none⟩) n cw) 62 rfl rfl rfl (fun W hW=>by simp[execOp,go_sem]) ?_
    simp only[Act.put,z2d,z2f,z2e]
    refine zaa (v:= .int .i64 (k:Nat)) 63 rfl rfl rfl (fun W hW=>by simp[execOp,go_sem]) ?_
    simp only[Act.put,z2d,z2f,z2e]
    refine zaa (v:= .pointer (some ⟨bw,ow+k,none⟩)) 64 rfl rfl rfl (fun W hW=>by simp[execOp,go_sem]<;>omega) ?_
    simp only[Act.put,z2d,z2f,z2e]
    refine zaa (v:= .string ts) 65 rfl rfl rfl (fun W hW=>by simp[execOp,go_sem,hW.2]) ?_
    simp only[Act.put,z2d,z2f,z2e]
    refine zaj rfl rfl fun Kc hKc=> ?_
    unfold Oper.wp
    simp[execOp,go_sem]
    apply hKc
    have hb5:Below wr.heap.size wr (wr.drew.alloc (.cells #[.string ts] 9)):=bel
    refine⟨⟨(hb5.cell (p:=⟨B,0,none⟩) hl4).trans h26,(hb5.cell (p:=⟨bw,ow+k,none⟩) hbwr).trans hcw⟩, ?_⟩
    refine zaj rfl rfl fun Kc hKc=> ?_
    refine zjr (n:=m) (size:=1) (xs:=fC (addK zb4 tag s.pol (ws.take k)) 0) (v:= .slice A4 m c4) _ _ 39 rfl sltS (B+1) rfl ((zf2 HOv.out hdr).alloc _) (by simp[go_sem]<;>omega) ⟨wr.heap.size,0,none⟩ 1 1 [.string ts] rfl (zan (c:= #[.string ts]) (by simp[go_sem])) rfl (by simp[Value.oneCell']) (by unfold maxLen;omega) (by omega) ?_
    intro v6 W6 ho6 hg6 hat6
    obtain⟨A6,c6,rfl,_⟩:=zam ho6
    have hgT:zac (fun b=>(Value.slice A4 m c4).ownBlock=some b) (wr.drew.alloc (.cells #[.string ts] 9)) W6:=⟨hg6.os,hg6.tape,hg6.output,hg6.size,fun k hk hn=>hg6.block k hk (fun e=>hn e.symm)⟩
    have hT6:zac (fun b=>(Value.slice A4 m c4).ownBlock=some b) wr W6:=(zac.of_below hb5).trans hgT
    have hnM: ¬(Value.slice A4 m c4).ownBlock=some B:=fun e=>by have:=(HM4.out _ e).1;omega
    have hnb: ¬(Value.slice A4 m c4).ownBlock=some bw:=fun e=>(HM4.out _ e).2 rfl
    have k6:=(World.cell?_of_block (a:=⟨B,0,none⟩) (hT6.block _ hl4 hnM)).trans h26
    have kw:=(World.cell?_of_block (a:=⟨bw,ow+k,none⟩) (hT6.block _ hbwr hnb)).trans hcw
    have kf:=(World.frozen?_of_block (a:=⟨B,0,none⟩) (hT6.block _ hl4 hnM)).trans hz
    apply hKc
    refine⟨⟨k6,kw⟩, ?_⟩
    simp only[Act.put,z2d]
    have HT6:=z2g hT6
    have HO6:=z2g ho6
    have HA6:=z2g hat6
    have hsz5:=hb5.size
    clear hg6 hgT hnM ho6 hat6 hb5 hT6 hdr
    dsimp only[zbe,List.drop]
    go_wp2_with fail
    go_roundw
    case rel=>
     have e9:=zyh tag s.pol (ws.take k) w
     have h9:=HPk.out.put (j:=0) (s':=⟨s.rest,addK zb4 tag s.pol (ws.take (k+1)),s.told⟩) (by omega) h26 HT6.out (by show World.ownsRow _ _ _ _ _ (fN (addK zb4 tag s.pol (ws.take (k+1))) 0) (fC (addK zb4 tag s.pol (ws.take (k+1))) 0);rw[HTk.out,e9.1,e9.2,HM.out,HSw.out];exact HO6.out) (HA6.out.imp (fun h=>h) (fun h=>⟨_,h,by simp[go_sem]⟩)) (fun i hi hij=>psj (s:=⟨s.rest,addK zb4 tag s.pol (ws.take k),s.told⟩) (zud tag s.pol (ws.take k) (ws.take (k+1)) i hij)) rfl (by simp only[zkx]) (by simp only[zkx]) (by simp only[zkx]) (by simp only[zkx])
     refine⟨k+1,by omega,by go_num,h9.1, ?_, ?_,HBk.out.trans h9.2.1⟩
     ·show World.ownsRow _ _ _ _ _ _ _
      have ho1:=zbb HT6.out HOk.out (fun b hb hx=>(HM4.out b hx).2 (z3n.inj hb).symm)
      exact zbb (zac.setCell (pv:=fun b=>b=B) (p:=⟨B,0,none⟩) (zac.refl _ W6) (.inr rfl) _) ho1 (fun b hb hx=>by have:=(HOk.out.lt b hb).1;omega)
     ·show ∀v b,_
      intro v b hv hb
      have hs6:(W6.setCell ⟨B,0,none⟩ (.slice A6 (m+1) c6)).cell? ⟨B,0,none⟩=some (.slice A6 (m+1) c6):=World.cell?_setCell_same _ _ _ k6
      rw[hs6]at hv
      cases hv
      rcases HA6.out with h|h
      ·exact(HM4.out b (h ▸ hb)).2
      ·rw[h]at hb
       have:=z3n.inj hb
       simp[go_sem]at this
       omega
    case measure=>simp[intOf];omega
theorem zkw (tag:Bs) (p:Pol) (ws:List Bs):addK zau tag p ws={p with schemes:=p.schemes++ws}:=by
 unfold addK
 rw[if_neg (by decide)]
 rw[if_pos rfl]
theorem zye (tag:Bs) (p:Pol) (ws:List Bs) (w:Bs):fN (addK zau tag p (ws++[w])) 1=fN (addK zau tag p ws) 1+1/\fC (addK zau tag p (ws++[w])) 1=fC (addK zau tag p ws) 1++[sv w]:=by
 rw[zkw,zkw]
 constructor
 ·simp[fN];try omega
 ·simp[fC]
theorem zuc (tag:Bs) (p:Pol) (ws us:List Bs) (i:Nat) (hi:i≠1):fN (addK zau tag p us) i=fN (addK zau tag p ws) i/\fC (addK zau tag p us) i=fC (addK zau tag p ws) i:=by
 rw[zkw,zkw]
 match i,hi with
 |0,_=>exact⟨rfl,rfl⟩
 |1,h=>exact absurd rfl h
 |2,_=>exact⟨rfl,rfl⟩
 |3,_=>exact⟨rfl,rfl⟩
 |4,_=>exact⟨rfl,rfl⟩
 |5,_=>exact⟨rfl,rfl⟩
 |i+6,_=>exact⟨rfl,rfl⟩
theorem zyf (tag:Bs) (p:Pol):addK zau tag p []=p:=by rw[zkw];simp
theorem zyg (tag:Bs) (p:Pol) (ws:List Bs):fN (addK zau tag p ws) 1=fN p 1+ws.length:=by rw[zkw];simp[fN]
theorem zpv (en B:Nat) (s:Ps) (W:World) (h:RPar en B s W) (hs:PsSm s):
  Calls Tryz.prog 93 #[.pointer (some ⟨B,0,none⟩),.string ⟨zau.toArray⟩] W (zcy en B s W (nmR zau s.rest s.pol)):=by
 have hmx:Tryz.prog.follows .mixedOrders=true:=by kernel_rfl
 have HP:=z2g h
 have hlt:=h.lt
 have HSm:=z2g hs
 have hr9:=hs.rest
 obtain⟨kd,hkd⟩: ∃kd,(⟨zau.toArray⟩:ByteArray)=kd:=⟨_,rfl⟩
 have hkl:kd.toList=[115,99,104,101,109,101,115]:=by rw[<-hkd,ByteArray.toList_eq];rfl
 rw[hkd]
 obtain⟨R,hR⟩: ∃R,nmR zau s.rest s.pol=R:=⟨_,rfl⟩
 have HN:Hid (R=match zhw zau s.rest with
  | .error i=> .error i
  | .ok (tag,b)=>match zbn s.rest b with
   | .error i=> .error i
   | .ok ws=> .ok (b+ws.length+1,addK zau tag s.pol ws)):=by show _=_;rw[<-hR];rfl
 rw[hR]
 clear hR hkd hs h
 have HN2:Hid (R=match zbn s.rest 1 with
  | .error i=> .error i
  | .ok ws=> .ok (1+ws.length+1,addK zau [] s.pol ws)):=HN.out
 obtain⟨tag,htag⟩: ∃tag:Bs,tag=[]:=⟨_,rfl⟩
 have HL:=z2g (show Calls Tryz.prog 158 #[.pointer (some ⟨B,0,none⟩),.int .i64 1] W _ from zfo en B s W HP.out 1 (by omega) (by omega))
 rw[<-htag]at HN2
 clear HN htag
 go_enter Tryz.func93,Tryz.ntmps93
 go_upto_region 11 with(go_at_call 158;(with_reducible refine HL.out.mono ?_);rintro e W2 ⟨v,rfl,ho,hb2⟩;have HO:=z2g ho;have HB2:=z2g hb2;obtain⟨Aw,cw,rfl,_⟩:=zam ho;clear ho hb2)
 have HPw:=z2g (HP.out.grown HB2.out)
 have HBw:=z2g (HB2.out.mono (z3b hlt))
 have hlt2:B<W2.heap.size:=z2h hlt HB2.out.size
 have HNr:Hid (zbn s.rest 1=if(za2 s.rest 1).length=0\/isR s.rest (1+(za2 s.rest 1).length) 4 zbr=false then .error (1+(za2 s.rest 1).length)else .ok (za2 s.rest 1)):=rfl
 have hwl:(za2 s.rest 1).length<=s.rest.length:=by
  unfold za2;rw[z4n]
  refine z2k (z36 _).length_le ?_
  rw[z2p];omega
 obtain⟨ws,hws⟩: ∃ws,za2 s.rest 1=ws:=⟨_,rfl⟩
 have HWs:=z2g hws
 rw[hws]at HO HNr hwl
 obtain⟨n,hn⟩: ∃n,ws.length=n:=⟨_,rfl⟩
 have HNn:=z2g hn
 try rw[hws]
 rw[hn]at HO HNr hwl ⊢
 obtain⟨pl,hpl⟩: ∃pl,1+n=pl:=⟨_,rfl⟩
 have HPl:=z2g hpl
 have hpl9:pl<=20000:=by omega
 rw[hpl]at HNr
 have hpi:(1:Int)+(n:Int)=(pl:Int):=by omega
 rw[hpi]
 have HIs:=z2g (show Calls Tryz.prog 157 #[.pointer (some ⟨B,0,none⟩),.int .i64 (pl:Nat),.int .i64 4,.string ⟨#[59]⟩] W2 _ from zdb en B s W2 HPw.out pl 4 zbr)
 clear hws hn HL hpl hpi
 by_cases h0:n=0
 ·have HR:Hid (R= .error pl):=by show _=_;rw[HN2.out,HNr.out,if_pos (.inl h0)]
  have e0:((n:Int)==0)=true:=by simp;omega
  clear HN2 HNr h0
  go_wp2_with fail
  go_ret2
  rw[HR.out]
  exact⟨rfl,HPw.out,HBw.out⟩
 ·have e0:((n:Int)==0)=false:=by simp;omega
  cases hi:isR s.rest pl 4 zbr with
  |false=>
   have HR:Hid (R= .error pl):=by show _=_;rw[HN2.out,HNr.out,if_pos (.inr hi)]
   rw[hi]at HIs
   clear HN2 HNr h0 hi
   go_wp2_with(go_at_call 157;(with_reducible refine HIs.out.mono ?_);rintro e w' ⟨rfl,rfl⟩)
   go_ret2
   rw[HR.out]
   exact⟨rfl,HPw.out,HBw.out⟩
  |true=>
   have HR:Hid (R= .ok (pl+1,addK zau tag s.pol ws)):=by
    show _=_
    rw[HN2.out,HNr.out,if_neg (by rintro(h|h);exact h0 h;rw[hi]at h;cases h)]
    simp only
    rw[HNn.out,HPl.out]
   rw[hi]at HIs
   obtain⟨bw,ow,rfl⟩: ∃bw ow,Aw=some ⟨bw,ow,none⟩:=by
    obtain⟨_,_,A,c,e,h4⟩:=Rd.own HO.out
    cases e
    obtain⟨b,off,e,_⟩:=h4 (by omega)
    exact⟨b,off,e⟩
   have hbd:fN s.pol 1+n<=40000:=by have:=HSm.out.rows 1;omega
   have hbw:W.heap.size<=bw:=(HO.out.lt bw rfl).1
   have HAp:Hid (∀v b,W2.cell? ⟨B,1,none⟩=some v->v.ownBlock=some b->b≠bw):=by
    show ∀v b,_
    intro v b hv hb
    obtain⟨u,hu,hou⟩:=HP.out.row 1 (by omega)
    have h9:W2.cell? ⟨B,1,none⟩=some u:=(HB2.out.cell (p:=⟨B,1,none⟩) hlt).trans hu
    rw[hv]at h9
    cases h9
    have:=(hou.lt b hb).2
    omega
   clear HN2 HNr hi hwl h0 HP HB2
   go_wp2_with(go_at_call 157;(with_reducible refine HIs.out.mono ?_);rintro e w' ⟨rfl,rfl⟩)
   clear HIs e0
   go_loopw [10] (fun i wr=> ∃k,k<=n/\i= .int .i64 (k:Nat)/\Hid (RPar en B ⟨s.rest,addK zau tag s.pol (ws.take k),s.told⟩ wr)/\Hid (wr.ownsRow W.heap.size 9 1 (.slice (some ⟨bw,ow,none⟩) n cw) n (ws.map sv))/\Hid (∀v b,wr.cell? ⟨B,1,none⟩=some v->v.ownBlock=some b->b≠bw)/\Hid (Below B W wr)) (fun i _=>n-(intOf i).toNat)
   case atStart=>exact⟨0,by omega,rfl,by show RPar _ _ _ _;rw[z4q,zyf];exact HPw.out,HO.out,HAp.out,HBw.out⟩
   case round=>
    clear HPw HO HAp HBw
    obtain⟨k,hk,rfl,HPk,HOk,HAk,HBk⟩:=hrel
    by_cases hlt3:k<n
    rotate_left
    ·have HE:Hid (ws.take k=ws):=z2o (by rw[HNn.out];omega)
     go_wp2_with fail
     go_ret2
     rw[HR.out]
     rw[HE.out]at HPk
     exact⟨by simp,HPk.out,HBk.out⟩
    have hks:k<ws.length:=by rw[HNn.out];exact hlt3
    obtain⟨w,hw⟩: ∃w,ws[k]=w:=⟨_,rfl⟩
    have htk:ws.take (k+1)=ws.take k++[w]:=by rw[z28 hks,hw]
    have hcw:wr.cell? ⟨bw,ow+k,none⟩=some (sv w):=by
     obtain⟨_,_,A,c,e,h4⟩:=Rd.own HOk.out
     cases e
     obtain⟨b,off,e,_,hc⟩:=h4 (by omega)
     cases e
     exact hc k (sv w) (by simp[hks,hw])
    have hbwr:bw<wr.heap.size:=World.block_lt_of_cell? wr _ hcw
    have HTk:=z2g htk
    have HSw:Hid (sv w= .string ⟨w.toArray⟩):=rfl
    rw[HSw.out]at hcw
    generalize(⟨w.toArray⟩:ByteArray)=ts at*
    obtain⟨v4,hv4,hov⟩:=HPk.out.row 1 (by omega)
    have hln:fN (addK zau tag s.pol (ws.take k)) 1=fN s.pol 1+k:=by rw[zyg,z2u];omega
    have hov2:wr.ownsRow (B+1) 9 1 v4 (fN (addK zau tag s.pol (ws.take k)) 1) (fC (addK zau tag s.pol (ws.take k)) 1):=hov
    obtain⟨m,hm⟩: ∃m,fN (addK zau tag s.pol (ws.take k)) 1=m:=⟨_,rfl⟩
    rw[hm]at hov2
    have HM:=z2g hm
    have hm9:m<=40000:=by omega
    have HOv:=z2g hov2
    obtain⟨A4,c4,rfl,_⟩:=zam hov2
    have hl4:=HPk.out.lt
    have hz:=HPk.out.fz 1
    have h26:wr.cell? ⟨B,1,none⟩=some (.slice A4 m c4):=hv4
    have hM4: ∀b,(Value.slice A4 m c4).ownBlock=some b->B+1<=b/\b≠bw:=fun b hb=>⟨(HOv.out.lt b hb).1,HAk.out _ b h26 hb⟩
    have HM4:=z2g hM4
    clear hov hov2 hm hln htk hw hv4 hM4
    have i1:(0:Int)<=(k:Int):=by omega
    have i2:(k:Int)<(n:Int):=by omega
    go_upto_region 20 with fail
    have hdr:Below wr.heap.size wr wr.drew:=bel
    refine zai 12 [(0,true),(1,true),(2,true),(3,true),(4,true),(5,true),(6,true),(7,true),(8,true),(9,true),(10,false),(11,false)] (fun V=>V.cell? ⟨B,1,none⟩=some (.slice A4 m c4)/\V.cell? ⟨bw,ow+k,none⟩=some (.string ts)) hmx (by kernel_rfl) (by kernel_rfl) (by kernel_rfl) (by decide) rfl (fun c a d v w h=>by obtain⟨x,y⟩:=(h:_/\_);cases d<;>exact⟨x,y⟩) (by kernel_rfl) (by exact⟨h26,hcw⟩) ?_
    refine zaa (v:= .pointer (some ⟨B,0,none⟩)) 73 rfl rfl rfl (fun W hW=>by simp[execOp,go_sem]) ?_
    simp only[Act.put,z2d,z2f,z2e]
    refine zaa (v:= .pointer (some ⟨B,0,none⟩)) 74 rfl rfl rfl (fun W hW=>by simp[execOp,go_sem]) ?_
    simp only[Act.put,z2d,z2f,z2e]
    refine zaa (v:= .pointer (some ⟨B,0,none⟩)) 75 rfl rfl rfl (fun W hW=>by simp[execOp,go_sem]) ?_
    simp only[Act.put,z2d,z2f,z2e]
    refine zaa (v:= .pointer (some ⟨B,0,none⟩)) 76 rfl rfl rfl (fun W hW=>by simp[execOp,go_sem]) ?_
    simp only[Act.put,z2d,z2f,z2e]
    refine zaa (v:= .pointer (some ⟨B,1,none⟩)) 77 rfl rfl rfl (fun W hW=>by simp[execOp,go_sem]) ?_
    simp only[Act.put,z2d,z2f,z2e]
    refine zaa (v:= .slice A4 m c4) 78 rfl rfl rfl (fun W hW=>by simp[execOp,go_sem,hW.1]) ?_
    simp only[Act.put,z2d,z2f,z2e]
    refine zaa (v:= .slice (some ⟨bw,ow,none⟩) n cw) 79 rfl rfl rfl (fun W hW=>by simp[execOp,go_sem]) ?_
    simp only[Act.put,z2d,z2f,z2e]
    refine zaa (v:= .int .i64 (k:Nat)) 80 rfl rfl rfl (fun W hW=>by simp[execOp,go_sem]) ?_
    simp only[Act.put,z2d,z2f,z2e]
    refine zaa (v:= .pointer (some ⟨bw,ow+k,none⟩)) 81 rfl rfl rfl (fun W hW=>by simp[execOp,go_sem]<;>omega) ?_
    simp only[Act.put,z2d,z2f,z2e]
    refine zaa (v:= .string ts) 82 rfl rfl rfl (fun W hW=>by simp[execOp,go_sem,hW.2]) ?_
    simp only[Act.put,z2d,z2f,z2e]
    refine zaj rfl rfl fun Kc hKc=> ?_
    unfold Oper.wp
    simp[execOp,go_sem]
    apply hKc
    have hb5:Below wr.heap.size wr (wr.drew.alloc (.cells #[.string ts] 9)):=bel
    refine⟨⟨(hb5.cell (p:=⟨B,1,none⟩) hl4).trans h26,(hb5.cell (p:=⟨bw,ow+k,none⟩) hbwr).trans hcw⟩, ?_⟩
    refine zaj rfl rfl fun Kc hKc=> ?_
    refine zjr (n:=m) (size:=1) (xs:=fC (addK zau tag s.pol (ws.take k)) 1) (v:= .slice A4 m c4) _ _ 39 rfl sltS (B+1) rfl ((zf2 HOv.out hdr).alloc _) (by simp[go_sem]<;>omega) ⟨wr.heap.size,0,none⟩ 1 1 [.string ts] rfl (zan (c:= #[.string ts]) (by simp[go_sem])) rfl (by simp[Value.oneCell']) (by unfold maxLen;omega) (by omega) ?_
    intro v6 W6 ho6 hg6 hat6
    obtain⟨A6,c6,rfl,_⟩:=zam ho6
    have hgT:zac (fun b=>(Value.slice A4 m c4).ownBlock=some b) (wr.drew.alloc (.cells #[.string ts] 9)) W6:=⟨hg6.os,hg6.tape,hg6.output,hg6.size,fun k hk hn=>hg6.block k hk (fun e=>hn e.symm)⟩
    have hT6:zac (fun b=>(Value.slice A4 m c4).ownBlock=some b) wr W6:=(zac.of_below hb5).trans hgT
    have hnM: ¬(Value.slice A4 m c4).ownBlock=some B:=fun e=>by have:=(HM4.out _ e).1;omega
    have hnb: ¬(Value.slice A4 m c4).ownBlock=some bw:=fun e=>(HM4.out _ e).2 rfl
    have k6:=(World.cell?_of_block (a:=⟨B,1,none⟩) (hT6.block _ hl4 hnM)).trans h26
    have kw:=(World.cell?_of_block (a:=⟨bw,ow+k,none⟩) (hT6.block _ hbwr hnb)).trans hcw
    have kf:=(World.frozen?_of_block (a:=⟨B,1,none⟩) (hT6.block _ hl4 hnM)).trans hz
    apply hKc
    refine⟨⟨k6,kw⟩, ?_⟩
    simp only[Act.put,z2d]
    have HT6:=z2g hT6
    have HO6:=z2g ho6
    have HA6:=z2g hat6
    have hsz5:=hb5.size
    clear hg6 hgT hnM ho6 hat6 hb5 hT6 hdr
    dsimp only[zbe,List.drop]
    go_wp2_with fail
    go_roundw
    case rel=>
     have e9:=zye tag s.pol (ws.take k) w
     have h9:=HPk.out.put (j:=1) (s':=⟨s.rest,addK zau tag s.pol (ws.take (k+1)),s.told⟩) (by omega) h26 HT6.out (by show World.ownsRow _ _ _ _ _ (fN (addK zau tag s.pol (ws.take (k+1))) 1) (fC (addK zau tag s.pol (ws.take (k+1))) 1);rw[HTk.out,e9.1,e9.2,HM.out,HSw.out];exact HO6.out) (HA6.out.imp (fun h=>h) (fun h=>⟨_,h,by simp[go_sem]⟩)) (fun i hi hij=>psj (s:=⟨s.rest,addK zau tag s.pol (ws.take k),s.told⟩) (zuc tag s.pol (ws.take k) (ws.take (k+1)) i hij)) rfl (by simp only[zkw]) (by simp only[zkw]) (by simp only[zkw]) (by simp only[zkw])
     refine⟨k+1,by omega,by go_num,h9.1, ?_, ?_,HBk.out.trans h9.2.1⟩
     ·show World.ownsRow _ _ _ _ _ _ _
      have ho1:=zbb HT6.out HOk.out (fun b hb hx=>(HM4.out b hx).2 (z3n.inj hb).symm)
      exact zbb (zac.setCell (pv:=fun b=>b=B) (p:=⟨B,1,none⟩) (zac.refl _ W6) (.inr rfl) _) ho1 (fun b hb hx=>by have:=(HOk.out.lt b hb).1;omega)
     ·show ∀v b,_
      intro v b hv hb
      have hs6:(W6.setCell ⟨B,1,none⟩ (.slice A6 (m+1) c6)).cell? ⟨B,1,none⟩=some (.slice A6 (m+1) c6):=World.cell?_setCell_same _ _ _ k6
      rw[hs6]at hv
      cases hv
      rcases HA6.out with h|h
      ·exact(HM4.out b (h ▸ hb)).2
      ·rw[h]at hb
       have:=z3n.inj hb
       simp[go_sem]at this
       omega
    case measure=>simp[intOf];omega
theorem zkv (tag:Bs) (p:Pol) (ws:List Bs):addK cssT tag p ws={p with css:=p.css++ws}:=by
 unfold addK
 rw[if_neg (by decide)]
 rw[if_neg (by decide)]
 rw[if_pos rfl]
theorem zyb (tag:Bs) (p:Pol) (ws:List Bs) (w:Bs):fN (addK cssT tag p (ws++[w])) 2=fN (addK cssT tag p ws) 2+1/\fC (addK cssT tag p (ws++[w])) 2=fC (addK cssT tag p ws) 2++[sv w]:=by
 rw[zkv,zkv]
 constructor
 ·simp[fN];try omega
 ·simp[fC]
theorem zub (tag:Bs) (p:Pol) (ws us:List Bs) (i:Nat) (hi:i≠2):fN (addK cssT tag p us) i=fN (addK cssT tag p ws) i/\fC (addK cssT tag p us) i=fC (addK cssT tag p ws) i:=by
 rw[zkv,zkv]
 match i,hi with
 |0,_=>exact⟨rfl,rfl⟩
 |1,_=>exact⟨rfl,rfl⟩
 |2,h=>exact absurd rfl h
 |3,_=>exact⟨rfl,rfl⟩
 |4,_=>exact⟨rfl,rfl⟩
 |5,_=>exact⟨rfl,rfl⟩
 |i+6,_=>exact⟨rfl,rfl⟩
theorem zyc (tag:Bs) (p:Pol):addK cssT tag p []=p:=by rw[zkv];simp
theorem zyd (tag:Bs) (p:Pol) (ws:List Bs):fN (addK cssT tag p ws) 2=fN p 2+ws.length:=by rw[zkv];simp[fN]
theorem zpu (en B:Nat) (s:Ps) (W:World) (h:RPar en B s W) (hs:PsSm s):
  Calls Tryz.prog 93 #[.pointer (some ⟨B,0,none⟩),.string ⟨cssT.toArray⟩] W (zcy en B s W (nmR cssT s.rest s.pol)):=by
 have hmx:Tryz.prog.follows .mixedOrders=true:=by kernel_rfl
 have HP:=z2g h
 have hlt:=h.lt
 have HSm:=z2g hs
 have hr9:=hs.rest
 obtain⟨kd,hkd⟩: ∃kd,(⟨cssT.toArray⟩:ByteArray)=kd:=⟨_,rfl⟩
 have hkl:kd.toList=[99,115,115]:=by rw[<-hkd,ByteArray.toList_eq];rfl
 rw[hkd]
 obtain⟨R,hR⟩: ∃R,nmR cssT s.rest s.pol=R:=⟨_,rfl⟩
 have HN:Hid (R=match zhw cssT s.rest with
  | .error i=> .error i
  | .ok (tag,b)=>match zbn s.rest b with
   | .error i=> .error i
   | .ok ws=> .ok (b+ws.length+1,addK cssT tag s.pol ws)):=by show _=_;rw[<-hR];rfl
 rw[hR]
 clear hR hkd hs h
 have HN2:Hid (R=match zbn s.rest 1 with
  | .error i=> .error i
  | .ok ws=> .ok (1+ws.length+1,addK cssT [] s.pol ws)):=HN.out
 obtain⟨tag,htag⟩: ∃tag:Bs,tag=[]:=⟨_,rfl⟩
 have HL:=z2g (show Calls Tryz.prog 158 #[.pointer (some ⟨B,0,none⟩),.int .i64 1] W _ from zfo en B s W HP.out 1 (by omega) (by omega))
 rw[<-htag]at HN2
 clear HN htag
 go_enter Tryz.func93,Tryz.ntmps93
 go_upto_region 11 with(go_at_call 158;(with_reducible refine HL.out.mono ?_);rintro e W2 ⟨v,rfl,ho,hb2⟩;have HO:=z2g ho;have HB2:=z2g hb2;obtain⟨Aw,cw,rfl,_⟩:=zam ho;clear ho hb2)
 have HPw:=z2g (HP.out.grown HB2.out)
 have HBw:=z2g (HB2.out.mono (z3b hlt))
 have hlt2:B<W2.heap.size:=z2h hlt HB2.out.size
 have HNr:Hid (zbn s.rest 1=if(za2 s.rest 1).length=0\/isR s.rest (1+(za2 s.rest 1).length) 4 zbr=false then .error (1+(za2 s.rest 1).length)else .ok (za2 s.rest 1)):=rfl
 have hwl:(za2 s.rest 1).length<=s.rest.length:=by
  unfold za2;rw[z4n]
  refine z2k (z36 _).length_le ?_
  rw[z2p];omega
 obtain⟨ws,hws⟩: ∃ws,za2 s.rest 1=ws:=⟨_,rfl⟩
 have HWs:=z2g hws
 rw[hws]at HO HNr hwl
 obtain⟨n,hn⟩: ∃n,ws.length=n:=⟨_,rfl⟩
 have HNn:=z2g hn
 try rw[hws]
 rw[hn]at HO HNr hwl ⊢
 obtain⟨pl,hpl⟩: ∃pl,1+n=pl:=⟨_,rfl⟩
 have HPl:=z2g hpl
 have hpl9:pl<=20000:=by omega
 rw[hpl]at HNr
 have hpi:(1:Int)+(n:Int)=(pl:Int):=by omega
 rw[hpi]
 have HIs:=z2g (show Calls Tryz.prog 157 #[.pointer (some ⟨B,0,none⟩),.int .i64 (pl:Nat),.int .i64 4,.string ⟨#[59]⟩] W2 _ from zdb en B s W2 HPw.out pl 4 zbr)
 clear hws hn HL hpl hpi
 by_cases h0:n=0
 ·have HR:Hid (R= .error pl):=by show _=_;rw[HN2.out,HNr.out,if_pos (.inl h0)]
  have e0:((n:Int)==0)=true:=by simp;omega
  clear HN2 HNr h0
  go_wp2_with fail
  go_ret2
  rw[HR.out]
  exact⟨rfl,HPw.out,HBw.out⟩
 ·have e0:((n:Int)==0)=false:=by simp;omega
  cases hi:isR s.rest pl 4 zbr with
  |false=>
   have HR:Hid (R= .error pl):=by show _=_;rw[HN2.out,HNr.out,if_pos (.inr hi)]
   rw[hi]at HIs
   clear HN2 HNr h0 hi
   go_wp2_with(go_at_call 157;(with_reducible refine HIs.out.mono ?_);rintro e w' ⟨rfl,rfl⟩)
   go_ret2
   rw[HR.out]
   exact⟨rfl,HPw.out,HBw.out⟩
  |true=>
   have HR:Hid (R= .ok (pl+1,addK cssT tag s.pol ws)):=by
    show _=_
    rw[HN2.out,HNr.out,if_neg (by rintro(h|h);exact h0 h;rw[hi]at h;cases h)]
    simp only
    rw[HNn.out,HPl.out]
   rw[hi]at HIs
   obtain⟨bw,ow,rfl⟩: ∃bw ow,Aw=some ⟨bw,ow,none⟩:=by
    obtain⟨_,_,A,c,e,h4⟩:=Rd.own HO.out
    cases e
    obtain⟨b,off,e,_⟩:=h4 (by omega)
    exact⟨b,off,e⟩
   have hbd:fN s.pol 2+n<=40000:=by have:=HSm.out.rows 2;omega
   have hbw:W.heap.size<=bw:=(HO.out.lt bw rfl).1
   have HAp:Hid (∀v b,W2.cell? ⟨B,2,none⟩=some v->v.ownBlock=some b->b≠bw):=by
    show ∀v b,_
    intro v b hv hb
    obtain⟨u,hu,hou⟩:=HP.out.row 2 (by omega)
    have h9:W2.cell? ⟨B,2,none⟩=some u:=(HB2.out.cell (p:=⟨B,2,none⟩) hlt).trans hu
    rw[hv]at h9
    cases h9
    have:=(hou.lt b hb).2
    omega
   clear HN2 HNr hi hwl h0 HP HB2
   go_wp2_with(go_at_call 157;(with_reducible refine HIs.out.mono ?_);rintro e w' ⟨rfl,rfl⟩)
   clear HIs e0
   go_loopw [10] (fun i wr=> ∃k,k<=n/\i= .int .i64 (k:Nat)/\Hid (RPar en B ⟨s.rest,addK cssT tag s.pol (ws.take k),s.told⟩ wr)/\Hid (wr.ownsRow W.heap.size 9 1 (.slice (some ⟨bw,ow,none⟩) n cw) n (ws.map sv))/\Hid (∀v b,wr.cell? ⟨B,2,none⟩=some v->v.ownBlock=some b->b≠bw)/\Hid (Below B W wr)) (fun i _=>n-(intOf i).toNat)
   case atStart=>exact⟨0,by omega,rfl,by show RPar _ _ _ _;rw[z4q,zyc];exact HPw.out,HO.out,HAp.out,HBw.out⟩
   case round=>
    clear HPw HO HAp HBw
    obtain⟨k,hk,rfl,HPk,HOk,HAk,HBk⟩:=hrel
    by_cases hlt3:k<n
    rotate_left
    ·have HE:Hid (ws.take k=ws):=z2o (by rw[HNn.out];omega)
     go_wp2_with fail
     go_ret2
     rw[HR.out]
     rw[HE.out]at HPk
     exact⟨by simp,HPk.out,HBk.out⟩
    have hks:k<ws.length:=by rw[HNn.out];exact hlt3
    obtain⟨w,hw⟩: ∃w,ws[k]=w:=⟨_,rfl⟩
    have htk:ws.take (k+1)=ws.take k++[w]:=by rw[z28 hks,hw]
    have hcw:wr.cell? ⟨bw,ow+k,none⟩=some (sv w):=by
     obtain⟨_,_,A,c,e,h4⟩:=Rd.own HOk.out
     cases e
     obtain⟨b,off,e,_,hc⟩:=h4 (by omega)
     cases e
     exact hc k (sv w) (by simp[hks,hw])
    have hbwr:bw<wr.heap.size:=World.block_lt_of_cell? wr _ hcw
    have HTk:=z2g htk
    have HSw:Hid (sv w= .string ⟨w.toArray⟩):=rfl
    rw[HSw.out]at hcw
    generalize(⟨w.toArray⟩:ByteArray)=ts at*
    obtain⟨v4,hv4,hov⟩:=HPk.out.row 2 (by omega)
    have hln:fN (addK cssT tag s.pol (ws.take k)) 2=fN s.pol 2+k:=by rw[zyd,z2u];omega
    have hov2:wr.ownsRow (B+1) 9 1 v4 (fN (addK cssT tag s.pol (ws.take k)) 2) (fC (addK cssT tag s.pol (ws.take k)) 2):=hov
    obtain⟨m,hm⟩: ∃m,fN (addK cssT tag s.pol (ws.take k)) 2=m:=⟨_,rfl⟩
    rw[hm]at hov2
    have HM:=z2g hm
    have hm9:m<=40000:=by omega
    have HOv:=z2g hov2
    obtain⟨A4,c4,rfl,_⟩:=zam hov2
    have hl4:=HPk.out.lt
    have hz:=HPk.out.fz 2
    have h26:wr.cell? ⟨B,2,none⟩=some (.slice A4 m c4):=hv4
    have hM4: ∀b,(Value.slice A4 m c4).ownBlock=some b->B+1<=b/\b≠bw:=fun b hb=>⟨(HOv.out.lt b hb).1,HAk.out _ b h26 hb⟩
    have HM4:=z2g hM4
    clear hov hov2 hm hln htk hw hv4 hM4
    have i1:(0:Int)<=(k:Int):=by omega
    have i2:(k:Int)<(n:Int):=by omega
    go_upto_region 22 with fail
    have hdr:Below wr.heap.size wr wr.drew:=bel
    refine zai 12 [(0,true),(1,true),(2,true),(3,true),(4,true),(5,true),(6,true),(7,true),(8,true),(9,true),(10,false),(11,false)] (fun V=>V.cell? ⟨B,2,none⟩=some (.slice A4 m c4)/\V.cell? ⟨bw,ow+k,none⟩=some (.string ts)) hmx (by kernel_rfl) (by kernel_rfl) (by kernel_rfl) (by decide) rfl (fun c a d v w h=>by obtain⟨x,y⟩:=(h:_/\_);cases d<;>exact⟨x,y⟩) (by kernel_rfl) (by exact⟨h26,hcw⟩) ?_
    refine zaa (v:= .pointer (some ⟨B,0,none⟩)) 90 rfl rfl rfl (fun W hW=>by simp[execOp,go_sem]) ?_
    simp only[Act.put,z2d,z2f,z2e]
    refine zaa (v:= .pointer (some ⟨B,0,none⟩)) 91 rfl rfl rfl (fun W hW=>by simp[execOp,go_sem]) ?_
    simp only[Act.put,z2d,z2f,z2e]
    refine zaa (v:= .pointer (some ⟨B,0,none⟩)) 92 rfl rfl rfl (fun W hW=>by simp[execOp,go_sem]) ?_
    simp only[Act.put,z2d,z2f,z2e]
    refine zaa (v:= .pointer (some ⟨B,0,none⟩)) 93 rfl rfl rfl (fun W hW=>by simp[execOp,go_sem]) ?_
    simp only[Act.put,z2d,z2f,z2e]
    refine zaa (v:= .pointer (some ⟨B,2,none⟩)) 94 rfl rfl rfl (fun W hW=>by simp[execOp,go_sem]) ?_
    simp only[Act.put,z2d,z2f,z2e]
    refine zaa (v:= .slice A4 m c4) 95 rfl rfl rfl (fun W hW=>by simp[execOp,go_sem,hW.1]) ?_
    simp only[Act.put,z2d,z2f,z2e]
    refine zaa (v:= .slice (some ⟨bw,ow,none⟩) n cw) 96 rfl rfl rfl (fun W hW=>by simp[execOp,go_sem]) ?_
    simp only[Act.put,z2d,z2f,z2e]
    refine zaa (v:= .int .i64 (k:Nat)) 97 rfl rfl rfl (fun W hW=>by simp[execOp,go_sem]) ?_
    simp only[Act.put,z2d,z2f,z2e]
    refine zaa (v:= .pointer (some ⟨bw,ow+k,none⟩)) 98 rfl rfl rfl (fun W hW=>by simp[execOp,go_sem]<;>omega) ?_
    simp only[Act.put,z2d,z2f,z2e]
    refine zaa (v:= .string ts) 99 rfl rfl rfl (fun W hW=>by simp[execOp,go_sem,hW.2]) ?_
    simp only[Act.put,z2d,z2f,z2e]
    refine zaj rfl rfl fun Kc hKc=> ?_
    unfold Oper.wp
    simp[execOp,go_sem]
    apply hKc
    have hb5:Below wr.heap.size wr (wr.drew.alloc (.cells #[.string ts] 9)):=bel
    refine⟨⟨(hb5.cell (p:=⟨B,2,none⟩) hl4).trans h26,(hb5.cell (p:=⟨bw,ow+k,none⟩) hbwr).trans hcw⟩, ?_⟩
    refine zaj rfl rfl fun Kc hKc=> ?_
    refine zjr (n:=m) (size:=1) (xs:=fC (addK cssT tag s.pol (ws.take k)) 2) (v:= .slice A4 m c4) _ _ 39 rfl sltS (B+1) rfl ((zf2 HOv.out hdr).alloc _) (by simp[go_sem]<;>omega) ⟨wr.heap.size,0,none⟩ 1 1 [.string ts] rfl (zan (c:= #[.string ts]) (by simp[go_sem])) rfl (by simp[Value.oneCell']) (by unfold maxLen;omega) (by omega) ?_
    intro v6 W6 ho6 hg6 hat6
    obtain⟨A6,c6,rfl,_⟩:=zam ho6
    have hgT:zac (fun b=>(Value.slice A4 m c4).ownBlock=some b) (wr.drew.alloc (.cells #[.string ts] 9)) W6:=⟨hg6.os,hg6.tape,hg6.output,hg6.size,fun k hk hn=>hg6.block k hk (fun e=>hn e.symm)⟩
    have hT6:zac (fun b=>(Value.slice A4 m c4).ownBlock=some b) wr W6:=(zac.of_below hb5).trans hgT
    have hnM: ¬(Value.slice A4 m c4).ownBlock=some B:=fun e=>by have:=(HM4.out _ e).1;omega
    have hnb: ¬(Value.slice A4 m c4).ownBlock=some bw:=fun e=>(HM4.out _ e).2 rfl
    have k6:=(World.cell?_of_block (a:=⟨B,2,none⟩) (hT6.block _ hl4 hnM)).trans h26
    have kw:=(World.cell?_of_block (a:=⟨bw,ow+k,none⟩) (hT6.block _ hbwr hnb)).trans hcw
    have kf:=(World.frozen?_of_block (a:=⟨B,2,none⟩) (hT6.block _ hl4 hnM)).trans hz
    apply hKc
    refine⟨⟨k6,kw⟩, ?_⟩
    simp only[Act.put,z2d]
    have HT6:=z2g hT6
    have HO6:=z2g ho6
    have HA6:=z2g hat6
    have hsz5:=hb5.size
    clear hg6 hgT hnM ho6 hat6 hb5 hT6 hdr
    dsimp only[zbe,List.drop]
    go_wp2_with fail
    go_roundw
    case rel=>
     have e9:=zyb tag s.pol (ws.take k) w
     have h9:=HPk.out.put (j:=2) (s':=⟨s.rest,addK cssT tag s.pol (ws.take (k+1)),s.told⟩) (by omega) h26 HT6.out (by show World.ownsRow _ _ _ _ _ (fN (addK cssT tag s.pol (ws.take (k+1))) 2) (fC (addK cssT tag s.pol (ws.take (k+1))) 2);rw[HTk.out,e9.1,e9.2,HM.out,HSw.out];exact HO6.out) (HA6.out.imp (fun h=>h) (fun h=>⟨_,h,by simp[go_sem]⟩)) (fun i hi hij=>psj (s:=⟨s.rest,addK cssT tag s.pol (ws.take k),s.told⟩) (zub tag s.pol (ws.take k) (ws.take (k+1)) i hij)) rfl (by simp only[zkv]) (by simp only[zkv]) (by simp only[zkv]) (by simp only[zkv])
     refine⟨k+1,by omega,by go_num,h9.1, ?_, ?_,HBk.out.trans h9.2.1⟩
     ·show World.ownsRow _ _ _ _ _ _ _
      have ho1:=zbb HT6.out HOk.out (fun b hb hx=>(HM4.out b hx).2 (z3n.inj hb).symm)
      exact zbb (zac.setCell (pv:=fun b=>b=B) (p:=⟨B,2,none⟩) (zac.refl _ W6) (.inr rfl) _) ho1 (fun b hb hx=>by have:=(HOk.out.lt b hb).1;omega)
     ·show ∀v b,_
      intro v b hv hb
      have hs6:(W6.setCell ⟨B,2,none⟩ (.slice A6 (m+1) c6)).cell? ⟨B,2,none⟩=some (.slice A6 (m+1) c6):=World.cell?_setCell_same _ _ _ k6
      rw[hs6]at hv
      cases hv
      rcases HA6.out with h|h
      ·exact(HM4.out b (h ▸ hb)).2
      ·rw[h]at hb
       have:=z3n.inj hb
       simp[go_sem]at this
       omega
    case measure=>simp[intOf];omega
theorem zku (tag:Bs) (p:Pol) (ws:List Bs):addK zb5 tag p ws={p with drops:=p.drops++ws}:=by
 unfold addK
 rw[if_neg (by decide)]
 rw[if_neg (by decide)]
 rw[if_neg (by decide)]
 rw[if_pos rfl]
theorem zx8 (tag:Bs) (p:Pol) (ws:List Bs) (w:Bs):fN (addK zb5 tag p (ws++[w])) 3=fN (addK zb5 tag p ws) 3+1/\fC (addK zb5 tag p (ws++[w])) 3=fC (addK zb5 tag p ws) 3++[sv w]:=by
 rw[zku,zku]
 constructor
 ·simp[fN];try omega
 ·simp[fC]
theorem zua (tag:Bs) (p:Pol) (ws us:List Bs) (i:Nat) (hi:i≠3):fN (addK zb5 tag p us) i=fN (addK zb5 tag p ws) i/\fC (addK zb5 tag p us) i=fC (addK zb5 tag p ws) i:=by
 rw[zku,zku]
 match i,hi with
 |0,_=>exact⟨rfl,rfl⟩
 |1,_=>exact⟨rfl,rfl⟩
 |2,_=>exact⟨rfl,rfl⟩
 |3,h=>exact absurd rfl h
 |4,_=>exact⟨rfl,rfl⟩
 |5,_=>exact⟨rfl,rfl⟩
 |i+6,_=>exact⟨rfl,rfl⟩
theorem zx9 (tag:Bs) (p:Pol):addK zb5 tag p []=p:=by rw[zku];simp
theorem zya (tag:Bs) (p:Pol) (ws:List Bs):fN (addK zb5 tag p ws) 3=fN p 3+ws.length:=by rw[zku];simp[fN]
theorem zpt (en B:Nat) (s:Ps) (W:World) (h:RPar en B s W) (hs:PsSm s):
  Calls Tryz.prog 93 #[.pointer (some ⟨B,0,none⟩),.string ⟨zb5.toArray⟩] W (zcy en B s W (nmR zb5 s.rest s.pol)):=by
 have hmx:Tryz.prog.follows .mixedOrders=true:=by kernel_rfl
 have HP:=z2g h
 have hlt:=h.lt
 have HSm:=z2g hs
 have hr9:=hs.rest
 obtain⟨kd,hkd⟩: ∃kd,(⟨zb5.toArray⟩:ByteArray)=kd:=⟨_,rfl⟩
 have hkl:kd.toList=[100,114,111,112]:=by rw[<-hkd,ByteArray.toList_eq];rfl
 rw[hkd]
 obtain⟨R,hR⟩: ∃R,nmR zb5 s.rest s.pol=R:=⟨_,rfl⟩
 have HN:Hid (R=match zhw zb5 s.rest with
  | .error i=> .error i
  | .ok (tag,b)=>match zbn s.rest b with
   | .error i=> .error i
   | .ok ws=> .ok (b+ws.length+1,addK zb5 tag s.pol ws)):=by show _=_;rw[<-hR];rfl
 rw[hR]
 clear hR hkd hs h
 have HN2:Hid (R=match zbn s.rest 1 with
  | .error i=> .error i
  | .ok ws=> .ok (1+ws.length+1,addK zb5 [] s.pol ws)):=HN.out
 obtain⟨tag,htag⟩: ∃tag:Bs,tag=[]:=⟨_,rfl⟩
 have HL:=z2g (show Calls Tryz.prog 158 #[.pointer (some ⟨B,0,none⟩),.int .i64 1] W _ from zfo en B s W HP.out 1 (by omega) (by omega))
 rw[<-htag]at HN2
 clear HN htag
 go_enter Tryz.func93,Tryz.ntmps93
 go_upto_region 11 with(go_at_call 158;(with_reducible refine HL.out.mono ?_);rintro e W2 ⟨v,rfl,ho,hb2⟩;have HO:=z2g ho;have HB2:=z2g hb2;obtain⟨Aw,cw,rfl,_⟩:=zam ho;clear ho hb2)
 have HPw:=z2g (HP.out.grown HB2.out)
 have HBw:=z2g (HB2.out.mono (z3b hlt))
 have hlt2:B<W2.heap.size:=z2h hlt HB2.out.size
 have HNr:Hid (zbn s.rest 1=if(za2 s.rest 1).length=0\/isR s.rest (1+(za2 s.rest 1).length) 4 zbr=false then .error (1+(za2 s.rest 1).length)else .ok (za2 s.rest 1)):=rfl
 have hwl:(za2 s.rest 1).length<=s.rest.length:=by
  unfold za2;rw[z4n]
  refine z2k (z36 _).length_le ?_
  rw[z2p];omega
 obtain⟨ws,hws⟩: ∃ws,za2 s.rest 1=ws:=⟨_,rfl⟩
 have HWs:=z2g hws
 rw[hws]at HO HNr hwl
 obtain⟨n,hn⟩: ∃n,ws.length=n:=⟨_,rfl⟩
 have HNn:=z2g hn
 try rw[hws]
 rw[hn]at HO HNr hwl ⊢
 obtain⟨pl,hpl⟩: ∃pl,1+n=pl:=⟨_,rfl⟩
 have HPl:=z2g hpl
 have hpl9:pl<=20000:=by omega
 rw[hpl]at HNr
 have hpi:(1:Int)+(n:Int)=(pl:Int):=by omega
 rw[hpi]
 have HIs:=z2g (show Calls Tryz.prog 157 #[.pointer (some ⟨B,0,none⟩),.int .i64 (pl:Nat),.int .i64 4,.string ⟨#[59]⟩] W2 _ from zdb en B s W2 HPw.out pl 4 zbr)
 clear hws hn HL hpl hpi
 by_cases h0:n=0
 ·have HR:Hid (R= .error pl):=by show _=_;rw[HN2.out,HNr.out,if_pos (.inl h0)]
  have e0:((n:Int)==0)=true:=by simp;omega
  clear HN2 HNr h0
  go_wp2_with fail
  go_ret2
  rw[HR.out]
  exact⟨rfl,HPw.out,HBw.out⟩
 ·have e0:((n:Int)==0)=false:=by simp;omega
  cases hi:isR s.rest pl 4 zbr with
  |false=>
   have HR:Hid (R= .error pl):=by show _=_;rw[HN2.out,HNr.out,if_pos (.inr hi)]
   rw[hi]at HIs
   clear HN2 HNr h0 hi
   go_wp2_with(go_at_call 157;(with_reducible refine HIs.out.mono ?_);rintro e w' ⟨rfl,rfl⟩)
   go_ret2
   rw[HR.out]
   exact⟨rfl,HPw.out,HBw.out⟩
  |true=>
   have HR:Hid (R= .ok (pl+1,addK zb5 tag s.pol ws)):=by
    show _=_
    rw[HN2.out,HNr.out,if_neg (by rintro(h|h);exact h0 h;rw[hi]at h;cases h)]
    simp only
    rw[HNn.out,HPl.out]
   rw[hi]at HIs
   obtain⟨bw,ow,rfl⟩: ∃bw ow,Aw=some ⟨bw,ow,none⟩:=by
    obtain⟨_,_,A,c,e,h4⟩:=Rd.own HO.out
    cases e
    obtain⟨b,off,e,_⟩:=h4 (by omega)
    exact⟨b,off,e⟩
   have hbd:fN s.pol 3+n<=40000:=by have:=HSm.out.rows 3;omega
   have hbw:W.heap.size<=bw:=(HO.out.lt bw rfl).1
   have HAp:Hid (∀v b,W2.cell? ⟨B,3,none⟩=some v->v.ownBlock=some b->b≠bw):=by
    show ∀v b,_
    intro v b hv hb
    obtain⟨u,hu,hou⟩:=HP.out.row 3 (by omega)
    have h9:W2.cell? ⟨B,3,none⟩=some u:=(HB2.out.cell (p:=⟨B,3,none⟩) hlt).trans hu
    rw[hv]at h9
    cases h9
    have:=(hou.lt b hb).2
    omega
   clear HN2 HNr hi hwl h0 HP HB2
   go_wp2_with(go_at_call 157;(with_reducible refine HIs.out.mono ?_);rintro e w' ⟨rfl,rfl⟩)
   clear HIs e0
   go_loopw [10] (fun i wr=> ∃k,k<=n/\i= .int .i64 (k:Nat)/\Hid (RPar en B ⟨s.rest,addK zb5 tag s.pol (ws.take k),s.told⟩ wr)/\Hid (wr.ownsRow W.heap.size 9 1 (.slice (some ⟨bw,ow,none⟩) n cw) n (ws.map sv))/\Hid (∀v b,wr.cell? ⟨B,3,none⟩=some v->v.ownBlock=some b->b≠bw)/\Hid (Below B W wr)) (fun i _=>n-(intOf i).toNat)
   case atStart=>exact⟨0,by omega,rfl,by show RPar _ _ _ _;rw[z4q,zx9];exact HPw.out,HO.out,HAp.out,HBw.out⟩
   case round=>
    clear HPw HO HAp HBw
    obtain⟨k,hk,rfl,HPk,HOk,HAk,HBk⟩:=hrel
    by_cases hlt3:k<n
    rotate_left
    ·have HE:Hid (ws.take k=ws):=z2o (by rw[HNn.out];omega)
     go_wp2_with fail
     go_ret2
     rw[HR.out]
     rw[HE.out]at HPk
     exact⟨by simp,HPk.out,HBk.out⟩
    have hks:k<ws.length:=by rw[HNn.out];exact hlt3
    obtain⟨w,hw⟩: ∃w,ws[k]=w:=⟨_,rfl⟩
    have htk:ws.take (k+1)=ws.take k++[w]:=by rw[z28 hks,hw]
    have hcw:wr.cell? ⟨bw,ow+k,none⟩=some (sv w):=by
     obtain⟨_,_,A,c,e,h4⟩:=Rd.own HOk.out
     cases e
     obtain⟨b,off,e,_,hc⟩:=h4 (by omega)
     cases e
     exact hc k (sv w) (by simp[hks,hw])
    have hbwr:bw<wr.heap.size:=World.block_lt_of_cell? wr _ hcw
    have HTk:=z2g htk
    have HSw:Hid (sv w= .string ⟨w.toArray⟩):=rfl
    rw[HSw.out]at hcw
    generalize(⟨w.toArray⟩:ByteArray)=ts at*
    obtain⟨v4,hv4,hov⟩:=HPk.out.row 3 (by omega)
    have hln:fN (addK zb5 tag s.pol (ws.take k)) 3=fN s.pol 3+k:=by rw[zya,z2u];omega
    have hov2:wr.ownsRow (B+1) 9 1 v4 (fN (addK zb5 tag s.pol (ws.take k)) 3) (fC (addK zb5 tag s.pol (ws.take k)) 3):=hov
    obtain⟨m,hm⟩: ∃m,fN (addK zb5 tag s.pol (ws.take k)) 3=m:=⟨_,rfl⟩
    rw[hm]at hov2
    have HM:=z2g hm
    have hm9:m<=40000:=by omega
    have HOv:=z2g hov2
    obtain⟨A4,c4,rfl,_⟩:=zam hov2
    have hl4:=HPk.out.lt
    have hz:=HPk.out.fz 3
    have h26:wr.cell? ⟨B,3,none⟩=some (.slice A4 m c4):=hv4
    have hM4: ∀b,(Value.slice A4 m c4).ownBlock=some b->B+1<=b/\b≠bw:=fun b hb=>⟨(HOv.out.lt b hb).1,HAk.out _ b h26 hb⟩
    have HM4:=z2g hM4
    clear hov hov2 hm hln htk hw hv4 hM4
    have i1:(0:Int)<=(k:Int):=by omega
    have i2:(k:Int)<(n:Int):=by omega
    go_upto_region 24 with fail
    have hdr:Below wr.heap.size wr wr.drew:=bel
    refine zai 12 [(0,true),(1,true),(2,true),(3,true),(4,true),(5,true),(6,true),(7,true),(8,true),(9,true),(10,false),(11,false)] (fun V=>V.cell? ⟨B,3,none⟩=some (.slice A4 m c4)/\V.cell? ⟨bw,ow+k,none⟩=some (.string ts)) hmx (by kernel_rfl) (by kernel_rfl) (by kernel_rfl) (by decide) rfl (fun c a d v w h=>by obtain⟨x,y⟩:=(h:_/\_);cases d<;>exact⟨x,y⟩) (by kernel_rfl) (by exact⟨h26,hcw⟩) ?_
    refine zaa (v:= .pointer (some ⟨B,0,none⟩)) 107 rfl rfl rfl (fun W hW=>by simp[execOp,go_sem]) ?_
    simp only[Act.put,z2d,z2f,z2e]
    refine zaa (v:= .pointer (some ⟨B,0,none⟩)) 108 rfl rfl rfl (fun W hW=>by simp[execOp,go_sem]) ?_
    simp only[Act.put,z2d,z2f,z2e]
    refine zaa (v:= .pointer (some ⟨B,0,none⟩)) 109 rfl rfl rfl (fun W hW=>by simp[execOp,go_sem]) ?_
    simp only[Act.put,z2d,z2f,z2e]
    refine zaa (v:= .pointer (some ⟨B,0,none⟩)) 110 rfl rfl rfl (fun W hW=>by simp[execOp,go_sem]) ?_
    simp only[Act.put,z2d,z2f,z2e]
    refine zaa (v:= .pointer (some ⟨B,3,none⟩)) 111 rfl rfl rfl (fun W hW=>by simp[execOp,go_sem]) ?_
    simp only[Act.put,z2d,z2f,z2e]
    refine zaa (v:= .slice A4 m c4) 112 rfl rfl rfl (fun W hW=>by simp[execOp,go_sem,hW.1]) ?_
    simp only[Act.put,z2d,z2f,z2e]
    refine zaa (v:= .slice (some ⟨bw,ow,none⟩) n cw) 113 rfl rfl rfl (fun W hW=>by simp[execOp,go_sem]) ?_
    simp only[Act.put,z2d,z2f,z2e]
    refine zaa (v:= .int .i64 (k:Nat)) 114 rfl rfl rfl (fun W hW=>by simp[execOp,go_sem]) ?_
    simp only[Act.put,z2d,z2f,z2e]
    refine zaa (v:= .pointer (some ⟨bw,ow+k,none⟩)) 115 rfl rfl rfl (fun W hW=>by simp[execOp,go_sem]<;>omega) ?_
    simp only[Act.put,z2d,z2f,z2e]
    refine zaa (v:= .string ts) 116 rfl rfl rfl (fun W hW=>by simp[execOp,go_sem,hW.2]) ?_
    simp only[Act.put,z2d,z2f,z2e]
    refine zaj rfl rfl fun Kc hKc=> ?_
    unfold Oper.wp
    simp[execOp,go_sem]
    apply hKc
    have hb5:Below wr.heap.size wr (wr.drew.alloc (.cells #[.string ts] 9)):=bel
    refine⟨⟨(hb5.cell (p:=⟨B,3,none⟩) hl4).trans h26,(hb5.cell (p:=⟨bw,ow+k,none⟩) hbwr).trans hcw⟩, ?_⟩
    refine zaj rfl rfl fun Kc hKc=> ?_
    refine zjr (n:=m) (size:=1) (xs:=fC (addK zb5 tag s.pol (ws.take k)) 3) (v:= .slice A4 m c4) _ _ 39 rfl sltS (B+1) rfl ((zf2 HOv.out hdr).alloc _) (by simp[go_sem]<;>omega) ⟨wr.heap.size,0,none⟩ 1 1 [.string ts] rfl (zan (c:= #[.string ts]) (by simp[go_sem])) rfl (by simp[Value.oneCell']) (by unfold maxLen;omega) (by omega) ?_
    intro v6 W6 ho6 hg6 hat6
    obtain⟨A6,c6,rfl,_⟩:=zam ho6
    have hgT:zac (fun b=>(Value.slice A4 m c4).ownBlock=some b) (wr.drew.alloc (.cells #[.string ts] 9)) W6:=⟨hg6.os,hg6.tape,hg6.output,hg6.size,fun k hk hn=>hg6.block k hk (fun e=>hn e.symm)⟩
    have hT6:zac (fun b=>(Value.slice A4 m c4).ownBlock=some b) wr W6:=(zac.of_below hb5).trans hgT
    have hnM: ¬(Value.slice A4 m c4).ownBlock=some B:=fun e=>by have:=(HM4.out _ e).1;omega
    have hnb: ¬(Value.slice A4 m c4).ownBlock=some bw:=fun e=>(HM4.out _ e).2 rfl
    have k6:=(World.cell?_of_block (a:=⟨B,3,none⟩) (hT6.block _ hl4 hnM)).trans h26
    have kw:=(World.cell?_of_block (a:=⟨bw,ow+k,none⟩) (hT6.block _ hbwr hnb)).trans hcw
    have kf:=(World.frozen?_of_block (a:=⟨B,3,none⟩) (hT6.block _ hl4 hnM)).trans hz
    apply hKc
    refine⟨⟨k6,kw⟩, ?_⟩
    simp only[Act.put,z2d]
    have HT6:=z2g hT6
    have HO6:=z2g ho6
    have HA6:=z2g hat6
    have hsz5:=hb5.size
    clear hg6 hgT hnM ho6 hat6 hb5 hT6 hdr
    dsimp only[zbe,List.drop]
    go_wp2_with fail
    go_roundw
    case rel=>
     have e9:=zx8 tag s.pol (ws.take k) w
     have h9:=HPk.out.put (j:=3) (s':=⟨s.rest,addK zb5 tag s.pol (ws.take (k+1)),s.told⟩) (by omega) h26 HT6.out (by show World.ownsRow _ _ _ _ _ (fN (addK zb5 tag s.pol (ws.take (k+1))) 3) (fC (addK zb5 tag s.pol (ws.take (k+1))) 3);rw[HTk.out,e9.1,e9.2,HM.out,HSw.out];exact HO6.out) (HA6.out.imp (fun h=>h) (fun h=>⟨_,h,by simp[go_sem]⟩)) (fun i hi hij=>psj (s:=⟨s.rest,addK zb5 tag s.pol (ws.take k),s.told⟩) (zua tag s.pol (ws.take k) (ws.take (k+1)) i hij)) rfl (by simp only[zku]) (by simp only[zku]) (by simp only[zku]) (by simp only[zku])
     refine⟨k+1,by omega,by go_num,h9.1, ?_, ?_,HBk.out.trans h9.2.1⟩
     ·show World.ownsRow _ _ _ _ _ _ _
      have ho1:=zbb HT6.out HOk.out (fun b hb hx=>(HM4.out b hx).2 (z3n.inj hb).symm)
      exact zbb (zac.setCell (pv:=fun b=>b=B) (p:=⟨B,3,none⟩) (zac.refl _ W6) (.inr rfl) _) ho1 (fun b hb hx=>by have:=(HOk.out.lt b hb).1;omega)
     ·show ∀v b,_
      intro v b hv hb
      have hs6:(W6.setCell ⟨B,3,none⟩ (.slice A6 (m+1) c6)).cell? ⟨B,3,none⟩=some (.slice A6 (m+1) c6):=World.cell?_setCell_same _ _ _ k6
      rw[hs6]at hv
      cases hv
      rcases HA6.out with h|h
      ·exact(HM4.out b (h ▸ hb)).2
      ·rw[h]at hb
       have:=z3n.inj hb
       simp[go_sem]at this
       omega
    case measure=>simp[intOf];omega
theorem zkt (tag:Bs) (p:Pol) (ws:List Bs):addK zay tag p ws={p with attrs:=p.attrs++ws.map (fun n=>⟨tag,n⟩)}:=by
 unfold addK
 rw[if_neg (by decide)]
 rw[if_neg (by decide)]
 rw[if_neg (by decide)]
 rw[if_neg (by decide)]
theorem zx5 (tag:Bs) (p:Pol) (ws:List Bs) (w:Bs):fN (addK zay tag p (ws++[w])) 4=fN (addK zay tag p ws) 4+1/\fC (addK zay tag p (ws++[w])) 4=fC (addK zay tag p ws) 4++[sv tag,sv w]:=by
 rw[zkt,zkt]
 constructor
 ·simp[fN];try omega
 ·simp[fC,Alw.cells]
theorem zt9 (tag:Bs) (p:Pol) (ws us:List Bs) (i:Nat) (hi:i≠4):fN (addK zay tag p us) i=fN (addK zay tag p ws) i/\fC (addK zay tag p us) i=fC (addK zay tag p ws) i:=by
 rw[zkt,zkt]
 match i,hi with
 |0,_=>exact⟨rfl,rfl⟩
 |1,_=>exact⟨rfl,rfl⟩
 |2,_=>exact⟨rfl,rfl⟩
 |3,_=>exact⟨rfl,rfl⟩
 |4,h=>exact absurd rfl h
 |5,_=>exact⟨rfl,rfl⟩
 |i+6,_=>exact⟨rfl,rfl⟩
theorem zx6 (tag:Bs) (p:Pol):addK zay tag p []=p:=by rw[zkt];simp
theorem zx7 (tag:Bs) (p:Pol) (ws:List Bs):fN (addK zay tag p ws) 4=fN p 4+ws.length:=by rw[zkt];simp[fN]
theorem zps (en B:Nat) (s:Ps) (W:World) (h:RPar en B s W) (hs:PsSm s):
  Calls Tryz.prog 93 #[.pointer (some ⟨B,0,none⟩),.string ⟨zay.toArray⟩] W (zcy en B s W (nmR zay s.rest s.pol)):=by
 have hmx:Tryz.prog.follows .mixedOrders=true:=by kernel_rfl
 have HP:=z2g h
 have hlt:=h.lt
 have HSm:=z2g hs
 have hr9:=hs.rest
 obtain⟨kd,hkd⟩: ∃kd,(⟨zay.toArray⟩:ByteArray)=kd:=⟨_,rfl⟩
 have hkl:kd.toList=[97,116,116,114,115]:=by rw[<-hkd,ByteArray.toList_eq];rfl
 rw[hkd]
 obtain⟨R,hR⟩: ∃R,nmR zay s.rest s.pol=R:=⟨_,rfl⟩
 have HN:Hid (R=match zhw zay s.rest with
  | .error i=> .error i
  | .ok (tag,b)=>match zbn s.rest b with
   | .error i=> .error i
   | .ok ws=> .ok (b+ws.length+1,addK zay tag s.pol ws)):=by show _=_;rw[<-hR];rfl
 rw[hR]
 clear hR hkd hs h
 have HI:=z2g (fun(i k:Nat) (t:Bs)=>zdb en B s W HP.out i k t)
 have HI1:=z2g (show Calls Tryz.prog 157 #[.pointer (some ⟨B,0,none⟩),.int .i64 1,.int .i64 1,.string ⟨#[]⟩] W _ from HI.out 1 1 [])
 have HI2:=z2g (show Calls Tryz.prog 157 #[.pointer (some ⟨B,0,none⟩),.int .i64 1,.int .i64 4,.string ⟨#[42]⟩] W _ from HI.out 1 4 [42])
 have HI3:=z2g (show Calls Tryz.prog 157 #[.pointer (some ⟨B,0,none⟩),.int .i64 2,.int .i64 4,.string ⟨#[58]⟩] W _ from HI.out 2 4 [58])
 have HLi:Hid (zhw zay s.rest=match zqr s.rest with
  | .error i=> .error i
  | .ok t=> .ok (t,3)):=rfl
 have HHd:Hid (zqr s.rest=if(!isR s.rest 1 1 []&& !isR s.rest 1 4 [42])=true then .error 1 else if isR s.rest 2 4 [58]=false then .error 2 else .ok (zav s.rest 1)):=rfl
 obtain⟨D1,hD1⟩: ∃D,isR s.rest 1 1 []=D:=⟨_,rfl⟩
 obtain⟨D2,hD2⟩: ∃D,isR s.rest 1 4 [42]=D:=⟨_,rfl⟩
 obtain⟨D3,hD3⟩: ∃D,isR s.rest 2 4 [58]=D:=⟨_,rfl⟩
 have hin:(D1||D2)=true->1<s.rest.length:=by
  intro hd
  rcases Nat.lt_or_ge 1 s.rest.length with h|h
  ·exact h
  ·rw[<-hD1,<-hD2,zmm h,zmm h]at hd;cases hd
 rw[hD1]at HI1 HHd
 rw[hD2]at HI2 HHd
 rw[hD3]at HI3 HHd
 clear HI hD1 hD2 hD3
 by_cases hh:(D1||D2)=true
 rotate_left
 ·obtain⟨rfl,rfl⟩:=Bool.or_eq_false_iff.1 (Bool.eq_false_iff.2 hh)
  have HR:Hid (R= .error 1):=by show _=_;rw[HN.out,HLi.out,HHd.out];rfl
  clear HN HLi HHd hh hin
  go_enter Tryz.func93,Tryz.ntmps93
  go_wp2_with(first|(go_at_call 157;(with_reducible refine HI1.out.mono ?_);rintro e w' ⟨rfl,rfl⟩)|(go_at_call 157;(with_reducible refine HI2.out.mono ?_);rintro e w' ⟨rfl,rfl⟩))
  go_ret2
  rw[HR.out]
  exact⟨rfl,HP.out,Below.refl _ _⟩
 have hlen:=hin hh
 have HH2:Hid (zqr s.rest=if D3=false then .error 2 else .ok (zav s.rest 1)):=by
  show _=_
  rw[HHd.out,if_neg (by revert hh;cases D1<;>cases D2<;>simp)]
 obtain⟨A,c,hc,_,A',c',he,_,hrd,_⟩:=HP.out.rest
 cases he
 obtain⟨b1,o1,rfl,hb1,x0,x1,x2⟩:=Rd.lxAt hrd 1 hlen
 have htx:s.rest[1].text=zav s.rest 1:=by unfold zav;rw[List.drop_eq_getElem_cons hlen]
 rw[htx]at x2
 obtain⟨tag,htag⟩: ∃tag,zav s.rest 1=tag:=⟨_,rfl⟩
 rw[htag]at x2 HH2
 generalize s.rest[1].kind=xk at*
 generalize s.rest[1].at_=xa at*
 have HTg:Hid (sv tag= .string ⟨tag.toArray⟩):=rfl
 obtain⟨tg,htg⟩: ∃tg,(⟨tag.toArray⟩:ByteArray)=tg:=⟨_,rfl⟩
 rw[htg]at x2 HTg
 obtain⟨nl,hnl⟩: ∃nl,s.rest.length=nl:=⟨_,rfl⟩
 rw[hnl]at hc hlen
 have hx2:W.cell? ⟨b1,o1+3+2,none⟩=some (.string tg):=x2
 have hL1:(1:Int)<nl:=by omega
 clear HHd hrd htx htag htg hin x0 x1 x2 hnl
 cases D3 with
 |false=>
  have HR:Hid (R= .error 2):=by show _=_;rw[HN.out,HLi.out,HH2.out];rfl
  clear HN HLi HH2
  revert hh
  cases D1<;>cases D2<;>intro hh
  ·cases hh
  all_goals
   clear hh
   go_enter Tryz.func93,Tryz.ntmps93
   go_wp2_with(first|(go_at_call 157;(with_reducible refine HI1.out.mono ?_);rintro e w' ⟨rfl,rfl⟩)|(go_at_call 157;(with_reducible refine HI2.out.mono ?_);rintro e w' ⟨rfl,rfl⟩)|(go_at_call 157;(with_reducible refine HI3.out.mono ?_);rintro e w' ⟨rfl,rfl⟩))
   go_ret2
   rw[HR.out]
   exact⟨rfl,HP.out,Below.refl _ _⟩
 |true=>
  have HN2:Hid (R=match zbn s.rest 3 with
   | .error i=> .error i
   | .ok ws=> .ok (3+ws.length+1,addK zay tag s.pol ws)):=by show _=_;rw[HN.out,HLi.out,HH2.out];rfl
  have HL:=z2g (show Calls Tryz.prog 158 #[.pointer (some ⟨B,0,none⟩),.int .i64 3] W _ from zfo en B s W HP.out 3 (by omega) (by omega))
  clear HN HLi HH2
  revert hh
  cases D1<;>cases D2<;>intro hh
  ·cases hh
  all_goals
   clear hh
   go_enter Tryz.func93,Tryz.ntmps93
   go_upto_region 11 with(first|(go_at_call 157;(with_reducible refine HI1.out.mono ?_);rintro e w' ⟨rfl,rfl⟩)|(go_at_call 157;(with_reducible refine HI2.out.mono ?_);rintro e w' ⟨rfl,rfl⟩)|(go_at_call 157;(with_reducible refine HI3.out.mono ?_);rintro e w' ⟨rfl,rfl⟩)|(go_at_call 158;(with_reducible refine HL.out.mono ?_);rintro e W2 ⟨v,rfl,ho,hb2⟩;have HO:=z2g ho;have HB2:=z2g hb2;obtain⟨Aw,cw,rfl,_⟩:=zam ho;clear ho hb2))
   clear hc hx2 hb1
   have HPw:=z2g (HP.out.grown HB2.out)
   have HBw:=z2g (HB2.out.mono (z3b hlt))
   have hlt2:B<W2.heap.size:=z2h hlt HB2.out.size
   have HNr:Hid (zbn s.rest 3=if(za2 s.rest 3).length=0\/isR s.rest (3+(za2 s.rest 3).length) 4 zbr=false then .error (3+(za2 s.rest 3).length)else .ok (za2 s.rest 3)):=rfl
   have hwl:(za2 s.rest 3).length<=s.rest.length:=by
    unfold za2;rw[z4n]
    refine z2k (z36 _).length_le ?_
    rw[z2p];omega
   obtain⟨ws,hws⟩: ∃ws,za2 s.rest 3=ws:=⟨_,rfl⟩
   have HWs:=z2g hws
   rw[hws]at HO HNr hwl
   obtain⟨n,hn⟩: ∃n,ws.length=n:=⟨_,rfl⟩
   have HNn:=z2g hn
   try rw[hws]
   rw[hn]at HO HNr hwl ⊢
   obtain⟨pl,hpl⟩: ∃pl,3+n=pl:=⟨_,rfl⟩
   have HPl:=z2g hpl
   have hpl9:pl<=20000:=by omega
   rw[hpl]at HNr
   have hpi:(3:Int)+(n:Int)=(pl:Int):=by omega
   rw[hpi]
   have HIs:=z2g (show Calls Tryz.prog 157 #[.pointer (some ⟨B,0,none⟩),.int .i64 (pl:Nat),.int .i64 4,.string ⟨#[59]⟩] W2 _ from zdb en B s W2 HPw.out pl 4 zbr)
   clear hws hn HL hpl hpi
   by_cases h0:n=0
   ·have HR:Hid (R= .error pl):=by show _=_;rw[HN2.out,HNr.out,if_pos (.inl h0)]
    have e0:((n:Int)==0)=true:=by simp;omega
    clear HN2 HNr h0
    go_wp2_with fail
    go_ret2
    rw[HR.out]
    exact⟨rfl,HPw.out,HBw.out⟩
   ·have e0:((n:Int)==0)=false:=by simp;omega
    cases hi:isR s.rest pl 4 zbr with
    |false=>
     have HR:Hid (R= .error pl):=by show _=_;rw[HN2.out,HNr.out,if_pos (.inr hi)]
     rw[hi]at HIs
     clear HN2 HNr h0 hi
     go_wp2_with(go_at_call 157;(with_reducible refine HIs.out.mono ?_);rintro e w' ⟨rfl,rfl⟩)
     go_ret2
     rw[HR.out]
     exact⟨rfl,HPw.out,HBw.out⟩
    |true=>
     have HR:Hid (R= .ok (pl+1,addK zay tag s.pol ws)):=by
      show _=_
      rw[HN2.out,HNr.out,if_neg (by rintro(h|h);exact h0 h;rw[hi]at h;cases h)]
      simp only
      rw[HNn.out,HPl.out]
     rw[hi]at HIs
     obtain⟨bw,ow,rfl⟩: ∃bw ow,Aw=some ⟨bw,ow,none⟩:=by
      obtain⟨_,_,A,c,e,h4⟩:=Rd.own HO.out
      cases e
      obtain⟨b,off,e,_⟩:=h4 (by omega)
      exact⟨b,off,e⟩
     have hbd:fN s.pol 4+n<=40000:=by have:=HSm.out.rows 4;omega
     have hbw:W.heap.size<=bw:=(HO.out.lt bw rfl).1
     have HAp:Hid (∀v b,W2.cell? ⟨B,4,none⟩=some v->v.ownBlock=some b->b≠bw):=by
      show ∀v b,_
      intro v b hv hb
      obtain⟨u,hu,hou⟩:=HP.out.row 4 (by omega)
      have h9:W2.cell? ⟨B,4,none⟩=some u:=(HB2.out.cell (p:=⟨B,4,none⟩) hlt).trans hu
      rw[hv]at h9
      cases h9
      have:=(hou.lt b hb).2
      omega
     clear HN2 HNr hi hwl h0 HP HB2
     go_wp2_with(go_at_call 157;(with_reducible refine HIs.out.mono ?_);rintro e w' ⟨rfl,rfl⟩)
     clear HIs e0
     go_loopw [10] (fun i wr=> ∃k,k<=n/\i= .int .i64 (k:Nat)/\Hid (RPar en B ⟨s.rest,addK zay tag s.pol (ws.take k),s.told⟩ wr)/\Hid (wr.ownsRow W.heap.size 9 1 (.slice (some ⟨bw,ow,none⟩) n cw) n (ws.map sv))/\Hid (∀v b,wr.cell? ⟨B,4,none⟩=some v->v.ownBlock=some b->b≠bw)/\Hid (Below B W wr)) (fun i _=>n-(intOf i).toNat)
     case atStart=>exact⟨0,by omega,rfl,by show RPar _ _ _ _;rw[z4q,zx6];exact HPw.out,HO.out,HAp.out,HBw.out⟩
     case round=>
      clear HPw HO HAp HBw
      obtain⟨k,hk,rfl,HPk,HOk,HAk,HBk⟩:=hrel
      by_cases hlt3:k<n
      rotate_left
      ·have HE:Hid (ws.take k=ws):=z2o (by rw[HNn.out];omega)
       go_wp2_with fail
       go_ret2
       rw[HR.out]
       rw[HE.out]at HPk
       exact⟨by simp,HPk.out,HBk.out⟩
      have hks:k<ws.length:=by rw[HNn.out];exact hlt3
      obtain⟨w,hw⟩: ∃w,ws[k]=w:=⟨_,rfl⟩
      have htk:ws.take (k+1)=ws.take k++[w]:=by rw[z28 hks,hw]
      have hcw:wr.cell? ⟨bw,ow+k,none⟩=some (sv w):=by
       obtain⟨_,_,A,c,e,h4⟩:=Rd.own HOk.out
       cases e
       obtain⟨b,off,e,_,hc⟩:=h4 (by omega)
       cases e
       exact hc k (sv w) (by simp[hks,hw])
      have hbwr:bw<wr.heap.size:=World.block_lt_of_cell? wr _ hcw
      have HTk:=z2g htk
      have HSw:Hid (sv w= .string ⟨w.toArray⟩):=rfl
      rw[HSw.out]at hcw
      generalize(⟨w.toArray⟩:ByteArray)=ts at*
      obtain⟨v4,hv4,hov⟩:=HPk.out.row 4 (by omega)
      have hln:fN (addK zay tag s.pol (ws.take k)) 4=fN s.pol 4+k:=by rw[zx7,z2u];omega
      have hov2:wr.ownsRow (B+1) 80 2 v4 (fN (addK zay tag s.pol (ws.take k)) 4) (fC (addK zay tag s.pol (ws.take k)) 4):=hov
      obtain⟨m,hm⟩: ∃m,fN (addK zay tag s.pol (ws.take k)) 4=m:=⟨_,rfl⟩
      rw[hm]at hov2
      have HM:=z2g hm
      have hm9:m<=40000:=by omega
      have HOv:=z2g hov2
      obtain⟨A4,c4,rfl,_⟩:=zam hov2
      have hl4:=HPk.out.lt
      have hz:=HPk.out.fz 4
      have h26:wr.cell? ⟨B,4,none⟩=some (.slice A4 m c4):=hv4
      have hM4: ∀b,(Value.slice A4 m c4).ownBlock=some b->B+1<=b/\b≠bw:=fun b hb=>⟨(HOv.out.lt b hb).1,HAk.out _ b h26 hb⟩
      have HM4:=z2g hM4
      clear hov hov2 hm hln htk hw hv4 hM4
      have i1:(0:Int)<=(k:Int):=by omega
      have i2:(k:Int)<(n:Int):=by omega
      go_upto_region 26 with fail
      have hdr:Below wr.heap.size wr wr.drew:=bel
      refine zai 14 [(0,true),(1,true),(2,true),(3,true),(4,true),(5,true),(6,true),(7,true),(8,true),(9,true),(10,true),(11,true),(12,false),(13,false)] (fun V=>V.cell? ⟨B,4,none⟩=some (.slice A4 m c4)/\V.cell? ⟨bw,ow+k,none⟩=some (.string ts)) hmx (by kernel_rfl) (by kernel_rfl) (by kernel_rfl) (by decide) rfl (fun c a d v w h=>by obtain⟨x,y⟩:=(h:_/\_);cases d<;>exact⟨x,y⟩) (by kernel_rfl) (by exact⟨h26,hcw⟩) ?_
      refine zaa (v:= .pointer (some ⟨B,0,none⟩)) 124 rfl rfl rfl (fun W hW=>by simp[execOp,go_sem]) ?_
      simp only[Act.put,z2d,z2f,z2e]
      refine zaa (v:= .pointer (some ⟨B,0,none⟩)) 125 rfl rfl rfl (fun W hW=>by simp[execOp,go_sem]) ?_
      simp only[Act.put,z2d,z2f,z2e]
      refine zaa (v:= .pointer (some ⟨B,0,none⟩)) 126 rfl rfl rfl (fun W hW=>by simp[execOp,go_sem]) ?_
      simp only[Act.put,z2d,z2f,z2e]
      refine zaa (v:= .pointer (some ⟨B,0,none⟩)) 127 rfl rfl rfl (fun W hW=>by simp[execOp,go_sem]) ?_
      simp only[Act.put,z2d,z2f,z2e]
      refine zaa (v:= .pointer (some ⟨B,4,none⟩)) 128 rfl rfl rfl (fun W hW=>by simp[execOp,go_sem]) ?_
      simp only[Act.put,z2d,z2f,z2e]
      refine zaa (v:= .slice A4 m c4) 129 rfl rfl rfl (fun W hW=>by simp[execOp,go_sem,hW.1]) ?_
      simp only[Act.put,z2d,z2f,z2e]
      refine zaa (v:= .string tg) 130 rfl rfl rfl (fun W hW=>by simp[execOp,go_sem]) ?_
      simp only[Act.put,z2d,z2f,z2e]
      refine zaa (v:= .slice (some ⟨bw,ow,none⟩) n cw) 131 rfl rfl rfl (fun W hW=>by simp[execOp,go_sem]) ?_
      simp only[Act.put,z2d,z2f,z2e]
      refine zaa (v:= .int .i64 (k:Nat)) 132 rfl rfl rfl (fun W hW=>by simp[execOp,go_sem]) ?_
      simp only[Act.put,z2d,z2f,z2e]
      refine zaa (v:= .pointer (some ⟨bw,ow+k,none⟩)) 133 rfl rfl rfl (fun W hW=>by simp[execOp,go_sem]<;>omega) ?_
      simp only[Act.put,z2d,z2f,z2e]
      refine zaa (v:= .string ts) 134 rfl rfl rfl (fun W hW=>by simp[execOp,go_sem,hW.2]) ?_
      simp only[Act.put,z2d,z2f,z2e]
      refine zaa (v:= .agg #[.string tg,.string ts]) 135 rfl rfl rfl (fun W hW=>by simp[execOp,go_sem]) ?_
      simp only[Act.put,z2d,z2f,z2e]
      refine zaj rfl rfl fun Kc hKc=> ?_
      unfold Oper.wp
      simp[execOp,go_sem]
      apply hKc
      have hb5:Below wr.heap.size wr (wr.drew.alloc (.cells #[.string tg,.string ts] 80)):=bel
      refine⟨⟨(hb5.cell (p:=⟨B,4,none⟩) hl4).trans h26,(hb5.cell (p:=⟨bw,ow+k,none⟩) hbwr).trans hcw⟩, ?_⟩
      refine zaj rfl rfl fun Kc hKc=> ?_
      refine zjr (n:=m) (size:=2) (xs:=fC (addK zay tag s.pol (ws.take k)) 4) (v:= .slice A4 m c4) _ _ 40 rfl sltA (B+1) rfl ((zf2 HOv.out hdr).alloc _) (by simp[go_sem]<;>omega) ⟨wr.heap.size,0,none⟩ 1 1 [.string tg,.string ts] rfl (zan (c:= #[.string tg,.string ts]) (by simp[go_sem])) rfl (by simp[Value.oneCell']) (by unfold maxLen;omega) (by omega) ?_
      intro v6 W6 ho6 hg6 hat6
      obtain⟨A6,c6,rfl,_⟩:=zam ho6
      have hgT:zac (fun b=>(Value.slice A4 m c4).ownBlock=some b) (wr.drew.alloc (.cells #[.string tg,.string ts] 80)) W6:=⟨hg6.os,hg6.tape,hg6.output,hg6.size,fun k hk hn=>hg6.block k hk (fun e=>hn e.symm)⟩
      have hT6:zac (fun b=>(Value.slice A4 m c4).ownBlock=some b) wr W6:=(zac.of_below hb5).trans hgT
      have hnM: ¬(Value.slice A4 m c4).ownBlock=some B:=fun e=>by have:=(HM4.out _ e).1;omega
      have hnb: ¬(Value.slice A4 m c4).ownBlock=some bw:=fun e=>(HM4.out _ e).2 rfl
      have k6:=(World.cell?_of_block (a:=⟨B,4,none⟩) (hT6.block _ hl4 hnM)).trans h26
      have kw:=(World.cell?_of_block (a:=⟨bw,ow+k,none⟩) (hT6.block _ hbwr hnb)).trans hcw
      have kf:=(World.frozen?_of_block (a:=⟨B,4,none⟩) (hT6.block _ hl4 hnM)).trans hz
      apply hKc
      refine⟨⟨k6,kw⟩, ?_⟩
      simp only[Act.put,z2d]
      have HT6:=z2g hT6
      have HO6:=z2g ho6
      have HA6:=z2g hat6
      have hsz5:=hb5.size
      clear hg6 hgT hnM ho6 hat6 hb5 hT6 hdr
      dsimp only[zbe,List.drop]
      go_wp2_with fail
      go_roundw
      case rel=>
       have e9:=zx5 tag s.pol (ws.take k) w
       have h9:=HPk.out.put (j:=4) (s':=⟨s.rest,addK zay tag s.pol (ws.take (k+1)),s.told⟩) (by omega) h26 HT6.out (by show World.ownsRow _ _ _ _ _ (fN (addK zay tag s.pol (ws.take (k+1))) 4) (fC (addK zay tag s.pol (ws.take (k+1))) 4);rw[HTk.out,e9.1,e9.2,HM.out,HTg.out,HSw.out];exact HO6.out) (HA6.out.imp (fun h=>h) (fun h=>⟨_,h,by simp[go_sem]⟩)) (fun i hi hij=>psj (s:=⟨s.rest,addK zay tag s.pol (ws.take k),s.told⟩) (zt9 tag s.pol (ws.take k) (ws.take (k+1)) i hij)) rfl (by simp only[zkt]) (by simp only[zkt]) (by simp only[zkt]) (by simp only[zkt])
       refine⟨k+1,by omega,by go_num,h9.1, ?_, ?_,HBk.out.trans h9.2.1⟩
       ·show World.ownsRow _ _ _ _ _ _ _
        have ho1:=zbb HT6.out HOk.out (fun b hb hx=>(HM4.out b hx).2 (z3n.inj hb).symm)
        exact zbb (zac.setCell (pv:=fun b=>b=B) (p:=⟨B,4,none⟩) (zac.refl _ W6) (.inr rfl) _) ho1 (fun b hb hx=>by have:=(HOk.out.lt b hb).1;omega)
       ·show ∀v b,_
        intro v b hv hb
        have hs6:(W6.setCell ⟨B,4,none⟩ (.slice A6 (m+1) c6)).cell? ⟨B,4,none⟩=some (.slice A6 (m+1) c6):=World.cell?_setCell_same _ _ _ k6
        rw[hs6]at hv
        cases hv
        rcases HA6.out with h|h
        ·exact(HM4.out b (h ▸ hb)).2
        ·rw[h]at hb
         have:=z3n.inj hb
         simp[go_sem]at this
         omega
      case measure=>simp[intOf];omega
end Go.Proofs.YtbhhgbgfaemfdaaGreatDoor

