/- The walk of the reference's parser: names. (written by gen_rnames.py) -/
import Derived.Test.YtiikamobcmgekaaGreatDoorRfB
namespace Go.Proofs.YtiikamobcmgekaaGreatDoor
open Lib renaming hid→z2c
open List renaming length_drop→z2n,length_map→z49,length_take→z2r,setIfInBounds_toArray→z2b,set_cons_succ→z2e,set_cons_zero→z2d,takeWhile_prefix→z38,take_of_length_le→z2p,take_succ_eq_append_getElem→z29,take_zero→z5j
open Nat renaming le_of_lt→z25,le_trans→z2j,lt_of_lt_of_le→z2g
open Option renaming some→z34
open Go.Proofs.Tryz renaming func56→z48,ntmps56→z4w,prog→z2f
set_option maxRecDepth 100000
set_option maxHeartbeats 4000000
open Go.RowKit
attribute [local go_sem] Oper.semAt_some
theorem zge {W W1:World} {B:Nat} {e:TypeId} {size:Nat} {v:Value} {n:Nat} {xs:List Value} (h:W.ownsRow B e size v n xs) (hb:Below W.heap.size W W1):W1.ownsRow B e size v n xs:=by
 obtain⟨X,rfl⟩:=zao hb;exact zdf h X
def zc3 (en B:Nat) (s:Ps) (W:World) (r:Except Nat (Nat × Pol)) (e:Ending) (w':World):Prop:=match r with
 | .error i=>e= .returned (.tuple #[.int .i64 (-1),.int .i64 i])/\RPar en B s w'/\Below B W w'
 | .ok (n,q)=>e= .returned (.tuple #[.int .i64 n,.int .i64 0])/\RPar en B ⟨s.rest,q,s.told⟩ w'/\Below B W w'
theorem psj {s:Ps} {q:Pol} {i:Nat} (h:fN q i=fN s.pol i/\fC q i=fC s.pol i):rN ⟨s.rest,q,s.told⟩ i=rN s i/\rX ⟨s.rest,q,s.told⟩ i=rX s i:=by
 unfold rN rX;split
 ·exact⟨rfl,rfl⟩
 ·exact h
theorem zk9 (tag:Bs) (p:Pol) (ws:List Bs):addK zb7 tag p ws={p with tags:=p.tags++ws}:=by
 unfold addK;rw[if_pos rfl]
theorem zy2 (tag:Bs) (p:Pol) (ws:List Bs) (w:Bs):fN (addK zb7 tag p (ws++[w])) 0=fN (addK zb7 tag p ws) 0+1/\fC (addK zb7 tag p (ws++[w])) 0=fC (addK zb7 tag p ws) 0++[sv w]:=by
 rw[zk9,zk9];constructor
 ·simp[fN];try omega
 ·simp[fC]
theorem zu7 (tag:Bs) (p:Pol) (ws us:List Bs) (i:Nat) (hi:i≠0):fN (addK zb7 tag p us) i=fN (addK zb7 tag p ws) i/\fC (addK zb7 tag p us) i=fC (addK zb7 tag p ws) i:=by
 rw[zk9,zk9];match i,hi with
 |0,h=>exact absurd rfl h
 |1,_=>exact⟨rfl,rfl⟩
 |2,_=>exact⟨rfl,rfl⟩
 |3,_=>exact⟨rfl,rfl⟩
 |4,_=>exact⟨rfl,rfl⟩
 |5,_=>exact⟨rfl,rfl⟩
 |i+6,_=>exact⟨rfl,rfl⟩
theorem zy3 (tag:Bs) (p:Pol):addK zb7 tag p []=p:=by rw[zk9];simp
theorem zy4 (tag:Bs) (p:Pol) (ws:List Bs):fN (addK zb7 tag p ws) 0=fN p 0+ws.length:=by rw[zk9];simp[fN]
theorem zqj (en B:Nat) (s:Ps) (W:World) (h:RPar en B s W) (hs:PsSm s):
  Calls z2f 56 #[.pointer (some ⟨B,0,none⟩),.string ⟨zb7.toArray⟩] W (zc3 en B s W (nmR zb7 s.rest s.pol)):=by
 have hmx:=mxd;have HP:=z2c h;have hlt:=h.lt;have HSm:=z2c hs;have hr9:=hs.rest;obtain⟨kd,hkd⟩: ∃kd,(⟨zb7.toArray⟩:ByteArray)=kd:=⟨_,rfl⟩;have hkl:kd.toList=[116,97,103,115]:=by rw[<-hkd,ByteArray.toList_eq];rfl
 rw[hkd];obtain⟨R,hR⟩: ∃R,nmR zb7 s.rest s.pol=R:=⟨_,rfl⟩;have HN:Hid (R=match zil zb7 s.rest with
  | .error i=> .error i
  | .ok (tag,b)=>match zbo s.rest b with
   | .error i=> .error i
   | .ok ws=> .ok (b+ws.length+1,addK zb7 tag s.pol ws)):=by show _=_;rw[<-hR];rfl
 rw[hR];clear hR hkd hs h;have HN2:Hid (R=match zbo s.rest 1 with
  | .error i=> .error i
  | .ok ws=> .ok (1+ws.length+1,addK zb7 [] s.pol ws)):=HN.out
 obtain⟨tag,htag⟩: ∃tag:Bs,tag=[]:=⟨_,rfl⟩;have HL:=z2c (show Calls z2f 143 #[.pointer (some ⟨B,0,none⟩),.int .i64 1] W _ from zfy en B s W HP.out 1 (by omega) (by omega));rw[<-htag]at HN2;clear HN htag;go_enter z48,z4w;go_upto_region 11 with(go_at_call 143;(with_reducible refine HL.out.mono ?_);rintro e W2 ⟨v,rfl,ho,hb2⟩;have HO:=z2c ho;have HB2:=z2c hb2;obtain⟨Aw,cw,rfl,_⟩:=zah ho;clear ho hb2)
 have HPw:=z2c (HP.out.grown HB2.out);have HBw:=z2c (HB2.out.mono (z25 hlt));have hlt2:B<W2.heap.size:=z2g hlt HB2.out.size;have HNr:Hid (zbo s.rest 1=if(zaz s.rest 1).length=0\/isR s.rest (1+(zaz s.rest 1).length) 4 zbr=false then .error (1+(zaz s.rest 1).length)else .ok (zaz s.rest 1)):=rfl;have hwl:(zaz s.rest 1).length<=s.rest.length:=by
  unfold zaz;rw[z49];refine z2j (z38 _).length_le ?_;rw[z2n];omega
 obtain⟨ws,hws⟩: ∃ws,zaz s.rest 1=ws:=⟨_,rfl⟩;have HWs:=z2c hws;rw[hws]at HO HNr hwl;obtain⟨n,hn⟩: ∃n,ws.length=n:=⟨_,rfl⟩;have HNn:=z2c hn;try rw[hws]
 rw[hn]at HO HNr hwl ⊢;obtain⟨pl,hpl⟩: ∃pl,1+n=pl:=⟨_,rfl⟩;have HPl:=z2c hpl;have hpl9:pl<=20000:=by omega
 rw[hpl]at HNr;have hpi:(1:Int)+(n:Int)=(pl:Int):=by omega
 rw[hpi];have HIs:=z2c (show Calls z2f 142 #[.pointer (some ⟨B,0,none⟩),.int .i64 (pl:Nat),.int .i64 4,.string ⟨#[59]⟩] W2 _ from zdd en B s W2 HPw.out pl 4 zbr);clear hws hn HL hpl hpi;by_cases h0:n=0
 ·have HR:Hid (R= .error pl):=by show _=_;rw[HN2.out,HNr.out,if_pos (.inl h0)]
  have e0:((n:Int)==0)=true:=by simp;omega
  clear HN2 HNr h0;go_wp2_with fail
  go_ret2;rw[HR.out];exact⟨rfl,HPw.out,HBw.out⟩
 ·have e0:((n:Int)==0)=false:=by simp;omega
  cases hi:isR s.rest pl 4 zbr with
  |false=>
   have HR:Hid (R= .error pl):=by show _=_;rw[HN2.out,HNr.out,if_pos (.inr hi)]
   rw[hi]at HIs;clear HN2 HNr h0 hi;go_wp2_with(go_at_call 142;(with_reducible refine HIs.out.mono ?_);rintro e w' ⟨rfl,rfl⟩)
   go_ret2;rw[HR.out];exact⟨rfl,HPw.out,HBw.out⟩
  |true=>
   have HR:Hid (R= .ok (pl+1,addK zb7 tag s.pol ws)):=by
    show _=_;rw[HN2.out,HNr.out,if_neg (by rintro(h|h);exact h0 h;rw[hi]at h;cases h)];simp only;rw[HNn.out,HPl.out]
   rw[hi]at HIs;obtain⟨bw,ow,rfl⟩: ∃bw ow,Aw=some ⟨bw,ow,none⟩:=by
    obtain⟨_,_,A,c,e,h4⟩:=Rd.own HO.out;cases e;obtain⟨b,off,e,_⟩:=h4 (by omega);exact⟨b,off,e⟩
   have hbd:fN s.pol 0+n<=40000:=by have:=HSm.out.rows 0;omega
   have hbw:W.heap.size<=bw:=(HO.out.lt bw rfl).1;have HAp:Hid (∀v b,W2.cell? ⟨B,0,none⟩=some v->v.ownBlock=some b->b≠bw):=by
    show ∀v b,_;intro v b hv hb;obtain⟨u,hu,hou⟩:=HP.out.row 0 (by omega);have h9:W2.cell? ⟨B,0,none⟩=some u:=(HB2.out.cell (p:=⟨B,0,none⟩) hlt).trans hu;rw[hv]at h9;cases h9;have:=(hou.lt b hb).2;omega
   clear HN2 HNr hi hwl h0 HP HB2;go_wp2_with(go_at_call 142;(with_reducible refine HIs.out.mono ?_);rintro e w' ⟨rfl,rfl⟩)
   clear HIs e0;go_loopw [10] (fun i wr=> ∃k,k<=n/\i= .int .i64 (k:Nat)/\Hid (RPar en B ⟨s.rest,addK zb7 tag s.pol (ws.take k),s.told⟩ wr)/\Hid (wr.ownsRow W.heap.size 9 1 (.slice (some ⟨bw,ow,none⟩) n cw) n (ws.map sv))/\Hid (∀v b,wr.cell? ⟨B,0,none⟩=some v->v.ownBlock=some b->b≠bw)/\Hid (Below B W wr)) (fun i _=>n-(intOf i).toNat)
   case atStart=>exact⟨0,by omega,rfl,by show RPar _ _ _ _;rw[z5j,zy3];exact HPw.out,HO.out,HAp.out,HBw.out⟩
   case round=>
    clear HPw HO HAp HBw;obtain⟨k,hk,rfl,HPk,HOk,HAk,HBk⟩:=hrel;by_cases hlt3:k<n;rotate_left
    ·have HE:Hid (ws.take k=ws):=z2p (by rw[HNn.out];omega);go_wp2_with fail
     go_ret2;rw[HR.out];rw[HE.out]at HPk;exact⟨by simp,HPk.out,HBk.out⟩
    have hks:k<ws.length:=by rw[HNn.out];exact hlt3
    obtain⟨w,hw⟩: ∃w,ws[k]=w:=⟨_,rfl⟩;have htk:ws.take (k+1)=ws.take k++[w]:=by rw[z29 hks,hw]
    have hcw:wr.cell? ⟨bw,ow+k,none⟩=some (sv w):=by
     obtain⟨_,_,A,c,e,h4⟩:=Rd.own HOk.out;cases e;obtain⟨b,off,e,_,hc⟩:=h4 (by omega);cases e;exact hc k (sv w) (by simp[hks,hw])
    have hbwr:bw<wr.heap.size:=World.block_lt_of_cell? wr _ hcw;have HTk:=z2c htk;have HSw:Hid (sv w= .string ⟨w.toArray⟩):=rfl;rw[HSw.out]at hcw;generalize(⟨w.toArray⟩:ByteArray)=ts at*;obtain⟨v4,hv4,hov⟩:=HPk.out.row 0 (by omega);have hln:fN (addK zb7 tag s.pol (ws.take k)) 0=fN s.pol 0+k:=by rw[zy4,z2r];omega
    have hov2:wr.ownsRow (B+1) 9 1 v4 (fN (addK zb7 tag s.pol (ws.take k)) 0) (fC (addK zb7 tag s.pol (ws.take k)) 0):=hov;obtain⟨m,hm⟩: ∃m,fN (addK zb7 tag s.pol (ws.take k)) 0=m:=⟨_,rfl⟩;rw[hm]at hov2;have HM:=z2c hm;have hm9:m<=40000:=by omega
    have HOv:=z2c hov2;obtain⟨A4,c4,rfl,_⟩:=zah hov2;have hl4:=HPk.out.lt;have hz:=HPk.out.fz 0;have h26:wr.cell? ⟨B,0,none⟩=some (.slice A4 m c4):=hv4;have hM4: ∀b,(Value.slice A4 m c4).ownBlock=some b->B+1<=b/\b≠bw:=fun b hb=>⟨(HOv.out.lt b hb).1,HAk.out _ b h26 hb⟩;have HM4:=z2c hM4;clear hov hov2 hm hln htk hw hv4 hM4;have i1:(0:Int)<=(k:Int):=by omega
    have i2:(k:Int)<(n:Int):=by omega
    go_upto_region 18 with fail
    have hdr:Below wr.heap.size wr wr.drew:=bel;refine zak 12 [(0,true),(1,true),(2,true),(3,true),(4,true),(5,true),(6,true),(7,true),(8,true),(9,true),(10,false),(11,false)] (fun V=>V.cell? ⟨B,0,none⟩=some (.slice A4 m c4)/\V.cell? ⟨bw,ow+k,none⟩=some (.string ts)) hmx (by kernel_rfl) (by kernel_rfl) (by kernel_rfl) (by decide) rfl (fun c a d v w h=>by obtain⟨x,y⟩:=(h:_/\_);cases d<;>exact⟨x,y⟩) (by kernel_rfl) (by exact⟨h26,hcw⟩) ?_;refine zaa (v:= .pointer (some ⟨B,0,none⟩)) 56 rfl rfl rfl (fun W hW=>by simp[execOp,go_sem]) ?_;simp only[Act.put,z2b,z2e,z2d];refine zaa (v:= .pointer (some ⟨B,0,none⟩)) 57 rfl rfl rfl (fun W hW=>by simp[execOp,go_sem]) ?_;simp only[Act.put,z2b,z2e,z2d];refine zaa (v:= .pointer (some ⟨B,0,none⟩)) 58 rfl rfl rfl (fun W hW=>by simp[execOp,go_sem]) ?_;simp only[Act.put,z2b,z2e,z2d];refine zaa (v:= .pointer (some ⟨B,0,none⟩)) 59 rfl rfl rfl (fun W hW=>by simp[execOp,go_sem]) ?_;simp only[Act.put,z2b,z2e,z2d];refine zaa (v:= .pointer (some ⟨B,0,none⟩)) 60 rfl rfl rfl (fun W hW=>by simp[execOp,go_sem]) ?_;simp only[Act.put,z2b,z2e,z2d];refine zaa (v:= .slice A4 m c4) 61 rfl rfl rfl (fun W hW=>by simp[execOp,go_sem,hW.1]) ?_;simp only[Act.put,z2b,z2e,z2d];refine zaa (v:= .slice (some ⟨bw,ow,none⟩) n cw) 62 rfl rfl rfl (fun W hW=>by simp[execOp,go_sem]) ?_;simp only[Act.put,z2b,z2e,z2d];refine zaa (v:= .int .i64 (k:Nat)) 63 rfl rfl rfl (fun W hW=>by simp[execOp,go_sem]) ?_;simp only[Act.put,z2b,z2e,z2d];refine zaa (v:= .pointer (some ⟨bw,ow+k,none⟩)) 64 rfl rfl rfl (fun W hW=>by simp[execOp,go_sem]<;>omega) ?_;simp only[Act.put,z2b,z2e,z2d];refine zaa (v:= .string ts) 65 rfl rfl rfl (fun W hW=>by simp[execOp,go_sem,hW.2]) ?_;simp only[Act.put,z2b,z2e,z2d];refine zai rfl rfl fun Kc hKc=> ?_;unfold Oper.wp;simp[execOp,go_sem];apply hKc;have hb5:Below wr.heap.size wr (wr.drew.alloc (.cells #[.string ts] 9)):=bel;refine⟨⟨(hb5.cell (p:=⟨B,0,none⟩) hl4).trans h26,(hb5.cell (p:=⟨bw,ow+k,none⟩) hbwr).trans hcw⟩, ?_⟩;refine zai rfl rfl fun Kc hKc=> ?_;refine zj3 (n:=m) (size:=1) (xs:=fC (addK zb7 tag s.pol (ws.take k)) 0) (v:= .slice A4 m c4) _ _ 47 rfl sltS (B+1) rfl ((zge HOv.out hdr).alloc _) (by simp[go_sem]<;>omega) ⟨wr.heap.size,0,none⟩ 1 1 [.string ts] rfl (zaf (c:= #[.string ts]) (by simp[go_sem])) rfl (by simp[Value.oneCell']) (by unfold maxLen;omega) (by omega) ?_;intro v6 W6 ho6 hg6 hat6;obtain⟨A6,c6,rfl,_⟩:=zah ho6;have hgT:zab (fun b=>(Value.slice A4 m c4).ownBlock=some b) (wr.drew.alloc (.cells #[.string ts] 9)) W6:=⟨hg6.os,hg6.tape,hg6.output,hg6.size,fun k hk hn=>hg6.block k hk (fun e=>hn e.symm)⟩;have hT6:zab (fun b=>(Value.slice A4 m c4).ownBlock=some b) wr W6:=(zab.of_below hb5).trans hgT;have hnM: ¬(Value.slice A4 m c4).ownBlock=some B:=fun e=>by have:=(HM4.out _ e).1;omega
    have hnb: ¬(Value.slice A4 m c4).ownBlock=some bw:=fun e=>(HM4.out _ e).2 rfl;have k6:=(World.cell?_of_block (a:=⟨B,0,none⟩) (hT6.block _ hl4 hnM)).trans h26;have kw:=(World.cell?_of_block (a:=⟨bw,ow+k,none⟩) (hT6.block _ hbwr hnb)).trans hcw;have kf:=(World.frozen?_of_block (a:=⟨B,0,none⟩) (hT6.block _ hl4 hnM)).trans hz;apply hKc;refine⟨⟨k6,kw⟩, ?_⟩;simp only[Act.put,z2b];have HT6:=z2c hT6;have HO6:=z2c ho6;have HA6:=z2c hat6;have hsz5:=hb5.size;clear hg6 hgT hnM ho6 hat6 hb5 hT6 hdr;dsimp only[zbq,List.drop];go_wp2_with fail
    go_roundw
    case rel=>
     have e9:=zy2 tag s.pol (ws.take k) w;have h9:=HPk.out.put (j:=0) (s':=⟨s.rest,addK zb7 tag s.pol (ws.take (k+1)),s.told⟩) (by omega) h26 HT6.out (by show World.ownsRow _ _ _ _ _ (fN (addK zb7 tag s.pol (ws.take (k+1))) 0) (fC (addK zb7 tag s.pol (ws.take (k+1))) 0);rw[HTk.out,e9.1,e9.2,HM.out,HSw.out];exact HO6.out) (HA6.out.imp (fun h=>h) (fun h=>⟨_,h,by simp[go_sem]⟩)) (fun i hi hij=>psj (s:=⟨s.rest,addK zb7 tag s.pol (ws.take k),s.told⟩) (zu7 tag s.pol (ws.take k) (ws.take (k+1)) i hij)) rfl (by simp only[zk9]) (by simp only[zk9]) (by simp only[zk9]) (by simp only[zk9]);refine⟨k+1,by omega,by go_num,h9.1, ?_, ?_,HBk.out.trans h9.2.1⟩
     ·show World.ownsRow _ _ _ _ _ _ _;have ho1:=za4 HT6.out HOk.out (fun b hb hx=>(HM4.out b hx).2 (z34.inj hb).symm);exact za4 (zab.setCell (pv:=fun b=>b=B) (p:=⟨B,0,none⟩) (zab.refl _ W6) (.inr rfl) _) ho1 (fun b hb hx=>by have:=(HOk.out.lt b hb).1;omega)
     ·show ∀v b,_;intro v b hv hb;have hs6:(W6.setCell ⟨B,0,none⟩ (.slice A6 (m+1) c6)).cell? ⟨B,0,none⟩=some (.slice A6 (m+1) c6):=World.cell?_setCell_same _ _ _ k6;rw[hs6]at hv;cases hv;rcases HA6.out with h|h
      ·exact(HM4.out b (h ▸ hb)).2
      ·rw[h]at hb;have:=z34.inj hb;simp[go_sem]at this;omega
    case measure=>simp[intOf];omega
theorem zk8 (tag:Bs) (p:Pol) (ws:List Bs):addK zan tag p ws={p with schemes:=p.schemes++ws}:=by
 unfold addK;rw[if_neg (by decide)];rw[if_pos rfl]
theorem zyz (tag:Bs) (p:Pol) (ws:List Bs) (w:Bs):fN (addK zan tag p (ws++[w])) 1=fN (addK zan tag p ws) 1+1/\fC (addK zan tag p (ws++[w])) 1=fC (addK zan tag p ws) 1++[sv w]:=by
 rw[zk8,zk8];constructor
 ·simp[fN];try omega
 ·simp[fC]
theorem zu6 (tag:Bs) (p:Pol) (ws us:List Bs) (i:Nat) (hi:i≠1):fN (addK zan tag p us) i=fN (addK zan tag p ws) i/\fC (addK zan tag p us) i=fC (addK zan tag p ws) i:=by
 rw[zk8,zk8];match i,hi with
 |0,_=>exact⟨rfl,rfl⟩
 |1,h=>exact absurd rfl h
 |2,_=>exact⟨rfl,rfl⟩
 |3,_=>exact⟨rfl,rfl⟩
 |4,_=>exact⟨rfl,rfl⟩
 |5,_=>exact⟨rfl,rfl⟩
 |i+6,_=>exact⟨rfl,rfl⟩
theorem zy0 (tag:Bs) (p:Pol):addK zan tag p []=p:=by rw[zk8];simp
theorem zy1 (tag:Bs) (p:Pol) (ws:List Bs):fN (addK zan tag p ws) 1=fN p 1+ws.length:=by rw[zk8];simp[fN]
theorem zqi (en B:Nat) (s:Ps) (W:World) (h:RPar en B s W) (hs:PsSm s):
  Calls z2f 56 #[.pointer (some ⟨B,0,none⟩),.string ⟨zan.toArray⟩] W (zc3 en B s W (nmR zan s.rest s.pol)):=by
 have hmx:=mxd;have HP:=z2c h;have hlt:=h.lt;have HSm:=z2c hs;have hr9:=hs.rest;obtain⟨kd,hkd⟩: ∃kd,(⟨zan.toArray⟩:ByteArray)=kd:=⟨_,rfl⟩;have hkl:kd.toList=[115,99,104,101,109,101,115]:=by rw[<-hkd,ByteArray.toList_eq];rfl
 rw[hkd];obtain⟨R,hR⟩: ∃R,nmR zan s.rest s.pol=R:=⟨_,rfl⟩;have HN:Hid (R=match zil zan s.rest with
  | .error i=> .error i
  | .ok (tag,b)=>match zbo s.rest b with
   | .error i=> .error i
   | .ok ws=> .ok (b+ws.length+1,addK zan tag s.pol ws)):=by show _=_;rw[<-hR];rfl
 rw[hR];clear hR hkd hs h;have HN2:Hid (R=match zbo s.rest 1 with
  | .error i=> .error i
  | .ok ws=> .ok (1+ws.length+1,addK zan [] s.pol ws)):=HN.out
 obtain⟨tag,htag⟩: ∃tag:Bs,tag=[]:=⟨_,rfl⟩;have HL:=z2c (show Calls z2f 143 #[.pointer (some ⟨B,0,none⟩),.int .i64 1] W _ from zfy en B s W HP.out 1 (by omega) (by omega));rw[<-htag]at HN2;clear HN htag;go_enter z48,z4w;go_upto_region 11 with(go_at_call 143;(with_reducible refine HL.out.mono ?_);rintro e W2 ⟨v,rfl,ho,hb2⟩;have HO:=z2c ho;have HB2:=z2c hb2;obtain⟨Aw,cw,rfl,_⟩:=zah ho;clear ho hb2)
 have HPw:=z2c (HP.out.grown HB2.out);have HBw:=z2c (HB2.out.mono (z25 hlt));have hlt2:B<W2.heap.size:=z2g hlt HB2.out.size;have HNr:Hid (zbo s.rest 1=if(zaz s.rest 1).length=0\/isR s.rest (1+(zaz s.rest 1).length) 4 zbr=false then .error (1+(zaz s.rest 1).length)else .ok (zaz s.rest 1)):=rfl;have hwl:(zaz s.rest 1).length<=s.rest.length:=by
  unfold zaz;rw[z49];refine z2j (z38 _).length_le ?_;rw[z2n];omega
 obtain⟨ws,hws⟩: ∃ws,zaz s.rest 1=ws:=⟨_,rfl⟩;have HWs:=z2c hws;rw[hws]at HO HNr hwl;obtain⟨n,hn⟩: ∃n,ws.length=n:=⟨_,rfl⟩;have HNn:=z2c hn;try rw[hws]
 rw[hn]at HO HNr hwl ⊢;obtain⟨pl,hpl⟩: ∃pl,1+n=pl:=⟨_,rfl⟩;have HPl:=z2c hpl;have hpl9:pl<=20000:=by omega
 rw[hpl]at HNr;have hpi:(1:Int)+(n:Int)=(pl:Int):=by omega
 rw[hpi];have HIs:=z2c (show Calls z2f 142 #[.pointer (some ⟨B,0,none⟩),.int .i64 (pl:Nat),.int .i64 4,.string ⟨#[59]⟩] W2 _ from zdd en B s W2 HPw.out pl 4 zbr);clear hws hn HL hpl hpi;by_cases h0:n=0
 ·have HR:Hid (R= .error pl):=by show _=_;rw[HN2.out,HNr.out,if_pos (.inl h0)]
  have e0:((n:Int)==0)=true:=by simp;omega
  clear HN2 HNr h0;go_wp2_with fail
  go_ret2;rw[HR.out];exact⟨rfl,HPw.out,HBw.out⟩
 ·have e0:((n:Int)==0)=false:=by simp;omega
  cases hi:isR s.rest pl 4 zbr with
  |false=>
   have HR:Hid (R= .error pl):=by show _=_;rw[HN2.out,HNr.out,if_pos (.inr hi)]
   rw[hi]at HIs;clear HN2 HNr h0 hi;go_wp2_with(go_at_call 142;(with_reducible refine HIs.out.mono ?_);rintro e w' ⟨rfl,rfl⟩)
   go_ret2;rw[HR.out];exact⟨rfl,HPw.out,HBw.out⟩
  |true=>
   have HR:Hid (R= .ok (pl+1,addK zan tag s.pol ws)):=by
    show _=_;rw[HN2.out,HNr.out,if_neg (by rintro(h|h);exact h0 h;rw[hi]at h;cases h)];simp only;rw[HNn.out,HPl.out]
   rw[hi]at HIs;obtain⟨bw,ow,rfl⟩: ∃bw ow,Aw=some ⟨bw,ow,none⟩:=by
    obtain⟨_,_,A,c,e,h4⟩:=Rd.own HO.out;cases e;obtain⟨b,off,e,_⟩:=h4 (by omega);exact⟨b,off,e⟩
   have hbd:fN s.pol 1+n<=40000:=by have:=HSm.out.rows 1;omega
   have hbw:W.heap.size<=bw:=(HO.out.lt bw rfl).1;have HAp:Hid (∀v b,W2.cell? ⟨B,1,none⟩=some v->v.ownBlock=some b->b≠bw):=by
    show ∀v b,_;intro v b hv hb;obtain⟨u,hu,hou⟩:=HP.out.row 1 (by omega);have h9:W2.cell? ⟨B,1,none⟩=some u:=(HB2.out.cell (p:=⟨B,1,none⟩) hlt).trans hu;rw[hv]at h9;cases h9;have:=(hou.lt b hb).2;omega
   clear HN2 HNr hi hwl h0 HP HB2;go_wp2_with(go_at_call 142;(with_reducible refine HIs.out.mono ?_);rintro e w' ⟨rfl,rfl⟩)
   clear HIs e0;go_loopw [10] (fun i wr=> ∃k,k<=n/\i= .int .i64 (k:Nat)/\Hid (RPar en B ⟨s.rest,addK zan tag s.pol (ws.take k),s.told⟩ wr)/\Hid (wr.ownsRow W.heap.size 9 1 (.slice (some ⟨bw,ow,none⟩) n cw) n (ws.map sv))/\Hid (∀v b,wr.cell? ⟨B,1,none⟩=some v->v.ownBlock=some b->b≠bw)/\Hid (Below B W wr)) (fun i _=>n-(intOf i).toNat)
   case atStart=>exact⟨0,by omega,rfl,by show RPar _ _ _ _;rw[z5j,zy0];exact HPw.out,HO.out,HAp.out,HBw.out⟩
   case round=>
    clear HPw HO HAp HBw;obtain⟨k,hk,rfl,HPk,HOk,HAk,HBk⟩:=hrel;by_cases hlt3:k<n;rotate_left
    ·have HE:Hid (ws.take k=ws):=z2p (by rw[HNn.out];omega);go_wp2_with fail
     go_ret2;rw[HR.out];rw[HE.out]at HPk;exact⟨by simp,HPk.out,HBk.out⟩
    have hks:k<ws.length:=by rw[HNn.out];exact hlt3
    obtain⟨w,hw⟩: ∃w,ws[k]=w:=⟨_,rfl⟩;have htk:ws.take (k+1)=ws.take k++[w]:=by rw[z29 hks,hw]
    have hcw:wr.cell? ⟨bw,ow+k,none⟩=some (sv w):=by
     obtain⟨_,_,A,c,e,h4⟩:=Rd.own HOk.out;cases e;obtain⟨b,off,e,_,hc⟩:=h4 (by omega);cases e;exact hc k (sv w) (by simp[hks,hw])
    have hbwr:bw<wr.heap.size:=World.block_lt_of_cell? wr _ hcw;have HTk:=z2c htk;have HSw:Hid (sv w= .string ⟨w.toArray⟩):=rfl;rw[HSw.out]at hcw;generalize(⟨w.toArray⟩:ByteArray)=ts at*;obtain⟨v4,hv4,hov⟩:=HPk.out.row 1 (by omega);have hln:fN (addK zan tag s.pol (ws.take k)) 1=fN s.pol 1+k:=by rw[zy1,z2r];omega
    have hov2:wr.ownsRow (B+1) 9 1 v4 (fN (addK zan tag s.pol (ws.take k)) 1) (fC (addK zan tag s.pol (ws.take k)) 1):=hov;obtain⟨m,hm⟩: ∃m,fN (addK zan tag s.pol (ws.take k)) 1=m:=⟨_,rfl⟩;rw[hm]at hov2;have HM:=z2c hm;have hm9:m<=40000:=by omega
    have HOv:=z2c hov2;obtain⟨A4,c4,rfl,_⟩:=zah hov2;have hl4:=HPk.out.lt;have hz:=HPk.out.fz 1;have h26:wr.cell? ⟨B,1,none⟩=some (.slice A4 m c4):=hv4;have hM4: ∀b,(Value.slice A4 m c4).ownBlock=some b->B+1<=b/\b≠bw:=fun b hb=>⟨(HOv.out.lt b hb).1,HAk.out _ b h26 hb⟩;have HM4:=z2c hM4;clear hov hov2 hm hln htk hw hv4 hM4;have i1:(0:Int)<=(k:Int):=by omega
    have i2:(k:Int)<(n:Int):=by omega
    go_upto_region 20 with fail
    have hdr:Below wr.heap.size wr wr.drew:=bel;refine zak 12 [(0,true),(1,true),(2,true),(3,true),(4,true),(5,true),(6,true),(7,true),(8,true),(9,true),(10,false),(11,false)] (fun V=>V.cell? ⟨B,1,none⟩=some (.slice A4 m c4)/\V.cell? ⟨bw,ow+k,none⟩=some (.string ts)) hmx (by kernel_rfl) (by kernel_rfl) (by kernel_rfl) (by decide) rfl (fun c a d v w h=>by obtain⟨x,y⟩:=(h:_/\_);cases d<;>exact⟨x,y⟩) (by kernel_rfl) (by exact⟨h26,hcw⟩) ?_;refine zaa (v:= .pointer (some ⟨B,0,none⟩)) 73 rfl rfl rfl (fun W hW=>by simp[execOp,go_sem]) ?_;simp only[Act.put,z2b,z2e,z2d];refine zaa (v:= .pointer (some ⟨B,0,none⟩)) 74 rfl rfl rfl (fun W hW=>by simp[execOp,go_sem]) ?_;simp only[Act.put,z2b,z2e,z2d];refine zaa (v:= .pointer (some ⟨B,0,none⟩)) 75 rfl rfl rfl (fun W hW=>by simp[execOp,go_sem]) ?_;simp only[Act.put,z2b,z2e,z2d];refine zaa (v:= .pointer (some ⟨B,0,none⟩)) 76 rfl rfl rfl (fun W hW=>by simp[execOp,go_sem]) ?_;simp only[Act.put,z2b,z2e,z2d];refine zaa (v:= .pointer (some ⟨B,1,none⟩)) 77 rfl rfl rfl (fun W hW=>by simp[execOp,go_sem]) ?_;simp only[Act.put,z2b,z2e,z2d];refine zaa (v:= .slice A4 m c4) 78 rfl rfl rfl (fun W hW=>by simp[execOp,go_sem,hW.1]) ?_;simp only[Act.put,z2b,z2e,z2d];refine zaa (v:= .slice (some ⟨bw,ow,none⟩) n cw) 79 rfl rfl rfl (fun W hW=>by simp[execOp,go_sem]) ?_;simp only[Act.put,z2b,z2e,z2d];refine zaa (v:= .int .i64 (k:Nat)) 80 rfl rfl rfl (fun W hW=>by simp[execOp,go_sem]) ?_;simp only[Act.put,z2b,z2e,z2d];refine zaa (v:= .pointer (some ⟨bw,ow+k,none⟩)) 81 rfl rfl rfl (fun W hW=>by simp[execOp,go_sem]<;>omega) ?_;simp only[Act.put,z2b,z2e,z2d];refine zaa (v:= .string ts) 82 rfl rfl rfl (fun W hW=>by simp[execOp,go_sem,hW.2]) ?_;simp only[Act.put,z2b,z2e,z2d];refine zai rfl rfl fun Kc hKc=> ?_;unfold Oper.wp;simp[execOp,go_sem];apply hKc;have hb5:Below wr.heap.size wr (wr.drew.alloc (.cells #[.string ts] 9)):=bel;refine⟨⟨(hb5.cell (p:=⟨B,1,none⟩) hl4).trans h26,(hb5.cell (p:=⟨bw,ow+k,none⟩) hbwr).trans hcw⟩, ?_⟩;refine zai rfl rfl fun Kc hKc=> ?_;refine zj3 (n:=m) (size:=1) (xs:=fC (addK zan tag s.pol (ws.take k)) 1) (v:= .slice A4 m c4) _ _ 47 rfl sltS (B+1) rfl ((zge HOv.out hdr).alloc _) (by simp[go_sem]<;>omega) ⟨wr.heap.size,0,none⟩ 1 1 [.string ts] rfl (zaf (c:= #[.string ts]) (by simp[go_sem])) rfl (by simp[Value.oneCell']) (by unfold maxLen;omega) (by omega) ?_;intro v6 W6 ho6 hg6 hat6;obtain⟨A6,c6,rfl,_⟩:=zah ho6;have hgT:zab (fun b=>(Value.slice A4 m c4).ownBlock=some b) (wr.drew.alloc (.cells #[.string ts] 9)) W6:=⟨hg6.os,hg6.tape,hg6.output,hg6.size,fun k hk hn=>hg6.block k hk (fun e=>hn e.symm)⟩;have hT6:zab (fun b=>(Value.slice A4 m c4).ownBlock=some b) wr W6:=(zab.of_below hb5).trans hgT;have hnM: ¬(Value.slice A4 m c4).ownBlock=some B:=fun e=>by have:=(HM4.out _ e).1;omega
    have hnb: ¬(Value.slice A4 m c4).ownBlock=some bw:=fun e=>(HM4.out _ e).2 rfl;have k6:=(World.cell?_of_block (a:=⟨B,1,none⟩) (hT6.block _ hl4 hnM)).trans h26;have kw:=(World.cell?_of_block (a:=⟨bw,ow+k,none⟩) (hT6.block _ hbwr hnb)).trans hcw;have kf:=(World.frozen?_of_block (a:=⟨B,1,none⟩) (hT6.block _ hl4 hnM)).trans hz;apply hKc;refine⟨⟨k6,kw⟩, ?_⟩;simp only[Act.put,z2b];have HT6:=z2c hT6;have HO6:=z2c ho6;have HA6:=z2c hat6;have hsz5:=hb5.size;clear hg6 hgT hnM ho6 hat6 hb5 hT6 hdr;dsimp only[zbq,List.drop];go_wp2_with fail
    go_roundw
    case rel=>
     have e9:=zyz tag s.pol (ws.take k) w;have h9:=HPk.out.put (j:=1) (s':=⟨s.rest,addK zan tag s.pol (ws.take (k+1)),s.told⟩) (by omega) h26 HT6.out (by show World.ownsRow _ _ _ _ _ (fN (addK zan tag s.pol (ws.take (k+1))) 1) (fC (addK zan tag s.pol (ws.take (k+1))) 1);rw[HTk.out,e9.1,e9.2,HM.out,HSw.out];exact HO6.out) (HA6.out.imp (fun h=>h) (fun h=>⟨_,h,by simp[go_sem]⟩)) (fun i hi hij=>psj (s:=⟨s.rest,addK zan tag s.pol (ws.take k),s.told⟩) (zu6 tag s.pol (ws.take k) (ws.take (k+1)) i hij)) rfl (by simp only[zk8]) (by simp only[zk8]) (by simp only[zk8]) (by simp only[zk8]);refine⟨k+1,by omega,by go_num,h9.1, ?_, ?_,HBk.out.trans h9.2.1⟩
     ·show World.ownsRow _ _ _ _ _ _ _;have ho1:=za4 HT6.out HOk.out (fun b hb hx=>(HM4.out b hx).2 (z34.inj hb).symm);exact za4 (zab.setCell (pv:=fun b=>b=B) (p:=⟨B,1,none⟩) (zab.refl _ W6) (.inr rfl) _) ho1 (fun b hb hx=>by have:=(HOk.out.lt b hb).1;omega)
     ·show ∀v b,_;intro v b hv hb;have hs6:(W6.setCell ⟨B,1,none⟩ (.slice A6 (m+1) c6)).cell? ⟨B,1,none⟩=some (.slice A6 (m+1) c6):=World.cell?_setCell_same _ _ _ k6;rw[hs6]at hv;cases hv;rcases HA6.out with h|h
      ·exact(HM4.out b (h ▸ hb)).2
      ·rw[h]at hb;have:=z34.inj hb;simp[go_sem]at this;omega
    case measure=>simp[intOf];omega
theorem zk7 (tag:Bs) (p:Pol) (ws:List Bs):addK cssT tag p ws={p with css:=p.css++ws}:=by
 unfold addK;rw[if_neg (by decide)];rw[if_neg (by decide)];rw[if_pos rfl]
theorem zyw (tag:Bs) (p:Pol) (ws:List Bs) (w:Bs):fN (addK cssT tag p (ws++[w])) 2=fN (addK cssT tag p ws) 2+1/\fC (addK cssT tag p (ws++[w])) 2=fC (addK cssT tag p ws) 2++[sv w]:=by
 rw[zk7,zk7];constructor
 ·simp[fN];try omega
 ·simp[fC]
theorem zu5 (tag:Bs) (p:Pol) (ws us:List Bs) (i:Nat) (hi:i≠2):fN (addK cssT tag p us) i=fN (addK cssT tag p ws) i/\fC (addK cssT tag p us) i=fC (addK cssT tag p ws) i:=by
 rw[zk7,zk7];match i,hi with
 |0,_=>exact⟨rfl,rfl⟩
 |1,_=>exact⟨rfl,rfl⟩
 |2,h=>exact absurd rfl h
 |3,_=>exact⟨rfl,rfl⟩
 |4,_=>exact⟨rfl,rfl⟩
 |5,_=>exact⟨rfl,rfl⟩
 |i+6,_=>exact⟨rfl,rfl⟩
theorem zyx (tag:Bs) (p:Pol):addK cssT tag p []=p:=by rw[zk7];simp
theorem zyy (tag:Bs) (p:Pol) (ws:List Bs):fN (addK cssT tag p ws) 2=fN p 2+ws.length:=by rw[zk7];simp[fN]
theorem zqh (en B:Nat) (s:Ps) (W:World) (h:RPar en B s W) (hs:PsSm s):
  Calls z2f 56 #[.pointer (some ⟨B,0,none⟩),.string ⟨cssT.toArray⟩] W (zc3 en B s W (nmR cssT s.rest s.pol)):=by
 have hmx:=mxd;have HP:=z2c h;have hlt:=h.lt;have HSm:=z2c hs;have hr9:=hs.rest;obtain⟨kd,hkd⟩: ∃kd,(⟨cssT.toArray⟩:ByteArray)=kd:=⟨_,rfl⟩;have hkl:kd.toList=[99,115,115]:=by rw[<-hkd,ByteArray.toList_eq];rfl
 rw[hkd];obtain⟨R,hR⟩: ∃R,nmR cssT s.rest s.pol=R:=⟨_,rfl⟩;have HN:Hid (R=match zil cssT s.rest with
  | .error i=> .error i
  | .ok (tag,b)=>match zbo s.rest b with
   | .error i=> .error i
   | .ok ws=> .ok (b+ws.length+1,addK cssT tag s.pol ws)):=by show _=_;rw[<-hR];rfl
 rw[hR];clear hR hkd hs h;have HN2:Hid (R=match zbo s.rest 1 with
  | .error i=> .error i
  | .ok ws=> .ok (1+ws.length+1,addK cssT [] s.pol ws)):=HN.out
 obtain⟨tag,htag⟩: ∃tag:Bs,tag=[]:=⟨_,rfl⟩;have HL:=z2c (show Calls z2f 143 #[.pointer (some ⟨B,0,none⟩),.int .i64 1] W _ from zfy en B s W HP.out 1 (by omega) (by omega));rw[<-htag]at HN2;clear HN htag;go_enter z48,z4w;go_upto_region 11 with(go_at_call 143;(with_reducible refine HL.out.mono ?_);rintro e W2 ⟨v,rfl,ho,hb2⟩;have HO:=z2c ho;have HB2:=z2c hb2;obtain⟨Aw,cw,rfl,_⟩:=zah ho;clear ho hb2)
 have HPw:=z2c (HP.out.grown HB2.out);have HBw:=z2c (HB2.out.mono (z25 hlt));have hlt2:B<W2.heap.size:=z2g hlt HB2.out.size;have HNr:Hid (zbo s.rest 1=if(zaz s.rest 1).length=0\/isR s.rest (1+(zaz s.rest 1).length) 4 zbr=false then .error (1+(zaz s.rest 1).length)else .ok (zaz s.rest 1)):=rfl;have hwl:(zaz s.rest 1).length<=s.rest.length:=by
  unfold zaz;rw[z49];refine z2j (z38 _).length_le ?_;rw[z2n];omega
 obtain⟨ws,hws⟩: ∃ws,zaz s.rest 1=ws:=⟨_,rfl⟩;have HWs:=z2c hws;rw[hws]at HO HNr hwl;obtain⟨n,hn⟩: ∃n,ws.length=n:=⟨_,rfl⟩;have HNn:=z2c hn;try rw[hws]
 rw[hn]at HO HNr hwl ⊢;obtain⟨pl,hpl⟩: ∃pl,1+n=pl:=⟨_,rfl⟩;have HPl:=z2c hpl;have hpl9:pl<=20000:=by omega
 rw[hpl]at HNr;have hpi:(1:Int)+(n:Int)=(pl:Int):=by omega
 rw[hpi];have HIs:=z2c (show Calls z2f 142 #[.pointer (some ⟨B,0,none⟩),.int .i64 (pl:Nat),.int .i64 4,.string ⟨#[59]⟩] W2 _ from zdd en B s W2 HPw.out pl 4 zbr);clear hws hn HL hpl hpi;by_cases h0:n=0
 ·have HR:Hid (R= .error pl):=by show _=_;rw[HN2.out,HNr.out,if_pos (.inl h0)]
  have e0:((n:Int)==0)=true:=by simp;omega
  clear HN2 HNr h0;go_wp2_with fail
  go_ret2;rw[HR.out];exact⟨rfl,HPw.out,HBw.out⟩
 ·have e0:((n:Int)==0)=false:=by simp;omega
  cases hi:isR s.rest pl 4 zbr with
  |false=>
   have HR:Hid (R= .error pl):=by show _=_;rw[HN2.out,HNr.out,if_pos (.inr hi)]
   rw[hi]at HIs;clear HN2 HNr h0 hi;go_wp2_with(go_at_call 142;(with_reducible refine HIs.out.mono ?_);rintro e w' ⟨rfl,rfl⟩)
   go_ret2;rw[HR.out];exact⟨rfl,HPw.out,HBw.out⟩
  |true=>
   have HR:Hid (R= .ok (pl+1,addK cssT tag s.pol ws)):=by
    show _=_;rw[HN2.out,HNr.out,if_neg (by rintro(h|h);exact h0 h;rw[hi]at h;cases h)];simp only;rw[HNn.out,HPl.out]
   rw[hi]at HIs;obtain⟨bw,ow,rfl⟩: ∃bw ow,Aw=some ⟨bw,ow,none⟩:=by
    obtain⟨_,_,A,c,e,h4⟩:=Rd.own HO.out;cases e;obtain⟨b,off,e,_⟩:=h4 (by omega);exact⟨b,off,e⟩
   have hbd:fN s.pol 2+n<=40000:=by have:=HSm.out.rows 2;omega
   have hbw:W.heap.size<=bw:=(HO.out.lt bw rfl).1;have HAp:Hid (∀v b,W2.cell? ⟨B,2,none⟩=some v->v.ownBlock=some b->b≠bw):=by
    show ∀v b,_;intro v b hv hb;obtain⟨u,hu,hou⟩:=HP.out.row 2 (by omega);have h9:W2.cell? ⟨B,2,none⟩=some u:=(HB2.out.cell (p:=⟨B,2,none⟩) hlt).trans hu;rw[hv]at h9;cases h9;have:=(hou.lt b hb).2;omega
   clear HN2 HNr hi hwl h0 HP HB2;go_wp2_with(go_at_call 142;(with_reducible refine HIs.out.mono ?_);rintro e w' ⟨rfl,rfl⟩)
   clear HIs e0;go_loopw [10] (fun i wr=> ∃k,k<=n/\i= .int .i64 (k:Nat)/\Hid (RPar en B ⟨s.rest,addK cssT tag s.pol (ws.take k),s.told⟩ wr)/\Hid (wr.ownsRow W.heap.size 9 1 (.slice (some ⟨bw,ow,none⟩) n cw) n (ws.map sv))/\Hid (∀v b,wr.cell? ⟨B,2,none⟩=some v->v.ownBlock=some b->b≠bw)/\Hid (Below B W wr)) (fun i _=>n-(intOf i).toNat)
   case atStart=>exact⟨0,by omega,rfl,by show RPar _ _ _ _;rw[z5j,zyx];exact HPw.out,HO.out,HAp.out,HBw.out⟩
   case round=>
    clear HPw HO HAp HBw;obtain⟨k,hk,rfl,HPk,HOk,HAk,HBk⟩:=hrel;by_cases hlt3:k<n;rotate_left
    ·have HE:Hid (ws.take k=ws):=z2p (by rw[HNn.out];omega);go_wp2_with fail
     go_ret2;rw[HR.out];rw[HE.out]at HPk;exact⟨by simp,HPk.out,HBk.out⟩
    have hks:k<ws.length:=by rw[HNn.out];exact hlt3
    obtain⟨w,hw⟩: ∃w,ws[k]=w:=⟨_,rfl⟩;have htk:ws.take (k+1)=ws.take k++[w]:=by rw[z29 hks,hw]
    have hcw:wr.cell? ⟨bw,ow+k,none⟩=some (sv w):=by
     obtain⟨_,_,A,c,e,h4⟩:=Rd.own HOk.out;cases e;obtain⟨b,off,e,_,hc⟩:=h4 (by omega);cases e;exact hc k (sv w) (by simp[hks,hw])
    have hbwr:bw<wr.heap.size:=World.block_lt_of_cell? wr _ hcw;have HTk:=z2c htk;have HSw:Hid (sv w= .string ⟨w.toArray⟩):=rfl;rw[HSw.out]at hcw;generalize(⟨w.toArray⟩:ByteArray)=ts at*;obtain⟨v4,hv4,hov⟩:=HPk.out.row 2 (by omega);have hln:fN (addK cssT tag s.pol (ws.take k)) 2=fN s.pol 2+k:=by rw[zyy,z2r];omega
    have hov2:wr.ownsRow (B+1) 9 1 v4 (fN (addK cssT tag s.pol (ws.take k)) 2) (fC (addK cssT tag s.pol (ws.take k)) 2):=hov;obtain⟨m,hm⟩: ∃m,fN (addK cssT tag s.pol (ws.take k)) 2=m:=⟨_,rfl⟩;rw[hm]at hov2;have HM:=z2c hm;have hm9:m<=40000:=by omega
    have HOv:=z2c hov2;obtain⟨A4,c4,rfl,_⟩:=zah hov2;have hl4:=HPk.out.lt;have hz:=HPk.out.fz 2;have h26:wr.cell? ⟨B,2,none⟩=some (.slice A4 m c4):=hv4;have hM4: ∀b,(Value.slice A4 m c4).ownBlock=some b->B+1<=b/\b≠bw:=fun b hb=>⟨(HOv.out.lt b hb).1,HAk.out _ b h26 hb⟩;have HM4:=z2c hM4;clear hov hov2 hm hln htk hw hv4 hM4;have i1:(0:Int)<=(k:Int):=by omega
    have i2:(k:Int)<(n:Int):=by omega
    go_upto_region 22 with fail
    have hdr:Below wr.heap.size wr wr.drew:=bel;refine zak 12 [(0,true),(1,true),(2,true),(3,true),(4,true),(5,true),(6,true),(7,true),(8,true),(9,true),(10,false),(11,false)] (fun V=>V.cell? ⟨B,2,none⟩=some (.slice A4 m c4)/\V.cell? ⟨bw,ow+k,none⟩=some (.string ts)) hmx (by kernel_rfl) (by kernel_rfl) (by kernel_rfl) (by decide) rfl (fun c a d v w h=>by obtain⟨x,y⟩:=(h:_/\_);cases d<;>exact⟨x,y⟩) (by kernel_rfl) (by exact⟨h26,hcw⟩) ?_;refine zaa (v:= .pointer (some ⟨B,0,none⟩)) 90 rfl rfl rfl (fun W hW=>by simp[execOp,go_sem]) ?_;simp only[Act.put,z2b,z2e,z2d];refine zaa (v:= .pointer (some ⟨B,0,none⟩)) 91 rfl rfl rfl (fun W hW=>by simp[execOp,go_sem]) ?_;simp only[Act.put,z2b,z2e,z2d];refine zaa (v:= .pointer (some ⟨B,0,none⟩)) 92 rfl rfl rfl (fun W hW=>by simp[execOp,go_sem]) ?_;simp only[Act.put,z2b,z2e,z2d];refine zaa (v:= .pointer (some ⟨B,0,none⟩)) 93 rfl rfl rfl (fun W hW=>by simp[execOp,go_sem]) ?_;simp only[Act.put,z2b,z2e,z2d];refine zaa (v:= .pointer (some ⟨B,2,none⟩)) 94 rfl rfl rfl (fun W hW=>by simp[execOp,go_sem]) ?_;simp only[Act.put,z2b,z2e,z2d];refine zaa (v:= .slice A4 m c4) 95 rfl rfl rfl (fun W hW=>by simp[execOp,go_sem,hW.1]) ?_;simp only[Act.put,z2b,z2e,z2d];refine zaa (v:= .slice (some ⟨bw,ow,none⟩) n cw) 96 rfl rfl rfl (fun W hW=>by simp[execOp,go_sem]) ?_;simp only[Act.put,z2b,z2e,z2d];refine zaa (v:= .int .i64 (k:Nat)) 97 rfl rfl rfl (fun W hW=>by simp[execOp,go_sem]) ?_;simp only[Act.put,z2b,z2e,z2d];refine zaa (v:= .pointer (some ⟨bw,ow+k,none⟩)) 98 rfl rfl rfl (fun W hW=>by simp[execOp,go_sem]<;>omega) ?_;simp only[Act.put,z2b,z2e,z2d];refine zaa (v:= .string ts) 99 rfl rfl rfl (fun W hW=>by simp[execOp,go_sem,hW.2]) ?_;simp only[Act.put,z2b,z2e,z2d];refine zai rfl rfl fun Kc hKc=> ?_;unfold Oper.wp;simp[execOp,go_sem];apply hKc;have hb5:Below wr.heap.size wr (wr.drew.alloc (.cells #[.string ts] 9)):=bel;refine⟨⟨(hb5.cell (p:=⟨B,2,none⟩) hl4).trans h26,(hb5.cell (p:=⟨bw,ow+k,none⟩) hbwr).trans hcw⟩, ?_⟩;refine zai rfl rfl fun Kc hKc=> ?_;refine zj3 (n:=m) (size:=1) (xs:=fC (addK cssT tag s.pol (ws.take k)) 2) (v:= .slice A4 m c4) _ _ 47 rfl sltS (B+1) rfl ((zge HOv.out hdr).alloc _) (by simp[go_sem]<;>omega) ⟨wr.heap.size,0,none⟩ 1 1 [.string ts] rfl (zaf (c:= #[.string ts]) (by simp[go_sem])) rfl (by simp[Value.oneCell']) (by unfold maxLen;omega) (by omega) ?_;intro v6 W6 ho6 hg6 hat6;obtain⟨A6,c6,rfl,_⟩:=zah ho6;have hgT:zab (fun b=>(Value.slice A4 m c4).ownBlock=some b) (wr.drew.alloc (.cells #[.string ts] 9)) W6:=⟨hg6.os,hg6.tape,hg6.output,hg6.size,fun k hk hn=>hg6.block k hk (fun e=>hn e.symm)⟩;have hT6:zab (fun b=>(Value.slice A4 m c4).ownBlock=some b) wr W6:=(zab.of_below hb5).trans hgT;have hnM: ¬(Value.slice A4 m c4).ownBlock=some B:=fun e=>by have:=(HM4.out _ e).1;omega
    have hnb: ¬(Value.slice A4 m c4).ownBlock=some bw:=fun e=>(HM4.out _ e).2 rfl;have k6:=(World.cell?_of_block (a:=⟨B,2,none⟩) (hT6.block _ hl4 hnM)).trans h26;have kw:=(World.cell?_of_block (a:=⟨bw,ow+k,none⟩) (hT6.block _ hbwr hnb)).trans hcw;have kf:=(World.frozen?_of_block (a:=⟨B,2,none⟩) (hT6.block _ hl4 hnM)).trans hz;apply hKc;refine⟨⟨k6,kw⟩, ?_⟩;simp only[Act.put,z2b];have HT6:=z2c hT6;have HO6:=z2c ho6;have HA6:=z2c hat6;have hsz5:=hb5.size;clear hg6 hgT hnM ho6 hat6 hb5 hT6 hdr;dsimp only[zbq,List.drop];go_wp2_with fail
    go_roundw
    case rel=>
     have e9:=zyw tag s.pol (ws.take k) w;have h9:=HPk.out.put (j:=2) (s':=⟨s.rest,addK cssT tag s.pol (ws.take (k+1)),s.told⟩) (by omega) h26 HT6.out (by show World.ownsRow _ _ _ _ _ (fN (addK cssT tag s.pol (ws.take (k+1))) 2) (fC (addK cssT tag s.pol (ws.take (k+1))) 2);rw[HTk.out,e9.1,e9.2,HM.out,HSw.out];exact HO6.out) (HA6.out.imp (fun h=>h) (fun h=>⟨_,h,by simp[go_sem]⟩)) (fun i hi hij=>psj (s:=⟨s.rest,addK cssT tag s.pol (ws.take k),s.told⟩) (zu5 tag s.pol (ws.take k) (ws.take (k+1)) i hij)) rfl (by simp only[zk7]) (by simp only[zk7]) (by simp only[zk7]) (by simp only[zk7]);refine⟨k+1,by omega,by go_num,h9.1, ?_, ?_,HBk.out.trans h9.2.1⟩
     ·show World.ownsRow _ _ _ _ _ _ _;have ho1:=za4 HT6.out HOk.out (fun b hb hx=>(HM4.out b hx).2 (z34.inj hb).symm);exact za4 (zab.setCell (pv:=fun b=>b=B) (p:=⟨B,2,none⟩) (zab.refl _ W6) (.inr rfl) _) ho1 (fun b hb hx=>by have:=(HOk.out.lt b hb).1;omega)
     ·show ∀v b,_;intro v b hv hb;have hs6:(W6.setCell ⟨B,2,none⟩ (.slice A6 (m+1) c6)).cell? ⟨B,2,none⟩=some (.slice A6 (m+1) c6):=World.cell?_setCell_same _ _ _ k6;rw[hs6]at hv;cases hv;rcases HA6.out with h|h
      ·exact(HM4.out b (h ▸ hb)).2
      ·rw[h]at hb;have:=z34.inj hb;simp[go_sem]at this;omega
    case measure=>simp[intOf];omega
theorem zk6 (tag:Bs) (p:Pol) (ws:List Bs):addK zb8 tag p ws={p with drops:=p.drops++ws}:=by
 unfold addK;rw[if_neg (by decide)];rw[if_neg (by decide)];rw[if_neg (by decide)];rw[if_pos rfl]
theorem zyt (tag:Bs) (p:Pol) (ws:List Bs) (w:Bs):fN (addK zb8 tag p (ws++[w])) 3=fN (addK zb8 tag p ws) 3+1/\fC (addK zb8 tag p (ws++[w])) 3=fC (addK zb8 tag p ws) 3++[sv w]:=by
 rw[zk6,zk6];constructor
 ·simp[fN];try omega
 ·simp[fC]
theorem zu4 (tag:Bs) (p:Pol) (ws us:List Bs) (i:Nat) (hi:i≠3):fN (addK zb8 tag p us) i=fN (addK zb8 tag p ws) i/\fC (addK zb8 tag p us) i=fC (addK zb8 tag p ws) i:=by
 rw[zk6,zk6];match i,hi with
 |0,_=>exact⟨rfl,rfl⟩
 |1,_=>exact⟨rfl,rfl⟩
 |2,_=>exact⟨rfl,rfl⟩
 |3,h=>exact absurd rfl h
 |4,_=>exact⟨rfl,rfl⟩
 |5,_=>exact⟨rfl,rfl⟩
 |i+6,_=>exact⟨rfl,rfl⟩
theorem zyu (tag:Bs) (p:Pol):addK zb8 tag p []=p:=by rw[zk6];simp
theorem zyv (tag:Bs) (p:Pol) (ws:List Bs):fN (addK zb8 tag p ws) 3=fN p 3+ws.length:=by rw[zk6];simp[fN]
theorem zqg (en B:Nat) (s:Ps) (W:World) (h:RPar en B s W) (hs:PsSm s):
  Calls z2f 56 #[.pointer (some ⟨B,0,none⟩),.string ⟨zb8.toArray⟩] W (zc3 en B s W (nmR zb8 s.rest s.pol)):=by
 have hmx:=mxd;have HP:=z2c h;have hlt:=h.lt;have HSm:=z2c hs;have hr9:=hs.rest;obtain⟨kd,hkd⟩: ∃kd,(⟨zb8.toArray⟩:ByteArray)=kd:=⟨_,rfl⟩;have hkl:kd.toList=[100,114,111,112]:=by rw[<-hkd,ByteArray.toList_eq];rfl
 rw[hkd];obtain⟨R,hR⟩: ∃R,nmR zb8 s.rest s.pol=R:=⟨_,rfl⟩;have HN:Hid (R=match zil zb8 s.rest with
  | .error i=> .error i
  | .ok (tag,b)=>match zbo s.rest b with
   | .error i=> .error i
   | .ok ws=> .ok (b+ws.length+1,addK zb8 tag s.pol ws)):=by show _=_;rw[<-hR];rfl
 rw[hR];clear hR hkd hs h;have HN2:Hid (R=match zbo s.rest 1 with
  | .error i=> .error i
  | .ok ws=> .ok (1+ws.length+1,addK zb8 [] s.pol ws)):=HN.out
 obtain⟨tag,htag⟩: ∃tag:Bs,tag=[]:=⟨_,rfl⟩;have HL:=z2c (show Calls z2f 143 #[.pointer (some ⟨B,0,none⟩),.int .i64 1] W _ from zfy en B s W HP.out 1 (by omega) (by omega));rw[<-htag]at HN2;clear HN htag;go_enter z48,z4w;go_upto_region 11 with(go_at_call 143;(with_reducible refine HL.out.mono ?_);rintro e W2 ⟨v,rfl,ho,hb2⟩;have HO:=z2c ho;have HB2:=z2c hb2;obtain⟨Aw,cw,rfl,_⟩:=zah ho;clear ho hb2)
 have HPw:=z2c (HP.out.grown HB2.out);have HBw:=z2c (HB2.out.mono (z25 hlt));have hlt2:B<W2.heap.size:=z2g hlt HB2.out.size;have HNr:Hid (zbo s.rest 1=if(zaz s.rest 1).length=0\/isR s.rest (1+(zaz s.rest 1).length) 4 zbr=false then .error (1+(zaz s.rest 1).length)else .ok (zaz s.rest 1)):=rfl;have hwl:(zaz s.rest 1).length<=s.rest.length:=by
  unfold zaz;rw[z49];refine z2j (z38 _).length_le ?_;rw[z2n];omega
 obtain⟨ws,hws⟩: ∃ws,zaz s.rest 1=ws:=⟨_,rfl⟩;have HWs:=z2c hws;rw[hws]at HO HNr hwl;obtain⟨n,hn⟩: ∃n,ws.length=n:=⟨_,rfl⟩;have HNn:=z2c hn;try rw[hws]
 rw[hn]at HO HNr hwl ⊢;obtain⟨pl,hpl⟩: ∃pl,1+n=pl:=⟨_,rfl⟩;have HPl:=z2c hpl;have hpl9:pl<=20000:=by omega
 rw[hpl]at HNr;have hpi:(1:Int)+(n:Int)=(pl:Int):=by omega
 rw[hpi];have HIs:=z2c (show Calls z2f 142 #[.pointer (some ⟨B,0,none⟩),.int .i64 (pl:Nat),.int .i64 4,.string ⟨#[59]⟩] W2 _ from zdd en B s W2 HPw.out pl 4 zbr);clear hws hn HL hpl hpi;by_cases h0:n=0
 ·have HR:Hid (R= .error pl):=by show _=_;rw[HN2.out,HNr.out,if_pos (.inl h0)]
  have e0:((n:Int)==0)=true:=by simp;omega
  clear HN2 HNr h0;go_wp2_with fail
  go_ret2;rw[HR.out];exact⟨rfl,HPw.out,HBw.out⟩
 ·have e0:((n:Int)==0)=false:=by simp;omega
  cases hi:isR s.rest pl 4 zbr with
  |false=>
   have HR:Hid (R= .error pl):=by show _=_;rw[HN2.out,HNr.out,if_pos (.inr hi)]
   rw[hi]at HIs;clear HN2 HNr h0 hi;go_wp2_with(go_at_call 142;(with_reducible refine HIs.out.mono ?_);rintro e w' ⟨rfl,rfl⟩)
   go_ret2;rw[HR.out];exact⟨rfl,HPw.out,HBw.out⟩
  |true=>
   have HR:Hid (R= .ok (pl+1,addK zb8 tag s.pol ws)):=by
    show _=_;rw[HN2.out,HNr.out,if_neg (by rintro(h|h);exact h0 h;rw[hi]at h;cases h)];simp only;rw[HNn.out,HPl.out]
   rw[hi]at HIs;obtain⟨bw,ow,rfl⟩: ∃bw ow,Aw=some ⟨bw,ow,none⟩:=by
    obtain⟨_,_,A,c,e,h4⟩:=Rd.own HO.out;cases e;obtain⟨b,off,e,_⟩:=h4 (by omega);exact⟨b,off,e⟩
   have hbd:fN s.pol 3+n<=40000:=by have:=HSm.out.rows 3;omega
   have hbw:W.heap.size<=bw:=(HO.out.lt bw rfl).1;have HAp:Hid (∀v b,W2.cell? ⟨B,3,none⟩=some v->v.ownBlock=some b->b≠bw):=by
    show ∀v b,_;intro v b hv hb;obtain⟨u,hu,hou⟩:=HP.out.row 3 (by omega);have h9:W2.cell? ⟨B,3,none⟩=some u:=(HB2.out.cell (p:=⟨B,3,none⟩) hlt).trans hu;rw[hv]at h9;cases h9;have:=(hou.lt b hb).2;omega
   clear HN2 HNr hi hwl h0 HP HB2;go_wp2_with(go_at_call 142;(with_reducible refine HIs.out.mono ?_);rintro e w' ⟨rfl,rfl⟩)
   clear HIs e0;go_loopw [10] (fun i wr=> ∃k,k<=n/\i= .int .i64 (k:Nat)/\Hid (RPar en B ⟨s.rest,addK zb8 tag s.pol (ws.take k),s.told⟩ wr)/\Hid (wr.ownsRow W.heap.size 9 1 (.slice (some ⟨bw,ow,none⟩) n cw) n (ws.map sv))/\Hid (∀v b,wr.cell? ⟨B,3,none⟩=some v->v.ownBlock=some b->b≠bw)/\Hid (Below B W wr)) (fun i _=>n-(intOf i).toNat)
   case atStart=>exact⟨0,by omega,rfl,by show RPar _ _ _ _;rw[z5j,zyu];exact HPw.out,HO.out,HAp.out,HBw.out⟩
   case round=>
    clear HPw HO HAp HBw;obtain⟨k,hk,rfl,HPk,HOk,HAk,HBk⟩:=hrel;by_cases hlt3:k<n;rotate_left
    ·have HE:Hid (ws.take k=ws):=z2p (by rw[HNn.out];omega);go_wp2_with fail
     go_ret2;rw[HR.out];rw[HE.out]at HPk;exact⟨by simp,HPk.out,HBk.out⟩
    have hks:k<ws.length:=by rw[HNn.out];exact hlt3
    obtain⟨w,hw⟩: ∃w,ws[k]=w:=⟨_,rfl⟩;have htk:ws.take (k+1)=ws.take k++[w]:=by rw[z29 hks,hw]
    have hcw:wr.cell? ⟨bw,ow+k,none⟩=some (sv w):=by
     obtain⟨_,_,A,c,e,h4⟩:=Rd.own HOk.out;cases e;obtain⟨b,off,e,_,hc⟩:=h4 (by omega);cases e;exact hc k (sv w) (by simp[hks,hw])
    have hbwr:bw<wr.heap.size:=World.block_lt_of_cell? wr _ hcw;have HTk:=z2c htk;have HSw:Hid (sv w= .string ⟨w.toArray⟩):=rfl;rw[HSw.out]at hcw;generalize(⟨w.toArray⟩:ByteArray)=ts at*;obtain⟨v4,hv4,hov⟩:=HPk.out.row 3 (by omega);have hln:fN (addK zb8 tag s.pol (ws.take k)) 3=fN s.pol 3+k:=by rw[zyv,z2r];omega
    have hov2:wr.ownsRow (B+1) 9 1 v4 (fN (addK zb8 tag s.pol (ws.take k)) 3) (fC (addK zb8 tag s.pol (ws.take k)) 3):=hov;obtain⟨m,hm⟩: ∃m,fN (addK zb8 tag s.pol (ws.take k)) 3=m:=⟨_,rfl⟩;rw[hm]at hov2;have HM:=z2c hm;have hm9:m<=40000:=by omega
    have HOv:=z2c hov2;obtain⟨A4,c4,rfl,_⟩:=zah hov2;have hl4:=HPk.out.lt;have hz:=HPk.out.fz 3;have h26:wr.cell? ⟨B,3,none⟩=some (.slice A4 m c4):=hv4;have hM4: ∀b,(Value.slice A4 m c4).ownBlock=some b->B+1<=b/\b≠bw:=fun b hb=>⟨(HOv.out.lt b hb).1,HAk.out _ b h26 hb⟩;have HM4:=z2c hM4;clear hov hov2 hm hln htk hw hv4 hM4;have i1:(0:Int)<=(k:Int):=by omega
    have i2:(k:Int)<(n:Int):=by omega
    go_upto_region 24 with fail
    have hdr:Below wr.heap.size wr wr.drew:=bel;refine zak 12 [(0,true),(1,true),(2,true),(3,true),(4,true),(5,true),(6,true),(7,true),(8,true),(9,true),(10,false),(11,false)] (fun V=>V.cell? ⟨B,3,none⟩=some (.slice A4 m c4)/\V.cell? ⟨bw,ow+k,none⟩=some (.string ts)) hmx (by kernel_rfl) (by kernel_rfl) (by kernel_rfl) (by decide) rfl (fun c a d v w h=>by obtain⟨x,y⟩:=(h:_/\_);cases d<;>exact⟨x,y⟩) (by kernel_rfl) (by exact⟨h26,hcw⟩) ?_;refine zaa (v:= .pointer (some ⟨B,0,none⟩)) 107 rfl rfl rfl (fun W hW=>by simp[execOp,go_sem]) ?_;simp only[Act.put,z2b,z2e,z2d];refine zaa (v:= .pointer (some ⟨B,0,none⟩)) 108 rfl rfl rfl (fun W hW=>by simp[execOp,go_sem]) ?_;simp only[Act.put,z2b,z2e,z2d];refine zaa (v:= .pointer (some ⟨B,0,none⟩)) 109 rfl rfl rfl (fun W hW=>by simp[execOp,go_sem]) ?_;simp only[Act.put,z2b,z2e,z2d];refine zaa (v:= .pointer (some ⟨B,0,none⟩)) 110 rfl rfl rfl (fun W hW=>by simp[execOp,go_sem]) ?_;simp only[Act.put,z2b,z2e,z2d];refine zaa (v:= .pointer (some ⟨B,3,none⟩)) 111 rfl rfl rfl (fun W hW=>by simp[execOp,go_sem]) ?_;simp only[Act.put,z2b,z2e,z2d];refine zaa (v:= .slice A4 m c4) 112 rfl rfl rfl (fun W hW=>by simp[execOp,go_sem,hW.1]) ?_;simp only[Act.put,z2b,z2e,z2d];refine zaa (v:= .slice (some ⟨bw,ow,none⟩) n cw) 113 rfl rfl rfl (fun W hW=>by simp[execOp,go_sem]) ?_;simp only[Act.put,z2b,z2e,z2d];refine zaa (v:= .int .i64 (k:Nat)) 114 rfl rfl rfl (fun W hW=>by simp[execOp,go_sem]) ?_;simp only[Act.put,z2b,z2e,z2d];refine zaa (v:= .pointer (some ⟨bw,ow+k,none⟩)) 115 rfl rfl rfl (fun W hW=>by simp[execOp,go_sem]<;>omega) ?_;simp only[Act.put,z2b,z2e,z2d];refine zaa (v:= .string ts) 116 rfl rfl rfl (fun W hW=>by simp[execOp,go_sem,hW.2]) ?_;simp only[Act.put,z2b,z2e,z2d];refine zai rfl rfl fun Kc hKc=> ?_;unfold Oper.wp;simp[execOp,go_sem];apply hKc;have hb5:Below wr.heap.size wr (wr.drew.alloc (.cells #[.string ts] 9)):=bel;refine⟨⟨(hb5.cell (p:=⟨B,3,none⟩) hl4).trans h26,(hb5.cell (p:=⟨bw,ow+k,none⟩) hbwr).trans hcw⟩, ?_⟩;refine zai rfl rfl fun Kc hKc=> ?_;refine zj3 (n:=m) (size:=1) (xs:=fC (addK zb8 tag s.pol (ws.take k)) 3) (v:= .slice A4 m c4) _ _ 47 rfl sltS (B+1) rfl ((zge HOv.out hdr).alloc _) (by simp[go_sem]<;>omega) ⟨wr.heap.size,0,none⟩ 1 1 [.string ts] rfl (zaf (c:= #[.string ts]) (by simp[go_sem])) rfl (by simp[Value.oneCell']) (by unfold maxLen;omega) (by omega) ?_;intro v6 W6 ho6 hg6 hat6;obtain⟨A6,c6,rfl,_⟩:=zah ho6;have hgT:zab (fun b=>(Value.slice A4 m c4).ownBlock=some b) (wr.drew.alloc (.cells #[.string ts] 9)) W6:=⟨hg6.os,hg6.tape,hg6.output,hg6.size,fun k hk hn=>hg6.block k hk (fun e=>hn e.symm)⟩;have hT6:zab (fun b=>(Value.slice A4 m c4).ownBlock=some b) wr W6:=(zab.of_below hb5).trans hgT;have hnM: ¬(Value.slice A4 m c4).ownBlock=some B:=fun e=>by have:=(HM4.out _ e).1;omega
    have hnb: ¬(Value.slice A4 m c4).ownBlock=some bw:=fun e=>(HM4.out _ e).2 rfl;have k6:=(World.cell?_of_block (a:=⟨B,3,none⟩) (hT6.block _ hl4 hnM)).trans h26;have kw:=(World.cell?_of_block (a:=⟨bw,ow+k,none⟩) (hT6.block _ hbwr hnb)).trans hcw;have kf:=(World.frozen?_of_block (a:=⟨B,3,none⟩) (hT6.block _ hl4 hnM)).trans hz;apply hKc;refine⟨⟨k6,kw⟩, ?_⟩;simp only[Act.put,z2b];have HT6:=z2c hT6;have HO6:=z2c ho6;have HA6:=z2c hat6;have hsz5:=hb5.size;clear hg6 hgT hnM ho6 hat6 hb5 hT6 hdr;dsimp only[zbq,List.drop];go_wp2_with fail
    go_roundw
    case rel=>
     have e9:=zyt tag s.pol (ws.take k) w;have h9:=HPk.out.put (j:=3) (s':=⟨s.rest,addK zb8 tag s.pol (ws.take (k+1)),s.told⟩) (by omega) h26 HT6.out (by show World.ownsRow _ _ _ _ _ (fN (addK zb8 tag s.pol (ws.take (k+1))) 3) (fC (addK zb8 tag s.pol (ws.take (k+1))) 3);rw[HTk.out,e9.1,e9.2,HM.out,HSw.out];exact HO6.out) (HA6.out.imp (fun h=>h) (fun h=>⟨_,h,by simp[go_sem]⟩)) (fun i hi hij=>psj (s:=⟨s.rest,addK zb8 tag s.pol (ws.take k),s.told⟩) (zu4 tag s.pol (ws.take k) (ws.take (k+1)) i hij)) rfl (by simp only[zk6]) (by simp only[zk6]) (by simp only[zk6]) (by simp only[zk6]);refine⟨k+1,by omega,by go_num,h9.1, ?_, ?_,HBk.out.trans h9.2.1⟩
     ·show World.ownsRow _ _ _ _ _ _ _;have ho1:=za4 HT6.out HOk.out (fun b hb hx=>(HM4.out b hx).2 (z34.inj hb).symm);exact za4 (zab.setCell (pv:=fun b=>b=B) (p:=⟨B,3,none⟩) (zab.refl _ W6) (.inr rfl) _) ho1 (fun b hb hx=>by have:=(HOk.out.lt b hb).1;omega)
     ·show ∀v b,_;intro v b hv hb;have hs6:(W6.setCell ⟨B,3,none⟩ (.slice A6 (m+1) c6)).cell? ⟨B,3,none⟩=some (.slice A6 (m+1) c6):=World.cell?_setCell_same _ _ _ k6;rw[hs6]at hv;cases hv;rcases HA6.out with h|h
      ·exact(HM4.out b (h ▸ hb)).2
      ·rw[h]at hb;have:=z34.inj hb;simp[go_sem]at this;omega
    case measure=>simp[intOf];omega
theorem zk5 (tag:Bs) (p:Pol) (ws:List Bs):addK zbd tag p ws={p with attrs:=p.attrs++ws.map (fun n=>⟨tag,n⟩)}:=by
 unfold addK;rw[if_neg (by decide)];rw[if_neg (by decide)];rw[if_neg (by decide)];rw[if_neg (by decide)]
theorem zyq (tag:Bs) (p:Pol) (ws:List Bs) (w:Bs):fN (addK zbd tag p (ws++[w])) 4=fN (addK zbd tag p ws) 4+1/\fC (addK zbd tag p (ws++[w])) 4=fC (addK zbd tag p ws) 4++[sv tag,sv w]:=by
 rw[zk5,zk5];constructor
 ·simp[fN];try omega
 ·simp[fC,Alw.cells]
theorem zu3 (tag:Bs) (p:Pol) (ws us:List Bs) (i:Nat) (hi:i≠4):fN (addK zbd tag p us) i=fN (addK zbd tag p ws) i/\fC (addK zbd tag p us) i=fC (addK zbd tag p ws) i:=by
 rw[zk5,zk5];match i,hi with
 |0,_=>exact⟨rfl,rfl⟩
 |1,_=>exact⟨rfl,rfl⟩
 |2,_=>exact⟨rfl,rfl⟩
 |3,_=>exact⟨rfl,rfl⟩
 |4,h=>exact absurd rfl h
 |5,_=>exact⟨rfl,rfl⟩
 |i+6,_=>exact⟨rfl,rfl⟩
theorem zyr (tag:Bs) (p:Pol):addK zbd tag p []=p:=by rw[zk5];simp
theorem zys (tag:Bs) (p:Pol) (ws:List Bs):fN (addK zbd tag p ws) 4=fN p 4+ws.length:=by rw[zk5];simp[fN]
theorem zqf (en B:Nat) (s:Ps) (W:World) (h:RPar en B s W) (hs:PsSm s):
  Calls z2f 56 #[.pointer (some ⟨B,0,none⟩),.string ⟨zbd.toArray⟩] W (zc3 en B s W (nmR zbd s.rest s.pol)):=by
 have hmx:=mxd;have HP:=z2c h;have hlt:=h.lt;have HSm:=z2c hs;have hr9:=hs.rest;obtain⟨kd,hkd⟩: ∃kd,(⟨zbd.toArray⟩:ByteArray)=kd:=⟨_,rfl⟩;have hkl:kd.toList=[97,116,116,114,115]:=by rw[<-hkd,ByteArray.toList_eq];rfl
 rw[hkd];obtain⟨R,hR⟩: ∃R,nmR zbd s.rest s.pol=R:=⟨_,rfl⟩;have HN:Hid (R=match zil zbd s.rest with
  | .error i=> .error i
  | .ok (tag,b)=>match zbo s.rest b with
   | .error i=> .error i
   | .ok ws=> .ok (b+ws.length+1,addK zbd tag s.pol ws)):=by show _=_;rw[<-hR];rfl
 rw[hR];clear hR hkd hs h;have HI:=z2c (fun(i k:Nat) (t:Bs)=>zdd en B s W HP.out i k t);have HI1:=z2c (show Calls z2f 142 #[.pointer (some ⟨B,0,none⟩),.int .i64 1,.int .i64 1,.string ⟨#[]⟩] W _ from HI.out 1 1 []);have HI2:=z2c (show Calls z2f 142 #[.pointer (some ⟨B,0,none⟩),.int .i64 1,.int .i64 4,.string ⟨#[42]⟩] W _ from HI.out 1 4 [42]);have HI3:=z2c (show Calls z2f 142 #[.pointer (some ⟨B,0,none⟩),.int .i64 2,.int .i64 4,.string ⟨#[58]⟩] W _ from HI.out 2 4 [58]);have HLi:Hid (zil zbd s.rest=match zuc s.rest with
  | .error i=> .error i
  | .ok t=> .ok (t,3)):=rfl
 have HHd:Hid (zuc s.rest=if(!isR s.rest 1 1 []&& !isR s.rest 1 4 [42])=true then .error 1 else if isR s.rest 2 4 [58]=false then .error 2 else .ok (zas s.rest 1)):=rfl;obtain⟨D1,hD1⟩: ∃D,isR s.rest 1 1 []=D:=⟨_,rfl⟩;obtain⟨D2,hD2⟩: ∃D,isR s.rest 1 4 [42]=D:=⟨_,rfl⟩;obtain⟨D3,hD3⟩: ∃D,isR s.rest 2 4 [58]=D:=⟨_,rfl⟩;have hin:(D1||D2)=true->1<s.rest.length:=by
  intro hd;rcases Nat.lt_or_ge 1 s.rest.length with h|h
  ·exact h
  ·rw[<-hD1,<-hD2,zm4 h,zm4 h]at hd;cases hd
 rw[hD1]at HI1 HHd;rw[hD2]at HI2 HHd;rw[hD3]at HI3 HHd;clear HI hD1 hD2 hD3;by_cases hh:(D1||D2)=true;rotate_left
 ·obtain⟨rfl,rfl⟩:=Bool.or_eq_false_iff.1 (Bool.eq_false_iff.2 hh);have HR:Hid (R= .error 1):=by show _=_;rw[HN.out,HLi.out,HHd.out];rfl
  clear HN HLi HHd hh hin;go_enter z48,z4w;go_wp2_with(first|(go_at_call 142;(with_reducible refine HI1.out.mono ?_);rintro e w' ⟨rfl,rfl⟩)|(go_at_call 142;(with_reducible refine HI2.out.mono ?_);rintro e w' ⟨rfl,rfl⟩))
  go_ret2;rw[HR.out];exact⟨rfl,HP.out,Below.refl _ _⟩
 have hlen:=hin hh;have HH2:Hid (zuc s.rest=if D3=false then .error 2 else .ok (zas s.rest 1)):=by
  show _=_;rw[HHd.out,if_neg (by revert hh;cases D1<;>cases D2<;>simp)]
 obtain⟨A,c,hc,_,A',c',he,_,hrd,_⟩:=HP.out.rest;cases he;obtain⟨b1,o1,rfl,hb1,x0,x1,x2⟩:=Rd.lxAt hrd 1 hlen;have htx:s.rest[1].text=zas s.rest 1:=by unfold zas;rw[List.drop_eq_getElem_cons hlen]
 rw[htx]at x2;obtain⟨tag,htag⟩: ∃tag,zas s.rest 1=tag:=⟨_,rfl⟩;rw[htag]at x2 HH2;generalize s.rest[1].kind=xk at*;generalize s.rest[1].at_=xa at*;have HTg:Hid (sv tag= .string ⟨tag.toArray⟩):=rfl;obtain⟨tg,htg⟩: ∃tg,(⟨tag.toArray⟩:ByteArray)=tg:=⟨_,rfl⟩;rw[htg]at x2 HTg;obtain⟨nl,hnl⟩: ∃nl,s.rest.length=nl:=⟨_,rfl⟩;rw[hnl]at hc hlen;have hx2:W.cell? ⟨b1,o1+3+2,none⟩=some (.string tg):=x2;have hL1:(1:Int)<nl:=by omega
 clear HHd hrd htx htag htg hin x0 x1 x2 hnl;cases D3 with
 |false=>
  have HR:Hid (R= .error 2):=by show _=_;rw[HN.out,HLi.out,HH2.out];rfl
  clear HN HLi HH2;revert hh;cases D1<;>cases D2<;>intro hh
  ·cases hh
  all_goals
   clear hh;go_enter z48,z4w;go_wp2_with(first|(go_at_call 142;(with_reducible refine HI1.out.mono ?_);rintro e w' ⟨rfl,rfl⟩)|(go_at_call 142;(with_reducible refine HI2.out.mono ?_);rintro e w' ⟨rfl,rfl⟩)|(go_at_call 142;(with_reducible refine HI3.out.mono ?_);rintro e w' ⟨rfl,rfl⟩))
   go_ret2;rw[HR.out];exact⟨rfl,HP.out,Below.refl _ _⟩
 |true=>
  have HN2:Hid (R=match zbo s.rest 3 with
   | .error i=> .error i
   | .ok ws=> .ok (3+ws.length+1,addK zbd tag s.pol ws)):=by show _=_;rw[HN.out,HLi.out,HH2.out];rfl
  have HL:=z2c (show Calls z2f 143 #[.pointer (some ⟨B,0,none⟩),.int .i64 3] W _ from zfy en B s W HP.out 3 (by omega) (by omega));clear HN HLi HH2;revert hh;cases D1<;>cases D2<;>intro hh
  ·cases hh
  all_goals
   clear hh;go_enter z48,z4w;go_upto_region 11 with(first|(go_at_call 142;(with_reducible refine HI1.out.mono ?_);rintro e w' ⟨rfl,rfl⟩)|(go_at_call 142;(with_reducible refine HI2.out.mono ?_);rintro e w' ⟨rfl,rfl⟩)|(go_at_call 142;(with_reducible refine HI3.out.mono ?_);rintro e w' ⟨rfl,rfl⟩)|(go_at_call 143;(with_reducible refine HL.out.mono ?_);rintro e W2 ⟨v,rfl,ho,hb2⟩;have HO:=z2c ho;have HB2:=z2c hb2;obtain⟨Aw,cw,rfl,_⟩:=zah ho;clear ho hb2))
   clear hc hx2 hb1;have HPw:=z2c (HP.out.grown HB2.out);have HBw:=z2c (HB2.out.mono (z25 hlt));have hlt2:B<W2.heap.size:=z2g hlt HB2.out.size;have HNr:Hid (zbo s.rest 3=if(zaz s.rest 3).length=0\/isR s.rest (3+(zaz s.rest 3).length) 4 zbr=false then .error (3+(zaz s.rest 3).length)else .ok (zaz s.rest 3)):=rfl;have hwl:(zaz s.rest 3).length<=s.rest.length:=by
    unfold zaz;rw[z49];refine z2j (z38 _).length_le ?_;rw[z2n];omega
   obtain⟨ws,hws⟩: ∃ws,zaz s.rest 3=ws:=⟨_,rfl⟩;have HWs:=z2c hws;rw[hws]at HO HNr hwl;obtain⟨n,hn⟩: ∃n,ws.length=n:=⟨_,rfl⟩;have HNn:=z2c hn;try rw[hws]
   rw[hn]at HO HNr hwl ⊢;obtain⟨pl,hpl⟩: ∃pl,3+n=pl:=⟨_,rfl⟩;have HPl:=z2c hpl;have hpl9:pl<=20000:=by omega
   rw[hpl]at HNr;have hpi:(3:Int)+(n:Int)=(pl:Int):=by omega
   rw[hpi];have HIs:=z2c (show Calls z2f 142 #[.pointer (some ⟨B,0,none⟩),.int .i64 (pl:Nat),.int .i64 4,.string ⟨#[59]⟩] W2 _ from zdd en B s W2 HPw.out pl 4 zbr);clear hws hn HL hpl hpi;by_cases h0:n=0
   ·have HR:Hid (R= .error pl):=by show _=_;rw[HN2.out,HNr.out,if_pos (.inl h0)]
    have e0:((n:Int)==0)=true:=by simp;omega
    clear HN2 HNr h0;go_wp2_with fail
    go_ret2;rw[HR.out];exact⟨rfl,HPw.out,HBw.out⟩
   ·have e0:((n:Int)==0)=false:=by simp;omega
    cases hi:isR s.rest pl 4 zbr with
    |false=>
     have HR:Hid (R= .error pl):=by show _=_;rw[HN2.out,HNr.out,if_pos (.inr hi)]
     rw[hi]at HIs;clear HN2 HNr h0 hi;go_wp2_with(go_at_call 142;(with_reducible refine HIs.out.mono ?_);rintro e w' ⟨rfl,rfl⟩)
     go_ret2;rw[HR.out];exact⟨rfl,HPw.out,HBw.out⟩
    |true=>
     have HR:Hid (R= .ok (pl+1,addK zbd tag s.pol ws)):=by
      show _=_;rw[HN2.out,HNr.out,if_neg (by rintro(h|h);exact h0 h;rw[hi]at h;cases h)];simp only;rw[HNn.out,HPl.out]
     rw[hi]at HIs;obtain⟨bw,ow,rfl⟩: ∃bw ow,Aw=some ⟨bw,ow,none⟩:=by
      obtain⟨_,_,A,c,e,h4⟩:=Rd.own HO.out;cases e;obtain⟨b,off,e,_⟩:=h4 (by omega);exact⟨b,off,e⟩
     have hbd:fN s.pol 4+n<=40000:=by have:=HSm.out.rows 4;omega
     have hbw:W.heap.size<=bw:=(HO.out.lt bw rfl).1;have HAp:Hid (∀v b,W2.cell? ⟨B,4,none⟩=some v->v.ownBlock=some b->b≠bw):=by
      show ∀v b,_;intro v b hv hb;obtain⟨u,hu,hou⟩:=HP.out.row 4 (by omega);have h9:W2.cell? ⟨B,4,none⟩=some u:=(HB2.out.cell (p:=⟨B,4,none⟩) hlt).trans hu;rw[hv]at h9;cases h9;have:=(hou.lt b hb).2;omega
     clear HN2 HNr hi hwl h0 HP HB2;go_wp2_with(go_at_call 142;(with_reducible refine HIs.out.mono ?_);rintro e w' ⟨rfl,rfl⟩)
     clear HIs e0;go_loopw [10] (fun i wr=> ∃k,k<=n/\i= .int .i64 (k:Nat)/\Hid (RPar en B ⟨s.rest,addK zbd tag s.pol (ws.take k),s.told⟩ wr)/\Hid (wr.ownsRow W.heap.size 9 1 (.slice (some ⟨bw,ow,none⟩) n cw) n (ws.map sv))/\Hid (∀v b,wr.cell? ⟨B,4,none⟩=some v->v.ownBlock=some b->b≠bw)/\Hid (Below B W wr)) (fun i _=>n-(intOf i).toNat)
     case atStart=>exact⟨0,by omega,rfl,by show RPar _ _ _ _;rw[z5j,zyr];exact HPw.out,HO.out,HAp.out,HBw.out⟩
     case round=>
      clear HPw HO HAp HBw;obtain⟨k,hk,rfl,HPk,HOk,HAk,HBk⟩:=hrel;by_cases hlt3:k<n;rotate_left
      ·have HE:Hid (ws.take k=ws):=z2p (by rw[HNn.out];omega);go_wp2_with fail
       go_ret2;rw[HR.out];rw[HE.out]at HPk;exact⟨by simp,HPk.out,HBk.out⟩
      have hks:k<ws.length:=by rw[HNn.out];exact hlt3
      obtain⟨w,hw⟩: ∃w,ws[k]=w:=⟨_,rfl⟩;have htk:ws.take (k+1)=ws.take k++[w]:=by rw[z29 hks,hw]
      have hcw:wr.cell? ⟨bw,ow+k,none⟩=some (sv w):=by
       obtain⟨_,_,A,c,e,h4⟩:=Rd.own HOk.out;cases e;obtain⟨b,off,e,_,hc⟩:=h4 (by omega);cases e;exact hc k (sv w) (by simp[hks,hw])
      have hbwr:bw<wr.heap.size:=World.block_lt_of_cell? wr _ hcw;have HTk:=z2c htk;have HSw:Hid (sv w= .string ⟨w.toArray⟩):=rfl;rw[HSw.out]at hcw;generalize(⟨w.toArray⟩:ByteArray)=ts at*;obtain⟨v4,hv4,hov⟩:=HPk.out.row 4 (by omega);have hln:fN (addK zbd tag s.pol (ws.take k)) 4=fN s.pol 4+k:=by rw[zys,z2r];omega
      have hov2:wr.ownsRow (B+1) 101 2 v4 (fN (addK zbd tag s.pol (ws.take k)) 4) (fC (addK zbd tag s.pol (ws.take k)) 4):=hov;obtain⟨m,hm⟩: ∃m,fN (addK zbd tag s.pol (ws.take k)) 4=m:=⟨_,rfl⟩;rw[hm]at hov2;have HM:=z2c hm;have hm9:m<=40000:=by omega
      have HOv:=z2c hov2;obtain⟨A4,c4,rfl,_⟩:=zah hov2;have hl4:=HPk.out.lt;have hz:=HPk.out.fz 4;have h26:wr.cell? ⟨B,4,none⟩=some (.slice A4 m c4):=hv4;have hM4: ∀b,(Value.slice A4 m c4).ownBlock=some b->B+1<=b/\b≠bw:=fun b hb=>⟨(HOv.out.lt b hb).1,HAk.out _ b h26 hb⟩;have HM4:=z2c hM4;clear hov hov2 hm hln htk hw hv4 hM4;have i1:(0:Int)<=(k:Int):=by omega
      have i2:(k:Int)<(n:Int):=by omega
      go_upto_region 26 with fail
      have hdr:Below wr.heap.size wr wr.drew:=bel;refine zak 14 [(0,true),(1,true),(2,true),(3,true),(4,true),(5,true),(6,true),(7,true),(8,true),(9,true),(10,true),(11,true),(12,false),(13,false)] (fun V=>V.cell? ⟨B,4,none⟩=some (.slice A4 m c4)/\V.cell? ⟨bw,ow+k,none⟩=some (.string ts)) hmx (by kernel_rfl) (by kernel_rfl) (by kernel_rfl) (by decide) rfl (fun c a d v w h=>by obtain⟨x,y⟩:=(h:_/\_);cases d<;>exact⟨x,y⟩) (by kernel_rfl) (by exact⟨h26,hcw⟩) ?_;refine zaa (v:= .pointer (some ⟨B,0,none⟩)) 124 rfl rfl rfl (fun W hW=>by simp[execOp,go_sem]) ?_;simp only[Act.put,z2b,z2e,z2d];refine zaa (v:= .pointer (some ⟨B,0,none⟩)) 125 rfl rfl rfl (fun W hW=>by simp[execOp,go_sem]) ?_;simp only[Act.put,z2b,z2e,z2d];refine zaa (v:= .pointer (some ⟨B,0,none⟩)) 126 rfl rfl rfl (fun W hW=>by simp[execOp,go_sem]) ?_;simp only[Act.put,z2b,z2e,z2d];refine zaa (v:= .pointer (some ⟨B,0,none⟩)) 127 rfl rfl rfl (fun W hW=>by simp[execOp,go_sem]) ?_;simp only[Act.put,z2b,z2e,z2d];refine zaa (v:= .pointer (some ⟨B,4,none⟩)) 128 rfl rfl rfl (fun W hW=>by simp[execOp,go_sem]) ?_;simp only[Act.put,z2b,z2e,z2d];refine zaa (v:= .slice A4 m c4) 129 rfl rfl rfl (fun W hW=>by simp[execOp,go_sem,hW.1]) ?_;simp only[Act.put,z2b,z2e,z2d];refine zaa (v:= .string tg) 130 rfl rfl rfl (fun W hW=>by simp[execOp,go_sem]) ?_;simp only[Act.put,z2b,z2e,z2d];refine zaa (v:= .slice (some ⟨bw,ow,none⟩) n cw) 131 rfl rfl rfl (fun W hW=>by simp[execOp,go_sem]) ?_;simp only[Act.put,z2b,z2e,z2d];refine zaa (v:= .int .i64 (k:Nat)) 132 rfl rfl rfl (fun W hW=>by simp[execOp,go_sem]) ?_;simp only[Act.put,z2b,z2e,z2d];refine zaa (v:= .pointer (some ⟨bw,ow+k,none⟩)) 133 rfl rfl rfl (fun W hW=>by simp[execOp,go_sem]<;>omega) ?_;simp only[Act.put,z2b,z2e,z2d];refine zaa (v:= .string ts) 134 rfl rfl rfl (fun W hW=>by simp[execOp,go_sem,hW.2]) ?_;simp only[Act.put,z2b,z2e,z2d];refine zaa (v:= .agg #[.string tg,.string ts]) 135 rfl rfl rfl (fun W hW=>by simp[execOp,go_sem]) ?_;simp only[Act.put,z2b,z2e,z2d];refine zai rfl rfl fun Kc hKc=> ?_;unfold Oper.wp;simp[execOp,go_sem];apply hKc;have hb5:Below wr.heap.size wr (wr.drew.alloc (.cells #[.string tg,.string ts] 101)):=bel;refine⟨⟨(hb5.cell (p:=⟨B,4,none⟩) hl4).trans h26,(hb5.cell (p:=⟨bw,ow+k,none⟩) hbwr).trans hcw⟩, ?_⟩;refine zai rfl rfl fun Kc hKc=> ?_;refine zj3 (n:=m) (size:=2) (xs:=fC (addK zbd tag s.pol (ws.take k)) 4) (v:= .slice A4 m c4) _ _ 48 rfl sltA (B+1) rfl ((zge HOv.out hdr).alloc _) (by simp[go_sem]<;>omega) ⟨wr.heap.size,0,none⟩ 1 1 [.string tg,.string ts] rfl (zaf (c:= #[.string tg,.string ts]) (by simp[go_sem])) rfl (by simp[Value.oneCell']) (by unfold maxLen;omega) (by omega) ?_;intro v6 W6 ho6 hg6 hat6;obtain⟨A6,c6,rfl,_⟩:=zah ho6;have hgT:zab (fun b=>(Value.slice A4 m c4).ownBlock=some b) (wr.drew.alloc (.cells #[.string tg,.string ts] 101)) W6:=⟨hg6.os,hg6.tape,hg6.output,hg6.size,fun k hk hn=>hg6.block k hk (fun e=>hn e.symm)⟩;have hT6:zab (fun b=>(Value.slice A4 m c4).ownBlock=some b) wr W6:=(zab.of_below hb5).trans hgT;have hnM: ¬(Value.slice A4 m c4).ownBlock=some B:=fun e=>by have:=(HM4.out _ e).1;omega
      have hnb: ¬(Value.slice A4 m c4).ownBlock=some bw:=fun e=>(HM4.out _ e).2 rfl;have k6:=(World.cell?_of_block (a:=⟨B,4,none⟩) (hT6.block _ hl4 hnM)).trans h26;have kw:=(World.cell?_of_block (a:=⟨bw,ow+k,none⟩) (hT6.block _ hbwr hnb)).trans hcw;have kf:=(World.frozen?_of_block (a:=⟨B,4,none⟩) (hT6.block _ hl4 hnM)).trans hz;apply hKc;refine⟨⟨k6,kw⟩, ?_⟩;simp only[Act.put,z2b];have HT6:=z2c hT6;have HO6:=z2c ho6;have HA6:=z2c hat6;have hsz5:=hb5.size;clear hg6 hgT hnM ho6 hat6 hb5 hT6 hdr;dsimp only[zbq,List.drop];go_wp2_with fail
      go_roundw
      case rel=>
       have e9:=zyq tag s.pol (ws.take k) w;have h9:=HPk.out.put (j:=4) (s':=⟨s.rest,addK zbd tag s.pol (ws.take (k+1)),s.told⟩) (by omega) h26 HT6.out (by show World.ownsRow _ _ _ _ _ (fN (addK zbd tag s.pol (ws.take (k+1))) 4) (fC (addK zbd tag s.pol (ws.take (k+1))) 4);rw[HTk.out,e9.1,e9.2,HM.out,HTg.out,HSw.out];exact HO6.out) (HA6.out.imp (fun h=>h) (fun h=>⟨_,h,by simp[go_sem]⟩)) (fun i hi hij=>psj (s:=⟨s.rest,addK zbd tag s.pol (ws.take k),s.told⟩) (zu3 tag s.pol (ws.take k) (ws.take (k+1)) i hij)) rfl (by simp only[zk5]) (by simp only[zk5]) (by simp only[zk5]) (by simp only[zk5]);refine⟨k+1,by omega,by go_num,h9.1, ?_, ?_,HBk.out.trans h9.2.1⟩
       ·show World.ownsRow _ _ _ _ _ _ _;have ho1:=za4 HT6.out HOk.out (fun b hb hx=>(HM4.out b hx).2 (z34.inj hb).symm);exact za4 (zab.setCell (pv:=fun b=>b=B) (p:=⟨B,4,none⟩) (zab.refl _ W6) (.inr rfl) _) ho1 (fun b hb hx=>by have:=(HOk.out.lt b hb).1;omega)
       ·show ∀v b,_;intro v b hv hb;have hs6:(W6.setCell ⟨B,4,none⟩ (.slice A6 (m+1) c6)).cell? ⟨B,4,none⟩=some (.slice A6 (m+1) c6):=World.cell?_setCell_same _ _ _ k6;rw[hs6]at hv;cases hv;rcases HA6.out with h|h
        ·exact(HM4.out b (h ▸ hb)).2
        ·rw[h]at hb;have:=z34.inj hb;simp[go_sem]at this;omega
      case measure=>simp[intOf];omega
end Go.Proofs.YtiikamobcmgekaaGreatDoor

