/- The walks of the parser: a statement. (written by gen_stmt.py) -/
import Derived.Test.YtiikamobcmgekaaGreatDoorR2
namespace Go.Proofs.YtiikamobcmgekaaGreatDoor
open Lib renaming hid→z2c
open Tryz renaming prog→z2f
set_option maxRecDepth 100000
set_option maxHeartbeats 8000000
open Go.RowKit
attribute [local go_sem] Oper.semAt_some
def addL (j:Nat) (p:Pol) (ws:List Bs):Pol:=match j with
 |0=>{p with tags:=p.tags++ws}
 |1=>{p with schemes:=p.schemes++ws}
 |2=>{p with css:=p.css++ws}
 |_=>{p with drops:=p.drops++ws}
theorem zi4 (j:Nat) (p:Pol) (ws:List Bs) (hj:j<4):fN (addL j p ws) j=fN p j+ws.length/\fC (addL j p ws) j=fC p j++ws.map sv:=by
 match j,hj with
 |0,_=>simp[fN,fC,addL]
 |1,_=>simp[fN,fC,addL]
 |2,_=>simp[fN,fC,addL]
 |3,_=>simp[fN,fC,addL]
 |j+4,h=>omega
theorem zht (j:Nat) (hj:j<4) (p:Pol) (ws:List Bs) (i:Nat) (hi:i<6) (hij:i≠j):fN (addL j p ws) i=fN p i/\fC (addL j p ws) i=fC p i:=by
 rcases j with _|_|_|_|j<;>rcases i with _|_|_|_|_|_|i<;>first|exact⟨rfl,rfl⟩|exact absurd rfl hij|(exfalso;omega)
theorem zi3 (b o j:Nat):(⟨b,o,none⟩:Addr).add j=⟨b,o+j,none⟩:=by
 unfold Addr.add;split
 ·next h=>subst h;rfl
 ·rfl
theorem Par.setRel {en M:Nat} {s:Ps} {W:World} (h:Par en M s W) (D:Bool):Par en M ⟨s.rest,{s.pol with rel:=D},s.told⟩ (W.setCell ⟨M+1,8,none⟩ (.bool D))/\Below M W (W.setCell ⟨M+1,8,none⟩ (.bool D)):=
 h.setF (j:=8) (v:= .bool D) (p:={s.pol with rel:=D}) (by omega) (by omega) (fun i=>by rcases i with _|_|_|_|_|_<;>exact⟨rfl,rfl⟩) rfl rfl rfl rfl
def sub (en k a:Nat) (s:Ps):Rs Ps:=match k with
 |4=>zf8 en s
 |5=>relP en a s
 |6=>zes en a s
 |7=>zeq en a s
 |j=>match zbm en s.rest with
  | .error f=> .error f
  | .ok (ws,q)=> .ok ⟨q,addL j s.pol ws,s.told⟩
theorem zr3 {en:Nat} {s:Ps} {x:Lx} {q:List Lx} (h:zb0 en 1 zb9 s.rest= .ok (x,q)) (k:Nat) (hk:k<8) (ht:x.text=zb9[k]'hk):zbf en s=sub en k x.at_ ⟨q,s.pol,s.told⟩:=by
 unfold zbf;rw[h];match k,hk,ht with
 |0,_,ht=>
  have ht:x.text=zb7:=ht;simp only[ht];rfl
 |1,_,ht=>
  have ht:x.text=zan:=ht;simp only[ht];rfl
 |2,_,ht=>
  have ht:x.text=cssT:=ht;simp only[ht];rfl
 |3,_,ht=>
  have ht:x.text=zb8:=ht;simp only[ht];rfl
 |4,_,ht=>
  have ht:x.text=zbd:=ht;simp only[ht];rfl
 |5,_,ht=>
  have ht:x.text=relT:=ht;simp only[ht];rfl
 |6,_,ht=>
  have ht:x.text=zbg:=ht;simp only[ht];rfl
 |7,_,ht=>
  have ht:x.text=zbp:=ht;simp only[ht];rfl
 |k+8,hk,_=>omega
theorem z0e {x:Lx} (h:x.text∈zb9):x.text=zb7\/x.text=zan\/x.text=cssT\/x.text=zb8\/x.text=zbd\/x.text=relT\/x.text=zbg\/x.text=zbp:=by
 simpa[zb9]using h
theorem PsSm.tail {s:Ps} {x:Lx} {q:List Lx} (h:PsSm s) (hx:s.rest=x::q):PsSm ⟨q,s.pol,s.told⟩:=by
 have h1:=h.rest;have h3:=h.told;rw[hx]at h1 h3;simp only[List.length_cons]at h1 h3;refine⟨by simp only;omega,fun y hy=>h.txt y (by rw[hx];exact List.mem_cons_of_mem _ hy),by simp only;omega,fun j=> ?_⟩;have h4:=h.rows j;rw[hx,List.length_cons]at h4;simp only;omega
theorem zmm (en M:Nat) (s:Ps) (W:World) (h:Par en M s W) (hs:PsSm s) (hnum: ∀x∈s.rest,x.kind=2->x.text.all digB=true/\x.text.length<=9):
  Calls z2f 48 #[.pointer (some ⟨M+1,0,none⟩)] W (Out M W (zbf en s) fun t e w'=>e= .returned (.tuple #[])/\Par en M t w'/\Below M W w'):=by
 have hmx:=mxd;have hlt:=h.r.lt;have HT1:=z2c (fun W' (hb:Below W.heap.size W W') v (hv:Rd W' v zb9.length 1 (zb9.map sv))=>show Calls z2f 111 #[.pointer (some ⟨M+1,0,none⟩),.int .i64 1,v] W' _ from zei h.r hb (by omega) (zc2 en M 1 s.rest v zb9 W' (h.r.grown hb) hv));have HPar:=z2c h;have HSm:=z2c hs;have HNum:=z2c hnum;clear h hs hnum;cases h1:zb0 en 1 zb9 s.rest with
 |error f=>
  rw[h1]at HT1;have HW:Hid (zbf en s= .error f):=by show _=_;unfold zbf;rw[h1]
  rw[HW.out];clear h1 HW HPar HSm;go_enter Tryz.func48,Tryz.ntmps48;go_wp2_with(go_at_call 111;(refine(HT1.out _ bel _ (zdg (ts:=zb9) (by simp) rfl rfl (by decide))).mono ?_);rintro e W1 ⟨rfl,hb1⟩;have HB1:=z2c hb1;clear hb1)
  exact⟨rfl,rfl,HB1.out⟩
 |ok p=>
  obtain⟨x,q⟩:=p;rw[h1]at HT1;have HT1:=z2c (fun W' hb v hv=>show Calls z2f 111 #[.pointer (some ⟨M+1,0,none⟩),.int .i64 1,v] W' (fun e w'=>e= .returned x.agg/\ParR en M q w'/\Upd M 0 W w')from HT1.out W' hb v hv);have HKind:=z2c (fun k hk ht=>zr3 h1 k hk ht);obtain⟨hq1,hn1⟩:=zgp h1;have HQ1:=z2c hq1;have hxa:=(HSm.out.txt x (by rw[hq1];simp)).2;have HSq:=z2c (HSm.out.tail hq1);have HNq:Hid (∀y∈q,y.kind=2->y.text.all digB=true/\y.text.length<=9):=fun y hy=>HNum.out y (by rw[hq1];exact List.mem_cons_of_mem _ hy);have HQl:Hid (q.length<=10000):=HSq.out.rest;have HRw:Hid (∀j,fN s.pol j+q.length<=20000):=HSq.out.rows;have HKd:Hid (x.text∈zb9):=by
   show _∈_;rw[hq1]at hn1;have hn2:(decide (x.kind=1)&&(false||decide (x.text∈zb9)))=true:=hn1;simp only[Bool.false_or,Bool.and_eq_true,decide_eq_true_eq]at hn2;exact hn2.2
  obtain⟨R,hR⟩: ∃R,zbf en s=R:=⟨_,rfl⟩;rw[hR]at HKind ⊢;clear hR h1 hq1 hn1 HSm HNum;have hfl:=zeb;simp only[Lx.agg]at HT1;obtain⟨t1,ht1⟩: ∃t:ByteArray,⟨x.text.toArray⟩=t:=⟨_,rfl⟩;have HX1:Hid (t1=⟨x.text.toArray⟩):=ht1.symm;rw[ht1]at HT1;clear ht1;go_enter Tryz.func48,Tryz.ntmps48;go_upto_region 1 with(go_at_call 111;(refine(HT1.out _ bel _ (zdg (ts:=zb9) (by simp) rfl rfl (by decide))).mono ?_);rintro e W1 ⟨rfl,hp1,hu1⟩;have HP1:=z2c hp1;have HU1:=z2c hu1;clear hp1 hu1)
  refine zae fun V1 hV1=> ?_;obtain⟨B,hB⟩: ∃B,W1.heap.size=B:=⟨_,rfl⟩;rw[hB];have hB1:W.heap.size<=B:=by rw[<-hB];exact HU1.out.turned.size
  have hBV:B<V1.heap.size:=by rw[hV1,<-hB];simp
  have hbel:Below W1.heap.size W1 V1:=by rw[hV1];exact bel
  have HU2:=z2c (HU1.out.below (by omega) hbel);have HPa:=z2c (HPar.out.took (HP1.out.grown hbel) HU2.out);have HB1:=z2c (HU2.out.below' hlt);have f1:V1.cell? ⟨B,1,none⟩=some (.int .i64 x.at_):=by rw[hV1,<-hB];simp[go_sem]
  have f2:V1.cell? ⟨B,2,none⟩=some (.string t1):=by rw[hV1,<-hB];simp[go_sem]
  clear hV1 hB hbel HT1 HU1 HP1 HPar HU2;rcases z0e HKd.out with hk|hk|hk|hk|hk|hk|hk|hk
  ·have hk2:=HKind.out 0 (by decide) hk;have ht1:=HX1.out;rw[hk,show(⟨zb7.toArray⟩:ByteArray)=⟨#[116,97,103,115]⟩from rfl]at ht1;subst ht1;have HR0:Hid (R=sub en 0 x.at_ ⟨q,s.pol,s.told⟩):=hk2;clear HX1 HKind HKd hk hk2;have HR:Hid (R=match zbm en q with
     | .error f=> .error f
     | .ok (ws,q)=> .ok ⟨q,addL 0 s.pol ws,s.told⟩):=HR0.out
   obtain⟨v5,hv5,hov⟩:=HPa.out.row 0 (by omega);have HOv:=z2c hov;obtain⟨A5,c5,rfl,_⟩:=zah hov;have hv5:V1.cell? ⟨M+1,2,none⟩=some (Value.slice A5 (fN s.pol 0) c5):=hv5;have hlV:=HPa.out.r.lt;clear hov HR0;go_upto_region 4 with fail
   have hdr:Below V1.heap.size V1 V1.drew:=bel;have HPd:=z2c (HPa.out.grown hdr);refine zak 8 [(0,true),(1,true),(2,true),(3,true),(4,true),(5,true),(6,false),(7,false)] (fun V=>V.cell? ⟨M+1,2,none⟩=some (Value.slice A5 (fN s.pol 0) c5)) hmx (by kernel_rfl) (by kernel_rfl) (by kernel_rfl) (by decide) rfl (fun c a d v w h=>by obtain⟨x,y⟩:=(h:_/\_);cases d<;>exact⟨x,y⟩) (by kernel_rfl) (by exact hv5) ?_;refine zam (v:=(.pointer (some ⟨M+1,2,none⟩))) rfl rfl (fun W hW=>by simp[execOp,go_sem]) ?_;refine zam (v:=(.pointer (some ⟨M+1,2,none⟩))) rfl rfl (fun W hW=>by simp[execOp,go_sem]) ?_;refine zam (v:=(.pointer (some ⟨M+1,2,none⟩))) rfl rfl (fun W hW=>by simp[execOp,go_sem]) ?_;refine zam (v:=(.pointer (some ⟨M+1,2,none⟩))) rfl rfl (fun W hW=>by simp[execOp,go_sem]) ?_;refine zam (v:=(Value.slice A5 (fN s.pol 0) c5)) rfl rfl (fun W hW=>by simp[execOp,go_sem,hW]) ?_;refine zam (v:=(.pointer (some ⟨M+1,0,none⟩))) rfl rfl (fun W hW=>by simp[execOp,go_sem]) ?_;refine zai rfl rfl fun Kc hKc=> ?_;unfold Oper.wp;simp[execOp,go_sem];refine(zft en M q V1.drew HPd.out.r (by have:=HQl.out;omega)).mono ?_;rintro e W2 hw;cases h3:zbm en q with
   |error f=>
    rw[h3]at hw HR;obtain⟨rfl,hb1⟩:=(hw:zlb M V1.drew f e W2);show _/\_;refine⟨rfl, ?_⟩;rw[HR.out];exact⟨rfl,(HB1.out.trans (hdr.mono (by omega))).trans hb1⟩
   |ok p=>
    obtain⟨ws,q3⟩:=p;rw[h3]at hw HR;obtain⟨v,rfl,ho,hp2,hu2⟩:=(hw: ∃v,e= .returned v/\W2.ownsRow V1.drew.heap.size 9 1 v ws.length (ws.map sv)/\ParR en M q3 W2/\Upd M 0 V1.drew W2);have HR:Hid (R= .ok ⟨q3,addL 0 s.pol ws,s.told⟩):=HR.out;obtain⟨hc1,hc2⟩:=zea h3;have HPw:=z2c (HPd.out.took hp2 hu2);have HBw:=z2c ((HB1.out.trans (hdr.mono (by omega))).trans (hu2.below' (by have:=hdr.size;omega)));obtain⟨Aw,cw,rfl,_⟩:=zah ho;have hA: ∃bw ow,Aw=some ⟨bw,ow,none⟩/\ ∀j u,(ws.map sv)[j]? =some u->W2.cell? ⟨bw,ow+j,none⟩=some u:=by
     obtain⟨_,_,A,c,e,h4⟩:=Rd.own ho;cases e;obtain⟨b,off,e,_,hc⟩:=h4 (by show 0<ws.length;omega);exact⟨b,off,e,hc⟩
    obtain⟨bw,ow,rfl,hcw⟩:=hA;have hv6:W2.cell? ⟨M+1,2,none⟩=some (Value.slice A5 (fN s.pol 0) c5):=(hu2.cell 2 (by omega)).trans hv5;have hl2:=HPw.out.r.lt;have hz:=HPw.out.r.fz 2;obtain⟨u6,hu6,hou⟩:=HPw.out.row 0 (by omega);have hu6:W2.cell? ⟨M+1,2,none⟩=some u6:=hu6;rw[hv6]at hu6;cases hu6;have hou:W2.ownsRow (M+2) 9 1 (Value.slice A5 (fN s.pol 0) c5) (fN s.pol 0) (fC s.pol 0):=hou;have hbd:fN s.pol 0+ws.length<=20000:=by have:=HRw.out 0;omega
    show Kc _ _;apply hKc;refine⟨hv6, ?_⟩;refine zai rfl rfl fun Kd hKd=> ?_;refine zj3 (n:=fN s.pol 0) (size:=1) (xs:=fC s.pol 0) (v:=(Value.slice A5 (fN s.pol 0) c5)) _ _ 47 rfl sltS (M+2) rfl hou (by omega) ⟨bw,ow,none⟩ ws.length cw (ws.map sv) rfl (fun j u hu=>(congrArg W2.cell? (zi3 bw ow j)).trans (hcw j u hu)) (by simp) (by simp[sv,Value.oneCell']) (by unfold maxLen;omega) (by omega) ?_;intro v6 W6 ho6 hg6 hat6;apply hKd;obtain⟨A6,c6,rfl,_⟩:=zah ho6;have hgT:zab (fun b=>(Value.slice A5 (fN s.pol 0) c5).ownBlock=some b) W2 W6:=⟨hg6.os,hg6.tape,hg6.output,hg6.size,fun k hk hn=>hg6.block k hk (fun e=>hn e.symm)⟩;have hnM: ¬(Value.slice A5 (fN s.pol 0) c5).ownBlock=some (M+1):=(fun e=>by have:=(hou.lt _ e).1;omega);have k6:=(World.cell?_of_block (a:=⟨M+1,2,none⟩) (hgT.block _ hl2 hnM)).trans hv6;have kf:=(World.frozen?_of_block (a:=⟨M+1,2,none⟩) (hgT.block _ hl2 hnM)).trans hz;refine⟨k6, ?_⟩;have HT6:=z2c hgT;have HO6:=z2c ho6;have HA6:=z2c hat6;clear hgT hnM hg6 ho6 hat6 hou hu2 hp2 ho;dsimp only[zbq,List.drop];go_wp2_with fail
    go_end0;rw[HR.out];have e9:=zi4 0 s.pol ws (by omega);have h9:=HPw.out.put (j:=0) (p:=addL 0 s.pol ws) (by omega) hv6 HT6.out (by rw[e9.1,e9.2];exact HO6.out) (HA6.out.imp (fun h=>h) (fun h=>⟨_,h,Nat.le_refl _⟩)) (zht 0 (by omega) s.pol ws) rfl rfl rfl rfl;exact⟨rfl,h9.1,HBw.out.trans h9.2⟩
  ·have hk2:=HKind.out 1 (by decide) hk;have ht1:=HX1.out;rw[hk,show(⟨zan.toArray⟩:ByteArray)=⟨#[115,99,104,101,109,101,115]⟩from rfl]at ht1;subst ht1;have HR0:Hid (R=sub en 1 x.at_ ⟨q,s.pol,s.told⟩):=hk2;clear HX1 HKind HKd hk hk2;have HR:Hid (R=match zbm en q with
     | .error f=> .error f
     | .ok (ws,q)=> .ok ⟨q,addL 1 s.pol ws,s.told⟩):=HR0.out
   obtain⟨v5,hv5,hov⟩:=HPa.out.row 1 (by omega);have HOv:=z2c hov;obtain⟨A5,c5,rfl,_⟩:=zah hov;have hv5:V1.cell? ⟨M+1,3,none⟩=some (Value.slice A5 (fN s.pol 1) c5):=hv5;have hlV:=HPa.out.r.lt;clear hov HR0;go_upto_region 6 with fail
   have hdr:Below V1.heap.size V1 V1.drew:=bel;have HPd:=z2c (HPa.out.grown hdr);refine zak 8 [(0,true),(1,true),(2,true),(3,true),(4,true),(5,true),(6,false),(7,false)] (fun V=>V.cell? ⟨M+1,3,none⟩=some (Value.slice A5 (fN s.pol 1) c5)) hmx (by kernel_rfl) (by kernel_rfl) (by kernel_rfl) (by decide) rfl (fun c a d v w h=>by obtain⟨x,y⟩:=(h:_/\_);cases d<;>exact⟨x,y⟩) (by kernel_rfl) (by exact hv5) ?_;refine zam (v:=(.pointer (some ⟨M+1,2,none⟩))) rfl rfl (fun W hW=>by simp[execOp,go_sem]) ?_;refine zam (v:=(.pointer (some ⟨M+1,2,none⟩))) rfl rfl (fun W hW=>by simp[execOp,go_sem]) ?_;refine zam (v:=(.pointer (some ⟨M+1,2,none⟩))) rfl rfl (fun W hW=>by simp[execOp,go_sem]) ?_;refine zam (v:=(.pointer (some ⟨M+1,3,none⟩))) rfl rfl (fun W hW=>by simp[execOp,go_sem]) ?_;refine zam (v:=(Value.slice A5 (fN s.pol 1) c5)) rfl rfl (fun W hW=>by simp[execOp,go_sem,hW]) ?_;refine zam (v:=(.pointer (some ⟨M+1,0,none⟩))) rfl rfl (fun W hW=>by simp[execOp,go_sem]) ?_;refine zai rfl rfl fun Kc hKc=> ?_;unfold Oper.wp;simp[execOp,go_sem];refine(zft en M q V1.drew HPd.out.r (by have:=HQl.out;omega)).mono ?_;rintro e W2 hw;cases h3:zbm en q with
   |error f=>
    rw[h3]at hw HR;obtain⟨rfl,hb1⟩:=(hw:zlb M V1.drew f e W2);show _/\_;refine⟨rfl, ?_⟩;rw[HR.out];exact⟨rfl,(HB1.out.trans (hdr.mono (by omega))).trans hb1⟩
   |ok p=>
    obtain⟨ws,q3⟩:=p;rw[h3]at hw HR;obtain⟨v,rfl,ho,hp2,hu2⟩:=(hw: ∃v,e= .returned v/\W2.ownsRow V1.drew.heap.size 9 1 v ws.length (ws.map sv)/\ParR en M q3 W2/\Upd M 0 V1.drew W2);have HR:Hid (R= .ok ⟨q3,addL 1 s.pol ws,s.told⟩):=HR.out;obtain⟨hc1,hc2⟩:=zea h3;have HPw:=z2c (HPd.out.took hp2 hu2);have HBw:=z2c ((HB1.out.trans (hdr.mono (by omega))).trans (hu2.below' (by have:=hdr.size;omega)));obtain⟨Aw,cw,rfl,_⟩:=zah ho;have hA: ∃bw ow,Aw=some ⟨bw,ow,none⟩/\ ∀j u,(ws.map sv)[j]? =some u->W2.cell? ⟨bw,ow+j,none⟩=some u:=by
     obtain⟨_,_,A,c,e,h4⟩:=Rd.own ho;cases e;obtain⟨b,off,e,_,hc⟩:=h4 (by show 0<ws.length;omega);exact⟨b,off,e,hc⟩
    obtain⟨bw,ow,rfl,hcw⟩:=hA;have hv6:W2.cell? ⟨M+1,3,none⟩=some (Value.slice A5 (fN s.pol 1) c5):=(hu2.cell 3 (by omega)).trans hv5;have hl2:=HPw.out.r.lt;have hz:=HPw.out.r.fz 3;obtain⟨u6,hu6,hou⟩:=HPw.out.row 1 (by omega);have hu6:W2.cell? ⟨M+1,3,none⟩=some u6:=hu6;rw[hv6]at hu6;cases hu6;have hou:W2.ownsRow (M+2) 9 1 (Value.slice A5 (fN s.pol 1) c5) (fN s.pol 1) (fC s.pol 1):=hou;have hbd:fN s.pol 1+ws.length<=20000:=by have:=HRw.out 1;omega
    show Kc _ _;apply hKc;refine⟨hv6, ?_⟩;refine zai rfl rfl fun Kd hKd=> ?_;refine zj3 (n:=fN s.pol 1) (size:=1) (xs:=fC s.pol 1) (v:=(Value.slice A5 (fN s.pol 1) c5)) _ _ 47 rfl sltS (M+2) rfl hou (by omega) ⟨bw,ow,none⟩ ws.length cw (ws.map sv) rfl (fun j u hu=>(congrArg W2.cell? (zi3 bw ow j)).trans (hcw j u hu)) (by simp) (by simp[sv,Value.oneCell']) (by unfold maxLen;omega) (by omega) ?_;intro v6 W6 ho6 hg6 hat6;apply hKd;obtain⟨A6,c6,rfl,_⟩:=zah ho6;have hgT:zab (fun b=>(Value.slice A5 (fN s.pol 1) c5).ownBlock=some b) W2 W6:=⟨hg6.os,hg6.tape,hg6.output,hg6.size,fun k hk hn=>hg6.block k hk (fun e=>hn e.symm)⟩;have hnM: ¬(Value.slice A5 (fN s.pol 1) c5).ownBlock=some (M+1):=(fun e=>by have:=(hou.lt _ e).1;omega);have k6:=(World.cell?_of_block (a:=⟨M+1,3,none⟩) (hgT.block _ hl2 hnM)).trans hv6;have kf:=(World.frozen?_of_block (a:=⟨M+1,3,none⟩) (hgT.block _ hl2 hnM)).trans hz;refine⟨k6, ?_⟩;have HT6:=z2c hgT;have HO6:=z2c ho6;have HA6:=z2c hat6;clear hgT hnM hg6 ho6 hat6 hou hu2 hp2 ho;dsimp only[zbq,List.drop];go_wp2_with fail
    go_end0;rw[HR.out];have e9:=zi4 1 s.pol ws (by omega);have h9:=HPw.out.put (j:=1) (p:=addL 1 s.pol ws) (by omega) hv6 HT6.out (by rw[e9.1,e9.2];exact HO6.out) (HA6.out.imp (fun h=>h) (fun h=>⟨_,h,Nat.le_refl _⟩)) (zht 1 (by omega) s.pol ws) rfl rfl rfl rfl;exact⟨rfl,h9.1,HBw.out.trans h9.2⟩
  ·have hk2:=HKind.out 2 (by decide) hk;have ht1:=HX1.out;rw[hk,show(⟨cssT.toArray⟩:ByteArray)=⟨#[99,115,115]⟩from rfl]at ht1;subst ht1;have HR0:Hid (R=sub en 2 x.at_ ⟨q,s.pol,s.told⟩):=hk2;clear HX1 HKind HKd hk hk2;have HR:Hid (R=match zbm en q with
     | .error f=> .error f
     | .ok (ws,q)=> .ok ⟨q,addL 2 s.pol ws,s.told⟩):=HR0.out
   obtain⟨v5,hv5,hov⟩:=HPa.out.row 2 (by omega);have HOv:=z2c hov;obtain⟨A5,c5,rfl,_⟩:=zah hov;have hv5:V1.cell? ⟨M+1,4,none⟩=some (Value.slice A5 (fN s.pol 2) c5):=hv5;have hlV:=HPa.out.r.lt;clear hov HR0;go_upto_region 8 with fail
   have hdr:Below V1.heap.size V1 V1.drew:=bel;have HPd:=z2c (HPa.out.grown hdr);refine zak 8 [(0,true),(1,true),(2,true),(3,true),(4,true),(5,true),(6,false),(7,false)] (fun V=>V.cell? ⟨M+1,4,none⟩=some (Value.slice A5 (fN s.pol 2) c5)) hmx (by kernel_rfl) (by kernel_rfl) (by kernel_rfl) (by decide) rfl (fun c a d v w h=>by obtain⟨x,y⟩:=(h:_/\_);cases d<;>exact⟨x,y⟩) (by kernel_rfl) (by exact hv5) ?_;refine zam (v:=(.pointer (some ⟨M+1,2,none⟩))) rfl rfl (fun W hW=>by simp[execOp,go_sem]) ?_;refine zam (v:=(.pointer (some ⟨M+1,2,none⟩))) rfl rfl (fun W hW=>by simp[execOp,go_sem]) ?_;refine zam (v:=(.pointer (some ⟨M+1,2,none⟩))) rfl rfl (fun W hW=>by simp[execOp,go_sem]) ?_;refine zam (v:=(.pointer (some ⟨M+1,4,none⟩))) rfl rfl (fun W hW=>by simp[execOp,go_sem]) ?_;refine zam (v:=(Value.slice A5 (fN s.pol 2) c5)) rfl rfl (fun W hW=>by simp[execOp,go_sem,hW]) ?_;refine zam (v:=(.pointer (some ⟨M+1,0,none⟩))) rfl rfl (fun W hW=>by simp[execOp,go_sem]) ?_;refine zai rfl rfl fun Kc hKc=> ?_;unfold Oper.wp;simp[execOp,go_sem];refine(zft en M q V1.drew HPd.out.r (by have:=HQl.out;omega)).mono ?_;rintro e W2 hw;cases h3:zbm en q with
   |error f=>
    rw[h3]at hw HR;obtain⟨rfl,hb1⟩:=(hw:zlb M V1.drew f e W2);show _/\_;refine⟨rfl, ?_⟩;rw[HR.out];exact⟨rfl,(HB1.out.trans (hdr.mono (by omega))).trans hb1⟩
   |ok p=>
    obtain⟨ws,q3⟩:=p;rw[h3]at hw HR;obtain⟨v,rfl,ho,hp2,hu2⟩:=(hw: ∃v,e= .returned v/\W2.ownsRow V1.drew.heap.size 9 1 v ws.length (ws.map sv)/\ParR en M q3 W2/\Upd M 0 V1.drew W2);have HR:Hid (R= .ok ⟨q3,addL 2 s.pol ws,s.told⟩):=HR.out;obtain⟨hc1,hc2⟩:=zea h3;have HPw:=z2c (HPd.out.took hp2 hu2);have HBw:=z2c ((HB1.out.trans (hdr.mono (by omega))).trans (hu2.below' (by have:=hdr.size;omega)));obtain⟨Aw,cw,rfl,_⟩:=zah ho;have hA: ∃bw ow,Aw=some ⟨bw,ow,none⟩/\ ∀j u,(ws.map sv)[j]? =some u->W2.cell? ⟨bw,ow+j,none⟩=some u:=by
     obtain⟨_,_,A,c,e,h4⟩:=Rd.own ho;cases e;obtain⟨b,off,e,_,hc⟩:=h4 (by show 0<ws.length;omega);exact⟨b,off,e,hc⟩
    obtain⟨bw,ow,rfl,hcw⟩:=hA;have hv6:W2.cell? ⟨M+1,4,none⟩=some (Value.slice A5 (fN s.pol 2) c5):=(hu2.cell 4 (by omega)).trans hv5;have hl2:=HPw.out.r.lt;have hz:=HPw.out.r.fz 4;obtain⟨u6,hu6,hou⟩:=HPw.out.row 2 (by omega);have hu6:W2.cell? ⟨M+1,4,none⟩=some u6:=hu6;rw[hv6]at hu6;cases hu6;have hou:W2.ownsRow (M+2) 9 1 (Value.slice A5 (fN s.pol 2) c5) (fN s.pol 2) (fC s.pol 2):=hou;have hbd:fN s.pol 2+ws.length<=20000:=by have:=HRw.out 2;omega
    show Kc _ _;apply hKc;refine⟨hv6, ?_⟩;refine zai rfl rfl fun Kd hKd=> ?_;refine zj3 (n:=fN s.pol 2) (size:=1) (xs:=fC s.pol 2) (v:=(Value.slice A5 (fN s.pol 2) c5)) _ _ 47 rfl sltS (M+2) rfl hou (by omega) ⟨bw,ow,none⟩ ws.length cw (ws.map sv) rfl (fun j u hu=>(congrArg W2.cell? (zi3 bw ow j)).trans (hcw j u hu)) (by simp) (by simp[sv,Value.oneCell']) (by unfold maxLen;omega) (by omega) ?_;intro v6 W6 ho6 hg6 hat6;apply hKd;obtain⟨A6,c6,rfl,_⟩:=zah ho6;have hgT:zab (fun b=>(Value.slice A5 (fN s.pol 2) c5).ownBlock=some b) W2 W6:=⟨hg6.os,hg6.tape,hg6.output,hg6.size,fun k hk hn=>hg6.block k hk (fun e=>hn e.symm)⟩;have hnM: ¬(Value.slice A5 (fN s.pol 2) c5).ownBlock=some (M+1):=(fun e=>by have:=(hou.lt _ e).1;omega);have k6:=(World.cell?_of_block (a:=⟨M+1,4,none⟩) (hgT.block _ hl2 hnM)).trans hv6;have kf:=(World.frozen?_of_block (a:=⟨M+1,4,none⟩) (hgT.block _ hl2 hnM)).trans hz;refine⟨k6, ?_⟩;have HT6:=z2c hgT;have HO6:=z2c ho6;have HA6:=z2c hat6;clear hgT hnM hg6 ho6 hat6 hou hu2 hp2 ho;dsimp only[zbq,List.drop];go_wp2_with fail
    go_end0;rw[HR.out];have e9:=zi4 2 s.pol ws (by omega);have h9:=HPw.out.put (j:=2) (p:=addL 2 s.pol ws) (by omega) hv6 HT6.out (by rw[e9.1,e9.2];exact HO6.out) (HA6.out.imp (fun h=>h) (fun h=>⟨_,h,Nat.le_refl _⟩)) (zht 2 (by omega) s.pol ws) rfl rfl rfl rfl;exact⟨rfl,h9.1,HBw.out.trans h9.2⟩
  ·have hk2:=HKind.out 3 (by decide) hk;have ht1:=HX1.out;rw[hk,show(⟨zb8.toArray⟩:ByteArray)=⟨#[100,114,111,112]⟩from rfl]at ht1;subst ht1;have HR0:Hid (R=sub en 3 x.at_ ⟨q,s.pol,s.told⟩):=hk2;clear HX1 HKind HKd hk hk2;have HR:Hid (R=match zbm en q with
     | .error f=> .error f
     | .ok (ws,q)=> .ok ⟨q,addL 3 s.pol ws,s.told⟩):=HR0.out
   obtain⟨v5,hv5,hov⟩:=HPa.out.row 3 (by omega);have HOv:=z2c hov;obtain⟨A5,c5,rfl,_⟩:=zah hov;have hv5:V1.cell? ⟨M+1,5,none⟩=some (Value.slice A5 (fN s.pol 3) c5):=hv5;have hlV:=HPa.out.r.lt;clear hov HR0;go_upto_region 10 with fail
   have hdr:Below V1.heap.size V1 V1.drew:=bel;have HPd:=z2c (HPa.out.grown hdr);refine zak 8 [(0,true),(1,true),(2,true),(3,true),(4,true),(5,true),(6,false),(7,false)] (fun V=>V.cell? ⟨M+1,5,none⟩=some (Value.slice A5 (fN s.pol 3) c5)) hmx (by kernel_rfl) (by kernel_rfl) (by kernel_rfl) (by decide) rfl (fun c a d v w h=>by obtain⟨x,y⟩:=(h:_/\_);cases d<;>exact⟨x,y⟩) (by kernel_rfl) (by exact hv5) ?_;refine zam (v:=(.pointer (some ⟨M+1,2,none⟩))) rfl rfl (fun W hW=>by simp[execOp,go_sem]) ?_;refine zam (v:=(.pointer (some ⟨M+1,2,none⟩))) rfl rfl (fun W hW=>by simp[execOp,go_sem]) ?_;refine zam (v:=(.pointer (some ⟨M+1,2,none⟩))) rfl rfl (fun W hW=>by simp[execOp,go_sem]) ?_;refine zam (v:=(.pointer (some ⟨M+1,5,none⟩))) rfl rfl (fun W hW=>by simp[execOp,go_sem]) ?_;refine zam (v:=(Value.slice A5 (fN s.pol 3) c5)) rfl rfl (fun W hW=>by simp[execOp,go_sem,hW]) ?_;refine zam (v:=(.pointer (some ⟨M+1,0,none⟩))) rfl rfl (fun W hW=>by simp[execOp,go_sem]) ?_;refine zai rfl rfl fun Kc hKc=> ?_;unfold Oper.wp;simp[execOp,go_sem];refine(zft en M q V1.drew HPd.out.r (by have:=HQl.out;omega)).mono ?_;rintro e W2 hw;cases h3:zbm en q with
   |error f=>
    rw[h3]at hw HR;obtain⟨rfl,hb1⟩:=(hw:zlb M V1.drew f e W2);show _/\_;refine⟨rfl, ?_⟩;rw[HR.out];exact⟨rfl,(HB1.out.trans (hdr.mono (by omega))).trans hb1⟩
   |ok p=>
    obtain⟨ws,q3⟩:=p;rw[h3]at hw HR;obtain⟨v,rfl,ho,hp2,hu2⟩:=(hw: ∃v,e= .returned v/\W2.ownsRow V1.drew.heap.size 9 1 v ws.length (ws.map sv)/\ParR en M q3 W2/\Upd M 0 V1.drew W2);have HR:Hid (R= .ok ⟨q3,addL 3 s.pol ws,s.told⟩):=HR.out;obtain⟨hc1,hc2⟩:=zea h3;have HPw:=z2c (HPd.out.took hp2 hu2);have HBw:=z2c ((HB1.out.trans (hdr.mono (by omega))).trans (hu2.below' (by have:=hdr.size;omega)));obtain⟨Aw,cw,rfl,_⟩:=zah ho;have hA: ∃bw ow,Aw=some ⟨bw,ow,none⟩/\ ∀j u,(ws.map sv)[j]? =some u->W2.cell? ⟨bw,ow+j,none⟩=some u:=by
     obtain⟨_,_,A,c,e,h4⟩:=Rd.own ho;cases e;obtain⟨b,off,e,_,hc⟩:=h4 (by show 0<ws.length;omega);exact⟨b,off,e,hc⟩
    obtain⟨bw,ow,rfl,hcw⟩:=hA;have hv6:W2.cell? ⟨M+1,5,none⟩=some (Value.slice A5 (fN s.pol 3) c5):=(hu2.cell 5 (by omega)).trans hv5;have hl2:=HPw.out.r.lt;have hz:=HPw.out.r.fz 5;obtain⟨u6,hu6,hou⟩:=HPw.out.row 3 (by omega);have hu6:W2.cell? ⟨M+1,5,none⟩=some u6:=hu6;rw[hv6]at hu6;cases hu6;have hou:W2.ownsRow (M+2) 9 1 (Value.slice A5 (fN s.pol 3) c5) (fN s.pol 3) (fC s.pol 3):=hou;have hbd:fN s.pol 3+ws.length<=20000:=by have:=HRw.out 3;omega
    show Kc _ _;apply hKc;refine⟨hv6, ?_⟩;refine zai rfl rfl fun Kd hKd=> ?_;refine zj3 (n:=fN s.pol 3) (size:=1) (xs:=fC s.pol 3) (v:=(Value.slice A5 (fN s.pol 3) c5)) _ _ 47 rfl sltS (M+2) rfl hou (by omega) ⟨bw,ow,none⟩ ws.length cw (ws.map sv) rfl (fun j u hu=>(congrArg W2.cell? (zi3 bw ow j)).trans (hcw j u hu)) (by simp) (by simp[sv,Value.oneCell']) (by unfold maxLen;omega) (by omega) ?_;intro v6 W6 ho6 hg6 hat6;apply hKd;obtain⟨A6,c6,rfl,_⟩:=zah ho6;have hgT:zab (fun b=>(Value.slice A5 (fN s.pol 3) c5).ownBlock=some b) W2 W6:=⟨hg6.os,hg6.tape,hg6.output,hg6.size,fun k hk hn=>hg6.block k hk (fun e=>hn e.symm)⟩;have hnM: ¬(Value.slice A5 (fN s.pol 3) c5).ownBlock=some (M+1):=(fun e=>by have:=(hou.lt _ e).1;omega);have k6:=(World.cell?_of_block (a:=⟨M+1,5,none⟩) (hgT.block _ hl2 hnM)).trans hv6;have kf:=(World.frozen?_of_block (a:=⟨M+1,5,none⟩) (hgT.block _ hl2 hnM)).trans hz;refine⟨k6, ?_⟩;have HT6:=z2c hgT;have HO6:=z2c ho6;have HA6:=z2c hat6;clear hgT hnM hg6 ho6 hat6 hou hu2 hp2 ho;dsimp only[zbq,List.drop];go_wp2_with fail
    go_end0;rw[HR.out];have e9:=zi4 3 s.pol ws (by omega);have h9:=HPw.out.put (j:=3) (p:=addL 3 s.pol ws) (by omega) hv6 HT6.out (by rw[e9.1,e9.2];exact HO6.out) (HA6.out.imp (fun h=>h) (fun h=>⟨_,h,Nat.le_refl _⟩)) (zht 3 (by omega) s.pol ws) rfl rfl rfl rfl;exact⟨rfl,h9.1,HBw.out.trans h9.2⟩
  ·have hk2:=HKind.out 4 (by decide) hk;have ht1:=HX1.out;rw[hk,show(⟨zbd.toArray⟩:ByteArray)=⟨#[97,116,116,114,115]⟩from rfl]at ht1;subst ht1;have HR0:Hid (R=sub en 4 x.at_ ⟨q,s.pol,s.told⟩):=hk2;clear HX1 HKind HKd hk hk2;have HC:=z2c (zyp en M ⟨q,s.pol,s.told⟩ V1 HPa.out HSq.out);cases h3:sub en 4 x.at_ ⟨q,s.pol,s.told⟩with
   |error f=>
    have HC2:=z2c (show Calls z2f 113 #[.pointer (some ⟨M+1,0,none⟩)] V1 (zlb M V1 f) by have h4:=HC.out;rw[show zf8 en ⟨q,s.pol,s.told⟩= .error f from h3]at h4;exact h4);have HR:Hid (R= .error f):=HR0.out.trans h3;clear HC h3 HR0;go_wp2_with(go_at_call 113;(with_reducible refine HC2.out.mono ?_);rintro e W2 ⟨rfl,hb1⟩;have HB2:=z2c hb1;clear hb1)
    refine⟨rfl, ?_⟩;rw[HR.out];exact⟨rfl,HB1.out.trans HB2.out⟩
   |ok t=>
    have HC2:=z2c (show Calls z2f 113 #[.pointer (some ⟨M+1,0,none⟩)] V1 (fun e w'=>e= .returned (.tuple #[])/\Par en M t w'/\Below M V1 w') by have h4:=HC.out;rw[show zf8 en ⟨q,s.pol,s.told⟩= .ok t from h3]at h4;exact h4);have HR:Hid (R= .ok t):=HR0.out.trans h3;clear HC h3 HR0;go_wp2_with(go_at_call 113;(with_reducible refine HC2.out.mono ?_);rintro e W2 ⟨rfl,hp1,hb1⟩;have HP2:=z2c hp1;have HB2:=z2c hb1;clear hp1 hb1)
    go_end0;rw[HR.out];exact⟨rfl,HP2.out,HB1.out.trans HB2.out⟩
  ·have hk2:=HKind.out 5 (by decide) hk;have ht1:=HX1.out;rw[hk,show(⟨relT.toArray⟩:ByteArray)=⟨#[114,101,108,97,116,105,118,101]⟩from rfl]at ht1;subst ht1;have HR0:Hid (R=sub en 5 x.at_ ⟨q,s.pol,s.told⟩):=hk2;clear HX1 HKind HKd hk hk2;have HR:Hid (R=match zb0 en 1 [yesT,noT] q with
    | .error f=> .error f
    | .ok (y,q2)=>match zdj en x.at_ relT q2 s.told with
     | .error f=> .error f
     | .ok (q3,told)=> .ok ⟨q3,{s.pol with rel:=decide (y.text=yesT)},told⟩):=HR0.out
   have HT5:=z2c (fun W' (hb:Below V1.heap.size V1 W') v (hv:Rd W' v [yesT,noT].length 1 ([yesT,noT].map sv))=>show Calls z2f 111 #[.pointer (some ⟨M+1,0,none⟩),.int .i64 1,v] W' _ from zei HPa.out.r hb HPa.out.r.lt (zc2 en M 1 q v [yesT,noT] W' (HPa.out.r.grown hb) hv));have hlV:=HPa.out.r.lt;clear HR0;go_upto_region 14 with fail
   cases h5:zb0 en 1 [yesT,noT] q with
   |error f=>
    rw[h5]at HR HT5;have HR:Hid (R= .error f):=HR.out;clear h5;go_wp2_with(go_at_call 111;(refine(HT5.out _ bel _ (zdg (ts:=[yesT,noT]) (by simp) rfl rfl (by decide))).mono ?_);rintro e W2 ⟨rfl,hb1⟩;have HB2:=z2c hb1;clear hb1)
    refine⟨rfl, ?_⟩;rw[HR.out];exact⟨rfl,HB1.out.trans HB2.out⟩
   |ok p=>
    obtain⟨y,q2⟩:=p;rw[h5]at HR HT5;have HT5:=z2c (fun W' hb v hv=>show Calls z2f 111 #[.pointer (some ⟨M+1,0,none⟩),.int .i64 1,v] W' (fun e w'=>e= .returned y.agg/\ParR en M q2 w'/\Upd M 0 V1 w')from HT5.out W' hb v hv);have HR:Hid (R=match zdj en x.at_ relT q2 s.told with
     | .error f=> .error f
     | .ok (q3,told)=> .ok ⟨q3,{s.pol with rel:=decide (y.text=yesT)},told⟩):=HR.out
    obtain⟨hq2,hn2⟩:=zgp h5;have hy:y.text=yesT\/y.text=noT:=by
     rw[hq2]at hn2;have hn3:(decide (y.kind=1)&&(false||decide (y.text∈[yesT,noT])))=true:=hn2;simp only[Bool.false_or,Bool.and_eq_true,decide_eq_true_eq,List.mem_cons,List.not_mem_nil,or_false]at hn3;exact hn3.2
    have hst:=HSq.out.told;obtain⟨D,hD⟩: ∃D,decide (y.text=yesT)=D:=⟨_,rfl⟩;rw[hD]at HR;obtain⟨t2,ht2⟩: ∃t:ByteArray,⟨y.text.toArray⟩=t:=⟨_,rfl⟩;simp only[Lx.agg]at HT5;rw[ht2]at HT5;have ht3:(t2=⟨#[121,101,115]⟩/\D=true)\/(t2=⟨#[110,111]⟩/\D=false):=by
     rcases hy with hy|hy
     ·left;rw[hy]at ht2 hD;exact⟨ht2.symm,by rw[<-hD];rfl⟩
     ·right;rw[hy]at ht2 hD;exact⟨ht2.symm,by rw[<-hD];rfl⟩
    clear h5 hq2 hn2 hy hD ht2;rcases ht3 with⟨rfl,rfl⟩|⟨rfl,rfl⟩
    all_goals
     go_upto_region 15 with(go_at_call 111;(refine(HT5.out _ bel _ (zdg (ts:=[yesT,noT]) (by simp) rfl rfl (by decide))).mono ?_);rintro e W2 ⟨rfl,hp1,hu1⟩;have HPb:=z2c (HPa.out.took hp1 hu1);have HU2:=z2c hu1;clear hp1 hu1)
     have f1:=(HU2.out.cellB hBV (by omega)).trans f1;have f2:=(HU2.out.cellB hBV (by omega)).trans f2;have hs2:=HU2.out.turned.size;have hB2:B<W2.heap.size:=by omega
     have hb2:=HB1.out.trans (HU2.out.below' hlV);have HB2:=z2c hb2;have HOn:=z2c (show Calls z2f 114 #[.pointer (some ⟨M+1,0,none⟩),.int .i64 x.at_,.string ⟨#[114,101,108,97,116,105,118,101]⟩] W2 _ from zm1 en M x.at_ relT ⟨q2,s.pol,s.told⟩ W2 HPb.out (by decide) (by omega) (by show s.told.length<_;have:=HSq.out.told;simp only at this;omega));clear HT5 hb2;cases h6:zdj en x.at_ relT q2 s.told with
     |error f=>
      have HOn:=z2c (show Calls z2f 114 #[.pointer (some ⟨M+1,0,none⟩),.int .i64 x.at_,.string ⟨#[114,101,108,97,116,105,118,101]⟩] W2 (zlb M W2 f) by have h7:=HOn.out;simp only[h6]at h7;exact h7);rw[h6]at HR;have HR:Hid (R= .error f):=HR.out;clear h6;go_wp2_with(go_at_call 114;(with_reducible refine HOn.out.mono ?_);rintro e W3 ⟨rfl,hb1⟩;have HB3:=z2c hb1;clear hb1)
      refine⟨rfl, ?_⟩;rw[HR.out];exact⟨rfl,HB2.out.trans HB3.out⟩
     |ok p=>
      obtain⟨q4,told4⟩:=p;have HOn:=z2c (show Calls z2f 114 #[.pointer (some ⟨M+1,0,none⟩),.int .i64 x.at_,.string ⟨#[114,101,108,97,116,105,118,101]⟩] W2 (fun e w'=>e= .returned (.tuple #[])/\Par en M ⟨q4,s.pol,told4⟩ w'/\zab (fun b=>b=M\/b=M+1) W2 w') by have h7:=HOn.out;simp only[h6]at h7;exact h7.mono fun e w' h8=>⟨h8.1,h8.2.1,h8.2.2.1⟩);rw[h6]at HR;clear h6;go_upto_region 16 with(go_at_call 114;(with_reducible refine HOn.out.mono ?_);rintro e W3 ⟨rfl,hp1,ht1⟩;have HP3:=z2c hp1;have HT3:=z2c ht1;clear hp1 ht1)
      have x8:=HP3.out.c8;have hz:=HP3.out.r.fz 8;have hb3:=HB2.out.trans (HT3.out.below (by omega) (fun k hk=>by omega):Below M W2 W3);have HB3:=z2c hb3;clear hb3;go_wp2_with fail
      go_end0;rw[HR.out];exact⟨rfl,(HP3.out.setRel _).1,HB3.out.trans (HP3.out.setRel _).2⟩
  ·have hk2:=HKind.out 6 (by decide) hk;have ht1:=HX1.out;rw[hk,show(⟨zbg.toArray⟩:ByteArray)=⟨#[102,111,114,99,101]⟩from rfl]at ht1;subst ht1;have HR0:Hid (R=sub en 6 x.at_ ⟨q,s.pol,s.told⟩):=hk2;clear HX1 HKind HKd hk hk2;have HC:=z2c (zx9 en M x.at_ ⟨q,s.pol,s.told⟩ V1 HPa.out HSq.out hxa);cases h3:sub en 6 x.at_ ⟨q,s.pol,s.told⟩with
   |error f=>
    have HC2:=z2c (show Calls z2f 115 #[.pointer (some ⟨M+1,0,none⟩),.int .i64 x.at_] V1 (zlb M V1 f) by have h4:=HC.out;rw[show zes en x.at_ ⟨q,s.pol,s.told⟩= .error f from h3]at h4;exact h4);have HR:Hid (R= .error f):=HR0.out.trans h3;clear HC h3 HR0;go_wp2_with(go_at_call 115;(with_reducible refine HC2.out.mono ?_);rintro e W2 ⟨rfl,hb1⟩;have HB2:=z2c hb1;clear hb1)
    refine⟨rfl, ?_⟩;rw[HR.out];exact⟨rfl,HB1.out.trans HB2.out⟩
   |ok t=>
    have HC2:=z2c (show Calls z2f 115 #[.pointer (some ⟨M+1,0,none⟩),.int .i64 x.at_] V1 (fun e w'=>e= .returned (.tuple #[])/\Par en M t w'/\Below M V1 w') by have h4:=HC.out;rw[show zes en x.at_ ⟨q,s.pol,s.told⟩= .ok t from h3]at h4;exact h4);have HR:Hid (R= .ok t):=HR0.out.trans h3;clear HC h3 HR0;go_wp2_with(go_at_call 115;(with_reducible refine HC2.out.mono ?_);rintro e W2 ⟨rfl,hp1,hb1⟩;have HP2:=z2c hp1;have HB2:=z2c hb1;clear hp1 hb1)
    go_end0;rw[HR.out];exact⟨rfl,HP2.out,HB1.out.trans HB2.out⟩
  ·have hk2:=HKind.out 7 (by decide) hk;have ht1:=HX1.out;rw[hk,show(⟨zbp.toArray⟩:ByteArray)=⟨#[108,105,109,105,116]⟩from rfl]at ht1;subst ht1;have HR0:Hid (R=sub en 7 x.at_ ⟨q,s.pol,s.told⟩):=hk2;clear HX1 HKind HKd hk hk2;have HC:=z2c (zxy en M x.at_ ⟨q,s.pol,s.told⟩ V1 HPa.out HSq.out HNq.out hxa);cases h3:sub en 7 x.at_ ⟨q,s.pol,s.told⟩with
   |error f=>
    have HC2:=z2c (show Calls z2f 116 #[.pointer (some ⟨M+1,0,none⟩),.int .i64 x.at_] V1 (zlb M V1 f) by have h4:=HC.out;rw[show zeq en x.at_ ⟨q,s.pol,s.told⟩= .error f from h3]at h4;exact h4);have HR:Hid (R= .error f):=HR0.out.trans h3;clear HC h3 HR0;go_wp2_with(go_at_call 116;(with_reducible refine HC2.out.mono ?_);rintro e W2 ⟨rfl,hb1⟩;have HB2:=z2c hb1;clear hb1)
    refine⟨rfl, ?_⟩;rw[HR.out];exact⟨rfl,HB1.out.trans HB2.out⟩
   |ok t=>
    have HC2:=z2c (show Calls z2f 116 #[.pointer (some ⟨M+1,0,none⟩),.int .i64 x.at_] V1 (fun e w'=>e= .returned (.tuple #[])/\Par en M t w'/\Below M V1 w') by have h4:=HC.out;rw[show zeq en x.at_ ⟨q,s.pol,s.told⟩= .ok t from h3]at h4;exact h4);have HR:Hid (R= .ok t):=HR0.out.trans h3;clear HC h3 HR0;go_wp2_with(go_at_call 116;(with_reducible refine HC2.out.mono ?_);rintro e W2 ⟨rfl,hp1,hb1⟩;have HP2:=z2c hp1;have HB2:=z2c hb1;clear hp1 hb1)
    go_end0;rw[HR.out];exact⟨rfl,HP2.out,HB1.out.trans HB2.out⟩
end Go.Proofs.YtiikamobcmgekaaGreatDoor

