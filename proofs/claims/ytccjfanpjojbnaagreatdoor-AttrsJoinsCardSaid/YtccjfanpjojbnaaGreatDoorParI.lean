import Derived.Test.YtccjfanpjojbnaaGreatDoorR2
namespace Go.Proofs.YtccjfanpjojbnaaGreatDoor
open Go.Ending renaming returned→aL
open Go.IntKind renaming i64→aC
open Lib renaming hid→aA
open List renaming drop→eL,mem_cons_of_mem→fO
open Nat renaming le_refl→bA
open Tryz renaming prog→aE
open Go.Value renaming bool→aI,int→aB,oneCell'→gC,pointer→aM,slice→aF,string→aD,tuple→aN
set_option maxRecDepth 100000
set_option maxHeartbeats 8000000
open Go.RowKit
def jM (j:Nat) (p:aO) (ws:List Bs):aO:=match j with
 |0=>{p with tags:=p.tags++ws}
 |1=>{p with schemes:=p.schemes++ws}
 |2=>{p with css:=p.css++ws}
 |_=>{p with drops:=p.drops++ws}
theorem GU (j:Nat) (p:aO) (ws:List Bs) (hj:j<4):fN (jM j p ws) j=fN p j+ws.length/\fC (jM j p ws) j=fC p j++ws.map sv:=by
 match j,hj with
 |0,_=>simp[fN,fC,jM]
 |1,_=>simp[fN,fC,jM]
 |2,_=>simp[fN,fC,jM]
 |3,_=>simp[fN,fC,jM]
 |j+4,h=>omega
theorem GV (j:Nat) (hj:j<4) (p:aO) (ws:List Bs) (i:Nat) (hi:i<6) (hij:i≠j):fN (jM j p ws) i=fN p i/\fC (jM j p ws) i=fC p i:=by
 rcases j with _|_|_|_|j<;>rcases i with _|_|_|_|_|_|i<;>first|exact⟨rfl,rfl⟩|exact absurd rfl hij|(exfalso;omega)
theorem GT (b o j:Nat):(⟨b,o,none⟩:Addr).add j=⟨b,o+j,none⟩:=by
 unfold Addr.add;split
 .next h=>subst h;rfl
 .rfl
theorem cW.setRel {en M:Nat} {s:Ps} {W:World} (h:cW en M s W) (D:Bool):cW en M ⟨s.rest,{s.pol with rel:=D},s.told⟩ (W.setCell ⟨M+1,8,none⟩ (aI D))/\Below M W (W.setCell ⟨M+1,8,none⟩ (aI D)):=
 h.setF (j:=8) (v:= aI D) (p:={s.pol with rel:=D}) om om  (λi=>by rcases i with _|_|_|_|_|_<;>exact⟨rfl,rfl⟩) rfl rfl rfl rfl
def sub (en k a:Nat) (s:Ps):Rs Ps:=match k with
 |4=>sN en s
 |5=>xH en a s
 |6=>nX en a s
 |7=>nW en a s
 |j=>match eP en s.rest with
  | .error f=> .error f
  | .ok (ws,q)=> .ok ⟨q,jM j s.pol ws,s.told⟩
theorem RI {en:Nat} {s:Ps} {x:Lx} {q:List Lx} (h:dE en 1 iQ s.rest= .ok (x,q)) (k:Nat) (hk:k<8) (ht:x.text=iQ[k]'hk):eZ en s=sub en k x.at_ ⟨q,s.pol,s.told⟩:=by
 unfold eZ;rw[h];match k,hk,ht with
 |0,_,ht=>
  have ht:x.text=uA:=ht;simp only[ht];rfl
 |1,_,ht=>
  have ht:x.text=uD:=ht;simp only[ht];rfl
 |2,_,ht=>
  have ht:x.text=vA:=ht;simp only[ht];rfl
 |3,_,ht=>
  have ht:x.text=uX:=ht;simp only[ht];rfl
 |4,_,ht=>
  have ht:x.text=wP:=ht;simp only[ht];rfl
 |5,_,ht=>
  have ht:x.text=mT:=ht;simp only[ht];rfl
 |6,_,ht=>
  have ht:x.text=lO:=ht;simp only[ht];rfl
 |7,_,ht=>
  have ht:x.text=mY:=ht;simp only[ht];rfl
 |k+8,hk,_=>omega
theorem Iw {x:Lx} (h:x.text∈iQ):x.text=uA\/x.text=uD\/x.text=vA\/x.text=uX\/x.text=wP\/x.text=mT\/x.text=lO\/x.text=mY:=by
 simpa[iQ]using h
theorem nF.tail {s:Ps} {x:Lx} {q:List Lx} (h:nF s) (hx:s.rest=x::q):nF ⟨q,s.pol,s.told⟩:=by
 have h1:=h.rest;have h3:=h.told;rw[hx]at h1 h3;simp only[List.length_cons]at h1 h3;refine⟨by simp only;omega,λy hy=>h.txt y (by rw[hx];exact fO _ hy),by simp only;omega,λj=> ?_⟩;have h4:=h.rows j;rw[hx,List.length_cons]at h4;simp only;omega
theorem T4 (en M:Nat) (s:Ps) (W:World) (h:cW en M s W) (hs:nF s) (hnum: ∀x∈s.rest,x.kind=2->x.text.all aQ=true/\x.text.length<=9):
  Calls aE 28 #[aM (some ⟨M+1,0,none⟩)] W (vF M W (eZ en s) λt e w'=>e=aL (aN #[])/\cW en M t w'/\Below M W w'):=by
 have hmx:=bX;have hlt:=h.r.lt;have HT1:=aA (λW' (hb:Below W.heap.size W W') v (hv:Rd W' v iQ.length 1 (iQ.map sv))=>show Calls aE 42 #[aM (some ⟨M+1,0,none⟩),aB aC 1,v] W' _ from wZ h.r hb om (qX en M 1 s.rest v iQ W' (h.r.grown hb) hv));have HPar:=aA h;have HSm:=aA hs;have HNum:=aA hnum;clear h hs hnum;cases h1:dE en 1 iQ s.rest with
 |error f=>
  rw[h1]at HT1;have HW:Hid (eZ en s= .error f):=by show _=_;unfold eZ;rw[h1]
  rw[HW.out];clear h1 HW HPar HSm;go_enter Tryz.func28,Tryz.ntmps28;go_wp2_with(go_at_call 42;(refine(HT1.out _ aG _ (oV (ts:=iQ) (by simp) rfl rfl dc)).mono ?_);rintro e W1 ⟨rfl,hb1⟩;have HB1:=aA hb1;clear hb1)
  exact⟨rfl,rfl,HB1.out⟩
 |ok p=>
  obtain⟨x,q⟩:=p;rw[h1]at HT1;have HT1:=aA (λW' hb v hv=>show Calls aE 42 #[aM (some ⟨M+1,0,none⟩),aB aC 1,v] W' (λe w'=>e=aL x.agg/\cI en M q w'/\cA M 0 W w')from HT1.out W' hb v hv);have HKind:=aA (λk hk ht=>RI h1 k hk ht);obtain⟨hq1,hn1⟩:=tK h1;have HQ1:=aA hq1;have hxa:=(HSm.out.txt x (by rw[hq1];simp)).2;have HSq:=aA (HSm.out.tail hq1);have HNq:Hid (∀y∈q,y.kind=2->y.text.all aQ=true/\y.text.length<=9):=λy hy=>HNum.out y (by rw[hq1];exact fO _ hy);have HQl:Hid (q.length<=10000):=HSq.out.rest;have HRw:Hid (∀j,fN s.pol j+q.length<=20000):=HSq.out.rows;have HKd:Hid (x.text∈iQ):=by
   show _∈_;rw[hq1]at hn1;have hn2:(decide (x.kind=1)&&(false||decide (x.text∈iQ)))=true:=hn1;simp only[Bool.false_or,Bool.and_eq_true,decide_eq_true_eq]at hn2;exact hn2.2
  obtain⟨R,hR⟩: ∃R,eZ en s=R:=⟨_,rfl⟩;rw[hR]at HKind ⊢;clear hR h1 hq1 hn1 HSm HNum;have hfl:=CM;simp only[Lx.agg]at HT1;obtain⟨t1,ht1⟩: ∃t:ByteArray,⟨x.text.toArray⟩=t:=⟨_,rfl⟩;have HX1:Hid (t1=⟨x.text.toArray⟩):=ht1.symm;rw[ht1]at HT1;clear ht1;go_enter Tryz.func28,Tryz.ntmps28;go_upto_region 1 with(go_at_call 42;(refine(HT1.out _ aG _ (oV (ts:=iQ) (by simp) rfl rfl dc)).mono ?_);rintro e W1 ⟨rfl,hp1,hu1⟩;have HP1:=aA hp1;have HU1:=aA hu1;clear hp1 hu1)
  refine dL λV1 hV1=> ?_;obtain⟨B,hB⟩: ∃B,W1.heap.size=B:=⟨_,rfl⟩;rw[hB];have hB1:W.heap.size<=B:=by rw[<-hB];exact HU1.out.turned.size
  have hBV:B<V1.heap.size:=by rw[hV1,<-hB];simp
  have hbel:Below W1.heap.size W1 V1:=by rw[hV1];exact aG
  have HU2:=aA (HU1.out.below om hbel);have HPa:=aA (HPar.out.took (HP1.out.grown hbel) HU2.out);have HB1:=aA (HU2.out.below' hlt);have f1:V1.cell? ⟨B,1,none⟩=some (aB aC x.at_):=by rw[hV1,<-hB];simp[go_sem]
  have f2:V1.cell? ⟨B,2,none⟩=some (aD t1):=by rw[hV1,<-hB];simp[go_sem]
  clear hV1 hB hbel HT1 HU1 HP1 HPar HU2;rcases Iw HKd.out with hk|hk|hk|hk|hk|hk|hk|hk
  .have hk2:=HKind.out 0 dc hk;have ht1:=HX1.out;rw[hk,show(⟨uA.toArray⟩:ByteArray)=⟨#[116,97,103,115]⟩from rfl]at ht1;subst ht1;have HR0:Hid (R=sub en 0 x.at_ ⟨q,s.pol,s.told⟩):=hk2;clear HX1 HKind HKd hk hk2;have HR:Hid (R=match eP en q with
     | .error f=> .error f
     | .ok (ws,q)=> .ok ⟨q,jM 0 s.pol ws,s.told⟩):=HR0.out
   obtain⟨v5,hv5,hov⟩:=HPa.out.row 0 om;have HOv:=aA hov;obtain⟨A5,c5,rfl,_⟩:=dF hov;have hv5:V1.cell? ⟨M+1,2,none⟩=some (aF A5 (fN s.pol 0) c5):=hv5;have hlV:=HPa.out.r.lt;clear hov HR0;go_upto_region 4 with fail
   have hdr:Below V1.heap.size V1 V1.drew:=aG;have HPd:=aA (HPa.out.grown hdr);refine qS 8 [(0,true),(1,true),(2,true),(3,true),(4,true),(5,true),(6,false),(7,false)] (λV=>V.cell? ⟨M+1,2,none⟩=some (aF A5 (fN s.pol 0) c5)) hmx kr kr kr dc  rfl (λc a d v w h=>by obtain⟨x,y⟩:=(h:_/\_);cases d<;>exact⟨x,y⟩) kr (by exact hv5) ?_;refine bN (v:=(aM (some ⟨M+1,2,none⟩))) rfl rfl ee ?_;refine bN (v:=(aM (some ⟨M+1,2,none⟩))) rfl rfl ee ?_;refine bN (v:=(aM (some ⟨M+1,2,none⟩))) rfl rfl ee ?_;refine bN (v:=(aM (some ⟨M+1,2,none⟩))) rfl rfl ee ?_;refine bN (v:=(aF A5 (fN s.pol 0) c5)) rfl rfl (λW hW=>by simp[execOp,go_sem,hW]) ?_;refine bN (v:=(aM (some ⟨M+1,0,none⟩))) rfl rfl ee ?_;refine cC rfl rfl λKc hKc=> ?_;unfold Oper.wp;simp[execOp,go_sem];refine(AQ en M q V1.drew HPd.out.r (by have:=HQl.out;omega)).mono ?_;rintro e W2 hw;cases h3:eP en q with
   |error f=>
    rw[h3]at hw HR;obtain⟨rfl,hb1⟩:=(hw:tU M V1.drew f e W2);show _/\_;refine⟨rfl, ?_⟩;rw[HR.out];exact⟨rfl,(HB1.out.trans (hdr.mono om)).trans hb1⟩
   |ok p=>
    obtain⟨ws,q3⟩:=p;rw[h3]at hw HR;obtain⟨v,rfl,ho,hp2,hu2⟩:=(hw: ∃v,e=aL v/\W2.ownsRow V1.drew.heap.size 9 1 v ws.length (ws.map sv)/\cI en M q3 W2/\cA M 0 V1.drew W2);have HR:Hid (R= .ok ⟨q3,jM 0 s.pol ws,s.told⟩):=HR.out;obtain⟨hc1,hc2⟩:=yP h3;have HPw:=aA (HPd.out.took hp2 hu2);have HBw:=aA ((HB1.out.trans (hdr.mono om)).trans (hu2.below' (by have:=hdr.size;omega)));obtain⟨Aw,cw,rfl,_⟩:=dF ho;have hA: ∃bw ow,Aw=some ⟨bw,ow,none⟩/\ ∀j u,(ws.map sv)[j]? =some u->W2.cell? ⟨bw,ow+j,none⟩=some u:=by
     obtain⟨_,_,A,c,e,h4⟩:=Rd.own ho;cases e;obtain⟨b,off,e,_,hc⟩:=h4 (by show 0<ws.length;omega);exact⟨b,off,e,hc⟩
    obtain⟨bw,ow,rfl,hcw⟩:=hA;have hv6:W2.cell? ⟨M+1,2,none⟩=some (aF A5 (fN s.pol 0) c5):=(hu2.cell 2 om).trans hv5;have hl2:=HPw.out.r.lt;have hz:=HPw.out.r.fz 2;obtain⟨u6,hu6,hou⟩:=HPw.out.row 0 om;have hu6:W2.cell? ⟨M+1,2,none⟩=some u6:=hu6;rw[hv6]at hu6;cases hu6;have hou:W2.ownsRow (M+2) 9 1 (aF A5 (fN s.pol 0) c5) (fN s.pol 0) (fC s.pol 0):=hou;have hbd:fN s.pol 0+ws.length<=20000:=by have:=HRw.out 0;omega
    show Kc _ _;apply hKc;refine⟨hv6, ?_⟩;refine cC rfl rfl λKd hKd=> ?_;refine BK (n:=fN s.pol 0) (size:=1) (xs:=fC s.pol 0) (v:=(aF A5 (fN s.pol 0) c5)) _ _ 44 rfl yX (M+2) rfl hou om ⟨bw,ow,none⟩ ws.length cw (ws.map sv) rfl (λj u hu=>(congrArg W2.cell? (GT bw ow j)).trans (hcw j u hu)) (by simp) (by simp[sv,gC]) (by unfold maxLen;omega) om ?_;intro v6 W6 ho6 hg6 hat6;apply hKd;obtain⟨A6,c6,rfl,_⟩:=dF ho6;have hgT:aJ (λb=>(aF A5 (fN s.pol 0) c5).ownBlock=some b) W2 W6:=⟨hg6.os,hg6.tape,hg6.output,hg6.size,λk hk hn=>hg6.block k hk (λe=>hn e.symm)⟩;have hnM: ¬(aF A5 (fN s.pol 0) c5).ownBlock=some (M+1):=(λe=>by have:=(hou.lt _ e).1;omega);have k6:=(World.cell?_of_block (a:=⟨M+1,2,none⟩) (hgT.block _ hl2 hnM)).trans hv6;have kf:=(World.frozen?_of_block (a:=⟨M+1,2,none⟩) (hgT.block _ hl2 hnM)).trans hz;refine⟨k6, ?_⟩;have HT6:=aA hgT;have HO6:=aA ho6;have HA6:=aA hat6;clear hgT hnM hg6 ho6 hat6 hou hu2 hp2 ho;dsimp only[dD,eL];go_wp2_with fail
    go_end0;rw[HR.out];have e9:=GU 0 s.pol ws om;have h9:=HPw.out.put (j:=0) (p:=jM 0 s.pol ws) om hv6 HT6.out (by rw[e9.1,e9.2];exact HO6.out) (HA6.out.imp (λh=>h) (λh=>⟨_,h,bA _⟩)) (GV 0 om s.pol ws) rfl rfl rfl rfl;exact⟨rfl,h9.1,HBw.out.trans h9.2⟩
  .have hk2:=HKind.out 1 dc hk;have ht1:=HX1.out;rw[hk,show(⟨uD.toArray⟩:ByteArray)=⟨#[115,99,104,101,109,101,115]⟩from rfl]at ht1;subst ht1;have HR0:Hid (R=sub en 1 x.at_ ⟨q,s.pol,s.told⟩):=hk2;clear HX1 HKind HKd hk hk2;have HR:Hid (R=match eP en q with
     | .error f=> .error f
     | .ok (ws,q)=> .ok ⟨q,jM 1 s.pol ws,s.told⟩):=HR0.out
   obtain⟨v5,hv5,hov⟩:=HPa.out.row 1 om;have HOv:=aA hov;obtain⟨A5,c5,rfl,_⟩:=dF hov;have hv5:V1.cell? ⟨M+1,3,none⟩=some (aF A5 (fN s.pol 1) c5):=hv5;have hlV:=HPa.out.r.lt;clear hov HR0;go_upto_region 6 with fail
   have hdr:Below V1.heap.size V1 V1.drew:=aG;have HPd:=aA (HPa.out.grown hdr);refine qS 8 [(0,true),(1,true),(2,true),(3,true),(4,true),(5,true),(6,false),(7,false)] (λV=>V.cell? ⟨M+1,3,none⟩=some (aF A5 (fN s.pol 1) c5)) hmx kr kr kr dc  rfl (λc a d v w h=>by obtain⟨x,y⟩:=(h:_/\_);cases d<;>exact⟨x,y⟩) kr (by exact hv5) ?_;refine bN (v:=(aM (some ⟨M+1,2,none⟩))) rfl rfl ee ?_;refine bN (v:=(aM (some ⟨M+1,2,none⟩))) rfl rfl ee ?_;refine bN (v:=(aM (some ⟨M+1,2,none⟩))) rfl rfl ee ?_;refine bN (v:=(aM (some ⟨M+1,3,none⟩))) rfl rfl ee ?_;refine bN (v:=(aF A5 (fN s.pol 1) c5)) rfl rfl (λW hW=>by simp[execOp,go_sem,hW]) ?_;refine bN (v:=(aM (some ⟨M+1,0,none⟩))) rfl rfl ee ?_;refine cC rfl rfl λKc hKc=> ?_;unfold Oper.wp;simp[execOp,go_sem];refine(AQ en M q V1.drew HPd.out.r (by have:=HQl.out;omega)).mono ?_;rintro e W2 hw;cases h3:eP en q with
   |error f=>
    rw[h3]at hw HR;obtain⟨rfl,hb1⟩:=(hw:tU M V1.drew f e W2);show _/\_;refine⟨rfl, ?_⟩;rw[HR.out];exact⟨rfl,(HB1.out.trans (hdr.mono om)).trans hb1⟩
   |ok p=>
    obtain⟨ws,q3⟩:=p;rw[h3]at hw HR;obtain⟨v,rfl,ho,hp2,hu2⟩:=(hw: ∃v,e=aL v/\W2.ownsRow V1.drew.heap.size 9 1 v ws.length (ws.map sv)/\cI en M q3 W2/\cA M 0 V1.drew W2);have HR:Hid (R= .ok ⟨q3,jM 1 s.pol ws,s.told⟩):=HR.out;obtain⟨hc1,hc2⟩:=yP h3;have HPw:=aA (HPd.out.took hp2 hu2);have HBw:=aA ((HB1.out.trans (hdr.mono om)).trans (hu2.below' (by have:=hdr.size;omega)));obtain⟨Aw,cw,rfl,_⟩:=dF ho;have hA: ∃bw ow,Aw=some ⟨bw,ow,none⟩/\ ∀j u,(ws.map sv)[j]? =some u->W2.cell? ⟨bw,ow+j,none⟩=some u:=by
     obtain⟨_,_,A,c,e,h4⟩:=Rd.own ho;cases e;obtain⟨b,off,e,_,hc⟩:=h4 (by show 0<ws.length;omega);exact⟨b,off,e,hc⟩
    obtain⟨bw,ow,rfl,hcw⟩:=hA;have hv6:W2.cell? ⟨M+1,3,none⟩=some (aF A5 (fN s.pol 1) c5):=(hu2.cell 3 om).trans hv5;have hl2:=HPw.out.r.lt;have hz:=HPw.out.r.fz 3;obtain⟨u6,hu6,hou⟩:=HPw.out.row 1 om;have hu6:W2.cell? ⟨M+1,3,none⟩=some u6:=hu6;rw[hv6]at hu6;cases hu6;have hou:W2.ownsRow (M+2) 9 1 (aF A5 (fN s.pol 1) c5) (fN s.pol 1) (fC s.pol 1):=hou;have hbd:fN s.pol 1+ws.length<=20000:=by have:=HRw.out 1;omega
    show Kc _ _;apply hKc;refine⟨hv6, ?_⟩;refine cC rfl rfl λKd hKd=> ?_;refine BK (n:=fN s.pol 1) (size:=1) (xs:=fC s.pol 1) (v:=(aF A5 (fN s.pol 1) c5)) _ _ 44 rfl yX (M+2) rfl hou om ⟨bw,ow,none⟩ ws.length cw (ws.map sv) rfl (λj u hu=>(congrArg W2.cell? (GT bw ow j)).trans (hcw j u hu)) (by simp) (by simp[sv,gC]) (by unfold maxLen;omega) om ?_;intro v6 W6 ho6 hg6 hat6;apply hKd;obtain⟨A6,c6,rfl,_⟩:=dF ho6;have hgT:aJ (λb=>(aF A5 (fN s.pol 1) c5).ownBlock=some b) W2 W6:=⟨hg6.os,hg6.tape,hg6.output,hg6.size,λk hk hn=>hg6.block k hk (λe=>hn e.symm)⟩;have hnM: ¬(aF A5 (fN s.pol 1) c5).ownBlock=some (M+1):=(λe=>by have:=(hou.lt _ e).1;omega);have k6:=(World.cell?_of_block (a:=⟨M+1,3,none⟩) (hgT.block _ hl2 hnM)).trans hv6;have kf:=(World.frozen?_of_block (a:=⟨M+1,3,none⟩) (hgT.block _ hl2 hnM)).trans hz;refine⟨k6, ?_⟩;have HT6:=aA hgT;have HO6:=aA ho6;have HA6:=aA hat6;clear hgT hnM hg6 ho6 hat6 hou hu2 hp2 ho;dsimp only[dD,eL];go_wp2_with fail
    go_end0;rw[HR.out];have e9:=GU 1 s.pol ws om;have h9:=HPw.out.put (j:=1) (p:=jM 1 s.pol ws) om hv6 HT6.out (by rw[e9.1,e9.2];exact HO6.out) (HA6.out.imp (λh=>h) (λh=>⟨_,h,bA _⟩)) (GV 1 om s.pol ws) rfl rfl rfl rfl;exact⟨rfl,h9.1,HBw.out.trans h9.2⟩
  .have hk2:=HKind.out 2 dc hk;have ht1:=HX1.out;rw[hk,show(⟨vA.toArray⟩:ByteArray)=⟨#[99,115,115]⟩from rfl]at ht1;subst ht1;have HR0:Hid (R=sub en 2 x.at_ ⟨q,s.pol,s.told⟩):=hk2;clear HX1 HKind HKd hk hk2;have HR:Hid (R=match eP en q with
     | .error f=> .error f
     | .ok (ws,q)=> .ok ⟨q,jM 2 s.pol ws,s.told⟩):=HR0.out
   obtain⟨v5,hv5,hov⟩:=HPa.out.row 2 om;have HOv:=aA hov;obtain⟨A5,c5,rfl,_⟩:=dF hov;have hv5:V1.cell? ⟨M+1,4,none⟩=some (aF A5 (fN s.pol 2) c5):=hv5;have hlV:=HPa.out.r.lt;clear hov HR0;go_upto_region 8 with fail
   have hdr:Below V1.heap.size V1 V1.drew:=aG;have HPd:=aA (HPa.out.grown hdr);refine qS 8 [(0,true),(1,true),(2,true),(3,true),(4,true),(5,true),(6,false),(7,false)] (λV=>V.cell? ⟨M+1,4,none⟩=some (aF A5 (fN s.pol 2) c5)) hmx kr kr kr dc  rfl (λc a d v w h=>by obtain⟨x,y⟩:=(h:_/\_);cases d<;>exact⟨x,y⟩) kr (by exact hv5) ?_;refine bN (v:=(aM (some ⟨M+1,2,none⟩))) rfl rfl ee ?_;refine bN (v:=(aM (some ⟨M+1,2,none⟩))) rfl rfl ee ?_;refine bN (v:=(aM (some ⟨M+1,2,none⟩))) rfl rfl ee ?_;refine bN (v:=(aM (some ⟨M+1,4,none⟩))) rfl rfl ee ?_;refine bN (v:=(aF A5 (fN s.pol 2) c5)) rfl rfl (λW hW=>by simp[execOp,go_sem,hW]) ?_;refine bN (v:=(aM (some ⟨M+1,0,none⟩))) rfl rfl ee ?_;refine cC rfl rfl λKc hKc=> ?_;unfold Oper.wp;simp[execOp,go_sem];refine(AQ en M q V1.drew HPd.out.r (by have:=HQl.out;omega)).mono ?_;rintro e W2 hw;cases h3:eP en q with
   |error f=>
    rw[h3]at hw HR;obtain⟨rfl,hb1⟩:=(hw:tU M V1.drew f e W2);show _/\_;refine⟨rfl, ?_⟩;rw[HR.out];exact⟨rfl,(HB1.out.trans (hdr.mono om)).trans hb1⟩
   |ok p=>
    obtain⟨ws,q3⟩:=p;rw[h3]at hw HR;obtain⟨v,rfl,ho,hp2,hu2⟩:=(hw: ∃v,e=aL v/\W2.ownsRow V1.drew.heap.size 9 1 v ws.length (ws.map sv)/\cI en M q3 W2/\cA M 0 V1.drew W2);have HR:Hid (R= .ok ⟨q3,jM 2 s.pol ws,s.told⟩):=HR.out;obtain⟨hc1,hc2⟩:=yP h3;have HPw:=aA (HPd.out.took hp2 hu2);have HBw:=aA ((HB1.out.trans (hdr.mono om)).trans (hu2.below' (by have:=hdr.size;omega)));obtain⟨Aw,cw,rfl,_⟩:=dF ho;have hA: ∃bw ow,Aw=some ⟨bw,ow,none⟩/\ ∀j u,(ws.map sv)[j]? =some u->W2.cell? ⟨bw,ow+j,none⟩=some u:=by
     obtain⟨_,_,A,c,e,h4⟩:=Rd.own ho;cases e;obtain⟨b,off,e,_,hc⟩:=h4 (by show 0<ws.length;omega);exact⟨b,off,e,hc⟩
    obtain⟨bw,ow,rfl,hcw⟩:=hA;have hv6:W2.cell? ⟨M+1,4,none⟩=some (aF A5 (fN s.pol 2) c5):=(hu2.cell 4 om).trans hv5;have hl2:=HPw.out.r.lt;have hz:=HPw.out.r.fz 4;obtain⟨u6,hu6,hou⟩:=HPw.out.row 2 om;have hu6:W2.cell? ⟨M+1,4,none⟩=some u6:=hu6;rw[hv6]at hu6;cases hu6;have hou:W2.ownsRow (M+2) 9 1 (aF A5 (fN s.pol 2) c5) (fN s.pol 2) (fC s.pol 2):=hou;have hbd:fN s.pol 2+ws.length<=20000:=by have:=HRw.out 2;omega
    show Kc _ _;apply hKc;refine⟨hv6, ?_⟩;refine cC rfl rfl λKd hKd=> ?_;refine BK (n:=fN s.pol 2) (size:=1) (xs:=fC s.pol 2) (v:=(aF A5 (fN s.pol 2) c5)) _ _ 44 rfl yX (M+2) rfl hou om ⟨bw,ow,none⟩ ws.length cw (ws.map sv) rfl (λj u hu=>(congrArg W2.cell? (GT bw ow j)).trans (hcw j u hu)) (by simp) (by simp[sv,gC]) (by unfold maxLen;omega) om ?_;intro v6 W6 ho6 hg6 hat6;apply hKd;obtain⟨A6,c6,rfl,_⟩:=dF ho6;have hgT:aJ (λb=>(aF A5 (fN s.pol 2) c5).ownBlock=some b) W2 W6:=⟨hg6.os,hg6.tape,hg6.output,hg6.size,λk hk hn=>hg6.block k hk (λe=>hn e.symm)⟩;have hnM: ¬(aF A5 (fN s.pol 2) c5).ownBlock=some (M+1):=(λe=>by have:=(hou.lt _ e).1;omega);have k6:=(World.cell?_of_block (a:=⟨M+1,4,none⟩) (hgT.block _ hl2 hnM)).trans hv6;have kf:=(World.frozen?_of_block (a:=⟨M+1,4,none⟩) (hgT.block _ hl2 hnM)).trans hz;refine⟨k6, ?_⟩;have HT6:=aA hgT;have HO6:=aA ho6;have HA6:=aA hat6;clear hgT hnM hg6 ho6 hat6 hou hu2 hp2 ho;dsimp only[dD,eL];go_wp2_with fail
    go_end0;rw[HR.out];have e9:=GU 2 s.pol ws om;have h9:=HPw.out.put (j:=2) (p:=jM 2 s.pol ws) om hv6 HT6.out (by rw[e9.1,e9.2];exact HO6.out) (HA6.out.imp (λh=>h) (λh=>⟨_,h,bA _⟩)) (GV 2 om s.pol ws) rfl rfl rfl rfl;exact⟨rfl,h9.1,HBw.out.trans h9.2⟩
  .have hk2:=HKind.out 3 dc hk;have ht1:=HX1.out;rw[hk,show(⟨uX.toArray⟩:ByteArray)=⟨#[100,114,111,112]⟩from rfl]at ht1;subst ht1;have HR0:Hid (R=sub en 3 x.at_ ⟨q,s.pol,s.told⟩):=hk2;clear HX1 HKind HKd hk hk2;have HR:Hid (R=match eP en q with
     | .error f=> .error f
     | .ok (ws,q)=> .ok ⟨q,jM 3 s.pol ws,s.told⟩):=HR0.out
   obtain⟨v5,hv5,hov⟩:=HPa.out.row 3 om;have HOv:=aA hov;obtain⟨A5,c5,rfl,_⟩:=dF hov;have hv5:V1.cell? ⟨M+1,5,none⟩=some (aF A5 (fN s.pol 3) c5):=hv5;have hlV:=HPa.out.r.lt;clear hov HR0;go_upto_region 10 with fail
   have hdr:Below V1.heap.size V1 V1.drew:=aG;have HPd:=aA (HPa.out.grown hdr);refine qS 8 [(0,true),(1,true),(2,true),(3,true),(4,true),(5,true),(6,false),(7,false)] (λV=>V.cell? ⟨M+1,5,none⟩=some (aF A5 (fN s.pol 3) c5)) hmx kr kr kr dc  rfl (λc a d v w h=>by obtain⟨x,y⟩:=(h:_/\_);cases d<;>exact⟨x,y⟩) kr (by exact hv5) ?_;refine bN (v:=(aM (some ⟨M+1,2,none⟩))) rfl rfl ee ?_;refine bN (v:=(aM (some ⟨M+1,2,none⟩))) rfl rfl ee ?_;refine bN (v:=(aM (some ⟨M+1,2,none⟩))) rfl rfl ee ?_;refine bN (v:=(aM (some ⟨M+1,5,none⟩))) rfl rfl ee ?_;refine bN (v:=(aF A5 (fN s.pol 3) c5)) rfl rfl (λW hW=>by simp[execOp,go_sem,hW]) ?_;refine bN (v:=(aM (some ⟨M+1,0,none⟩))) rfl rfl ee ?_;refine cC rfl rfl λKc hKc=> ?_;unfold Oper.wp;simp[execOp,go_sem];refine(AQ en M q V1.drew HPd.out.r (by have:=HQl.out;omega)).mono ?_;rintro e W2 hw;cases h3:eP en q with
   |error f=>
    rw[h3]at hw HR;obtain⟨rfl,hb1⟩:=(hw:tU M V1.drew f e W2);show _/\_;refine⟨rfl, ?_⟩;rw[HR.out];exact⟨rfl,(HB1.out.trans (hdr.mono om)).trans hb1⟩
   |ok p=>
    obtain⟨ws,q3⟩:=p;rw[h3]at hw HR;obtain⟨v,rfl,ho,hp2,hu2⟩:=(hw: ∃v,e=aL v/\W2.ownsRow V1.drew.heap.size 9 1 v ws.length (ws.map sv)/\cI en M q3 W2/\cA M 0 V1.drew W2);have HR:Hid (R= .ok ⟨q3,jM 3 s.pol ws,s.told⟩):=HR.out;obtain⟨hc1,hc2⟩:=yP h3;have HPw:=aA (HPd.out.took hp2 hu2);have HBw:=aA ((HB1.out.trans (hdr.mono om)).trans (hu2.below' (by have:=hdr.size;omega)));obtain⟨Aw,cw,rfl,_⟩:=dF ho;have hA: ∃bw ow,Aw=some ⟨bw,ow,none⟩/\ ∀j u,(ws.map sv)[j]? =some u->W2.cell? ⟨bw,ow+j,none⟩=some u:=by
     obtain⟨_,_,A,c,e,h4⟩:=Rd.own ho;cases e;obtain⟨b,off,e,_,hc⟩:=h4 (by show 0<ws.length;omega);exact⟨b,off,e,hc⟩
    obtain⟨bw,ow,rfl,hcw⟩:=hA;have hv6:W2.cell? ⟨M+1,5,none⟩=some (aF A5 (fN s.pol 3) c5):=(hu2.cell 5 om).trans hv5;have hl2:=HPw.out.r.lt;have hz:=HPw.out.r.fz 5;obtain⟨u6,hu6,hou⟩:=HPw.out.row 3 om;have hu6:W2.cell? ⟨M+1,5,none⟩=some u6:=hu6;rw[hv6]at hu6;cases hu6;have hou:W2.ownsRow (M+2) 9 1 (aF A5 (fN s.pol 3) c5) (fN s.pol 3) (fC s.pol 3):=hou;have hbd:fN s.pol 3+ws.length<=20000:=by have:=HRw.out 3;omega
    show Kc _ _;apply hKc;refine⟨hv6, ?_⟩;refine cC rfl rfl λKd hKd=> ?_;refine BK (n:=fN s.pol 3) (size:=1) (xs:=fC s.pol 3) (v:=(aF A5 (fN s.pol 3) c5)) _ _ 44 rfl yX (M+2) rfl hou om ⟨bw,ow,none⟩ ws.length cw (ws.map sv) rfl (λj u hu=>(congrArg W2.cell? (GT bw ow j)).trans (hcw j u hu)) (by simp) (by simp[sv,gC]) (by unfold maxLen;omega) om ?_;intro v6 W6 ho6 hg6 hat6;apply hKd;obtain⟨A6,c6,rfl,_⟩:=dF ho6;have hgT:aJ (λb=>(aF A5 (fN s.pol 3) c5).ownBlock=some b) W2 W6:=⟨hg6.os,hg6.tape,hg6.output,hg6.size,λk hk hn=>hg6.block k hk (λe=>hn e.symm)⟩;have hnM: ¬(aF A5 (fN s.pol 3) c5).ownBlock=some (M+1):=(λe=>by have:=(hou.lt _ e).1;omega);have k6:=(World.cell?_of_block (a:=⟨M+1,5,none⟩) (hgT.block _ hl2 hnM)).trans hv6;have kf:=(World.frozen?_of_block (a:=⟨M+1,5,none⟩) (hgT.block _ hl2 hnM)).trans hz;refine⟨k6, ?_⟩;have HT6:=aA hgT;have HO6:=aA ho6;have HA6:=aA hat6;clear hgT hnM hg6 ho6 hat6 hou hu2 hp2 ho;dsimp only[dD,eL];go_wp2_with fail
    go_end0;rw[HR.out];have e9:=GU 3 s.pol ws om;have h9:=HPw.out.put (j:=3) (p:=jM 3 s.pol ws) om hv6 HT6.out (by rw[e9.1,e9.2];exact HO6.out) (HA6.out.imp (λh=>h) (λh=>⟨_,h,bA _⟩)) (GV 3 om s.pol ws) rfl rfl rfl rfl;exact⟨rfl,h9.1,HBw.out.trans h9.2⟩
  .have hk2:=HKind.out 4 dc hk;have ht1:=HX1.out;rw[hk,show(⟨wP.toArray⟩:ByteArray)=⟨#[97,116,116,114,115]⟩from rfl]at ht1;subst ht1;have HR0:Hid (R=sub en 4 x.at_ ⟨q,s.pol,s.told⟩):=hk2;clear HX1 HKind HKd hk hk2;have HC:=aA (Rq en M ⟨q,s.pol,s.told⟩ V1 HPa.out HSq.out);cases h3:sub en 4 x.at_ ⟨q,s.pol,s.told⟩with
   |error f=>
    have HC2:=aA (show Calls aE 44 #[aM (some ⟨M+1,0,none⟩)] V1 (tU M V1 f) by have h4:=HC.out;rw[show sN en ⟨q,s.pol,s.told⟩= .error f from h3]at h4;exact h4);have HR:Hid (R= .error f):=HR0.out.trans h3;clear HC h3 HR0;go_wp2_with(go_at_call 44;(with_reducible refine HC2.out.mono ?_);rintro e W2 ⟨rfl,hb1⟩;have HB2:=aA hb1;clear hb1)
    refine⟨rfl, ?_⟩;rw[HR.out];exact⟨rfl,HB1.out.trans HB2.out⟩
   |ok t=>
    have HC2:=aA (show Calls aE 44 #[aM (some ⟨M+1,0,none⟩)] V1 (λe w'=>e=aL (aN #[])/\cW en M t w'/\Below M V1 w') by have h4:=HC.out;rw[show sN en ⟨q,s.pol,s.told⟩= .ok t from h3]at h4;exact h4);have HR:Hid (R= .ok t):=HR0.out.trans h3;clear HC h3 HR0;go_wp2_with(go_at_call 44;(with_reducible refine HC2.out.mono ?_);rintro e W2 ⟨rfl,hp1,hb1⟩;have HP2:=aA hp1;have HB2:=aA hb1;clear hp1 hb1)
    go_end0;rw[HR.out];exact⟨rfl,HP2.out,HB1.out.trans HB2.out⟩
  .have hk2:=HKind.out 5 dc hk;have ht1:=HX1.out;rw[hk,show(⟨mT.toArray⟩:ByteArray)=⟨#[114,101,108,97,116,105,118,101]⟩from rfl]at ht1;subst ht1;have HR0:Hid (R=sub en 5 x.at_ ⟨q,s.pol,s.told⟩):=hk2;clear HX1 HKind HKd hk hk2;have HR:Hid (R=match dE en 1 [kA,mW] q with
    | .error f=> .error f
    | .ok (y,q2)=>match iB en x.at_ mT q2 s.told with
     | .error f=> .error f
     | .ok (q3,told)=> .ok ⟨q3,{s.pol with rel:=decide (y.text=kA)},told⟩):=HR0.out
   have HT5:=aA (λW' (hb:Below V1.heap.size V1 W') v (hv:Rd W' v [kA,mW].length 1 ([kA,mW].map sv))=>show Calls aE 42 #[aM (some ⟨M+1,0,none⟩),aB aC 1,v] W' _ from wZ HPa.out.r hb HPa.out.r.lt (qX en M 1 q v [kA,mW] W' (HPa.out.r.grown hb) hv));have hlV:=HPa.out.r.lt;clear HR0;go_upto_region 14 with fail
   cases h5:dE en 1 [kA,mW] q with
   |error f=>
    rw[h5]at HR HT5;have HR:Hid (R= .error f):=HR.out;clear h5;go_wp2_with(go_at_call 42;(refine(HT5.out _ aG _ (oV (ts:=[kA,mW]) (by simp) rfl rfl dc)).mono ?_);rintro e W2 ⟨rfl,hb1⟩;have HB2:=aA hb1;clear hb1)
    refine⟨rfl, ?_⟩;rw[HR.out];exact⟨rfl,HB1.out.trans HB2.out⟩
   |ok p=>
    obtain⟨y,q2⟩:=p;rw[h5]at HR HT5;have HT5:=aA (λW' hb v hv=>show Calls aE 42 #[aM (some ⟨M+1,0,none⟩),aB aC 1,v] W' (λe w'=>e=aL y.agg/\cI en M q2 w'/\cA M 0 V1 w')from HT5.out W' hb v hv);have HR:Hid (R=match iB en x.at_ mT q2 s.told with
     | .error f=> .error f
     | .ok (q3,told)=> .ok ⟨q3,{s.pol with rel:=decide (y.text=kA)},told⟩):=HR.out
    obtain⟨hq2,hn2⟩:=tK h5;have hy:y.text=kA\/y.text=mW:=by
     rw[hq2]at hn2;have hn3:(decide (y.kind=1)&&(false||decide (y.text∈[kA,mW])))=true:=hn2;simp only[Bool.false_or,Bool.and_eq_true,decide_eq_true_eq,List.mem_cons,List.not_mem_nil,or_false]at hn3;exact hn3.2
    have hst:=HSq.out.told;obtain⟨D,hD⟩: ∃D,decide (y.text=kA)=D:=⟨_,rfl⟩;rw[hD]at HR;obtain⟨t2,ht2⟩: ∃t:ByteArray,⟨y.text.toArray⟩=t:=⟨_,rfl⟩;simp only[Lx.agg]at HT5;rw[ht2]at HT5;have ht3:(t2=⟨#[121,101,115]⟩/\D=true)\/(t2=⟨#[110,111]⟩/\D=false):=by
     rcases hy with hy|hy
     .left;rw[hy]at ht2 hD;exact⟨ht2.symm,by rw[<-hD];rfl⟩
     .right;rw[hy]at ht2 hD;exact⟨ht2.symm,by rw[<-hD];rfl⟩
    clear h5 hq2 hn2 hy hD ht2;rcases ht3 with⟨rfl,rfl⟩|⟨rfl,rfl⟩
    all_goals
     go_upto_region 15 with(go_at_call 42;(refine(HT5.out _ aG _ (oV (ts:=[kA,mW]) (by simp) rfl rfl dc)).mono ?_);rintro e W2 ⟨rfl,hp1,hu1⟩;have HPb:=aA (HPa.out.took hp1 hu1);have HU2:=aA hu1;clear hp1 hu1)
     have f1:=(HU2.out.cellB hBV om).trans f1;have f2:=(HU2.out.cellB hBV om).trans f2;have hs2:=HU2.out.turned.size;have hB2:B<W2.heap.size:=by omega
     have hb2:=HB1.out.trans (HU2.out.below' hlV);have HB2:=aA hb2;have HOn:=aA (show Calls aE 45 #[aM (some ⟨M+1,0,none⟩),aB aC x.at_,aD ⟨#[114,101,108,97,116,105,118,101]⟩] W2 _ from LJ en M x.at_ mT ⟨q2,s.pol,s.told⟩ W2 HPb.out dc om  (by show s.told.length<_;have:=HSq.out.told;simp only at this;omega));clear HT5 hb2;cases h6:iB en x.at_ mT q2 s.told with
     |error f=>
      have HOn:=aA (show Calls aE 45 #[aM (some ⟨M+1,0,none⟩),aB aC x.at_,aD ⟨#[114,101,108,97,116,105,118,101]⟩] W2 (tU M W2 f) by have h7:=HOn.out;simp only[h6]at h7;exact h7);rw[h6]at HR;have HR:Hid (R= .error f):=HR.out;clear h6;go_wp2_with(go_at_call 45;(with_reducible refine HOn.out.mono ?_);rintro e W3 ⟨rfl,hb1⟩;have HB3:=aA hb1;clear hb1)
      refine⟨rfl, ?_⟩;rw[HR.out];exact⟨rfl,HB2.out.trans HB3.out⟩
     |ok p=>
      obtain⟨q4,told4⟩:=p;have HOn:=aA (show Calls aE 45 #[aM (some ⟨M+1,0,none⟩),aB aC x.at_,aD ⟨#[114,101,108,97,116,105,118,101]⟩] W2 (λe w'=>e=aL (aN #[])/\cW en M ⟨q4,s.pol,told4⟩ w'/\aJ (λb=>b=M\/b=M+1) W2 w') by have h7:=HOn.out;simp only[h6]at h7;exact h7.mono λe w' h8=>⟨h8.1,h8.2.1,h8.2.2.1⟩);rw[h6]at HR;clear h6;go_upto_region 16 with(go_at_call 45;(with_reducible refine HOn.out.mono ?_);rintro e W3 ⟨rfl,hp1,ht1⟩;have HP3:=aA hp1;have HT3:=aA ht1;clear hp1 ht1)
      have x8:=HP3.out.c8;have hz:=HP3.out.r.fz 8;have hb3:=HB2.out.trans (HT3.out.below om (λk hk=>by omega):Below M W2 W3);have HB3:=aA hb3;clear hb3;go_wp2_with fail
      go_end0;rw[HR.out];exact⟨rfl,(HP3.out.setRel _).1,HB3.out.trans (HP3.out.setRel _).2⟩
  .have hk2:=HKind.out 6 dc hk;have ht1:=HX1.out;rw[hk,show(⟨lO.toArray⟩:ByteArray)=⟨#[102,111,114,99,101]⟩from rfl]at ht1;subst ht1;have HR0:Hid (R=sub en 6 x.at_ ⟨q,s.pol,s.told⟩):=hk2;clear HX1 HKind HKd hk hk2;have HC:=aA (Lc en M x.at_ ⟨q,s.pol,s.told⟩ V1 HPa.out HSq.out hxa);cases h3:sub en 6 x.at_ ⟨q,s.pol,s.told⟩with
   |error f=>
    have HC2:=aA (show Calls aE 46 #[aM (some ⟨M+1,0,none⟩),aB aC x.at_] V1 (tU M V1 f) by have h4:=HC.out;rw[show nX en x.at_ ⟨q,s.pol,s.told⟩= .error f from h3]at h4;exact h4);have HR:Hid (R= .error f):=HR0.out.trans h3;clear HC h3 HR0;go_wp2_with(go_at_call 46;(with_reducible refine HC2.out.mono ?_);rintro e W2 ⟨rfl,hb1⟩;have HB2:=aA hb1;clear hb1)
    refine⟨rfl, ?_⟩;rw[HR.out];exact⟨rfl,HB1.out.trans HB2.out⟩
   |ok t=>
    have HC2:=aA (show Calls aE 46 #[aM (some ⟨M+1,0,none⟩),aB aC x.at_] V1 (λe w'=>e=aL (aN #[])/\cW en M t w'/\Below M V1 w') by have h4:=HC.out;rw[show nX en x.at_ ⟨q,s.pol,s.told⟩= .ok t from h3]at h4;exact h4);have HR:Hid (R= .ok t):=HR0.out.trans h3;clear HC h3 HR0;go_wp2_with(go_at_call 46;(with_reducible refine HC2.out.mono ?_);rintro e W2 ⟨rfl,hp1,hb1⟩;have HP2:=aA hp1;have HB2:=aA hb1;clear hp1 hb1)
    go_end0;rw[HR.out];exact⟨rfl,HP2.out,HB1.out.trans HB2.out⟩
  .have hk2:=HKind.out 7 dc hk;have ht1:=HX1.out;rw[hk,show(⟨mY.toArray⟩:ByteArray)=⟨#[108,105,109,105,116]⟩from rfl]at ht1;subst ht1;have HR0:Hid (R=sub en 7 x.at_ ⟨q,s.pol,s.told⟩):=hk2;clear HX1 HKind HKd hk hk2;have HC:=aA (Ii en M x.at_ ⟨q,s.pol,s.told⟩ V1 HPa.out HSq.out HNq.out hxa);cases h3:sub en 7 x.at_ ⟨q,s.pol,s.told⟩with
   |error f=>
    have HC2:=aA (show Calls aE 47 #[aM (some ⟨M+1,0,none⟩),aB aC x.at_] V1 (tU M V1 f) by have h4:=HC.out;rw[show nW en x.at_ ⟨q,s.pol,s.told⟩= .error f from h3]at h4;exact h4);have HR:Hid (R= .error f):=HR0.out.trans h3;clear HC h3 HR0;go_wp2_with(go_at_call 47;(with_reducible refine HC2.out.mono ?_);rintro e W2 ⟨rfl,hb1⟩;have HB2:=aA hb1;clear hb1)
    refine⟨rfl, ?_⟩;rw[HR.out];exact⟨rfl,HB1.out.trans HB2.out⟩
   |ok t=>
    have HC2:=aA (show Calls aE 47 #[aM (some ⟨M+1,0,none⟩),aB aC x.at_] V1 (λe w'=>e=aL (aN #[])/\cW en M t w'/\Below M V1 w') by have h4:=HC.out;rw[show nW en x.at_ ⟨q,s.pol,s.told⟩= .ok t from h3]at h4;exact h4);have HR:Hid (R= .ok t):=HR0.out.trans h3;clear HC h3 HR0;go_wp2_with(go_at_call 47;(with_reducible refine HC2.out.mono ?_);rintro e W2 ⟨rfl,hp1,hb1⟩;have HP2:=aA hp1;have HB2:=aA hb1;clear hp1 hb1)
    go_end0;rw[HR.out];exact⟨rfl,HP2.out,HB1.out.trans HB2.out⟩
