/- The walk of the reference's Parse. (written by gen_rparse.py) -/
import Derived.BigRegion
import Derived.Test.YtiikamobcmgekaaGreatDoorRfG
namespace Go.Proofs.YtiikamobcmgekaaGreatDoor
open Lib renaming hid→z2c
open Nat renaming le_of_lt→z25,le_refl→z2k,le_trans→z2j
open Go.Proofs.Tryz renaming prog→z2f
set_option maxRecDepth 100000
set_option maxHeartbeats 8000000
open Go.RowKit
attribute [local go_sem] Oper.semAt_some
theorem zif {w W0:World} {O:Nat} {e:TypeId} (hW0:W0=w.alloc (.cells #[.slice none 0 0,.slice none 0 0,.slice none 0 0,.slice none 0 0,.slice none 0 0,.slice none 0 0,.bool false,.int .i64 0,.int .i64 0,.int .i64 0] e)) (hO:w.heap.size=O):OutZ W0 O/\Below O w W0/\O<W0.heap.size:=by
 subst hW0 hO;refine⟨⟨?_, ?_, ?_, ?_, ?_, ?_, ?_, ?_, ?_, ?_,fun j=> ?_⟩,bel, ?_⟩<;>simp[go_sem]
theorem zlt (s:ByteArray) (w:World) (n code:Nat) (hc:code≠0) (HS: ∀W,Calls z2f 55 #[.string s] W fun e w'=>e= .returned (.tuple #[.slice none 0 0,.int .i64 n,.int .i64 code])/\Below W.heap.size W w'):
  Calls z2f 22 #[.string s] w fun e w'=>e= .returned (.tuple #[zd5,.int .i64 n,.int .i64 code])/\Below w.heap.size w w':=by
 have HSc:=z2c HS;have hcb:((code:Int) !=0)=true:=by simp;omega
 clear HS;go_enter Tryz.func22,Tryz.ntmps22;go_upto_region 1 with fail
 refine zae fun W0 hW0=> ?_;obtain⟨O,hO⟩: ∃O,w.heap.size=O:=⟨_,rfl⟩;obtain⟨hz0,hb0,hl0⟩:=zif hW0 hO;rw[hO];clear hW0;have HZ0:=z2c hz0;have HB0:=z2c hb0;clear hz0 hb0;go_upto_region 2 with(go_at_call 55;(with_reducible refine(HSc.out _).mono ?_);rintro e W1 ⟨rfl,hb1⟩;have HB1:=z2c hb1;clear hb1)
 have HZ1:=z2c (HZ0.out.below hl0 HB1.out);have HBw:=z2c (HB0.out.trans (HB1.out.mono (z25 hl0)));obtain⟨c0,c1,c2,c3,c4,c5,c6,c7,c8,c9,fz⟩:=HZ1.out;have f0:=fz 0;have f1:=fz 1;have f2:=fz 2;have f3:=fz 3;have f4:=fz 4;have f5:=fz 5;have f6:=fz 6;have f7:=fz 7;have f8:=fz 8;have f9:=fz 9;clear fz;go_wp2_with fail
 (try simp only[Exit.inBlock,Exit.then]);refine bodyPost_ret (v:= .tuple #[zd5,.int .i64 n,.int .i64 code]) (rres (O:=O) rfl rfl rfl (HZ1.out.store _ _ _ _ _ _ _ _ _ _)) rfl ?_;exact⟨rfl,by rw[hO];exact za0 (z2k O) HBw.out _ _ _ _ _ _ _ _ _ _⟩
theorem zp6 {k:Bs} {l:List Lx} {p:Pol} {told:List Bs} {c i:Nat} (h:sgR k l p told= .error (c,i)):c≠0:=by
 unfold sgR at h;repeat' split at h
 all_goals first|(cases h;omega)|(cases h)
theorem zws (s:ByteArray) (l:List Lx) (w:World) (hs:s.size<=8192) (hl:zd2 0 s.data.toList= .ok l):Calls z2f 22 #[.string s] w (zcq s.data.toList w):=by
 have hsz:s.data.toList.length=s.size:=by simp
 obtain⟨hsm,hok⟩:=zmn hl (by omega);have HPar0:Hid (zbb s.data.toList=match runP s.size ⟨l,pol0,[]⟩with
   | .error e=> .error e
   | .ok t=>if fitB (za7 t.pol)then .ok (za7 t.pol)else .error ⟨s.size,3⟩):=by
  show _=_;unfold zbb;rw[if_neg (by omega),hl,hsz];rfl
 rw[hsz]at hok;have HSm:=z2c hsm;have HOk:=z2c hok;have HSc:=z2c (fun W=>show Calls z2f 55 #[.string s] W (fun e w'=> ∃A c,e= .returned (.tuple #[.slice A l.length c,.int .i64 0,.int .i64 0])/\Below W.heap.size W w'/\l.length<=c/\w'.ownsRow W.heap.size 112 3 (.slice A l.length c) l.length (za6 l))from(zls s W hs).mono fun e w' h=>by
  rw[hl]at h;obtain⟨v,hb,he,ho⟩:=h;obtain⟨A,c,rfl,hc⟩:=zah ho;exact⟨A,c,he,hb,hc,ho⟩)
 unfold zcq;obtain⟨R,hR⟩: ∃R,zbb s.data.toList=R:=⟨_,rfl⟩;rw[hR]at HPar0 ⊢;clear hR hl hsz hsm hok;go_enter Tryz.func22,Tryz.ntmps22;go_upto_region 1 with fail
 refine zae fun W0 hW0=> ?_;obtain⟨O,hO⟩: ∃O,w.heap.size=O:=⟨_,rfl⟩;obtain⟨hz0,hb0,hl0⟩:=zif hW0 hO;rw[hO];clear hW0;have HZ0:=z2c hz0;have HB0:=z2c hb0;clear hz0 hb0;go_upto_region 4 with(go_at_call 55;(with_reducible refine(HSc.out _).mono ?_);rintro e W1 ⟨Al,cl,rfl,hb1,hcl,hol⟩;have HB1:=z2c hb1;have HOl:=z2c hol;clear hb1 hol)
 have HZ1:=z2c (HZ0.out.below hl0 HB1.out);have HBw:=z2c (HB0.out.trans (HB1.out.mono (z25 hl0)));have hOB:O<W1.heap.size:=Nat.lt_of_lt_of_le hl0 HB1.out.size;clear HZ0 HB0 HSc;obtain⟨B,hB⟩: ∃B,W1.heap.size=B:=⟨_,rfl⟩;go_wp2_with fail
 refine zae fun V hV=> ?_;have hPS:=RPar.start (en:=s.size) (V:=V) rfl HOl.out hcl hV;have hbV:Below W1.heap.size W1 V:=by rw[hV];exact bel
 clear hV HOl HB1 hcl;rw[hB]at hPS hbV hOB;(try rw[hB]);have HPS:=z2c hPS;have HBV:=z2c hbV;clear hPS hbV hl0;go_loopw [9,10,11,12,13] (fun _ _ _ _ _ wr=> ∃t:Ps,Hid (RPar s.size B t wr)/\Hid (PsSm t)/\Hid (zdb s.size t.rest/\zkp t.pol)/\Hid (runP s.size ⟨l,pol0,[]⟩=runP s.size t)/\Hid (Below B W1 wr)) (fun _ _ _ _ _ wr=>rLen B wr)
 case atStart=>exact⟨⟨l,pol0,[]⟩,HPS.out,HSm.out,⟨HOk.out,zmv⟩,rfl,HBV.out⟩
 case round=>
  clear HPS HSm HOk HBV;obtain⟨t,HP,HSm,HOk,HK,HB⟩:=hrel;have hOw:O<wr.heap.size:=Nat.lt_of_lt_of_le (by rw[hB];exact hOB) HB.out.size;have HZr:=z2c (HZ1.out.below hOB HB.out);have HBr:=z2c (HBw.out.trans (HB.out.mono (z25 hOB)));have hlB:=HP.out.lt;obtain⟨Ar,cr,hcr,hcl,Ar',cr',har,_,hrd,_⟩:=HP.out.rest;cases har;clear HZ1 HBw;cases hr:t.rest with
  |nil=>
   rw[hr,List.length_nil]at hcr;have HE:Hid (runP s.size t= .ok t):=zr8 hr;have HR0:Hid (R=if fitB (za7 t.pol)then .ok (za7 t.pol)else .error ⟨s.size,3⟩):=by show _=_;rw[HPar0.out,HK.out,HE.out]
   clear HPar0 HK HE hr HOk hrd hcl;obtain⟨v0,e0,o0⟩:=HP.out.row 0 (by omega);obtain⟨A0,cc0,rfl,_⟩:=zah o0;have e0:wr.cell? ⟨B,0,none⟩=_:=e0;obtain⟨v1,e1,o1⟩:=HP.out.row 1 (by omega);obtain⟨A1,cc1,rfl,_⟩:=zah o1;have e1:wr.cell? ⟨B,1,none⟩=_:=e1;obtain⟨v2,e2,o2⟩:=HP.out.row 2 (by omega);obtain⟨A2,cc2,rfl,_⟩:=zah o2;have e2:wr.cell? ⟨B,2,none⟩=_:=e2;obtain⟨v3,e3,o3⟩:=HP.out.row 3 (by omega);obtain⟨A3,cc3,rfl,_⟩:=zah o3;have e3:wr.cell? ⟨B,3,none⟩=_:=e3;obtain⟨v4,e4,o4⟩:=HP.out.row 4 (by omega);obtain⟨A4,cc4,rfl,_⟩:=zah o4;have e4:wr.cell? ⟨B,4,none⟩=_:=e4;obtain⟨v5,e5,o5⟩:=HP.out.row 5 (by omega);obtain⟨A5,cc5,rfl,_⟩:=zah o5;have e5:wr.cell? ⟨B,5,none⟩=_:=e5;have e6:=HP.out.c6;have e7:=HP.out.c7;have e8:=HP.out.c8;have e9:=HP.out.c9;have hpv:=HP.out.polV e0 e1 e2 e3 e4 e5;have HNe:=z2c (zoh _ t.pol wr hpv HSm.out.pol);clear o0 o1 o2 o3 o4 o5 hpv HSm;generalize za7 t.pol=P at*;go_upto_region 31 with(go_at_call 59;(with_reducible refine HNe.out.mono ?_);rintro e W5 ⟨v',rfl,hb5,hp5⟩;have HP5:=z2c hp5;obtain⟨w0,w1,w2,w3,w4,w5,rfl,⟨B0,l0,rfl,_⟩,⟨B1,l1,rfl,_⟩,⟨B2,l2,rfl,_⟩,⟨B3,l3,rfl,_⟩,⟨B4,l4,rfl,_⟩,⟨B5,l5,rfl,_⟩⟩:=hp5;have HB5:=z2c hb5;clear hb5)
   refine zae fun W6 hW6=> ?_;obtain⟨F,hF⟩: ∃F,W5.heap.size=F:=⟨_,rfl⟩;have g0:W6.cell? ⟨F,0,none⟩=some (.slice B0 (fN P 0) l0):=by rw[hW6,<-hF];simp[go_sem]
   have g1:W6.cell? ⟨F,1,none⟩=some (.slice B1 (fN P 1) l1):=by rw[hW6,<-hF];simp[go_sem]
   have g2:W6.cell? ⟨F,2,none⟩=some (.slice B2 (fN P 2) l2):=by rw[hW6,<-hF];simp[go_sem]
   have g3:W6.cell? ⟨F,3,none⟩=some (.slice B3 (fN P 3) l3):=by rw[hW6,<-hF];simp[go_sem]
   have g4:W6.cell? ⟨F,4,none⟩=some (.slice B4 (fN P 4) l4):=by rw[hW6,<-hF];simp[go_sem]
   have g5:W6.cell? ⟨F,5,none⟩=some (.slice B5 (fN P 5) l5):=by rw[hW6,<-hF];simp[go_sem]
   have g6:W6.cell? ⟨F,6,none⟩=some (.bool P.rel):=by rw[hW6,<-hF];simp[go_sem]
   have g7:W6.cell? ⟨F,7,none⟩=some (.int .i64 P.depth):=by rw[hW6,<-hF];simp[go_sem]
   have g8:W6.cell? ⟨F,8,none⟩=some (.int .i64 P.name):=by rw[hW6,<-hF];simp[go_sem]
   have g9:W6.cell? ⟨F,9,none⟩=some (.int .i64 P.value):=by rw[hW6,<-hF];simp[go_sem]
   have hb6:Below W5.heap.size W5 W6:=by rw[hW6];exact bel
   have hl5:=HB5.out.size;have HZ6:=z2c ((HZr.out.below hOw HB5.out).below (Nat.lt_of_lt_of_le hOw hl5) hb6);have HP6:=z2c (HP5.out.below hb6);have HB6:=z2c (HBr.out.trans ((HB5.out.mono (z25 hOw)).trans (hb6.mono (by omega))));rw[hF];clear hW6 hb6 hl5 HP5 HB5 HNe e0 e1 e2 e3 e4 e5 e6 e7 e8 e9 hcr HZr HBr HB;obtain⟨c0,c1,c2,c3,c4,c5,c6,c7,c8,c9,fz⟩:=HZ6.out;have f0:=fz 0;have f1:=fz 1;have f2:=fz 2;have f3:=fz 3;have f4:=fz 4;have f5:=fz 5;have f6:=fz 6;have f7:=fz 7;have f8:=fz 8;have f9:=fz 9;clear fz;have HF:Hid (fitB P=decide (fN P 0<=200/\fN P 1<=200/\fN P 2<=200/\fN P 3<=200/\fN P 4<=200/\fN P 5<=200)):=rfl;by_cases h0:200<fN P 0
   ·have HR:Hid (R= .error ⟨s.size,3⟩):=by show _=_;rw[HR0.out,HF.out,if_neg (by simp;omega)]
    have i0:(200:Int)<fN P 0:=by omega
    go_wp2_with fail
    (try simp only[Exit.inBlock,Exit.then]);refine bodyPost_ret (v:= .tuple #[zd5,.int .i64 s.size,.int .i64 3]) (rres (O:=O) rfl rfl rfl (HZ6.out.store _ _ _ _ _ _ _ _ _ _)) rfl ?_;rw[HR.out];exact⟨by rw[hO];exact za0 (z2k O) HB6.out _ _ _ _ _ _ _ _ _ _,rfl⟩
   have i0: ¬(200:Int)<fN P 0:=by omega
   by_cases h1:200<fN P 1
   ·have HR:Hid (R= .error ⟨s.size,3⟩):=by show _=_;rw[HR0.out,HF.out,if_neg (by simp;omega)]
    have i1:(200:Int)<fN P 1:=by omega
    go_wp2_with fail
    (try simp only[Exit.inBlock,Exit.then]);refine bodyPost_ret (v:= .tuple #[zd5,.int .i64 s.size,.int .i64 3]) (rres (O:=O) rfl rfl rfl (HZ6.out.store _ _ _ _ _ _ _ _ _ _)) rfl ?_;rw[HR.out];exact⟨by rw[hO];exact za0 (z2k O) HB6.out _ _ _ _ _ _ _ _ _ _,rfl⟩
   have i1: ¬(200:Int)<fN P 1:=by omega
   by_cases h2:200<fN P 2
   ·have HR:Hid (R= .error ⟨s.size,3⟩):=by show _=_;rw[HR0.out,HF.out,if_neg (by simp;omega)]
    have i2:(200:Int)<fN P 2:=by omega
    go_wp2_with fail
    (try simp only[Exit.inBlock,Exit.then]);refine bodyPost_ret (v:= .tuple #[zd5,.int .i64 s.size,.int .i64 3]) (rres (O:=O) rfl rfl rfl (HZ6.out.store _ _ _ _ _ _ _ _ _ _)) rfl ?_;rw[HR.out];exact⟨by rw[hO];exact za0 (z2k O) HB6.out _ _ _ _ _ _ _ _ _ _,rfl⟩
   have i2: ¬(200:Int)<fN P 2:=by omega
   by_cases h3:200<fN P 3
   ·have HR:Hid (R= .error ⟨s.size,3⟩):=by show _=_;rw[HR0.out,HF.out,if_neg (by simp;omega)]
    have i3:(200:Int)<fN P 3:=by omega
    go_wp2_with fail
    (try simp only[Exit.inBlock,Exit.then]);refine bodyPost_ret (v:= .tuple #[zd5,.int .i64 s.size,.int .i64 3]) (rres (O:=O) rfl rfl rfl (HZ6.out.store _ _ _ _ _ _ _ _ _ _)) rfl ?_;rw[HR.out];exact⟨by rw[hO];exact za0 (z2k O) HB6.out _ _ _ _ _ _ _ _ _ _,rfl⟩
   have i3: ¬(200:Int)<fN P 3:=by omega
   by_cases h4:200<fN P 4
   ·have HR:Hid (R= .error ⟨s.size,3⟩):=by show _=_;rw[HR0.out,HF.out,if_neg (by simp;omega)]
    have i4:(200:Int)<fN P 4:=by omega
    go_wp2_with fail
    (try simp only[Exit.inBlock,Exit.then]);refine bodyPost_ret (v:= .tuple #[zd5,.int .i64 s.size,.int .i64 3]) (rres (O:=O) rfl rfl rfl (HZ6.out.store _ _ _ _ _ _ _ _ _ _)) rfl ?_;rw[HR.out];exact⟨by rw[hO];exact za0 (z2k O) HB6.out _ _ _ _ _ _ _ _ _ _,rfl⟩
   have i4: ¬(200:Int)<fN P 4:=by omega
   by_cases h5:200<fN P 5
   ·have HR:Hid (R= .error ⟨s.size,3⟩):=by show _=_;rw[HR0.out,HF.out,if_neg (by simp;omega)]
    have i5:(200:Int)<fN P 5:=by omega
    go_wp2_with fail
    (try simp only[Exit.inBlock,Exit.then]);refine bodyPost_ret (v:= .tuple #[zd5,.int .i64 s.size,.int .i64 3]) (rres (O:=O) rfl rfl rfl (HZ6.out.store _ _ _ _ _ _ _ _ _ _)) rfl ?_;rw[HR.out];exact⟨by rw[hO];exact za0 (z2k O) HB6.out _ _ _ _ _ _ _ _ _ _,rfl⟩
   have i5: ¬(200:Int)<fN P 5:=by omega
   have HR:Hid (R= .ok P):=by show _=_;rw[HR0.out,HF.out,if_pos (by simp;omega)]
   go_wp2_with fail
   (try simp only[Exit.inBlock,Exit.then]);refine bodyPost_ret (rres (O:=O) rfl rfl rfl (HZ6.out.store (.slice B0 (fN P 0) l0) (.slice B1 (fN P 1) l1) (.slice B2 (fN P 2) l2) (.slice B3 (fN P 3) l3) (.slice B4 (fN P 4) l4) (.slice B5 (fN P 5) l5) (.bool P.rel) (.int .i64 P.depth) (.int .i64 P.name) (.int .i64 P.value))) rfl ?_;rw[HR.out];have ht:=zie (pv:=fun b=>b<wr.heap.size) (O:=O) (zab.refl _ W6) hOw (.slice B0 (fN P 0) l0) (.slice B1 (fN P 1) l1) (.slice B2 (fN P 2) l2) (.slice B3 (fN P 3) l3) (.slice B4 (fN P 4) l4) (.slice B5 (fN P 5) l5) (.bool P.rel) (.int .i64 P.depth) (.int .i64 P.name) (.int .i64 P.value);exact⟨by rw[hO];exact za0 (z2k O) HB6.out _ _ _ _ _ _ _ _ _ _,_,rfl,(HP6.out.turned ht).mono fun b _ hb=>by rw[hO]at hb;show b<wr.heap.size;omega⟩
  |cons x q=>
   have HRn:Hid (t.rest=x::q):=hr;have hrd2:Rd wr (.slice Ar t.rest.length cr) (x::q).length 3 (za6 (x::q)):=by rw[<-hr];exact hrd
   obtain⟨b,o,rfl,hbl,x0,_,x2⟩:=Rd.lx hrd2;have hn0:0<t.rest.length:=by rw[hr];simp
   have hne:t.rest≠[]:=by rw[hr];simp
   have HE0:Hid (runP s.size t=match zbf s.size t with
    | .error e=> .error e
    | .ok t=>runP s.size t):=zoc hne
   have HKd:Hid (zdy t.rest=if x.kind=1 then x.text else []):=by show _=_;rw[hr];rfl
   obtain⟨N,hN⟩: ∃N,t.rest.length=N:=⟨_,rfl⟩;rw[hN]at hcr hcl hn0;have HN:=z2c hN;have hni:(0:Int)<N:=by omega
   clear hr hrd hrd2 hne hN;by_cases hk1:x.kind=1
   ·rw[hk1]at x0;rw[if_pos hk1]at HKd;clear hk1;obtain⟨kt,hkt⟩: ∃kt,x.text=kt:=⟨_,rfl⟩;rw[hkt]at HKd x2;obtain⟨kd,hkd⟩: ∃k:ByteArray,⟨kt.toArray⟩=k:=⟨_,rfl⟩;have htl:kd.toList=kt:=by rw[<-hkd,ByteArray.toList_eq]
    have HKB:=z2c hkd;rw[hkd]at x2;clear hkt hkd;by_cases h5:kt∈ze2
    ·simp only[ze2,List.mem_cons,List.not_mem_nil,or_false]at h5;rcases h5 with rfl|rfl|rfl|rfl|rfl
     ·have hkl:kd.toList=[116,97,103,115]:=htl;have HST:=z2c (zdi (en:=s.size) (l:=t.rest) (p:=t.pol) (told:=t.told) zb7 (by simp[ze2]) HKd.out);have HNm:=z2c (show Calls z2f 56 #[.pointer (some ⟨B,0,none⟩),.string kd] wr (zc3 s.size B t wr (nmR zb7 t.rest t.pol))from by
       have:=ze7 s.size B zb7 (by simp[ze2]) t wr HP.out HSm.out;rw[HKB.out]at this;exact this)
      have HLn:=z2c (fun n q (h:nmR zb7 t.rest t.pol= .ok (n,q))=>zow h);obtain⟨X,hX⟩: ∃X,nmR zb7 t.rest t.pol=X:=⟨_,rfl⟩;rw[hX]at HST HNm HLn;clear hX htl HKB HKd;cases X with
      |error i=>
       have HR:Hid (R= .error ⟨atR s.size t.rest i,2⟩):=by show _=_;rw[HPar0.out,HK.out,HE0.out,show zbf s.size t= .error ⟨atR s.size t.rest i,2⟩from HST.out]
       have HNm2:=z2c (show Calls z2f 56 #[.pointer (some ⟨B,0,none⟩),.string kd] wr (fun e w'=>e= .returned (.tuple #[.int .i64 (-1),.int .i64 i])/\RPar s.size B t w'/\Below B wr w')from HNm.out);clear HPar0 HK HE0 HST HNm HSm HOk HLn;go_upto_region 20 with(go_at_call 56;(with_reducible refine HNm2.out.mono ?_);rintro e W4 ⟨rfl,hp4,hb4⟩;have HP4:=z2c hp4;have HB4:=z2c hb4;clear hp4 hb4)
       have HAt:=z2c (ze1 s.size B t W4 HP4.out i);have HZ4:=z2c (HZr.out.below hOB HB4.out);have HBx:=z2c (HBr.out.trans (HB4.out.mono (z25 hOB)));clear hcr x0 x2;obtain⟨c0,c1,c2,c3,c4,c5,c6,c7,c8,c9,fz⟩:=HZ4.out;have f0:=fz 0;have f1:=fz 1;have f2:=fz 2;have f3:=fz 3;have f4:=fz 4;have f5:=fz 5;have f6:=fz 6;have f7:=fz 7;have f8:=fz 8;have f9:=fz 9;clear fz;go_wp2_with(go_at_call 57;(with_reducible refine HAt.out.mono ?_);rintro e w' ⟨rfl,rfl⟩)
       (try simp only[Exit.inBlock,Exit.then]);refine bodyPost_ret (v:= .tuple #[zd5,.int .i64 (atR s.size t.rest i),.int .i64 2]) (rres (O:=O) rfl rfl rfl (HZ4.out.store _ _ _ _ _ _ _ _ _ _)) rfl ?_;rw[HR.out];exact⟨by rw[hO];exact za0 (z2k O) HBx.out _ _ _ _ _ _ _ _ _ _,rfl⟩
      |ok z=>
       obtain⟨n,q2⟩:=z;obtain⟨hn1,hnl⟩:=HLn.out n q2 rfl;have HNm2:=z2c (show Calls z2f 56 #[.pointer (some ⟨B,0,none⟩),.string kd] wr (fun e w'=>e= .returned (.tuple #[.int .i64 n,.int .i64 0])/\RPar s.size B ⟨t.rest,q2,t.told⟩ w'/\Below B wr w')from HNm.out);obtain⟨t2,ht2⟩: ∃t2:Ps,(⟨t.rest.drop n,q2,t.told⟩:Ps)=t2:=⟨_,rfl⟩;have HST:=z2c (show zbf s.size t= .ok (⟨t.rest.drop n,q2,t.told⟩:Ps)from HST.out);rw[ht2]at HST;have hst:zbf s.size t= .ok t2:=HST.out;have HK2:Hid (runP s.size ⟨l,pol0,[]⟩=runP s.size t2):=by show _=_;rw[HK.out,HE0.out,hst]
       have HSm2:=z2c (HSm.out.stmt hst);have HOk2:=z2c (zdc hst HOk.out.2 HOk.out.1);have HLt:=z2c (zct hst);have HT2:=z2c ht2;clear ht2;clear HPar0 HK HE0 HST hst HSm HOk;have hn0': ¬(n:Int)<0:=by omega
       clear HNm HLn;go_upto_region 29 with(go_at_call 56;(with_reducible refine HNm2.out.mono ?_);rintro e W4 ⟨rfl,hp4,hb4⟩;have HP4:=z2c hp4;have HB4:=z2c hb4;clear hp4 hb4)
       clear hcr x0 x2 HNm2;obtain⟨b4,o4,c4,hc4,hcl4,hA4,hB4⟩:=RPar.cut (n:=n) HP4.out hnl (z2j hn1 hnl);have hz4:=HP4.out.fz 11;have hc5:W4.cell? ⟨B,11,none⟩=some (.slice (some ⟨b4,o4,none⟩) N c4):=by rw[hc4];show some (Value.slice _ t.rest.length _)=_;rw[HN.out]
       have hl4:t.rest.length=N:=HN.out;have hA4':c4=n->RPar s.size B t2 (W4.setCell ⟨B,11,none⟩ (.slice (some ⟨b4,o4,none⟩) 0 0))/\Below B W4 (W4.setCell ⟨B,11,none⟩ (.slice (some ⟨b4,o4,none⟩) 0 0)):=by rw[<-HT2.out];exact hA4
       have hB4':RPar s.size B t2 (W4.setCell ⟨B,11,none⟩ (.slice (some ⟨b4,o4+n*3,none⟩) (N-n) (c4-n)))/\Below B W4 (W4.setCell ⟨B,11,none⟩ (.slice (some ⟨b4,o4+n*3,none⟩) (N-n) (c4-n))):=by rw[<-HT2.out,<-hl4];exact hB4
       have HA4:=z2c hA4';have HBd:=z2c hB4';have hl5:N<=c4:=by rw[<-hl4];exact hcl4
       have hl6:n<=N:=by rw[<-hl4];exact hnl
       have i1:(0:Int)<=n/\(n:Int)<=N/\(N:Int)<=c4:=by omega
       clear hc4 hA4 hB4 hA4' hB4' hcl4 hnl;by_cases hcn:c4=n
       ·have hNn:N=n:=by omega
        have HA5:=z2c (HA4.out hcn);subst hNn hcn;clear HA4 HBd;go_wp2_with fail
        go_roundw
        case rel=>exact⟨t2,HA5.out.1,HSm2.out,⟨HOk2.out.2,HOk2.out.1⟩,HK2.out,(HB.out.trans HB4.out).trans HA5.out.2⟩
        case measure=>
         have q1:=HA5.out.1.len;have q2:=HP.out.len;have q3:=HLt.out;show rLen B _<rLen B wr;rw[q1,q2];exact q3
       ·clear HA4;have hcn2: ¬(c4:Int)=n:=by omega
        go_wp2_with fail
        go_roundw
        case rel=>exact⟨t2,HBd.out.1,HSm2.out,⟨HOk2.out.2,HOk2.out.1⟩,HK2.out,(HB.out.trans HB4.out).trans HBd.out.2⟩
        case measure=>
         have q1:=HBd.out.1.len;have q2:=HP.out.len;have q3:=HLt.out;show rLen B _<rLen B wr;rw[q1,q2];exact q3
     ·have hkl:kd.toList=[115,99,104,101,109,101,115]:=htl;have HST:=z2c (zdi (en:=s.size) (l:=t.rest) (p:=t.pol) (told:=t.told) zan (by simp[ze2]) HKd.out);have HNm:=z2c (show Calls z2f 56 #[.pointer (some ⟨B,0,none⟩),.string kd] wr (zc3 s.size B t wr (nmR zan t.rest t.pol))from by
       have:=ze7 s.size B zan (by simp[ze2]) t wr HP.out HSm.out;rw[HKB.out]at this;exact this)
      have HLn:=z2c (fun n q (h:nmR zan t.rest t.pol= .ok (n,q))=>zow h);obtain⟨X,hX⟩: ∃X,nmR zan t.rest t.pol=X:=⟨_,rfl⟩;rw[hX]at HST HNm HLn;clear hX htl HKB HKd;cases X with
      |error i=>
       have HR:Hid (R= .error ⟨atR s.size t.rest i,2⟩):=by show _=_;rw[HPar0.out,HK.out,HE0.out,show zbf s.size t= .error ⟨atR s.size t.rest i,2⟩from HST.out]
       have HNm2:=z2c (show Calls z2f 56 #[.pointer (some ⟨B,0,none⟩),.string kd] wr (fun e w'=>e= .returned (.tuple #[.int .i64 (-1),.int .i64 i])/\RPar s.size B t w'/\Below B wr w')from HNm.out);clear HPar0 HK HE0 HST HNm HSm HOk HLn;go_upto_region 20 with(go_at_call 56;(with_reducible refine HNm2.out.mono ?_);rintro e W4 ⟨rfl,hp4,hb4⟩;have HP4:=z2c hp4;have HB4:=z2c hb4;clear hp4 hb4)
       have HAt:=z2c (ze1 s.size B t W4 HP4.out i);have HZ4:=z2c (HZr.out.below hOB HB4.out);have HBx:=z2c (HBr.out.trans (HB4.out.mono (z25 hOB)));clear hcr x0 x2;obtain⟨c0,c1,c2,c3,c4,c5,c6,c7,c8,c9,fz⟩:=HZ4.out;have f0:=fz 0;have f1:=fz 1;have f2:=fz 2;have f3:=fz 3;have f4:=fz 4;have f5:=fz 5;have f6:=fz 6;have f7:=fz 7;have f8:=fz 8;have f9:=fz 9;clear fz;go_wp2_with(go_at_call 57;(with_reducible refine HAt.out.mono ?_);rintro e w' ⟨rfl,rfl⟩)
       (try simp only[Exit.inBlock,Exit.then]);refine bodyPost_ret (v:= .tuple #[zd5,.int .i64 (atR s.size t.rest i),.int .i64 2]) (rres (O:=O) rfl rfl rfl (HZ4.out.store _ _ _ _ _ _ _ _ _ _)) rfl ?_;rw[HR.out];exact⟨by rw[hO];exact za0 (z2k O) HBx.out _ _ _ _ _ _ _ _ _ _,rfl⟩
      |ok z=>
       obtain⟨n,q2⟩:=z;obtain⟨hn1,hnl⟩:=HLn.out n q2 rfl;have HNm2:=z2c (show Calls z2f 56 #[.pointer (some ⟨B,0,none⟩),.string kd] wr (fun e w'=>e= .returned (.tuple #[.int .i64 n,.int .i64 0])/\RPar s.size B ⟨t.rest,q2,t.told⟩ w'/\Below B wr w')from HNm.out);obtain⟨t2,ht2⟩: ∃t2:Ps,(⟨t.rest.drop n,q2,t.told⟩:Ps)=t2:=⟨_,rfl⟩;have HST:=z2c (show zbf s.size t= .ok (⟨t.rest.drop n,q2,t.told⟩:Ps)from HST.out);rw[ht2]at HST;have hst:zbf s.size t= .ok t2:=HST.out;have HK2:Hid (runP s.size ⟨l,pol0,[]⟩=runP s.size t2):=by show _=_;rw[HK.out,HE0.out,hst]
       have HSm2:=z2c (HSm.out.stmt hst);have HOk2:=z2c (zdc hst HOk.out.2 HOk.out.1);have HLt:=z2c (zct hst);have HT2:=z2c ht2;clear ht2;clear HPar0 HK HE0 HST hst HSm HOk;have hn0': ¬(n:Int)<0:=by omega
       clear HNm HLn;go_upto_region 29 with(go_at_call 56;(with_reducible refine HNm2.out.mono ?_);rintro e W4 ⟨rfl,hp4,hb4⟩;have HP4:=z2c hp4;have HB4:=z2c hb4;clear hp4 hb4)
       clear hcr x0 x2 HNm2;obtain⟨b4,o4,c4,hc4,hcl4,hA4,hB4⟩:=RPar.cut (n:=n) HP4.out hnl (z2j hn1 hnl);have hz4:=HP4.out.fz 11;have hc5:W4.cell? ⟨B,11,none⟩=some (.slice (some ⟨b4,o4,none⟩) N c4):=by rw[hc4];show some (Value.slice _ t.rest.length _)=_;rw[HN.out]
       have hl4:t.rest.length=N:=HN.out;have hA4':c4=n->RPar s.size B t2 (W4.setCell ⟨B,11,none⟩ (.slice (some ⟨b4,o4,none⟩) 0 0))/\Below B W4 (W4.setCell ⟨B,11,none⟩ (.slice (some ⟨b4,o4,none⟩) 0 0)):=by rw[<-HT2.out];exact hA4
       have hB4':RPar s.size B t2 (W4.setCell ⟨B,11,none⟩ (.slice (some ⟨b4,o4+n*3,none⟩) (N-n) (c4-n)))/\Below B W4 (W4.setCell ⟨B,11,none⟩ (.slice (some ⟨b4,o4+n*3,none⟩) (N-n) (c4-n))):=by rw[<-HT2.out,<-hl4];exact hB4
       have HA4:=z2c hA4';have HBd:=z2c hB4';have hl5:N<=c4:=by rw[<-hl4];exact hcl4
       have hl6:n<=N:=by rw[<-hl4];exact hnl
       have i1:(0:Int)<=n/\(n:Int)<=N/\(N:Int)<=c4:=by omega
       clear hc4 hA4 hB4 hA4' hB4' hcl4 hnl;by_cases hcn:c4=n
       ·have hNn:N=n:=by omega
        have HA5:=z2c (HA4.out hcn);subst hNn hcn;clear HA4 HBd;go_wp2_with fail
        go_roundw
        case rel=>exact⟨t2,HA5.out.1,HSm2.out,⟨HOk2.out.2,HOk2.out.1⟩,HK2.out,(HB.out.trans HB4.out).trans HA5.out.2⟩
        case measure=>
         have q1:=HA5.out.1.len;have q2:=HP.out.len;have q3:=HLt.out;show rLen B _<rLen B wr;rw[q1,q2];exact q3
       ·clear HA4;have hcn2: ¬(c4:Int)=n:=by omega
        go_wp2_with fail
        go_roundw
        case rel=>exact⟨t2,HBd.out.1,HSm2.out,⟨HOk2.out.2,HOk2.out.1⟩,HK2.out,(HB.out.trans HB4.out).trans HBd.out.2⟩
        case measure=>
         have q1:=HBd.out.1.len;have q2:=HP.out.len;have q3:=HLt.out;show rLen B _<rLen B wr;rw[q1,q2];exact q3
     ·have hkl:kd.toList=[99,115,115]:=htl;have HST:=z2c (zdi (en:=s.size) (l:=t.rest) (p:=t.pol) (told:=t.told) cssT (by simp[ze2]) HKd.out);have HNm:=z2c (show Calls z2f 56 #[.pointer (some ⟨B,0,none⟩),.string kd] wr (zc3 s.size B t wr (nmR cssT t.rest t.pol))from by
       have:=ze7 s.size B cssT (by simp[ze2]) t wr HP.out HSm.out;rw[HKB.out]at this;exact this)
      have HLn:=z2c (fun n q (h:nmR cssT t.rest t.pol= .ok (n,q))=>zow h);obtain⟨X,hX⟩: ∃X,nmR cssT t.rest t.pol=X:=⟨_,rfl⟩;rw[hX]at HST HNm HLn;clear hX htl HKB HKd;cases X with
      |error i=>
       have HR:Hid (R= .error ⟨atR s.size t.rest i,2⟩):=by show _=_;rw[HPar0.out,HK.out,HE0.out,show zbf s.size t= .error ⟨atR s.size t.rest i,2⟩from HST.out]
       have HNm2:=z2c (show Calls z2f 56 #[.pointer (some ⟨B,0,none⟩),.string kd] wr (fun e w'=>e= .returned (.tuple #[.int .i64 (-1),.int .i64 i])/\RPar s.size B t w'/\Below B wr w')from HNm.out);clear HPar0 HK HE0 HST HNm HSm HOk HLn;go_upto_region 20 with(go_at_call 56;(with_reducible refine HNm2.out.mono ?_);rintro e W4 ⟨rfl,hp4,hb4⟩;have HP4:=z2c hp4;have HB4:=z2c hb4;clear hp4 hb4)
       have HAt:=z2c (ze1 s.size B t W4 HP4.out i);have HZ4:=z2c (HZr.out.below hOB HB4.out);have HBx:=z2c (HBr.out.trans (HB4.out.mono (z25 hOB)));clear hcr x0 x2;obtain⟨c0,c1,c2,c3,c4,c5,c6,c7,c8,c9,fz⟩:=HZ4.out;have f0:=fz 0;have f1:=fz 1;have f2:=fz 2;have f3:=fz 3;have f4:=fz 4;have f5:=fz 5;have f6:=fz 6;have f7:=fz 7;have f8:=fz 8;have f9:=fz 9;clear fz;go_wp2_with(go_at_call 57;(with_reducible refine HAt.out.mono ?_);rintro e w' ⟨rfl,rfl⟩)
       (try simp only[Exit.inBlock,Exit.then]);refine bodyPost_ret (v:= .tuple #[zd5,.int .i64 (atR s.size t.rest i),.int .i64 2]) (rres (O:=O) rfl rfl rfl (HZ4.out.store _ _ _ _ _ _ _ _ _ _)) rfl ?_;rw[HR.out];exact⟨by rw[hO];exact za0 (z2k O) HBx.out _ _ _ _ _ _ _ _ _ _,rfl⟩
      |ok z=>
       obtain⟨n,q2⟩:=z;obtain⟨hn1,hnl⟩:=HLn.out n q2 rfl;have HNm2:=z2c (show Calls z2f 56 #[.pointer (some ⟨B,0,none⟩),.string kd] wr (fun e w'=>e= .returned (.tuple #[.int .i64 n,.int .i64 0])/\RPar s.size B ⟨t.rest,q2,t.told⟩ w'/\Below B wr w')from HNm.out);obtain⟨t2,ht2⟩: ∃t2:Ps,(⟨t.rest.drop n,q2,t.told⟩:Ps)=t2:=⟨_,rfl⟩;have HST:=z2c (show zbf s.size t= .ok (⟨t.rest.drop n,q2,t.told⟩:Ps)from HST.out);rw[ht2]at HST;have hst:zbf s.size t= .ok t2:=HST.out;have HK2:Hid (runP s.size ⟨l,pol0,[]⟩=runP s.size t2):=by show _=_;rw[HK.out,HE0.out,hst]
       have HSm2:=z2c (HSm.out.stmt hst);have HOk2:=z2c (zdc hst HOk.out.2 HOk.out.1);have HLt:=z2c (zct hst);have HT2:=z2c ht2;clear ht2;clear HPar0 HK HE0 HST hst HSm HOk;have hn0': ¬(n:Int)<0:=by omega
       clear HNm HLn;go_upto_region 29 with(go_at_call 56;(with_reducible refine HNm2.out.mono ?_);rintro e W4 ⟨rfl,hp4,hb4⟩;have HP4:=z2c hp4;have HB4:=z2c hb4;clear hp4 hb4)
       clear hcr x0 x2 HNm2;obtain⟨b4,o4,c4,hc4,hcl4,hA4,hB4⟩:=RPar.cut (n:=n) HP4.out hnl (z2j hn1 hnl);have hz4:=HP4.out.fz 11;have hc5:W4.cell? ⟨B,11,none⟩=some (.slice (some ⟨b4,o4,none⟩) N c4):=by rw[hc4];show some (Value.slice _ t.rest.length _)=_;rw[HN.out]
       have hl4:t.rest.length=N:=HN.out;have hA4':c4=n->RPar s.size B t2 (W4.setCell ⟨B,11,none⟩ (.slice (some ⟨b4,o4,none⟩) 0 0))/\Below B W4 (W4.setCell ⟨B,11,none⟩ (.slice (some ⟨b4,o4,none⟩) 0 0)):=by rw[<-HT2.out];exact hA4
       have hB4':RPar s.size B t2 (W4.setCell ⟨B,11,none⟩ (.slice (some ⟨b4,o4+n*3,none⟩) (N-n) (c4-n)))/\Below B W4 (W4.setCell ⟨B,11,none⟩ (.slice (some ⟨b4,o4+n*3,none⟩) (N-n) (c4-n))):=by rw[<-HT2.out,<-hl4];exact hB4
       have HA4:=z2c hA4';have HBd:=z2c hB4';have hl5:N<=c4:=by rw[<-hl4];exact hcl4
       have hl6:n<=N:=by rw[<-hl4];exact hnl
       have i1:(0:Int)<=n/\(n:Int)<=N/\(N:Int)<=c4:=by omega
       clear hc4 hA4 hB4 hA4' hB4' hcl4 hnl;by_cases hcn:c4=n
       ·have hNn:N=n:=by omega
        have HA5:=z2c (HA4.out hcn);subst hNn hcn;clear HA4 HBd;go_wp2_with fail
        go_roundw
        case rel=>exact⟨t2,HA5.out.1,HSm2.out,⟨HOk2.out.2,HOk2.out.1⟩,HK2.out,(HB.out.trans HB4.out).trans HA5.out.2⟩
        case measure=>
         have q1:=HA5.out.1.len;have q2:=HP.out.len;have q3:=HLt.out;show rLen B _<rLen B wr;rw[q1,q2];exact q3
       ·clear HA4;have hcn2: ¬(c4:Int)=n:=by omega
        go_wp2_with fail
        go_roundw
        case rel=>exact⟨t2,HBd.out.1,HSm2.out,⟨HOk2.out.2,HOk2.out.1⟩,HK2.out,(HB.out.trans HB4.out).trans HBd.out.2⟩
        case measure=>
         have q1:=HBd.out.1.len;have q2:=HP.out.len;have q3:=HLt.out;show rLen B _<rLen B wr;rw[q1,q2];exact q3
     ·have hkl:kd.toList=[100,114,111,112]:=htl;have HST:=z2c (zdi (en:=s.size) (l:=t.rest) (p:=t.pol) (told:=t.told) zb8 (by simp[ze2]) HKd.out);have HNm:=z2c (show Calls z2f 56 #[.pointer (some ⟨B,0,none⟩),.string kd] wr (zc3 s.size B t wr (nmR zb8 t.rest t.pol))from by
       have:=ze7 s.size B zb8 (by simp[ze2]) t wr HP.out HSm.out;rw[HKB.out]at this;exact this)
      have HLn:=z2c (fun n q (h:nmR zb8 t.rest t.pol= .ok (n,q))=>zow h);obtain⟨X,hX⟩: ∃X,nmR zb8 t.rest t.pol=X:=⟨_,rfl⟩;rw[hX]at HST HNm HLn;clear hX htl HKB HKd;cases X with
      |error i=>
       have HR:Hid (R= .error ⟨atR s.size t.rest i,2⟩):=by show _=_;rw[HPar0.out,HK.out,HE0.out,show zbf s.size t= .error ⟨atR s.size t.rest i,2⟩from HST.out]
       have HNm2:=z2c (show Calls z2f 56 #[.pointer (some ⟨B,0,none⟩),.string kd] wr (fun e w'=>e= .returned (.tuple #[.int .i64 (-1),.int .i64 i])/\RPar s.size B t w'/\Below B wr w')from HNm.out);clear HPar0 HK HE0 HST HNm HSm HOk HLn;go_upto_region 20 with(go_at_call 56;(with_reducible refine HNm2.out.mono ?_);rintro e W4 ⟨rfl,hp4,hb4⟩;have HP4:=z2c hp4;have HB4:=z2c hb4;clear hp4 hb4)
       have HAt:=z2c (ze1 s.size B t W4 HP4.out i);have HZ4:=z2c (HZr.out.below hOB HB4.out);have HBx:=z2c (HBr.out.trans (HB4.out.mono (z25 hOB)));clear hcr x0 x2;obtain⟨c0,c1,c2,c3,c4,c5,c6,c7,c8,c9,fz⟩:=HZ4.out;have f0:=fz 0;have f1:=fz 1;have f2:=fz 2;have f3:=fz 3;have f4:=fz 4;have f5:=fz 5;have f6:=fz 6;have f7:=fz 7;have f8:=fz 8;have f9:=fz 9;clear fz;go_wp2_with(go_at_call 57;(with_reducible refine HAt.out.mono ?_);rintro e w' ⟨rfl,rfl⟩)
       (try simp only[Exit.inBlock,Exit.then]);refine bodyPost_ret (v:= .tuple #[zd5,.int .i64 (atR s.size t.rest i),.int .i64 2]) (rres (O:=O) rfl rfl rfl (HZ4.out.store _ _ _ _ _ _ _ _ _ _)) rfl ?_;rw[HR.out];exact⟨by rw[hO];exact za0 (z2k O) HBx.out _ _ _ _ _ _ _ _ _ _,rfl⟩
      |ok z=>
       obtain⟨n,q2⟩:=z;obtain⟨hn1,hnl⟩:=HLn.out n q2 rfl;have HNm2:=z2c (show Calls z2f 56 #[.pointer (some ⟨B,0,none⟩),.string kd] wr (fun e w'=>e= .returned (.tuple #[.int .i64 n,.int .i64 0])/\RPar s.size B ⟨t.rest,q2,t.told⟩ w'/\Below B wr w')from HNm.out);obtain⟨t2,ht2⟩: ∃t2:Ps,(⟨t.rest.drop n,q2,t.told⟩:Ps)=t2:=⟨_,rfl⟩;have HST:=z2c (show zbf s.size t= .ok (⟨t.rest.drop n,q2,t.told⟩:Ps)from HST.out);rw[ht2]at HST;have hst:zbf s.size t= .ok t2:=HST.out;have HK2:Hid (runP s.size ⟨l,pol0,[]⟩=runP s.size t2):=by show _=_;rw[HK.out,HE0.out,hst]
       have HSm2:=z2c (HSm.out.stmt hst);have HOk2:=z2c (zdc hst HOk.out.2 HOk.out.1);have HLt:=z2c (zct hst);have HT2:=z2c ht2;clear ht2;clear HPar0 HK HE0 HST hst HSm HOk;have hn0': ¬(n:Int)<0:=by omega
       clear HNm HLn;go_upto_region 29 with(go_at_call 56;(with_reducible refine HNm2.out.mono ?_);rintro e W4 ⟨rfl,hp4,hb4⟩;have HP4:=z2c hp4;have HB4:=z2c hb4;clear hp4 hb4)
       clear hcr x0 x2 HNm2;obtain⟨b4,o4,c4,hc4,hcl4,hA4,hB4⟩:=RPar.cut (n:=n) HP4.out hnl (z2j hn1 hnl);have hz4:=HP4.out.fz 11;have hc5:W4.cell? ⟨B,11,none⟩=some (.slice (some ⟨b4,o4,none⟩) N c4):=by rw[hc4];show some (Value.slice _ t.rest.length _)=_;rw[HN.out]
       have hl4:t.rest.length=N:=HN.out;have hA4':c4=n->RPar s.size B t2 (W4.setCell ⟨B,11,none⟩ (.slice (some ⟨b4,o4,none⟩) 0 0))/\Below B W4 (W4.setCell ⟨B,11,none⟩ (.slice (some ⟨b4,o4,none⟩) 0 0)):=by rw[<-HT2.out];exact hA4
       have hB4':RPar s.size B t2 (W4.setCell ⟨B,11,none⟩ (.slice (some ⟨b4,o4+n*3,none⟩) (N-n) (c4-n)))/\Below B W4 (W4.setCell ⟨B,11,none⟩ (.slice (some ⟨b4,o4+n*3,none⟩) (N-n) (c4-n))):=by rw[<-HT2.out,<-hl4];exact hB4
       have HA4:=z2c hA4';have HBd:=z2c hB4';have hl5:N<=c4:=by rw[<-hl4];exact hcl4
       have hl6:n<=N:=by rw[<-hl4];exact hnl
       have i1:(0:Int)<=n/\(n:Int)<=N/\(N:Int)<=c4:=by omega
       clear hc4 hA4 hB4 hA4' hB4' hcl4 hnl;by_cases hcn:c4=n
       ·have hNn:N=n:=by omega
        have HA5:=z2c (HA4.out hcn);subst hNn hcn;clear HA4 HBd;go_wp2_with fail
        go_roundw
        case rel=>exact⟨t2,HA5.out.1,HSm2.out,⟨HOk2.out.2,HOk2.out.1⟩,HK2.out,(HB.out.trans HB4.out).trans HA5.out.2⟩
        case measure=>
         have q1:=HA5.out.1.len;have q2:=HP.out.len;have q3:=HLt.out;show rLen B _<rLen B wr;rw[q1,q2];exact q3
       ·clear HA4;have hcn2: ¬(c4:Int)=n:=by omega
        go_wp2_with fail
        go_roundw
        case rel=>exact⟨t2,HBd.out.1,HSm2.out,⟨HOk2.out.2,HOk2.out.1⟩,HK2.out,(HB.out.trans HB4.out).trans HBd.out.2⟩
        case measure=>
         have q1:=HBd.out.1.len;have q2:=HP.out.len;have q3:=HLt.out;show rLen B _<rLen B wr;rw[q1,q2];exact q3
     ·have hkl:kd.toList=[97,116,116,114,115]:=htl;have HST:=z2c (zdi (en:=s.size) (l:=t.rest) (p:=t.pol) (told:=t.told) zbd (by simp[ze2]) HKd.out);have HNm:=z2c (show Calls z2f 56 #[.pointer (some ⟨B,0,none⟩),.string kd] wr (zc3 s.size B t wr (nmR zbd t.rest t.pol))from by
       have:=ze7 s.size B zbd (by simp[ze2]) t wr HP.out HSm.out;rw[HKB.out]at this;exact this)
      have HLn:=z2c (fun n q (h:nmR zbd t.rest t.pol= .ok (n,q))=>zow h);obtain⟨X,hX⟩: ∃X,nmR zbd t.rest t.pol=X:=⟨_,rfl⟩;rw[hX]at HST HNm HLn;clear hX htl HKB HKd;cases X with
      |error i=>
       have HR:Hid (R= .error ⟨atR s.size t.rest i,2⟩):=by show _=_;rw[HPar0.out,HK.out,HE0.out,show zbf s.size t= .error ⟨atR s.size t.rest i,2⟩from HST.out]
       have HNm2:=z2c (show Calls z2f 56 #[.pointer (some ⟨B,0,none⟩),.string kd] wr (fun e w'=>e= .returned (.tuple #[.int .i64 (-1),.int .i64 i])/\RPar s.size B t w'/\Below B wr w')from HNm.out);clear HPar0 HK HE0 HST HNm HSm HOk HLn;go_upto_region 20 with(go_at_call 56;(with_reducible refine HNm2.out.mono ?_);rintro e W4 ⟨rfl,hp4,hb4⟩;have HP4:=z2c hp4;have HB4:=z2c hb4;clear hp4 hb4)
       have HAt:=z2c (ze1 s.size B t W4 HP4.out i);have HZ4:=z2c (HZr.out.below hOB HB4.out);have HBx:=z2c (HBr.out.trans (HB4.out.mono (z25 hOB)));clear hcr x0 x2;obtain⟨c0,c1,c2,c3,c4,c5,c6,c7,c8,c9,fz⟩:=HZ4.out;have f0:=fz 0;have f1:=fz 1;have f2:=fz 2;have f3:=fz 3;have f4:=fz 4;have f5:=fz 5;have f6:=fz 6;have f7:=fz 7;have f8:=fz 8;have f9:=fz 9;clear fz;go_wp2_with(go_at_call 57;(with_reducible refine HAt.out.mono ?_);rintro e w' ⟨rfl,rfl⟩)
       (try simp only[Exit.inBlock,Exit.then]);refine bodyPost_ret (v:= .tuple #[zd5,.int .i64 (atR s.size t.rest i),.int .i64 2]) (rres (O:=O) rfl rfl rfl (HZ4.out.store _ _ _ _ _ _ _ _ _ _)) rfl ?_;rw[HR.out];exact⟨by rw[hO];exact za0 (z2k O) HBx.out _ _ _ _ _ _ _ _ _ _,rfl⟩
      |ok z=>
       obtain⟨n,q2⟩:=z;obtain⟨hn1,hnl⟩:=HLn.out n q2 rfl;have HNm2:=z2c (show Calls z2f 56 #[.pointer (some ⟨B,0,none⟩),.string kd] wr (fun e w'=>e= .returned (.tuple #[.int .i64 n,.int .i64 0])/\RPar s.size B ⟨t.rest,q2,t.told⟩ w'/\Below B wr w')from HNm.out);obtain⟨t2,ht2⟩: ∃t2:Ps,(⟨t.rest.drop n,q2,t.told⟩:Ps)=t2:=⟨_,rfl⟩;have HST:=z2c (show zbf s.size t= .ok (⟨t.rest.drop n,q2,t.told⟩:Ps)from HST.out);rw[ht2]at HST;have hst:zbf s.size t= .ok t2:=HST.out;have HK2:Hid (runP s.size ⟨l,pol0,[]⟩=runP s.size t2):=by show _=_;rw[HK.out,HE0.out,hst]
       have HSm2:=z2c (HSm.out.stmt hst);have HOk2:=z2c (zdc hst HOk.out.2 HOk.out.1);have HLt:=z2c (zct hst);have HT2:=z2c ht2;clear ht2;clear HPar0 HK HE0 HST hst HSm HOk;have hn0': ¬(n:Int)<0:=by omega
       clear HNm HLn;go_upto_region 29 with(go_at_call 56;(with_reducible refine HNm2.out.mono ?_);rintro e W4 ⟨rfl,hp4,hb4⟩;have HP4:=z2c hp4;have HB4:=z2c hb4;clear hp4 hb4)
       clear hcr x0 x2 HNm2;obtain⟨b4,o4,c4,hc4,hcl4,hA4,hB4⟩:=RPar.cut (n:=n) HP4.out hnl (z2j hn1 hnl);have hz4:=HP4.out.fz 11;have hc5:W4.cell? ⟨B,11,none⟩=some (.slice (some ⟨b4,o4,none⟩) N c4):=by rw[hc4];show some (Value.slice _ t.rest.length _)=_;rw[HN.out]
       have hl4:t.rest.length=N:=HN.out;have hA4':c4=n->RPar s.size B t2 (W4.setCell ⟨B,11,none⟩ (.slice (some ⟨b4,o4,none⟩) 0 0))/\Below B W4 (W4.setCell ⟨B,11,none⟩ (.slice (some ⟨b4,o4,none⟩) 0 0)):=by rw[<-HT2.out];exact hA4
       have hB4':RPar s.size B t2 (W4.setCell ⟨B,11,none⟩ (.slice (some ⟨b4,o4+n*3,none⟩) (N-n) (c4-n)))/\Below B W4 (W4.setCell ⟨B,11,none⟩ (.slice (some ⟨b4,o4+n*3,none⟩) (N-n) (c4-n))):=by rw[<-HT2.out,<-hl4];exact hB4
       have HA4:=z2c hA4';have HBd:=z2c hB4';have hl5:N<=c4:=by rw[<-hl4];exact hcl4
       have hl6:n<=N:=by rw[<-hl4];exact hnl
       have i1:(0:Int)<=n/\(n:Int)<=N/\(N:Int)<=c4:=by omega
       clear hc4 hA4 hB4 hA4' hB4' hcl4 hnl;by_cases hcn:c4=n
       ·have hNn:N=n:=by omega
        have HA5:=z2c (HA4.out hcn);subst hNn hcn;clear HA4 HBd;go_wp2_with fail
        go_roundw
        case rel=>exact⟨t2,HA5.out.1,HSm2.out,⟨HOk2.out.2,HOk2.out.1⟩,HK2.out,(HB.out.trans HB4.out).trans HA5.out.2⟩
        case measure=>
         have q1:=HA5.out.1.len;have q2:=HP.out.len;have q3:=HLt.out;show rLen B _<rLen B wr;rw[q1,q2];exact q3
       ·clear HA4;have hcn2: ¬(c4:Int)=n:=by omega
        go_wp2_with fail
        go_roundw
        case rel=>exact⟨t2,HBd.out.1,HSm2.out,⟨HOk2.out.2,HOk2.out.1⟩,HK2.out,(HB.out.trans HB4.out).trans HBd.out.2⟩
        case measure=>
         have q1:=HBd.out.1.len;have q2:=HP.out.len;have q3:=HLt.out;show rLen B _<rLen B wr;rw[q1,q2];exact q3
    ·by_cases h3:kt∈zdt
     ·simp only[zdt,List.mem_cons,List.not_mem_nil,or_false]at h3;clear h5;rcases h3 with rfl|rfl|rfl
      ·have hkl:kd.toList=[114,101,108,97,116,105,118,101]:=htl;have HST:=z2c (zej (en:=s.size) (l:=t.rest) (p:=t.pol) (told:=t.told) relT (by simp[zdt]) HKd.out);have HNm:=z2c (show Calls z2f 58 #[.pointer (some ⟨B,0,none⟩),.string kd] wr (zdz s.size B t wr (sgR relT t.rest t.pol t.told))from by
        have:=zgu s.size B relT (by simp[zdt]) t wr HP.out HSm.out (fun y hy h2=>(HOk.out.1 y hy).num h2);rw[HKB.out]at this;exact this)
       have HLn:=z2c (fun n q z (h:sgR relT t.rest t.pol t.told= .ok (n,q,z))=>zwi h);have HCd:=z2c (fun c i (h:sgR relT t.rest t.pol t.told= .error (c,i))=>zp6 h);obtain⟨X,hX⟩: ∃X,sgR relT t.rest t.pol t.told=X:=⟨_,rfl⟩;rw[hX]at HST HNm HLn HCd;clear hX htl HKB HKd;cases X with
       |error z=>
        obtain⟨c,i⟩:=z;have HR:Hid (R= .error ⟨atR s.size t.rest i,c⟩):=by show _=_;rw[HPar0.out,HK.out,HE0.out,show zbf s.size t= .error ⟨atR s.size t.rest i,c⟩from HST.out]
        have HNm2:=z2c (show Calls z2f 58 #[.pointer (some ⟨B,0,none⟩),.string kd] wr (fun e w'=>e= .returned (.tuple #[.int .i64 0,.int .i64 c,.int .i64 i])/\(∃s',s'.rest=t.rest/\RPar s.size B s' w')/\Below B wr w')from HNm.out);have hc0:c≠0:=HCd.out c i rfl;have hcb:((c:Int) !=0)=true:=by simp;omega
        clear HPar0 HK HE0 HST HNm HSm HOk HLn HCd hc0;go_upto_region 28 with(go_at_call 58;(with_reducible refine HNm2.out.mono ?_);rintro e W4 ⟨rfl,⟨s',hs',hp4⟩,hb4⟩;have HP4:=z2c hp4;have HB4:=z2c hb4;clear hp4 hb4)
        have HAt:=z2c (hs' ▸ ze1 s.size B s' W4 HP4.out i);have HZ4:=z2c (HZr.out.below hOB HB4.out);have HBx:=z2c (HBr.out.trans (HB4.out.mono (z25 hOB)));clear hcr x0 x2 hs';obtain⟨c0,c1,c2,c3,c4,c5,c6,c7,c8,c9,fz⟩:=HZ4.out;have f0:=fz 0;have f1:=fz 1;have f2:=fz 2;have f3:=fz 3;have f4:=fz 4;have f5:=fz 5;have f6:=fz 6;have f7:=fz 7;have f8:=fz 8;have f9:=fz 9;clear fz;go_wp2_with(go_at_call 57;(with_reducible refine HAt.out.mono ?_);rintro e w' ⟨rfl,rfl⟩)
        (try simp only[Exit.inBlock,Exit.then]);refine bodyPost_ret (v:= .tuple #[zd5,.int .i64 (atR s.size t.rest i),.int .i64 c]) (rres (O:=O) rfl rfl rfl (HZ4.out.store _ _ _ _ _ _ _ _ _ _)) rfl ?_;rw[HR.out];exact⟨by rw[hO];exact za0 (z2k O) HBx.out _ _ _ _ _ _ _ _ _ _,rfl⟩
       |ok z=>
        obtain⟨n,q2,tl⟩:=z;obtain⟨hn1,hnl⟩:=HLn.out n q2 tl rfl;have HNm2:=z2c (show Calls z2f 58 #[.pointer (some ⟨B,0,none⟩),.string kd] wr (fun e w'=>e= .returned (.tuple #[.int .i64 n,.int .i64 0,.int .i64 0])/\RPar s.size B ⟨t.rest,q2,tl⟩ w'/\Below B wr w')from HNm.out);obtain⟨t2,ht2⟩: ∃t2:Ps,(⟨t.rest.drop n,q2,tl⟩:Ps)=t2:=⟨_,rfl⟩;have HST:=z2c (show zbf s.size t= .ok (⟨t.rest.drop n,q2,tl⟩:Ps)from HST.out);rw[ht2]at HST;have hst:zbf s.size t= .ok t2:=HST.out;have HK2:Hid (runP s.size ⟨l,pol0,[]⟩=runP s.size t2):=by show _=_;rw[HK.out,HE0.out,hst]
        have HSm2:=z2c (HSm.out.stmt hst);have HOk2:=z2c (zdc hst HOk.out.2 HOk.out.1);have HLt:=z2c (zct hst);have HT2:=z2c ht2;clear ht2;clear HPar0 HK HE0 HST hst HSm HOk;clear HNm HLn HCd;go_upto_region 29 with(go_at_call 58;(with_reducible refine HNm2.out.mono ?_);rintro e W4 ⟨rfl,hp4,hb4⟩;have HP4:=z2c hp4;have HB4:=z2c hb4;clear hp4 hb4)
        clear hcr x0 x2 HNm2;obtain⟨b4,o4,c4,hc4,hcl4,hA4,hB4⟩:=RPar.cut (n:=n) HP4.out hnl (z2j hn1 hnl);have hz4:=HP4.out.fz 11;have hc5:W4.cell? ⟨B,11,none⟩=some (.slice (some ⟨b4,o4,none⟩) N c4):=by rw[hc4];show some (Value.slice _ t.rest.length _)=_;rw[HN.out]
        have hl4:t.rest.length=N:=HN.out;have hA4':c4=n->RPar s.size B t2 (W4.setCell ⟨B,11,none⟩ (.slice (some ⟨b4,o4,none⟩) 0 0))/\Below B W4 (W4.setCell ⟨B,11,none⟩ (.slice (some ⟨b4,o4,none⟩) 0 0)):=by rw[<-HT2.out];exact hA4
        have hB4':RPar s.size B t2 (W4.setCell ⟨B,11,none⟩ (.slice (some ⟨b4,o4+n*3,none⟩) (N-n) (c4-n)))/\Below B W4 (W4.setCell ⟨B,11,none⟩ (.slice (some ⟨b4,o4+n*3,none⟩) (N-n) (c4-n))):=by rw[<-HT2.out,<-hl4];exact hB4
        have HA4:=z2c hA4';have HBd:=z2c hB4';have hl5:N<=c4:=by rw[<-hl4];exact hcl4
        have hl6:n<=N:=by rw[<-hl4];exact hnl
        have i1:(0:Int)<=n/\(n:Int)<=N/\(N:Int)<=c4:=by omega
        clear hc4 hA4 hB4 hA4' hB4' hcl4 hnl;by_cases hcn:c4=n
        ·have hNn:N=n:=by omega
         have HA5:=z2c (HA4.out hcn);subst hNn hcn;clear HA4 HBd;go_wp2_with fail
         go_roundw
         case rel=>exact⟨t2,HA5.out.1,HSm2.out,⟨HOk2.out.2,HOk2.out.1⟩,HK2.out,(HB.out.trans HB4.out).trans HA5.out.2⟩
         case measure=>
          have q1:=HA5.out.1.len;have q2:=HP.out.len;have q3:=HLt.out;show rLen B _<rLen B wr;rw[q1,q2];exact q3
        ·clear HA4;have hcn2: ¬(c4:Int)=n:=by omega
         go_wp2_with fail
         go_roundw
         case rel=>exact⟨t2,HBd.out.1,HSm2.out,⟨HOk2.out.2,HOk2.out.1⟩,HK2.out,(HB.out.trans HB4.out).trans HBd.out.2⟩
         case measure=>
          have q1:=HBd.out.1.len;have q2:=HP.out.len;have q3:=HLt.out;show rLen B _<rLen B wr;rw[q1,q2];exact q3
      ·have hkl:kd.toList=[102,111,114,99,101]:=htl;have HST:=z2c (zej (en:=s.size) (l:=t.rest) (p:=t.pol) (told:=t.told) zbg (by simp[zdt]) HKd.out);have HNm:=z2c (show Calls z2f 58 #[.pointer (some ⟨B,0,none⟩),.string kd] wr (zdz s.size B t wr (sgR zbg t.rest t.pol t.told))from by
        have:=zgu s.size B zbg (by simp[zdt]) t wr HP.out HSm.out (fun y hy h2=>(HOk.out.1 y hy).num h2);rw[HKB.out]at this;exact this)
       have HLn:=z2c (fun n q z (h:sgR zbg t.rest t.pol t.told= .ok (n,q,z))=>zwi h);have HCd:=z2c (fun c i (h:sgR zbg t.rest t.pol t.told= .error (c,i))=>zp6 h);obtain⟨X,hX⟩: ∃X,sgR zbg t.rest t.pol t.told=X:=⟨_,rfl⟩;rw[hX]at HST HNm HLn HCd;clear hX htl HKB HKd;cases X with
       |error z=>
        obtain⟨c,i⟩:=z;have HR:Hid (R= .error ⟨atR s.size t.rest i,c⟩):=by show _=_;rw[HPar0.out,HK.out,HE0.out,show zbf s.size t= .error ⟨atR s.size t.rest i,c⟩from HST.out]
        have HNm2:=z2c (show Calls z2f 58 #[.pointer (some ⟨B,0,none⟩),.string kd] wr (fun e w'=>e= .returned (.tuple #[.int .i64 0,.int .i64 c,.int .i64 i])/\(∃s',s'.rest=t.rest/\RPar s.size B s' w')/\Below B wr w')from HNm.out);have hc0:c≠0:=HCd.out c i rfl;have hcb:((c:Int) !=0)=true:=by simp;omega
        clear HPar0 HK HE0 HST HNm HSm HOk HLn HCd hc0;go_upto_region 28 with(go_at_call 58;(with_reducible refine HNm2.out.mono ?_);rintro e W4 ⟨rfl,⟨s',hs',hp4⟩,hb4⟩;have HP4:=z2c hp4;have HB4:=z2c hb4;clear hp4 hb4)
        have HAt:=z2c (hs' ▸ ze1 s.size B s' W4 HP4.out i);have HZ4:=z2c (HZr.out.below hOB HB4.out);have HBx:=z2c (HBr.out.trans (HB4.out.mono (z25 hOB)));clear hcr x0 x2 hs';obtain⟨c0,c1,c2,c3,c4,c5,c6,c7,c8,c9,fz⟩:=HZ4.out;have f0:=fz 0;have f1:=fz 1;have f2:=fz 2;have f3:=fz 3;have f4:=fz 4;have f5:=fz 5;have f6:=fz 6;have f7:=fz 7;have f8:=fz 8;have f9:=fz 9;clear fz;go_wp2_with(go_at_call 57;(with_reducible refine HAt.out.mono ?_);rintro e w' ⟨rfl,rfl⟩)
        (try simp only[Exit.inBlock,Exit.then]);refine bodyPost_ret (v:= .tuple #[zd5,.int .i64 (atR s.size t.rest i),.int .i64 c]) (rres (O:=O) rfl rfl rfl (HZ4.out.store _ _ _ _ _ _ _ _ _ _)) rfl ?_;rw[HR.out];exact⟨by rw[hO];exact za0 (z2k O) HBx.out _ _ _ _ _ _ _ _ _ _,rfl⟩
       |ok z=>
        obtain⟨n,q2,tl⟩:=z;obtain⟨hn1,hnl⟩:=HLn.out n q2 tl rfl;have HNm2:=z2c (show Calls z2f 58 #[.pointer (some ⟨B,0,none⟩),.string kd] wr (fun e w'=>e= .returned (.tuple #[.int .i64 n,.int .i64 0,.int .i64 0])/\RPar s.size B ⟨t.rest,q2,tl⟩ w'/\Below B wr w')from HNm.out);obtain⟨t2,ht2⟩: ∃t2:Ps,(⟨t.rest.drop n,q2,tl⟩:Ps)=t2:=⟨_,rfl⟩;have HST:=z2c (show zbf s.size t= .ok (⟨t.rest.drop n,q2,tl⟩:Ps)from HST.out);rw[ht2]at HST;have hst:zbf s.size t= .ok t2:=HST.out;have HK2:Hid (runP s.size ⟨l,pol0,[]⟩=runP s.size t2):=by show _=_;rw[HK.out,HE0.out,hst]
        have HSm2:=z2c (HSm.out.stmt hst);have HOk2:=z2c (zdc hst HOk.out.2 HOk.out.1);have HLt:=z2c (zct hst);have HT2:=z2c ht2;clear ht2;clear HPar0 HK HE0 HST hst HSm HOk;clear HNm HLn HCd;go_upto_region 29 with(go_at_call 58;(with_reducible refine HNm2.out.mono ?_);rintro e W4 ⟨rfl,hp4,hb4⟩;have HP4:=z2c hp4;have HB4:=z2c hb4;clear hp4 hb4)
        clear hcr x0 x2 HNm2;obtain⟨b4,o4,c4,hc4,hcl4,hA4,hB4⟩:=RPar.cut (n:=n) HP4.out hnl (z2j hn1 hnl);have hz4:=HP4.out.fz 11;have hc5:W4.cell? ⟨B,11,none⟩=some (.slice (some ⟨b4,o4,none⟩) N c4):=by rw[hc4];show some (Value.slice _ t.rest.length _)=_;rw[HN.out]
        have hl4:t.rest.length=N:=HN.out;have hA4':c4=n->RPar s.size B t2 (W4.setCell ⟨B,11,none⟩ (.slice (some ⟨b4,o4,none⟩) 0 0))/\Below B W4 (W4.setCell ⟨B,11,none⟩ (.slice (some ⟨b4,o4,none⟩) 0 0)):=by rw[<-HT2.out];exact hA4
        have hB4':RPar s.size B t2 (W4.setCell ⟨B,11,none⟩ (.slice (some ⟨b4,o4+n*3,none⟩) (N-n) (c4-n)))/\Below B W4 (W4.setCell ⟨B,11,none⟩ (.slice (some ⟨b4,o4+n*3,none⟩) (N-n) (c4-n))):=by rw[<-HT2.out,<-hl4];exact hB4
        have HA4:=z2c hA4';have HBd:=z2c hB4';have hl5:N<=c4:=by rw[<-hl4];exact hcl4
        have hl6:n<=N:=by rw[<-hl4];exact hnl
        have i1:(0:Int)<=n/\(n:Int)<=N/\(N:Int)<=c4:=by omega
        clear hc4 hA4 hB4 hA4' hB4' hcl4 hnl;by_cases hcn:c4=n
        ·have hNn:N=n:=by omega
         have HA5:=z2c (HA4.out hcn);subst hNn hcn;clear HA4 HBd;go_wp2_with fail
         go_roundw
         case rel=>exact⟨t2,HA5.out.1,HSm2.out,⟨HOk2.out.2,HOk2.out.1⟩,HK2.out,(HB.out.trans HB4.out).trans HA5.out.2⟩
         case measure=>
          have q1:=HA5.out.1.len;have q2:=HP.out.len;have q3:=HLt.out;show rLen B _<rLen B wr;rw[q1,q2];exact q3
        ·clear HA4;have hcn2: ¬(c4:Int)=n:=by omega
         go_wp2_with fail
         go_roundw
         case rel=>exact⟨t2,HBd.out.1,HSm2.out,⟨HOk2.out.2,HOk2.out.1⟩,HK2.out,(HB.out.trans HB4.out).trans HBd.out.2⟩
         case measure=>
          have q1:=HBd.out.1.len;have q2:=HP.out.len;have q3:=HLt.out;show rLen B _<rLen B wr;rw[q1,q2];exact q3
      ·have hkl:kd.toList=[108,105,109,105,116]:=htl;have HST:=z2c (zej (en:=s.size) (l:=t.rest) (p:=t.pol) (told:=t.told) zbp (by simp[zdt]) HKd.out);have HNm:=z2c (show Calls z2f 58 #[.pointer (some ⟨B,0,none⟩),.string kd] wr (zdz s.size B t wr (sgR zbp t.rest t.pol t.told))from by
        have:=zgu s.size B zbp (by simp[zdt]) t wr HP.out HSm.out (fun y hy h2=>(HOk.out.1 y hy).num h2);rw[HKB.out]at this;exact this)
       have HLn:=z2c (fun n q z (h:sgR zbp t.rest t.pol t.told= .ok (n,q,z))=>zwi h);have HCd:=z2c (fun c i (h:sgR zbp t.rest t.pol t.told= .error (c,i))=>zp6 h);obtain⟨X,hX⟩: ∃X,sgR zbp t.rest t.pol t.told=X:=⟨_,rfl⟩;rw[hX]at HST HNm HLn HCd;clear hX htl HKB HKd;cases X with
       |error z=>
        obtain⟨c,i⟩:=z;have HR:Hid (R= .error ⟨atR s.size t.rest i,c⟩):=by show _=_;rw[HPar0.out,HK.out,HE0.out,show zbf s.size t= .error ⟨atR s.size t.rest i,c⟩from HST.out]
        have HNm2:=z2c (show Calls z2f 58 #[.pointer (some ⟨B,0,none⟩),.string kd] wr (fun e w'=>e= .returned (.tuple #[.int .i64 0,.int .i64 c,.int .i64 i])/\(∃s',s'.rest=t.rest/\RPar s.size B s' w')/\Below B wr w')from HNm.out);have hc0:c≠0:=HCd.out c i rfl;have hcb:((c:Int) !=0)=true:=by simp;omega
        clear HPar0 HK HE0 HST HNm HSm HOk HLn HCd hc0;go_upto_region 28 with(go_at_call 58;(with_reducible refine HNm2.out.mono ?_);rintro e W4 ⟨rfl,⟨s',hs',hp4⟩,hb4⟩;have HP4:=z2c hp4;have HB4:=z2c hb4;clear hp4 hb4)
        have HAt:=z2c (hs' ▸ ze1 s.size B s' W4 HP4.out i);have HZ4:=z2c (HZr.out.below hOB HB4.out);have HBx:=z2c (HBr.out.trans (HB4.out.mono (z25 hOB)));clear hcr x0 x2 hs';obtain⟨c0,c1,c2,c3,c4,c5,c6,c7,c8,c9,fz⟩:=HZ4.out;have f0:=fz 0;have f1:=fz 1;have f2:=fz 2;have f3:=fz 3;have f4:=fz 4;have f5:=fz 5;have f6:=fz 6;have f7:=fz 7;have f8:=fz 8;have f9:=fz 9;clear fz;go_wp2_with(go_at_call 57;(with_reducible refine HAt.out.mono ?_);rintro e w' ⟨rfl,rfl⟩)
        (try simp only[Exit.inBlock,Exit.then]);refine bodyPost_ret (v:= .tuple #[zd5,.int .i64 (atR s.size t.rest i),.int .i64 c]) (rres (O:=O) rfl rfl rfl (HZ4.out.store _ _ _ _ _ _ _ _ _ _)) rfl ?_;rw[HR.out];exact⟨by rw[hO];exact za0 (z2k O) HBx.out _ _ _ _ _ _ _ _ _ _,rfl⟩
       |ok z=>
        obtain⟨n,q2,tl⟩:=z;obtain⟨hn1,hnl⟩:=HLn.out n q2 tl rfl;have HNm2:=z2c (show Calls z2f 58 #[.pointer (some ⟨B,0,none⟩),.string kd] wr (fun e w'=>e= .returned (.tuple #[.int .i64 n,.int .i64 0,.int .i64 0])/\RPar s.size B ⟨t.rest,q2,tl⟩ w'/\Below B wr w')from HNm.out);obtain⟨t2,ht2⟩: ∃t2:Ps,(⟨t.rest.drop n,q2,tl⟩:Ps)=t2:=⟨_,rfl⟩;have HST:=z2c (show zbf s.size t= .ok (⟨t.rest.drop n,q2,tl⟩:Ps)from HST.out);rw[ht2]at HST;have hst:zbf s.size t= .ok t2:=HST.out;have HK2:Hid (runP s.size ⟨l,pol0,[]⟩=runP s.size t2):=by show _=_;rw[HK.out,HE0.out,hst]
        have HSm2:=z2c (HSm.out.stmt hst);have HOk2:=z2c (zdc hst HOk.out.2 HOk.out.1);have HLt:=z2c (zct hst);have HT2:=z2c ht2;clear ht2;clear HPar0 HK HE0 HST hst HSm HOk;clear HNm HLn HCd;go_upto_region 29 with(go_at_call 58;(with_reducible refine HNm2.out.mono ?_);rintro e W4 ⟨rfl,hp4,hb4⟩;have HP4:=z2c hp4;have HB4:=z2c hb4;clear hp4 hb4)
        clear hcr x0 x2 HNm2;obtain⟨b4,o4,c4,hc4,hcl4,hA4,hB4⟩:=RPar.cut (n:=n) HP4.out hnl (z2j hn1 hnl);have hz4:=HP4.out.fz 11;have hc5:W4.cell? ⟨B,11,none⟩=some (.slice (some ⟨b4,o4,none⟩) N c4):=by rw[hc4];show some (Value.slice _ t.rest.length _)=_;rw[HN.out]
        have hl4:t.rest.length=N:=HN.out;have hA4':c4=n->RPar s.size B t2 (W4.setCell ⟨B,11,none⟩ (.slice (some ⟨b4,o4,none⟩) 0 0))/\Below B W4 (W4.setCell ⟨B,11,none⟩ (.slice (some ⟨b4,o4,none⟩) 0 0)):=by rw[<-HT2.out];exact hA4
        have hB4':RPar s.size B t2 (W4.setCell ⟨B,11,none⟩ (.slice (some ⟨b4,o4+n*3,none⟩) (N-n) (c4-n)))/\Below B W4 (W4.setCell ⟨B,11,none⟩ (.slice (some ⟨b4,o4+n*3,none⟩) (N-n) (c4-n))):=by rw[<-HT2.out,<-hl4];exact hB4
        have HA4:=z2c hA4';have HBd:=z2c hB4';have hl5:N<=c4:=by rw[<-hl4];exact hcl4
        have hl6:n<=N:=by rw[<-hl4];exact hnl
        have i1:(0:Int)<=n/\(n:Int)<=N/\(N:Int)<=c4:=by omega
        clear hc4 hA4 hB4 hA4' hB4' hcl4 hnl;by_cases hcn:c4=n
        ·have hNn:N=n:=by omega
         have HA5:=z2c (HA4.out hcn);subst hNn hcn;clear HA4 HBd;go_wp2_with fail
         go_roundw
         case rel=>exact⟨t2,HA5.out.1,HSm2.out,⟨HOk2.out.2,HOk2.out.1⟩,HK2.out,(HB.out.trans HB4.out).trans HA5.out.2⟩
         case measure=>
          have q1:=HA5.out.1.len;have q2:=HP.out.len;have q3:=HLt.out;show rLen B _<rLen B wr;rw[q1,q2];exact q3
        ·clear HA4;have hcn2: ¬(c4:Int)=n:=by omega
         go_wp2_with fail
         go_roundw
         case rel=>exact⟨t2,HBd.out.1,HSm2.out,⟨HOk2.out.2,HOk2.out.1⟩,HK2.out,(HB.out.trans HB4.out).trans HBd.out.2⟩
         case measure=>
          have q1:=HBd.out.1.len;have q2:=HP.out.len;have q3:=HLt.out;show rLen B _<rLen B wr;rw[q1,q2];exact q3
     ·have hbad:zdy t.rest∉zb9:=by
       rw[HKd.out];intro hm;simp only[zb9,ze2,zdt,List.mem_cons,List.not_mem_nil,or_false]at hm h5 h3;rcases hm with h|h|h|h|h|h|h|h
       ·exact h5 (.inl h)
       ·exact h5 (.inr (.inl h))
       ·exact h5 (.inr (.inr (.inl h)))
       ·exact h5 (.inr (.inr (.inr (.inl h))))
       ·exact h5 (.inr (.inr (.inr (.inr h))))
       ·exact h3 (.inl h)
       ·exact h3 (.inr (.inl h))
       ·exact h3 (.inr (.inr h))
      have d0:(kd.toList==[116,97,103,115])=false:=by
       rw[beq_eq_false_iff_ne];intro e;rw[htl]at e;first|exact h5 (by rw[e];decide)|exact h3 (by rw[e];decide)
      have d1:(kd.toList==[115,99,104,101,109,101,115])=false:=by
       rw[beq_eq_false_iff_ne];intro e;rw[htl]at e;first|exact h5 (by rw[e];decide)|exact h3 (by rw[e];decide)
      have d2:(kd.toList==[99,115,115])=false:=by
       rw[beq_eq_false_iff_ne];intro e;rw[htl]at e;first|exact h5 (by rw[e];decide)|exact h3 (by rw[e];decide)
      have d3:(kd.toList==[100,114,111,112])=false:=by
       rw[beq_eq_false_iff_ne];intro e;rw[htl]at e;first|exact h5 (by rw[e];decide)|exact h3 (by rw[e];decide)
      have d4:(kd.toList==[97,116,116,114,115])=false:=by
       rw[beq_eq_false_iff_ne];intro e;rw[htl]at e;first|exact h5 (by rw[e];decide)|exact h3 (by rw[e];decide)
      have d5:(kd.toList==[114,101,108,97,116,105,118,101])=false:=by
       rw[beq_eq_false_iff_ne];intro e;rw[htl]at e;first|exact h5 (by rw[e];decide)|exact h3 (by rw[e];decide)
      have d6:(kd.toList==[102,111,114,99,101])=false:=by
       rw[beq_eq_false_iff_ne];intro e;rw[htl]at e;first|exact h5 (by rw[e];decide)|exact h3 (by rw[e];decide)
      have d7:(kd.toList==[108,105,109,105,116])=false:=by
       rw[beq_eq_false_iff_ne];intro e;rw[htl]at e;first|exact h5 (by rw[e];decide)|exact h3 (by rw[e];decide)
      clear h5 h3 htl;have HR:Hid (R= .error ⟨atR s.size t.rest 0,2⟩):=by show _=_;rw[HPar0.out,HK.out,HE0.out,show zbf s.size t= .error ⟨atR s.size t.rest 0,2⟩from ziv hbad]
      have HAt:=z2c (show Calls z2f 57 #[.pointer (some ⟨B,0,none⟩),.int .i64 0] wr (fun e w'=>e= .returned (.int .i64 (atR s.size t.rest 0))/\wr=w')from ze1 s.size B t wr HP.out 0);clear HPar0 HK HE0 HSm HOk hbad HKd;obtain⟨c0,c1,c2,c3,c4,c5,c6,c7,c8,c9,fz⟩:=HZr.out;have f0:=fz 0;have f1:=fz 1;have f2:=fz 2;have f3:=fz 3;have f4:=fz 4;have f5:=fz 5;have f6:=fz 6;have f7:=fz 7;have f8:=fz 8;have f9:=fz 9;clear fz;go_wp2_with(go_at_call 57;(with_reducible refine HAt.out.mono ?_);rintro e w' ⟨rfl,rfl⟩)
      (try simp only[Exit.inBlock,Exit.then]);refine bodyPost_ret (v:= .tuple #[zd5,.int .i64 (atR s.size t.rest 0),.int .i64 2]) (rres (O:=O) rfl rfl rfl (HZr.out.store _ _ _ _ _ _ _ _ _ _)) rfl ?_;rw[HR.out];exact⟨by rw[hO];exact za0 (z2k O) HBr.out _ _ _ _ _ _ _ _ _ _,rfl⟩
   ·have hk2:((x.kind:Int)==1)=false:=by rw[beq_eq_false_iff_ne];omega
    have hbad:zdy t.rest∉zb9:=by
     rw[HKd.out,if_neg hk1];decide
    clear x2;have HR:Hid (R= .error ⟨atR s.size t.rest 0,2⟩):=by show _=_;rw[HPar0.out,HK.out,HE0.out,show zbf s.size t= .error ⟨atR s.size t.rest 0,2⟩from ziv hbad]
    have HAt:=z2c (show Calls z2f 57 #[.pointer (some ⟨B,0,none⟩),.int .i64 0] wr (fun e w'=>e= .returned (.int .i64 (atR s.size t.rest 0))/\wr=w')from ze1 s.size B t wr HP.out 0);clear HPar0 HK HE0 HSm HOk hbad HKd;obtain⟨c0,c1,c2,c3,c4,c5,c6,c7,c8,c9,fz⟩:=HZr.out;have f0:=fz 0;have f1:=fz 1;have f2:=fz 2;have f3:=fz 3;have f4:=fz 4;have f5:=fz 5;have f6:=fz 6;have f7:=fz 7;have f8:=fz 8;have f9:=fz 9;clear fz;go_wp2_with(go_at_call 57;(with_reducible refine HAt.out.mono ?_);rintro e w' ⟨rfl,rfl⟩)
    (try simp only[Exit.inBlock,Exit.then]);refine bodyPost_ret (v:= .tuple #[zd5,.int .i64 (atR s.size t.rest 0),.int .i64 2]) (rres (O:=O) rfl rfl rfl (HZr.out.store _ _ _ _ _ _ _ _ _ _)) rfl ?_;rw[HR.out];exact⟨by rw[hO];exact za0 (z2k O) HBr.out _ _ _ _ _ _ _ _ _ _,rfl⟩
theorem zlu (s:Bs) (w:World):Calls z2f 22 #[.string ⟨s.toArray⟩] w (zcq s w):=by
 by_cases h8:8192<s.length
 ·have hp:zbb s= .error ⟨0,3⟩:=by unfold zbb;rw[if_pos h8]
  unfold zcq;rw[hp];refine(zlt ⟨s.toArray⟩ w 0 3 (by decide) (fun W=> ?_)).mono fun e w' h=>⟨h.2,h.1⟩;exact(ztl ⟨s.toArray⟩ W (by show 8192<s.toArray.size;simpa using h8)).mono fun e w' ⟨h1,X,h2⟩=>⟨h1,by subst h2;exact bel⟩
 ·have h9:(⟨s.toArray⟩:ByteArray).size<=8192:=by show s.toArray.size<=_;simp;omega
  cases hl:zd2 0 s with
  |bad n=>
   have hp:zbb s= .error ⟨n,2⟩:=by unfold zbb;rw[if_neg h8,hl]
   unfold zcq;rw[hp];refine(zlt ⟨s.toArray⟩ w n 2 (by decide) (fun W=> ?_)).mono fun e w' h=>⟨h.2,h.1⟩;refine(zls ⟨s.toArray⟩ W h9).mono fun e w' h=> ?_;rw[show zd2 0 (⟨s.toArray⟩:ByteArray).data.toList= .bad n from hl]at h;obtain⟨v,hb,he⟩:=h;exact⟨he,hb⟩
  |ok l=>exact zws ⟨s.toArray⟩ l w h9 hl
end Go.Proofs.YtiikamobcmgekaaGreatDoor

