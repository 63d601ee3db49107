/- The walk of print.Text. (written by gen_text.py) -/
import Derived.BigRegion
import Derived.Deep.DeepCutAuto
import Derived.Deep.CutBlock
import Derived.Test.YtbhhgbgfaemfdaaGreatDoorKitP
import Derived.Test.YtbhhgbgfaemfdaaGreatDoorPrwB
import Derived.Test.YtbhhgbgfaemfdaaGreatDoorPrwC
import Derived.Test.YtbhhgbgfaemfdaaGreatDoorRiC
import Derived.Test.YtbhhgbgfaemfdaaGreatDoorRG
import Derived.Test.YtbhhgbgfaemfdaaGreatDoorLC
namespace Go.Proofs.YtbhhgbgfaemfdaaGreatDoor
open Lib renaming hid→z2g
open List renaming length_append→z2i,setIfInBounds_toArray→z2d,set_cons_succ→z2f,set_cons_zero→z2e
set_option maxRecDepth 100000
set_option maxHeartbeats 8000000
open Go.RowKit
attribute [local go_sem] Oper.semAt_some
def tgT:Bs:=[116,97,103,115]
def scT:Bs:=[115,99,104,101,109,101,115]
def csT:Bs:=[99,115,115]
def drT:Bs:=[100,114,111,112]
def reT:Bs:=[114,101,108,97,116,105,118,101]
def foT:Bs:=[102,111,114,99,101]
def quoV (z:Bs):Bs:=(zdc z).getD []
def zge (f:Frc):Bs:=sayS foT [f.tag,f.name,quoV f.value]
def zdt (p:Pol):Bs:=sayN tgT p.tags++txA p.attrs++sayN scT p.schemes++sayN csT p.css++sayN drT p.drops
def zif (p:Pol):Bs:=sayS limT [[100,101,112,116,104],Lib.itoa p.depth]++(sayS limT [[110,97,109,101],Lib.itoa p.name]++sayS limT [[118,97,108,117,101],Lib.itoa p.value])
def relX (p:Pol):Bs:=if p.rel=true then sayS reT [[121,101,115]]else sayS reT [[110,111]]
def txP (p:Pol):Bs:=zdt p++(relX p++(p.forces.flatMap zge++zif p))
def txV (p:Pol):Value:=if zbu p=true then(if(txP p).length<=8192 then .tuple #[.string ⟨(txP p).toArray⟩,.int .i64 0]else .tuple #[.string ⟨#[]⟩,.int .i64 3])else .tuple #[.string ⟨#[]⟩,.int .i64 1]
structure zix (p:Pol):Prop where
 small:zdi p
 texts:zym p
 size:zbu p=true->(txP p).length<=17592186044416
theorem zhq {p:Pol} (h:zbu p=true):(0<=p.depth/\p.depth<=1000000000)/\(0<=p.name/\p.name<=1000000000)/\(0<=p.value/\p.value<=1000000000):=by
 unfold zbu limB inB at h
 simp only[Bool.and_eq_true,decide_eq_true_eq]at h
 omega
theorem zsy (z:Bs) (hz:z.length<=35184372088832): ∃ok,∀w,Calls Tryz.prog 60 #[.string ⟨z.toArray⟩] w (Ret (.tuple #[.string ⟨(quoV z).toArray⟩,.bool ok]) w):=by
 have h:=fun w=>zn7 ⟨z.toArray⟩ w (by show z.toArray.size<=_;simpa using hz)
 unfold quoV
 revert h
 show _->_
 have e:(⟨z.toArray⟩:ByteArray).data.toList=z:=by simp
 rw[e]
 cases zdc z with
 |none=>exact fun h=>⟨false,h⟩
 |some q=>exact fun h=>⟨true,h⟩
theorem zo7 {W:World} {v:Value} {l:List Bs} (h:Ws W v l):Ws W.drew v l:=h
theorem zgz {W0 V:World} {b:Nat} (h:Below W0.heap.size W0 V) (hb:W0.heap.size<=b) (v:Value):Below W0.heap.size W0 (V.setCell ⟨b,0,none⟩ v):=
 (zac.setCell (pv:=fun k=>k=b) (p:=⟨b,0,none⟩) (zac.of_below h) (.inr rfl) v).below (Nat.le_refl _) (fun _ hk=>hk ▸ hb)
theorem zn8 (v:Value) (p:Pol) (w:World) (hT:Ten w) (h:PolV w (fun _=>False) v p) (ht:zix p):Calls Tryz.prog 31 #[v] w (Ret (txV p) w):=by
 have hmx:Tryz.prog.follows .mixedOrders=true:=by kernel_rfl
 have HRt:=z2g (fun W hb=>zn0 v p W (h.below (W':=W) hb) ht.small ht.texts)
 have HTn:=z2g hT
 have hsz:=ht.size
 have hsm:=ht.small
 obtain⟨v0,v1,v2,v3,v4,v5,rfl,⟨A0,k0,rfl,z0,h0,y0⟩,⟨A1,k1,rfl,z1,h1,y1⟩,⟨A2,k2,rfl,z2,h2,y2⟩,⟨A3,k3,rfl,z3,h3,y3⟩,⟨A4,k4,rfl,z4,h4,y4⟩,⟨A5,k5,rfl,z5,h5,y5⟩⟩:=h
 have hc4:fN p 4<=k4:=z4.2
 cases hR:zbu p with
 |false=>
  have HV:Hid (txV p= .tuple #[.string ⟨#[]⟩,.int .i64 1]):=by show _=_;unfold txV;rw[hR];rfl
  rw[hR]at HRt
  clear hsz hsm ht hT h0 h1 h2 h3 h4 h5 z0 z1 z2 z3 z4 z5 y0 y1 y2 y3 y4 y5 hc4 hR HTn
  go_enter Tryz.func31,Tryz.ntmps31
  go_wp2_with(go_at_call 56;(with_reducible refine(HRt.out _ bel).mono ?_);rintro e Wa ⟨rfl,Xa,rfl⟩)
  go_ret2
  exact Ret.of (by rw[HV.out];rfl) bel
 |true=>
  have hz:=hsz hR
  have HV:Hid (txV p=(if(txP p).length<=8192 then .tuple #[.string ⟨(txP p).toArray⟩,.int .i64 0]else .tuple #[.string ⟨#[]⟩,.int .i64 3])):=by show _=_;unfold txV;rw[hR];rfl
  rw[hR]at HRt
  have hlen:(zdt p).length<=17592186044416:=by unfold txP at hz;simp only[z2i]at hz ⊢;omega
  have hl2:=hlen
  unfold zdt at hl2
  simp only[z2i]at hl2
  have HN0:=z2g (fun W hb=>zg7 (.slice A0 (fN p 0) k0) tgT p.tags W (fun _=>False) (Rx.below (W':=W) ⟨A0,k0,rfl,z0,h0,y0⟩ hb) (by have:=hsm.tags;omega) (by omega))
  have HN1:=z2g (fun W hb=>zg7 (.slice A1 (fN p 1) k1) scT p.schemes W (fun _=>False) (Rx.below (W':=W) ⟨A1,k1,rfl,z1,h1,y1⟩ hb) (by have:=hsm.schemes;omega) (by omega))
  have HN2:=z2g (fun W hb=>zg7 (.slice A2 (fN p 2) k2) csT p.css W (fun _=>False) (Rx.below (W':=W) ⟨A2,k2,rfl,z2,h2,y2⟩ hb) (by have:=hsm.css;omega) (by omega))
  have HN3:=z2g (fun W hb=>zg7 (.slice A3 (fN p 3) k3) drT p.drops W (fun _=>False) (Rx.below (W':=W) ⟨A3,k3,rfl,z3,h3,y3⟩ hb) (by have:=hsm.drops;omega) (by omega))
  have HN4:=z2g (fun W (hb:Below w.heap.size w W)=>zs1 A4 k4 p.attrs W (h4.below hb rfl) hc4 (by have:=hsm.attrs;omega) (by omega))
  have q0:(sayN tgT p.tags).length<=17592186044416:=by omega
  have q4:(txA p.attrs).length<=17592186044416:=by omega
  have q1:(sayN scT p.schemes).length<=17592186044416:=by omega
  have q2:(sayN csT p.css).length<=17592186044416:=by omega
  have q3:(sayN drT p.drops).length<=17592186044416:=by omega
  have HTot:Hid ((⟨(sayN tgT p.tags).toArray⟩:ByteArray)++⟨(txA p.attrs).toArray⟩++⟨(sayN scT p.schemes).toArray⟩++⟨(sayN csT p.css).toArray⟩++⟨(sayN drT p.drops).toArray⟩=⟨(zdt p).toArray⟩):=by
   refine zb7 ?_
   simp[zdt]
  have u0:(⟨(sayN tgT p.tags).toArray⟩:ByteArray).size<=17592186044416:=by show(sayN tgT p.tags).toArray.size<=_;simpa using q0
  have u4:(⟨(txA p.attrs).toArray⟩:ByteArray).size<=17592186044416:=by show(txA p.attrs).toArray.size<=_;simpa using q4
  have u1:(⟨(sayN scT p.schemes).toArray⟩:ByteArray).size<=17592186044416:=by show(sayN scT p.schemes).toArray.size<=_;simpa using q1
  have u2:(⟨(sayN csT p.css).toArray⟩:ByteArray).size<=17592186044416:=by show(sayN csT p.css).toArray.size<=_;simpa using q2
  have u3:(⟨(sayN drT p.drops).toArray⟩:ByteArray).size<=17592186044416:=by show(sayN drT p.drops).toArray.size<=_;simpa using q3
  have HTx:=z2g hz
  have H5:=z2g h5
  have hln:=hlen
  have HSm5:=z2g (show fN p 5<=100000000 from hsm.forces)
  have HLim:=z2g (zhq hR)
  have HTx5:=z2g ht.texts.forces
  obtain⟨rl,hrl⟩: ∃r,p.rel=r:=⟨_,rfl⟩
  have HRl:Hid (relX p=if rl=true then sayS reT [[121,101,115]]else sayS reT [[110,111]]):=by show _=_;unfold relX;rw[hrl]
  rw[hrl]at HRt ⊢
  clear hrl
  clear hsz hsm ht hT h0 h1 h2 h3 h4 h5 z0 z1 z2 z3 z4 z5 y0 y1 y2 y3 y4 y5 hc4 hR hz hlen hl2 q0 q1 q2 q3 q4
  generalize(⟨(sayN tgT p.tags).toArray⟩:ByteArray)=S0 at*
  generalize(⟨(txA p.attrs).toArray⟩:ByteArray)=S4 at*
  generalize(⟨(sayN scT p.schemes).toArray⟩:ByteArray)=S1 at*
  generalize(⟨(sayN csT p.css).toArray⟩:ByteArray)=S2 at*
  generalize(⟨(sayN drT p.drops).toArray⟩:ByteArray)=S3 at*
  go_enter Tryz.func31,Tryz.ntmps31
  go_upto_region 3 with(go_at_call 56;(with_reducible refine(HRt.out _ bel).mono ?_);rintro e Wa ⟨rfl,Xa,rfl⟩)
  refine zaf fun W0 hW0=> ?_
  obtain⟨B,hB⟩: ∃B,w.heap.size=B:=⟨_,rfl⟩
  rw[hB]
  have hb0:Below w.heap.size w W0:=by rw[hW0];exact bel
  have c0:W0.cell? ⟨B,0,none⟩=some (.slice A0 (fN p 0) k0):=by rw[hW0,<-hB];simp[go_sem]
  have c1:W0.cell? ⟨B,1,none⟩=some (.slice A1 (fN p 1) k1):=by rw[hW0,<-hB];simp[go_sem]
  have c2:W0.cell? ⟨B,2,none⟩=some (.slice A2 (fN p 2) k2):=by rw[hW0,<-hB];simp[go_sem]
  have c3:W0.cell? ⟨B,3,none⟩=some (.slice A3 (fN p 3) k3):=by rw[hW0,<-hB];simp[go_sem]
  have c4:W0.cell? ⟨B,4,none⟩=some (.slice A4 (fN p 4) k4):=by rw[hW0,<-hB];simp[go_sem]
  have c5:W0.cell? ⟨B,5,none⟩=some (.slice A5 (fN p 5) k5):=by rw[hW0,<-hB];simp[go_sem]
  have c6:W0.cell? ⟨B,6,none⟩=some (.bool rl):=by rw[hW0,<-hB];simp[go_sem]
  have c7:W0.cell? ⟨B,7,none⟩=some (.int .i64 p.depth):=by rw[hW0,<-hB];simp[go_sem]
  have c8:W0.cell? ⟨B,8,none⟩=some (.int .i64 p.name):=by rw[hW0,<-hB];simp[go_sem]
  have c9:W0.cell? ⟨B,9,none⟩=some (.int .i64 p.value):=by rw[hW0,<-hB];simp[go_sem]
  have hBl:B<W0.heap.size:=World.block_lt_of_cell? W0 _ c0
  have HB0:=z2g hb0
  clear hW0 hb0
  refine zem 20 [13,14,15,16,17,18,19,20,21,22,23,24,25,26,27,28,29,30,31,4] (fun V=>Below W0.heap.size W0 V) (gAt [isV (.pointer (some ⟨B,0,none⟩)),isV (.slice A0 (fN p 0) k0),isV (.string S0),isV (.pointer (some ⟨B,4,none⟩)),isV (.slice A4 (fN p 4) k4),isV (.string S4),isV (.string (S0++S4)),isV (.pointer (some ⟨B,1,none⟩)),isV (.slice A1 (fN p 1) k1),isV (.string S1),isV (.string (S0++S4++S1)),isV (.pointer (some ⟨B,2,none⟩)),isV (.slice A2 (fN p 2) k2),isV (.string S2),isV (.string (S0++S4++S1++S2)),isV (.pointer (some ⟨B,3,none⟩)),isV (.slice A3 (fN p 3) k3),isV (.string S3),isV (.string (S0++S4++S1++S2++S3)),fun v V=> ∃b,v= .pointer (some ⟨b,0,none⟩)/\W0.heap.size<=b/\Boxed V b 9 (.string ⟨#[]⟩)]) hmx (by kernel_rfl) (by kernel_rfl) (by decide) (by kernel_rfl) (by rfl) rfl (by kernel_rfl) (by show Below _ _ _;exact bel) (fun i v W W' _ h hb=>ziu ?keeps i v W W' h hb) ⟨zah (.pointer (some ⟨B,0,none⟩)) rfl rfl rfl (fun a V hr hd=>⟨by have e1:=zae (k:=1) (v:= .pointer (some ⟨B,0,none⟩)) (hr.base 1 (by decide));simp[execOp,go_sem,e1],rfl⟩),zah (.slice A0 (fN p 0) k0) rfl rfl rfl (fun a V hr hd=>⟨by have e1:=zae (k:=13) (v:= .pointer (some ⟨B,0,none⟩)) (hd 0 (by kernel_rfl));have d:=(hr.here.cell (p:=⟨B,0,none⟩) hBl).trans c0;simp[execOp,go_sem,e1,d],rfl⟩),zbh rfl rfl rfl (fun a V hr hd K hK=>by have e1:=zae (k:=14) (v:= .slice A0 (fN p 0) k0) (hd 1 (by kernel_rfl));unfold Oper.wp;simp[execOp,go_sem,e1];refine(HN0.out _ (HB0.out.trans (hr.here.mono HB0.out.size))).mono ?_;rintro e V1 ⟨rfl,X1,rfl⟩;exact hK _ _ (hr.here.trans ((zal V X1).mono hr.here.size)) (zal V X1) rfl),zah (.pointer (some ⟨B,4,none⟩)) rfl rfl rfl (fun a V hr hd=>⟨by have e1:=zae (k:=1) (v:= .pointer (some ⟨B,0,none⟩)) (hr.base 1 (by decide));simp[execOp,go_sem,e1],rfl⟩),zah (.slice A4 (fN p 4) k4) rfl rfl rfl (fun a V hr hd=>⟨by have e1:=zae (k:=16) (v:= .pointer (some ⟨B,4,none⟩)) (hd 3 (by kernel_rfl));have d:=(hr.here.cell (p:=⟨B,4,none⟩) hBl).trans c4;simp[execOp,go_sem,e1,d],rfl⟩),zbh rfl rfl rfl (fun a V hr hd K hK=>by have e1:=zae (k:=17) (v:= .slice A4 (fN p 4) k4) (hd 4 (by kernel_rfl));unfold Oper.wp;simp[execOp,go_sem,e1];refine(HN4.out _ (HB0.out.trans (hr.here.mono HB0.out.size))).mono ?_;rintro e V1 ⟨rfl,X1,rfl⟩;exact hK _ _ (hr.here.trans ((zal V X1).mono hr.here.size)) (zal V X1) rfl),zah (.string (S0++S4)) rfl rfl rfl (fun a V hr hd=>⟨by have e1:=zae (k:=15) (v:= .string S0) (hd 2 (by kernel_rfl));have e2:=zae (k:=18) (v:= .string S4) (hd 5 (by kernel_rfl));simp[execOp,go_sem,e1,e2];omega,rfl⟩),zah (.pointer (some ⟨B,1,none⟩)) rfl rfl rfl (fun a V hr hd=>⟨by have e1:=zae (k:=1) (v:= .pointer (some ⟨B,0,none⟩)) (hr.base 1 (by decide));simp[execOp,go_sem,e1],rfl⟩),zah (.slice A1 (fN p 1) k1) rfl rfl rfl (fun a V hr hd=>⟨by have e1:=zae (k:=20) (v:= .pointer (some ⟨B,1,none⟩)) (hd 7 (by kernel_rfl));have d:=(hr.here.cell (p:=⟨B,1,none⟩) hBl).trans c1;simp[execOp,go_sem,e1,d],rfl⟩),zbh rfl rfl rfl (fun a V hr hd K hK=>by have e1:=zae (k:=21) (v:= .slice A1 (fN p 1) k1) (hd 8 (by kernel_rfl));unfold Oper.wp;simp[execOp,go_sem,e1];refine(HN1.out _ (HB0.out.trans (hr.here.mono HB0.out.size))).mono ?_;rintro e V1 ⟨rfl,X1,rfl⟩;exact hK _ _ (hr.here.trans ((zal V X1).mono hr.here.size)) (zal V X1) rfl),zah (.string (S0++S4++S1)) rfl rfl rfl (fun a V hr hd=>⟨by have e1:=zae (k:=19) (v:= .string (S0++S4)) (hd 6 (by kernel_rfl));have e2:=zae (k:=22) (v:= .string S1) (hd 9 (by kernel_rfl));simp[execOp,go_sem,e1,e2];omega,rfl⟩),zah (.pointer (some ⟨B,2,none⟩)) rfl rfl rfl (fun a V hr hd=>⟨by have e1:=zae (k:=1) (v:= .pointer (some ⟨B,0,none⟩)) (hr.base 1 (by decide));simp[execOp,go_sem,e1],rfl⟩),zah (.slice A2 (fN p 2) k2) rfl rfl rfl (fun a V hr hd=>⟨by have e1:=zae (k:=24) (v:= .pointer (some ⟨B,2,none⟩)) (hd 11 (by kernel_rfl));have d:=(hr.here.cell (p:=⟨B,2,none⟩) hBl).trans c2;simp[execOp,go_sem,e1,d],rfl⟩),zbh rfl rfl rfl (fun a V hr hd K hK=>by have e1:=zae (k:=25) (v:= .slice A2 (fN p 2) k2) (hd 12 (by kernel_rfl));unfold Oper.wp;simp[execOp,go_sem,e1];refine(HN2.out _ (HB0.out.trans (hr.here.mono HB0.out.size))).mono ?_;rintro e V1 ⟨rfl,X1,rfl⟩;exact hK _ _ (hr.here.trans ((zal V X1).mono hr.here.size)) (zal V X1) rfl),zah (.string (S0++S4++S1++S2)) rfl rfl rfl (fun a V hr hd=>⟨by have e1:=zae (k:=23) (v:= .string (S0++S4++S1)) (hd 10 (by kernel_rfl));have e2:=zae (k:=26) (v:= .string S2) (hd 13 (by kernel_rfl));simp[execOp,go_sem,e1,e2];omega,rfl⟩),zah (.pointer (some ⟨B,3,none⟩)) rfl rfl rfl (fun a V hr hd=>⟨by have e1:=zae (k:=1) (v:= .pointer (some ⟨B,0,none⟩)) (hr.base 1 (by decide));simp[execOp,go_sem,e1],rfl⟩),zah (.slice A3 (fN p 3) k3) rfl rfl rfl (fun a V hr hd=>⟨by have e1:=zae (k:=28) (v:= .pointer (some ⟨B,3,none⟩)) (hd 15 (by kernel_rfl));have d:=(hr.here.cell (p:=⟨B,3,none⟩) hBl).trans c3;simp[execOp,go_sem,e1,d],rfl⟩),zbh rfl rfl rfl (fun a V hr hd K hK=>by have e1:=zae (k:=29) (v:= .slice A3 (fN p 3) k3) (hd 16 (by kernel_rfl));unfold Oper.wp;simp[execOp,go_sem,e1];refine(HN3.out _ (HB0.out.trans (hr.here.mono HB0.out.size))).mono ?_;rintro e V1 ⟨rfl,X1,rfl⟩;exact hK _ _ (hr.here.trans ((zal V X1).mono hr.here.size)) (zal V X1) rfl),zah (.string (S0++S4++S1++S2++S3)) rfl rfl rfl (fun a V hr hd=>⟨by have e1:=zae (k:=27) (v:= .string (S0++S4++S1++S2)) (hd 14 (by kernel_rfl));have e2:=zae (k:=30) (v:= .string S3) (hd 17 (by kernel_rfl));simp[execOp,go_sem,e1,e2];omega,rfl⟩),zbh rfl rfl rfl (fun a V hr hd K hK=>by unfold Oper.wp;simp[execOp,go_sem];exact hK _ _ (hr.here.trans ((bel:Below V.heap.size V _).mono hr.here.size)) bel ⟨_,rfl,hr.here.size,heap_alloc_new V _⟩),trivial⟩ ?fin
  case keeps=>exact⟨zag _,zag _,zag _,zag _,zag _,zag _,zag _,zag _,zag _,zag _,zag _,zag _,zag _,zag _,zag _,zag _,zag _,zag _,zag _,fun v V V' ⟨b,h1,h2,h3⟩ hb=>⟨b,h1,h2,(zac.of_below (pv:=fun _=>False) hb).boxed h3 (fun h=>h)⟩,trivial⟩
  case fin=>
   intro v V hV hg
   have g18:v 18= .string (S0++S4++S1++S2++S3):=hg 18 (by decide)
   obtain⟨b,g19,hbs,hbx⟩: ∃b,v 19= .pointer (some ⟨b,0,none⟩)/\W0.heap.size<=b/\Boxed V b 9 (.string ⟨#[]⟩):=hg 19 (by decide)
   simp only[puts,List.range,List.range.loop,List.foldl_cons,List.foldl_nil,Act.put,List.getD_cons_zero,List.getD_cons_succ,z2d,z2f,z2e,g18,g19]
   clear hg g18 g19
   generalize v 0=y0
   generalize v 1=y1
   generalize v 2=y2
   generalize v 3=y3
   generalize v 4=y4
   generalize v 5=y5
   generalize v 6=y6
   generalize v 7=y7
   generalize v 8=y8
   generalize v 9=y9
   generalize v 10=y10
   generalize v 11=y11
   generalize v 12=y12
   generalize v 13=y13
   generalize v 14=y14
   generalize v 15=y15
   generalize v 16=y16
   generalize v 17=y17
   dsimp only[List.drop]
   have f1:=hbx.cell
   have f2:=hbx.frozen
   have f3:=hbx.lt
   rw[HTot.out]
   go_upto_region 4 with fail
   refine zaf fun W1 hW1=> ?_
   have hB1:Below W0.heap.size W0 W1:=by rw[hW1];exact zgz hV hbs _
   have hX1:Boxed W1 b 9 (.string ⟨(zdt p).toArray⟩):=by rw[hW1];exact hbx.set _
   have HB1:=z2g (And.intro hB1 hX1)
   have d6:=(hB1.cell (p:=⟨B,6,none⟩) hBl).trans c6
   clear hW1 hB1 hX1 f1 f2 f3 hbx hV HTot HN0 HN1 HN2 HN3 HN4 u0 u1 u2 u3 u4 c0 c1 c2 c3 c4
   go_upto_if 33 with fail
   go_cut [4] (fun s4 wx=>s4= .pointer (some ⟨b,0,none⟩)/\Below W0.heap.size W0 wx/\Boxed wx b 9 (.string ⟨(zdt p++relX p).toArray⟩))
   case first=>
    cases rl
    ·have HSy:=z2g (fun W v (hW:Ws W v [reT,[110,111]])=>ze6 v reT [[110,111]] W hW (by simp) (by decide))
     have hrl:Hid (relX p=sayS reT [[110,111]]):=HRl.out
     have HSum:Hid ((⟨(zdt p).toArray⟩:ByteArray)++⟨(sayS reT [[110,111]]).toArray⟩=⟨(zdt p++relX p).toArray⟩):=by
      rw[hrl.out]
      refine zb7 ?_
      simp
     have hlr:(sayS reT [[110,111]]).length<=100:=by decide
     go_upto_region 6 with fail
     have t1:=HB1.out.1
     have f1:=HB1.out.2.cell
     have f2:=HB1.out.2.frozen
     have f3:=HB1.out.2.lt
     refine zai 4 [(0,true),(1,false),(2,false),(3,false)] (fun V=>Below W1.heap.size W1 V) hmx (by kernel_rfl) (by kernel_rfl) (by kernel_rfl) (by decide) rfl (fun c a d v w h=>by first|exact h|(obtain⟨x,y⟩:=(h:_/\_);cases d<;>exact⟨x,y⟩)) (by kernel_rfl) (by show Below _ _ _;exact bel) ?_
     refine zci (v:= .string ⟨(zdt p).toArray⟩) 38 rfl rfl rfl (fun W hW=>by have d:=(hW.cell (p:=⟨b,0,none⟩) f3).trans f1;simp[execOp,go_sem,d]) ?_
     simp only[Act.put,z2d,z2f,z2e]
     refine zaj rfl rfl ?_
     intro Kc hKc
     unfold Oper.wp
     simp[execOp,go_sem]
     apply hKc
     have hw2:Below W1.heap.size W1 (W1.drew.alloc (.cells #[.string ⟨#[114,101,108,97,116,105,118,101]⟩,.string ⟨#[110,111]⟩] 9)):=bel
     refine⟨hw2, ?_⟩
     try simp only[Act.put,z2d,z2f,z2e]
     refine zaj rfl rfl ?_
     intro Kc hKc
     unfold Oper.wp
     simp[execOp,go_sem]
     refine(HSy.out _ _ (zo7 (zq4 (l:=[reT,[110,111]]) rfl))).mono ?_
     rintro e V3 ⟨rfl,X3,hV3⟩
     have hw3:Below W1.heap.size W1 V3:=hw2.trans ((show Below _ _ V3 by rw[hV3];exact zal _ _).mono hw2.size)
     clear hV3
     apply hKc
     refine⟨hw3, ?_⟩
     try simp only[Act.put,z2d,z2f,z2e]
     refine zaj rfl rfl ?_
     intro Kc hKc
     unfold Oper.wp
     simp[execOp,go_sem]
     rw[if_neg (by omega)]
     apply hKc
     refine⟨hw3, ?_⟩
     try simp only[Act.put,z2d,z2f,z2e]
     dsimp only[zbe,List.drop]
     have hB3:=(zac.of_below (pv:=fun _=>False) hw3).boxed HB1.out.2 (fun h=>h)
     have g2:=hB3.frozen
     have g1:=hB3.cell
     rw[HSum.out]
     go_wp2_with fail
     go_meet
     case rel=>exact⟨rfl,zgz (t1.trans (hw3.mono t1.size)) hbs _,hB3.set _⟩
    ·have HSy:=z2g (fun W v (hW:Ws W v [reT,[121,101,115]])=>ze6 v reT [[121,101,115]] W hW (by simp) (by decide))
     have hrl:Hid (relX p=sayS reT [[121,101,115]]):=HRl.out
     have HSum:Hid ((⟨(zdt p).toArray⟩:ByteArray)++⟨(sayS reT [[121,101,115]]).toArray⟩=⟨(zdt p++relX p).toArray⟩):=by
      rw[hrl.out]
      refine zb7 ?_
      simp
     have hlr:(sayS reT [[121,101,115]]).length<=100:=by decide
     go_upto_region 5 with fail
     have t1:=HB1.out.1
     have f1:=HB1.out.2.cell
     have f2:=HB1.out.2.frozen
     have f3:=HB1.out.2.lt
     refine zai 4 [(0,true),(1,false),(2,false),(3,false)] (fun V=>Below W1.heap.size W1 V) hmx (by kernel_rfl) (by kernel_rfl) (by kernel_rfl) (by decide) rfl (fun c a d v w h=>by first|exact h|(obtain⟨x,y⟩:=(h:_/\_);cases d<;>exact⟨x,y⟩)) (by kernel_rfl) (by show Below _ _ _;exact bel) ?_
     refine zci (v:= .string ⟨(zdt p).toArray⟩) 34 rfl rfl rfl (fun W hW=>by have d:=(hW.cell (p:=⟨b,0,none⟩) f3).trans f1;simp[execOp,go_sem,d]) ?_
     simp only[Act.put,z2d,z2f,z2e]
     refine zaj rfl rfl ?_
     intro Kc hKc
     unfold Oper.wp
     simp[execOp,go_sem]
     apply hKc
     have hw2:Below W1.heap.size W1 (W1.drew.alloc (.cells #[.string ⟨#[114,101,108,97,116,105,118,101]⟩,.string ⟨#[121,101,115]⟩] 9)):=bel
     refine⟨hw2, ?_⟩
     try simp only[Act.put,z2d,z2f,z2e]
     refine zaj rfl rfl ?_
     intro Kc hKc
     unfold Oper.wp
     simp[execOp,go_sem]
     refine(HSy.out _ _ (zo7 (zq4 (l:=[reT,[121,101,115]]) rfl))).mono ?_
     rintro e V3 ⟨rfl,X3,hV3⟩
     have hw3:Below W1.heap.size W1 V3:=hw2.trans ((show Below _ _ V3 by rw[hV3];exact zal _ _).mono hw2.size)
     clear hV3
     apply hKc
     refine⟨hw3, ?_⟩
     try simp only[Act.put,z2d,z2f,z2e]
     refine zaj rfl rfl ?_
     intro Kc hKc
     unfold Oper.wp
     simp[execOp,go_sem]
     rw[if_neg (by omega)]
     apply hKc
     refine⟨hw3, ?_⟩
     try simp only[Act.put,z2d,z2f,z2e]
     dsimp only[zbe,List.drop]
     have hB3:=(zac.of_below (pv:=fun _=>False) hw3).boxed HB1.out.2 (fun h=>h)
     have g2:=hB3.frozen
     have g1:=hB3.cell
     rw[HSum.out]
     go_wp2_with fail
     go_meet
     case rel=>exact⟨rfl,zgz (t1.trans (hw3.mono t1.size)) hbs _,hB3.set _⟩
   case rest=>
    obtain⟨rfl,hb2,hx2⟩:=hcut
    have HS2:=z2g (And.intro hb2 hx2)
    have d5:=(hb2.cell (p:=⟨B,5,none⟩) hBl).trans c5
    have hm5:fN p 5<=100000000:=HSm5.out
    obtain⟨n5,hn5⟩: ∃n,fN p 5=n:=⟨_,rfl⟩
    have HN5:=z2g hn5
    rw[hn5]at d5 hm5
    clear HB1 d6 hb2 hx2 HRl hn5
    apply_assumption
    go_upto_region 8 with fail
    go_loopw [45] (fun i wr=> ∃(k:Nat) (O:Bs),k<=n5/\i= .int .i64 (k:Nat)/\Hid (O++((p.forces.drop k).flatMap zge++zif p)=txP p)/\Hid (Below W0.heap.size W0 wr/\Boxed wr b 9 (.string ⟨O.toArray⟩))) (fun i _=>n5-(intOf i).toNat)
    case atStart=>exact⟨0,zdt p++relX p,by omega,rfl,by show _=_;rw[List.drop_zero];simp[txP],HS2.out⟩
    case round=>
     obtain⟨k,O,hk,rfl,HK,HS⟩:=hrel
     have t1:=HS.out.1
     have f1:=HS.out.2.cell
     have f2:=HS.out.2.frozen
     have f3:=HS.out.2.lt
     have hOl:O.length<=17592186044416:=by
      have:=congrArg List.length HK.out
      rw[z2i]at this
      have:=HTx.out
      omega
     by_cases hlt:k<n5
     ·have hkl:k<p.forces.length:=by have:p.forces.length=n5:=HN5.out;omega
      obtain⟨bf,of,hAd,hbf,hcf⟩: ∃b off,A5=some ⟨b,off,none⟩/\b<w.heap.size/\ ∀j u,(fC p 5)[j]? =some u->w.cell? ⟨b,off+j,none⟩=some u:=by
       obtain⟨_,_,A',c',e,h4⟩:=H5.out
       cases e
       exact h4 (by have:=HN5.out;omega)
      subst hAd
      obtain⟨x,hx⟩: ∃x,p.forces[k]=x:=⟨_,rfl⟩
      have htx:=HTx5.out x (by rw[<-hx];exact List.getElem_mem hkl)
      have hBw:=HB0.out.trans (t1.mono HB0.out.size)
      have hbf2:bf<wr.heap.size:=Nat.lt_of_lt_of_le hbf hBw.size
      have x0:wr.cell? ⟨bf,of+k*3,none⟩=some (.string ⟨x.tag.toArray⟩):=(hBw.cell (p:=⟨bf,of+k*3,none⟩) hbf).trans (hcf (k*3+0) (sv x.tag) (by show(p.forces.flatMap Frc.cells)[k*3+0]? =_;rw[za4 Frc.cells 3 zb2 p.forces k 0 hkl (by omega),hx];rfl))
      have x1:wr.cell? ⟨bf,of+k*3+1,none⟩=some (.string ⟨x.name.toArray⟩):=(hBw.cell (p:=⟨bf,of+k*3+1,none⟩) hbf).trans (by rw[Nat.add_assoc];exact hcf (k*3+1) (sv x.name) (by show(p.forces.flatMap Frc.cells)[k*3+1]? =_;rw[za4 Frc.cells 3 zb2 p.forces k 1 hkl (by omega),hx];rfl))
      have x2:wr.cell? ⟨bf,of+k*3+2,none⟩=some (.string ⟨x.value.toArray⟩):=(hBw.cell (p:=⟨bf,of+k*3+2,none⟩) hbf).trans (by rw[Nat.add_assoc];exact hcf (k*3+2) (sv x.value) (by show(p.forces.flatMap Frc.cells)[k*3+2]? =_;rw[za4 Frc.cells 3 zb2 p.forces k 2 hkl (by omega),hx];rfl))
      have HKn:Hid ((O++zge x)++((p.forces.drop (k+1)).flatMap zge++zif p)=txP p):=by
       show _=_
       rw[<-HK.out,List.drop_eq_getElem_cons hkl,List.flatMap_cons,hx]
       simp
      have hSl:(zge x).length<=17592186044416:=by
       have:=congrArg List.length HKn.out
       simp only[z2i]at this
       have:=HTx.out
       omega
      have HQ:=z2g (zsy x.value htx.2.2)
      have HSy:=z2g (fun W v (hW:Ws W v [foT,x.tag,x.name,quoV x.value])=>ze6 v foT [x.tag,x.name,quoV x.value] W hW (by simp) (by show(zge x).length<=_;omega))
      have HSum:Hid ((⟨O.toArray⟩:ByteArray)++⟨(sayS foT [x.tag,x.name,quoV x.value]).toArray⟩=⟨(O++zge x).toArray⟩):=by
       refine zb7 ?_
       simp[zge]
      have hSl2:(sayS foT [x.tag,x.name,quoV x.value]).length<=17592186044416:=hSl
      have HL:Hid ([sv foT,sv x.tag,sv x.name,sv (quoV x.value)]=[foT,x.tag,x.name,quoV x.value].map sv):=rfl
      clear HK hx htx hSl hcf hbf hBw
      obtain⟨ok,HQ⟩:=HQ.out
      have HQ:=z2g HQ
      go_upto_region 11 with(go_at_call 60;(with_reducible refine(HQ.out _).mono ?_);rintro e Wq ⟨rfl,Xq,rfl⟩)
      refine zaf fun W2 hW2=> ?_
      have hb2:Below wr.heap.size wr W2:=by rw[hW2];exact bel
      have y0:W2.cell? ⟨wr.heap.size,0,none⟩=some (.string ⟨x.tag.toArray⟩):=by rw[hW2];simp[go_sem]
      have y1:W2.cell? ⟨wr.heap.size,1,none⟩=some (.string ⟨x.name.toArray⟩):=by rw[hW2];simp[go_sem]
      have hfl:wr.heap.size<W2.heap.size:=World.block_lt_of_cell? W2 _ y0
      have hx2:=(zac.of_below (pv:=fun _=>False) hb2).boxed HS.out.2 (fun h=>h)
      have e1:=hx2.cell
      have e3:=hx2.lt
      have t2:=t1.trans (hb2.mono t1.size)
      clear hW2 x0 x1 x2 f1 f2 f3
      refine zai 9 [(0,true),(1,true),(2,true),(3,true),(4,true),(5,true),(6,false),(7,false),(8,false)] (fun V=>Below W2.heap.size W2 V) hmx (by kernel_rfl) (by kernel_rfl) (by kernel_rfl) (by decide) rfl (fun c a d v w h=>by first|exact h|(obtain⟨x,y⟩:=(h:_/\_);cases d<;>exact⟨x,y⟩)) (by kernel_rfl) (by show Below _ _ _;exact bel) ?_
      refine zci (v:= .string ⟨O.toArray⟩) 55 rfl rfl rfl (fun W hW=>by have d:=(hW.cell (p:=⟨b,0,none⟩) e3).trans e1;simp[execOp,go_sem,d]) ?_
      simp only[Act.put,z2d,z2f,z2e]
      refine zci (v:= .pointer (some ⟨wr.heap.size,0,none⟩)) 56 rfl rfl rfl (fun W hW=>by simp[execOp,go_sem]) ?_
      simp only[Act.put,z2d,z2f,z2e]
      refine zci (v:= .string ⟨x.tag.toArray⟩) 57 rfl rfl rfl (fun W hW=>by have d:=(hW.cell (p:=⟨wr.heap.size,0,none⟩) hfl).trans y0;simp[execOp,go_sem,d]) ?_
      simp only[Act.put,z2d,z2f,z2e]
      refine zci (v:= .pointer (some ⟨wr.heap.size,1,none⟩)) 58 rfl rfl rfl (fun W hW=>by simp[execOp,go_sem]) ?_
      simp only[Act.put,z2d,z2f,z2e]
      refine zci (v:= .string ⟨x.name.toArray⟩) 59 rfl rfl rfl (fun W hW=>by have d:=(hW.cell (p:=⟨wr.heap.size,1,none⟩) hfl).trans y1;simp[execOp,go_sem,d]) ?_
      simp only[Act.put,z2d,z2f,z2e]
      refine zci (v:= .string ⟨(quoV x.value).toArray⟩) 60 rfl rfl rfl (fun W hW=>by simp[execOp,go_sem]) ?_
      simp only[Act.put,z2d,z2f,z2e]
      refine zaj rfl rfl ?_
      intro Kc hKc
      unfold Oper.wp
      simp[execOp,go_sem]
      apply hKc
      have hw2:Below W2.heap.size W2 (W2.drew.alloc (.cells #[.string ⟨#[102,111,114,99,101]⟩,.string ⟨x.tag.toArray⟩,.string ⟨x.name.toArray⟩,.string ⟨(quoV x.value).toArray⟩] 9)):=bel
      refine⟨hw2, ?_⟩
      try simp only[Act.put,z2d,z2f,z2e]
      refine zaj rfl rfl ?_
      intro Kc hKc
      unfold Oper.wp
      simp[execOp,go_sem]
      refine(HSy.out _ _ (zo7 (zq4 (l:=[foT,x.tag,x.name,quoV x.value]) rfl))).mono ?_
      rintro e V3 ⟨rfl,X3,hV3⟩
      have hw3:Below W2.heap.size W2 V3:=hw2.trans ((show Below _ _ V3 by rw[hV3];exact zal _ _).mono hw2.size)
      clear hV3
      apply hKc
      refine⟨hw3, ?_⟩
      try simp only[Act.put,z2d,z2f,z2e]
      refine zaj rfl rfl ?_
      intro Kc hKc
      unfold Oper.wp
      simp[execOp,go_sem]
      rw[if_neg (by omega)]
      apply hKc
      refine⟨hw3, ?_⟩
      try simp only[Act.put,z2d,z2f,z2e]
      dsimp only[zbe,List.drop]
      have hB3:=(zac.of_below (pv:=fun _=>False) hw3).boxed hx2 (fun h=>h)
      have g2:=hB3.frozen
      have g1:=hB3.cell
      rw[HSum.out]
      go_wp2_with fail
      go_roundw
      case rel=>exact⟨k+1,_,by omega,by go_num,HKn.out,⟨zgz (t2.trans (hw3.mono t2.size)) hbs _,hB3.set _⟩⟩
      case measure=>simp[intOf];omega
     ·have hk5:k=n5:=by omega
      have HKn:Hid (O++zif p=txP p):=by show _=_;rw[<-HK.out,List.drop_eq_nil_of_le (by have:p.forces.length=n5:=HN5.out;omega)];rfl
      have heg: ∀args w,(callFunc 61 args).run Tryz.prog w= .ok (.enter 61 args) w:=enters_of Tryz.func61 (by kernel_rfl) rfl
      have c7':=(t1.cell (p:=⟨B,7,none⟩) hBl).trans c7
      have hTw:=HTn.out.below (HB0.out.trans (t1.mono HB0.out.size))
      clear HK hk5 f1 f2 f3 H5 c5 d5
      obtain⟨⟨a0,a1⟩,⟨a2,a3⟩,⟨a4,a5⟩⟩:=HLim.out
      obtain⟨L1,hL1⟩: ∃L,sayS limT [[100,101,112,116,104],Lib.itoa p.depth]=L:=⟨_,rfl⟩
      obtain⟨L2,hL2⟩: ∃L,sayS limT [[110,97,109,101],Lib.itoa p.name]=L:=⟨_,rfl⟩
      obtain⟨L3,hL3⟩: ∃L,sayS limT [[118,97,108,117,101],Lib.itoa p.value]=L:=⟨_,rfl⟩
      have HT:Hid (((O++L1)++L2)++L3=txP p):=by
       show _=_
       rw[<-HKn.out]
       unfold zif
       rw[hL1,hL2,hL3]
       simp
      have hlT:O.length+L1.length+L2.length+L3.length<=17592186044416:=by
       have:=congrArg List.length HT.out
       simp only[z2i]at this
       have:=HTx.out
       omega
      have HP1:=z2g (fun W hT hB=>zhr b [100,101,112,116,104] O p.depth W hT hB a0 a1 (by omega) (by rw[hL1];omega))
      have HP2:=z2g (fun W hT hB=>zhr b [110,97,109,101] (O++L1) p.name W hT hB a2 a3 (by rw[z2i];omega) (by rw[hL2];omega))
      have HP3:=z2g (fun W hT hB=>zhr b [118,97,108,117,101] (O++L1++L2) p.value W hT hB a4 a5 (by rw[z2i,z2i];omega) (by rw[hL3];omega))
      rw[hL1]at HP1
      rw[hL2]at HP2
      rw[hL3]at HP3
      have hTn0:=HTn.out.below HB0.out
      clear hL1 hL2 hL3 HKn hlT hOl a0 a1 a2 a3 a4 a5
      go_upto_region 15 with(go_at_call 61;(with_reducible refine(HP1.out _ hTw HS.out.2).mono ?_);rintro e Va ⟨rfl,hxa,hta⟩)
      have ta:=t1.trans (hta.below (m:=W0.heap.size) t1.size (fun k hk=>hk ▸ hbs))
      have c8':=(ta.cell (p:=⟨B,8,none⟩) hBl).trans c8
      have hTa:=hTn0.below ta
      clear c7' hTw
      go_upto_region 16 with(go_at_call 61;(with_reducible refine(HP2.out _ hTa hxa).mono ?_);rintro e Vb ⟨rfl,hxb,htb⟩)
      have tb:=ta.trans (htb.below (m:=W0.heap.size) ta.size (fun k hk=>hk ▸ hbs))
      have c9':=(tb.cell (p:=⟨B,9,none⟩) hBl).trans c9
      have hTb:=hTn0.below tb
      clear c8' hTa
      go_upto_region 17 with(go_at_call 61;(with_reducible refine(HP3.out _ hTb hxb).mono ?_);rintro e Vc ⟨rfl,hxc,htc⟩)
      have tc:=tb.trans (htc.below (m:=W0.heap.size) tb.size (fun k hk=>hk ▸ hbs))
      rw[HT.out]at hxc
      have f1:=hxc.cell
      have HBc:=z2g (HB0.out.trans (tc.mono HB0.out.size))
      have HXs:Hid ((⟨(txP p).toArray⟩:ByteArray).size=(txP p).length):=by show(txP p).toArray.size=_;simp
      clear c9' hTb hTn0 c7 c8 c9 c6
      by_cases hle:(txP p).length<=8192
      ·have HV2:Hid (txV p= .tuple #[.string ⟨(txP p).toArray⟩,.int .i64 0]):=by show _=_;rw[HV.out,if_pos hle]
       have b9:decide ((8192:Int)<((⟨(txP p).toArray⟩:ByteArray).size:Int))=false:=by rw[HXs.out];simp;omega
       have b8: ¬8192<(⟨(txP p).toArray⟩:ByteArray).size:=by rw[HXs.out];omega
       clear HV hle HXs HT HTx
       generalize(⟨(txP p).toArray⟩:ByteArray)=X at*
       go_wp2_with fail
       go_ret2
       exact Ret.of (by rw[HV2.out];rfl) HBc.out
      ·have HV2:Hid (txV p= .tuple #[.string ⟨#[]⟩,.int .i64 3]):=by show _=_;rw[HV.out,if_neg hle]
       have b9:decide ((8192:Int)<((⟨(txP p).toArray⟩:ByteArray).size:Int))=true:=by rw[HXs.out];simp;omega
       have b8:8192<(⟨(txP p).toArray⟩:ByteArray).size:=by rw[HXs.out];omega
       clear HV hle HXs HT HTx
       generalize(⟨(txP p).toArray⟩:ByteArray)=X at*
       go_wp2_with fail
       go_ret2
       exact Ret.of (by rw[HV2.out];rfl) HBc.out
end Go.Proofs.YtbhhgbgfaemfdaaGreatDoor

