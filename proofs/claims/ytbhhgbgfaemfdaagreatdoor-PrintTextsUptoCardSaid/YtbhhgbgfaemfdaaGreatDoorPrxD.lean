/- The walk of the reference's Text of chapter 09. (written by gen_rtext.py) -/
import Derived.BigRegion
import Derived.Deep.DeepCutAuto
import Derived.Deep.CutBlock
import Derived.Test.YtbhhgbgfaemfdaaGreatDoorPrnDue
import Derived.Test.YtbhhgbgfaemfdaaGreatDoorPrxC
import Derived.Test.YtbhhgbgfaemfdaaGreatDoorPrwG
import Derived.Test.YtbhhgbgfaemfdaaGreatDoorRiE
namespace Go.Proofs.YtbhhgbgfaemfdaaGreatDoor
open Lib renaming hid→z2g
open List renaming drop→z3t,getD_eq_getElem?_getD→z4o,getElem?_eq_getElem→z2r,length_append→z2i,setIfInBounds_toArray→z2d,set_cons_succ→z2f,set_cons_zero→z2e,size_toArray→z4g
open Nat renaming lt_of_lt_of_le→z2h
set_option maxRecDepth 100000
set_option maxHeartbeats 16000000
open Go.RowKit
attribute [local go_sem] Oper.semAt_some
theorem zpn (z:Bs) (hz:z.length<=35184372088832): ∃ok,∀w,Calls Tryz.prog 65 #[.string ⟨z.toArray⟩] w (Ret (.tuple #[.string ⟨(quoV z).toArray⟩,.bool ok]) w):=by
 have h:=fun w=>zle ⟨z.toArray⟩ w (by show z.toArray.size<=_;simpa using hz)
 unfold quoV
 revert h
 show _->_
 have e:(⟨z.toArray⟩:ByteArray).data.toList=z:=by simp
 rw[e]
 cases zdc z with
 |none=>exact fun h=>⟨false,h⟩
 |some q=>exact fun h=>⟨true,h⟩
theorem rtext_any (v:Value) (p:Pol) (w:World) (h:PolV w (fun _=>False) v p) (ht:zix p):Calls Tryz.prog 32 #[v] w (Ret (txV p) w):=by
 have hmx:Tryz.prog.follows .mixedOrders=true:=by kernel_rfl
 have HRt:=z2g (fun W hb=>zld v p W (h.below (W':=W) hb) ht.small ht.texts)
 have hsz:=ht.size
 have hsm:=ht.small
 obtain⟨v0,v1,v2,v3,v4,v5,rfl,⟨A0,k0,rfl,z0,h0,y0⟩,⟨A1,k1,rfl,z1,h1,y1⟩,⟨A2,k2,rfl,z2,h2,y2⟩,⟨A3,k3,rfl,z3,h3,y3⟩,⟨A4,k4,rfl,z4,h4,y4⟩,⟨A5,k5,rfl,z5,h5,y5⟩⟩:=h
 cases hR:zbu p with
 |false=>
  have HV:Hid (txV p= .tuple #[.string ⟨#[]⟩,.int .i64 1]):=by show _=_;unfold txV;rw[hR];rfl
  rw[hR]at HRt
  clear hsz hsm ht h0 h1 h2 h3 h4 h5 z0 z1 z2 z3 z4 z5 y0 y1 y2 y3 y4 y5 hR
  go_enter Tryz.func32,Tryz.ntmps32
  go_wp2_with(go_at_call 63;(with_reducible refine(HRt.out _ bel).mono ?_);rintro e Wa ⟨rfl,Xa,rfl⟩)
  go_ret2
  exact Ret.of (by rw[HV.out];rfl) bel
 |true=>
  have hz:=hsz hR
  have HV:Hid (txV p=(if(txP p).length<=8192 then .tuple #[.string ⟨(txP p).toArray⟩,.int .i64 0]else .tuple #[.string ⟨#[]⟩,.int .i64 3])):=by show _=_;unfold txV;rw[hR];rfl
  rw[hR]at HRt
  have hlen:(zdt p).length<=17592186044416:=by unfold txP at hz;simp only[z2i]at hz ⊢;omega
  have hl2:=hlen
  unfold zdt at hl2
  simp only[z2i]at hl2
  have HN0:=z2g (fun W hb=>show Calls Tryz.prog 64 #[.string ⟨#[116,97,103,115]⟩,.slice A0 (fN p 0) k0] W (Ret (.string ⟨(sayN tgT p.tags).toArray⟩) W)from zim (.slice A0 (fN p 0) k0) tgT p.tags W (Rd.belowW (W:=W) h0 hb) (by omega))
  have u0:(⟨(sayN tgT p.tags).toArray⟩:ByteArray).size<=17592186044416:=by show(sayN tgT p.tags).toArray.size<=_;simp only[z4g];omega
  have HN1:=z2g (fun W hb=>show Calls Tryz.prog 64 #[.string ⟨#[115,99,104,101,109,101,115]⟩,.slice A1 (fN p 1) k1] W (Ret (.string ⟨(sayN scT p.schemes).toArray⟩) W)from zim (.slice A1 (fN p 1) k1) scT p.schemes W (Rd.belowW (W:=W) h1 hb) (by omega))
  have u1:(⟨(sayN scT p.schemes).toArray⟩:ByteArray).size<=17592186044416:=by show(sayN scT p.schemes).toArray.size<=_;simp only[z4g];omega
  have HN2:=z2g (fun W hb=>show Calls Tryz.prog 64 #[.string ⟨#[99,115,115]⟩,.slice A2 (fN p 2) k2] W (Ret (.string ⟨(sayN csT p.css).toArray⟩) W)from zim (.slice A2 (fN p 2) k2) csT p.css W (Rd.belowW (W:=W) h2 hb) (by omega))
  have u2:(⟨(sayN csT p.css).toArray⟩:ByteArray).size<=17592186044416:=by show(sayN csT p.css).toArray.size<=_;simp only[z4g];omega
  have HN3:=z2g (fun W hb=>show Calls Tryz.prog 64 #[.string ⟨#[100,114,111,112]⟩,.slice A3 (fN p 3) k3] W (Ret (.string ⟨(sayN drT p.drops).toArray⟩) W)from zim (.slice A3 (fN p 3) k3) drT p.drops W (Rd.belowW (W:=W) h3 hb) (by omega))
  have u3:(⟨(sayN drT p.drops).toArray⟩:ByteArray).size<=17592186044416:=by show(sayN drT p.drops).toArray.size<=_;simp only[z4g];omega
  obtain⟨SA,hSA⟩: ∃S:ByteArray,⟨(sayN tgT p.tags++txA p.attrs).toArray⟩=S:=⟨_,rfl⟩
  have hsA:SA.size<=17592186044416:=by rw[<-hSA];show(sayN tgT p.tags++txA p.attrs).toArray.size<=_;simp only[z4g,z2i];omega
  have HL0:Hid ((⟨(sayN tgT p.tags).toArray⟩:ByteArray)++⟨(dueA p.attrs 0).toArray⟩=SA):=by
   show _=_
   rw[<-hSA,zz3]
   refine zb7 ?_
   simp
  have HHd:Hid (SA++⟨(sayN scT p.schemes).toArray⟩++⟨(sayN csT p.css).toArray⟩++⟨(sayN drT p.drops).toArray⟩=⟨(zdt p).toArray⟩):=by
   show _=_
   rw[<-hSA]
   refine zb7 ?_
   simp[zdt]
  have HTx:=z2g hz
  have H4:=z2g h4
  have H5:=z2g h5
  have HLim:=z2g (zhq hR)
  have HTx5:=z2g ht.texts.forces
  obtain⟨n4,hn4⟩: ∃n,fN p 4=n:=⟨_,rfl⟩
  obtain⟨n5,hn5⟩: ∃n,fN p 5=n:=⟨_,rfl⟩
  have HN4:Hid (p.attrs.length=n4):=hn4
  have HN5:Hid (p.forces.length=n5):=hn5
  have hm4:n4<=100000000:=by rw[<-hn4];exact hsm.attrs
  have hm5:n5<=100000000:=by rw[<-hn5];exact hsm.forces
  rw[hn4]at H4
  rw[hn5]at H5
  have hHl:(⟨(zdt p).toArray⟩:ByteArray).size<=17592186044416:=by show(zdt p).toArray.size<=_;simpa using hlen
  rw[hn4,hn5]at HRt ⊢
  clear hsz hsm ht h0 h1 h2 h3 h4 h5 z0 z1 z2 z3 z4 z5 y0 y1 y2 y3 y4 y5 hR hz hlen hl2 hSA hn4 hn5
  generalize(⟨(sayN tgT p.tags).toArray⟩:ByteArray)=S0 at*
  generalize(⟨(sayN scT p.schemes).toArray⟩:ByteArray)=S1 at*
  generalize(⟨(sayN csT p.css).toArray⟩:ByteArray)=S2 at*
  generalize(⟨(sayN drT p.drops).toArray⟩:ByteArray)=S3 at*
  go_enter Tryz.func32,Tryz.ntmps32
  go_upto_region 5 with(first|(go_at_call 63;(with_reducible refine(HRt.out _ bel).mono ?_);rintro e Wa ⟨rfl,Xa,rfl⟩)|(go_at_call 64;(with_reducible refine(HN0.out _ bel).mono ?_);rintro e Wb ⟨rfl,Xb,rfl⟩))
  refine zaf fun W0 hW0=> ?_
  obtain⟨B,hB⟩: ∃B,w.heap.size=B:=⟨_,rfl⟩
  rw[hB]
  have hb0:Below w.heap.size w W0:=by rw[hW0];exact bel
  have c0:W0.cell? ⟨B,0,none⟩=some (.slice A0 (fN p 0) k0):=by rw[hW0,<-hB];simp[go_sem]
  have c1:W0.cell? ⟨B,1,none⟩=some (.slice A1 (fN p 1) k1):=by rw[hW0,<-hB];simp[go_sem]
  have c2:W0.cell? ⟨B,2,none⟩=some (.slice A2 (fN p 2) k2):=by rw[hW0,<-hB];simp[go_sem]
  have c3:W0.cell? ⟨B,3,none⟩=some (.slice A3 (fN p 3) k3):=by rw[hW0,<-hB];simp[go_sem]
  have c4:W0.cell? ⟨B,4,none⟩=some (.slice A4 (n4) k4):=by rw[hW0,<-hB];simp[go_sem]
  have c5:W0.cell? ⟨B,5,none⟩=some (.slice A5 (n5) k5):=by rw[hW0,<-hB];simp[go_sem]
  have c6:W0.cell? ⟨B,6,none⟩=some (.bool p.rel):=by rw[hW0,<-hB];simp[go_sem]
  have c7:W0.cell? ⟨B,7,none⟩=some (.int .i64 p.depth):=by rw[hW0,<-hB];simp[go_sem]
  have c8:W0.cell? ⟨B,8,none⟩=some (.int .i64 p.name):=by rw[hW0,<-hB];simp[go_sem]
  have c9:W0.cell? ⟨B,9,none⟩=some (.int .i64 p.value):=by rw[hW0,<-hB];simp[go_sem]
  have hBl:B<W0.heap.size:=World.block_lt_of_cell? W0 _ c0
  have HB0:=z2g hb0
  clear hW0 hb0 HRt HN0
  go_wp2_with fail
  go_loopw [5,6] (fun o i wr=> ∃(k:Nat) (O:ByteArray),k<=n4/\i= .int .i64 (k:Nat)/\o= .string O/\Hid (O++⟨(dueA p.attrs k).toArray⟩=SA)/\Hid (Below W0.heap.size W0 wr)) (fun _ i _=>n4-(intOf i).toNat)
  case atStart=>exact⟨0,_,by omega,rfl,rfl,HL0.out,by show Below _ _ _;exact bel⟩
  case round=>
   clear HL0 u0
   obtain⟨k,O,hk,rfl,rfl,HK,HB⟩:=hrel
   have r4:=(HB.out.cell (p:=⟨B,4,none⟩) hBl).trans c4
   have hbr0:B<wr.heap.size:=z2h hBl HB.out.size
   by_cases hlt:k<n4
   ·obtain⟨b,off,hAe,hb,hcc⟩: ∃b off,A4=some ⟨b,off,none⟩/\b<w.heap.size/\ ∀j u,(fC p 4)[j]? =some u->w.cell? ⟨b,off+j,none⟩=some u:=by
     obtain⟨_,_,A',c',e,h9⟩:=H4.out
     cases e
     obtain⟨b,off,h1,h2,h3⟩:=h9 (by omega)
     exact⟨b,off,h1,h2,h3⟩
    subst hAe
    have hkl:k<p.attrs.length:=by rw[HN4.out];exact hlt
    obtain⟨x,hx⟩: ∃x,p.attrs[k]=x:=⟨_,rfl⟩
    have hbw:b<W0.heap.size:=z2h hb HB0.out.size
    have HC0:=z2g (fun(i:Nat) (hi:i<p.attrs.length)=>show W0.cell? ⟨b,off+i*2,none⟩=some (.string ⟨p.attrs[i].tag.toArray⟩)from(HB0.out.cell (p:=⟨b,off+i*2,none⟩) hb).trans (hcc (i*2+0) (sv p.attrs[i].tag) (by show(p.attrs.flatMap Alw.cells)[_]? =_;rw[za1 Alw.cells 2 (fun _=>rfl) p.attrs i 0 hi (by omega)];rfl)))
    have HC1:=z2g (fun(i:Nat) (hi:i<p.attrs.length)=>show W0.cell? ⟨b,off+i*2+1,none⟩=some (.string ⟨p.attrs[i].name.toArray⟩)from(HB0.out.cell (p:=⟨b,off+i*2+1,none⟩) hb).trans ((congrArg (fun i=>w.cell? ⟨b,i,none⟩) (by omega)).trans (hcc (i*2+1) (sv p.attrs[i].name) (by show(p.attrs.flatMap Alw.cells)[_]? =_;rw[za1 Alw.cells 2 (fun _=>rfl) p.attrs i 1 hi (by omega)];rfl))))
    have e0:=HC0.out k hkl
    have e1:=HC1.out k hkl
    have HSt:=z2g (zz4 hkl hx)
    have HX:=z2g (show p.attrs.getD k ⟨[],[]⟩=x by rw[z4o,z2r hkl,hx];rfl)
    rw[hx]at e0 e1
    have HEt:=z2g (fun y:Bs=>show((⟨x.tag.toArray⟩:ByteArray).toList==(⟨y.toArray⟩:ByteArray).toList)=decide (x.tag=y) by rw[zfg])
    obtain⟨NW,hNW⟩: ∃r,newA p.attrs k=r:=⟨_,rfl⟩
    obtain⟨LA,hLA⟩: ∃r,zom p.attrs k=r:=⟨_,rfl⟩
    have HNW:=z2g hNW
    have HLA:=z2g hLA
    rw[hNW,hLA]at HSt
    obtain⟨xt,hxt⟩: ∃r:ByteArray,⟨x.tag.toArray⟩=r:=⟨_,rfl⟩
    obtain⟨xn,hxn⟩: ∃r:ByteArray,⟨x.name.toArray⟩=r:=⟨_,rfl⟩
    obtain⟨O2,hO2⟩: ∃r:ByteArray,(if NW=true then O++⟨#[97,116,116,114,115,32]⟩++xt++⟨#[58]⟩else O)=r:=⟨_,rfl⟩
    obtain⟨O3,hO3⟩: ∃r:ByteArray,O2++⟨#[32]⟩++xn=r:=⟨_,rfl⟩
    obtain⟨O4,hO4⟩: ∃r:ByteArray,(if LA=true then O3++⟨#[59,10]⟩else O3)=r:=⟨_,rfl⟩
    have HKn:Hid (O4++⟨(dueA p.attrs (k+1)).toArray⟩=SA):=by
     show _=_
     rw[<-HK.out,HSt.out,<-hO4,<-hO3,<-hO2,<-hxt,<-hxn]
     refine zb7 ?_
     cases NW<;>cases LA<;>simp[zay]
    have s4:O4.size<=17592186044416:=by have:=congrArg ByteArray.size HKn.out;rw[ByteArray.size_append]at this;omega
    have s3:O3.size<=17592186044416:=by
     have:O3.size<=O4.size:=by rw[<-hO4];split<;>(try simp only[ByteArray.size_append])<;>omega
     omega
    have s2:O2.size<=17592186044416/\xn.size<=17592186044416:=by rw[<-hO3]at s3;simp only[ByteArray.size_append]at s3;omega
    have s1:O.size<=17592186044416:=by
     have:O.size<=O2.size:=by rw[<-hO2];split<;>(try simp only[ByteArray.size_append])<;>omega
     omega
    have s0:NW=true->xt.size<=17592186044416:=fun h=>by
     have h2:=s2.1
     rw[<-hO2,if_pos h]at h2
     simp only[ByteArray.size_append]at h2
     omega
    obtain⟨s2,s5⟩:=s2
    have HO2:=z2g hO2
    have HO4:=z2g hO4
    have HO3:=z2g hO3
    have HS0:=z2g s0
    rw[hxt]at e0 HEt
    rw[hxn]at e1
    clear hcc hx hkl HK HSt hNW hLA hxn hxt hO2 hO3 hO4 s0 hb
    go_upto_region 8 with fail
    go_cut [41]from 17 to 84 (fun s wx=>s= .bool NW/\Hid (Below W0.heap.size W0 wx))
    case first=>
     have hS0:Below W0.heap.size W0 wr.drew:=HB.out.trans ((bel:Below wr.heap.size wr _).mono HB.out.size)
     rcases k with _|m
     ·obtain rfl:NW=true:=by rw[<-HNW.out];simp[newA]
      refine zai 17 [(0,true),(1,true),(2,true),(3,true),(4,true),(5,true),(6,true),(7,true),(8,true),(9,true),(10,true),(11,true),(12,true),(13,true),(14,true),(15,true),(16,true)] (fun V=>Below W0.heap.size W0 V) hmx (by kernel_rfl) (by kernel_rfl) (by kernel_rfl) (by decide) rfl (fun c a d v w h=>by first|exact h|(obtain⟨x,y⟩:=(h:_/\_);cases d<;>exact⟨x,y⟩)) (by kernel_rfl) (by exact hS0) ?_
      refine zaa (v:= .int .i64 0) 24 rfl rfl rfl (fun W hW=>by simp[execOp,go_sem]) ?_
      simp only[Act.put,z2d,z2f,z2e]
      refine zaa (v:= .bool true) 25 rfl rfl rfl (fun W hW=>by simp[execOp,go_sem]) ?_
      simp only[Act.put,z2d,z2f,z2e]
      refine zaa (v:= .bool true) 26 rfl rfl rfl (fun W hW=>by simp[execOp,go_sem]) ?_
      simp only[Act.put,z2d,z2f,z2e]
      refine zab 27 rfl rfl rfl ?_
      simp only[Act.put,z2d,z2f,z2e]
      refine zab 28 rfl rfl rfl ?_
      simp only[Act.put,z2d,z2f,z2e]
      refine zab 29 rfl rfl rfl ?_
      simp only[Act.put,z2d,z2f,z2e]
      refine zab 30 rfl rfl rfl ?_
      simp only[Act.put,z2d,z2f,z2e]
      refine zab 31 rfl rfl rfl ?_
      simp only[Act.put,z2d,z2f,z2e]
      refine zab 32 rfl rfl rfl ?_
      simp only[Act.put,z2d,z2f,z2e]
      refine zab 33 rfl rfl rfl ?_
      simp only[Act.put,z2d,z2f,z2e]
      refine zab 34 rfl rfl rfl ?_
      simp only[Act.put,z2d,z2f,z2e]
      refine zab 35 rfl rfl rfl ?_
      simp only[Act.put,z2d,z2f,z2e]
      refine zab 36 rfl rfl rfl ?_
      simp only[Act.put,z2d,z2f,z2e]
      refine zab 37 rfl rfl rfl ?_
      simp only[Act.put,z2d,z2f,z2e]
      refine zab 38 rfl rfl rfl ?_
      simp only[Act.put,z2d,z2f,z2e]
      refine zab 39 rfl rfl rfl ?_
      simp only[Act.put,z2d,z2f,z2e]
      refine zab 40 rfl rfl rfl ?_
      simp only[Act.put,z2d,z2f,z2e]
      dsimp only[zbe,z3t]
      go_wp2_with fail
      go_meet
      case rel=>exact⟨rfl,by show Below _ _ _;exact hS0.trans ((bel:Below wr.drew.heap.size wr.drew _).mono hS0.size)⟩
     ·have hm:m<p.attrs.length:=by have:=HN4.out;omega
      have f0:=HC0.out m hm
      obtain⟨y,hy⟩: ∃y,p.attrs[m]=y:=⟨_,rfl⟩
      rw[hy]at f0
      have hlm:m<n4:=by omega
      have hNv:NW= !decide (x.tag=y.tag):=by rw[<-HNW.out];unfold newA;rw[HX.out,Nat.add_sub_cancel,z4o,z2r hm,hy];simp
      have hq:=HEt.out y.tag
      obtain⟨Q,hQ⟩: ∃r,decide (x.tag=y.tag)=r:=⟨_,rfl⟩
      rw[hQ]at hNv hq
      subst hNv
      clear hy hQ
      generalize(⟨y.tag.toArray⟩:ByteArray)=yt at*
      have hz0:((m:Int)+1==0)=false:=by simp;omega
      have hws:IntKind.i64.wrap (m:Int)=(m:Int):=IntWalk.i64_in _ (by omega)
      refine zai 17 [(0,true),(1,true),(2,true),(3,true),(4,true),(5,true),(6,true),(7,true),(8,true),(9,true),(10,true),(11,true),(12,true),(13,true),(14,true),(15,true),(16,true)] (fun V=>Below W0.heap.size W0 V) hmx (by kernel_rfl) (by kernel_rfl) (by kernel_rfl) (by decide) rfl (fun c a d v w h=>by first|exact h|(obtain⟨x,y⟩:=(h:_/\_);cases d<;>exact⟨x,y⟩)) (by kernel_rfl) (by exact hS0) ?_
      refine zaa (v:= .int .i64 (m+1:Nat)) 24 rfl rfl rfl (fun W hW=>by simp[execOp,go_sem]) ?_
      simp only[Act.put,z2d,z2f,z2e]
      refine zaa (v:= .bool false) 25 rfl rfl rfl (fun W hW=>by simp[execOp,go_sem];try omega) ?_
      simp only[Act.put,z2d,z2f,z2e]
      refine zaa (v:= .bool false) 26 rfl rfl rfl (fun W hW=>by simp[execOp,go_sem]) ?_
      simp only[Act.put,z2d,z2f,z2e]
      refine zaa (v:= .pointer (some ⟨B,4,none⟩)) 27 rfl rfl rfl (fun W hW=>by simp[execOp,go_sem]) ?_
      simp only[Act.put,z2d,z2f,z2e]
      refine zaa (v:= .slice (some ⟨b,off,none⟩) n4 k4) 28 rfl rfl rfl (fun W hW=>by have q:=(hW.cell (p:=⟨B,4,none⟩) hBl).trans c4;simp[execOp,go_sem,q]) ?_
      simp only[Act.put,z2d,z2f,z2e]
      refine zaa (v:= .int .i64 (m+1:Nat)) 29 rfl rfl rfl (fun W hW=>by simp[execOp,go_sem]) ?_
      simp only[Act.put,z2d,z2f,z2e]
      refine zaa (v:= .pointer (some ⟨b,off+(m+1)*2,none⟩)) 30 rfl rfl rfl (fun W hW=>by simp[execOp,go_sem];try omega) ?_
      simp only[Act.put,z2d,z2f,z2e]
      refine zaa (v:= .pointer (some ⟨b,off+(m+1)*2,none⟩)) 31 rfl rfl rfl (fun W hW=>by simp[execOp,go_sem]) ?_
      simp only[Act.put,z2d,z2f,z2e]
      refine zaa (v:= .string xt) 32 rfl rfl rfl (fun W hW=>by have q:=(hW.cell (p:=⟨b,off+(m+1)*2,none⟩) hbw).trans e0;simp[execOp,go_sem,q]) ?_
      simp only[Act.put,z2d,z2f,z2e]
      refine zaa (v:= .pointer (some ⟨B,4,none⟩)) 33 rfl rfl rfl (fun W hW=>by simp[execOp,go_sem]) ?_
      simp only[Act.put,z2d,z2f,z2e]
      refine zaa (v:= .slice (some ⟨b,off,none⟩) n4 k4) 34 rfl rfl rfl (fun W hW=>by have q:=(hW.cell (p:=⟨B,4,none⟩) hBl).trans c4;simp[execOp,go_sem,q]) ?_
      simp only[Act.put,z2d,z2f,z2e]
      refine zaa (v:= .int .i64 (m+1:Nat)) 35 rfl rfl rfl (fun W hW=>by simp[execOp,go_sem]) ?_
      simp only[Act.put,z2d,z2f,z2e]
      refine zaa (v:= .int .i64 (m:Nat)) 36 rfl rfl rfl (fun W hW=>by simp[execOp,go_sem,hws]) ?_
      simp only[Act.put,z2d,z2f,z2e]
      refine zaa (v:= .pointer (some ⟨b,off+(m)*2,none⟩)) 37 rfl rfl rfl (fun W hW=>by simp[execOp,go_sem,hlm];try omega) ?_
      simp only[Act.put,z2d,z2f,z2e]
      refine zaa (v:= .pointer (some ⟨b,off+(m)*2,none⟩)) 38 rfl rfl rfl (fun W hW=>by simp[execOp,go_sem]) ?_
      simp only[Act.put,z2d,z2f,z2e]
      refine zaa (v:= .string yt) 39 rfl rfl rfl (fun W hW=>by have q:=(hW.cell (p:=⟨b,off+(m)*2,none⟩) hbw).trans f0;simp[execOp,go_sem,q]) ?_
      simp only[Act.put,z2d,z2f,z2e]
      refine zaa (v:= .bool (!Q)) 40 rfl rfl rfl (fun W hW=>by simp[execOp,go_sem,hq]) ?_
      simp only[Act.put,z2d,z2f,z2e]
      dsimp only[zbe,z3t]
      go_wp2_with fail
      go_meet
      case rel=>exact⟨rfl,by show Below _ _ _;exact hS0.trans ((bel:Below wr.drew.heap.size wr.drew _).mono hS0.size)⟩
    case rest=>
     obtain⟨rfl,HBa⟩:=hcut
     clear HB r4 hbr0
     try apply_assumption
     have r4:=(HBa.out.cell (p:=⟨B,4,none⟩) hBl).trans c4
     have x0:=(HBa.out.cell (p:=⟨b,off+k*2,none⟩) hbw).trans e0
     have hbr0:=z2h hBl HBa.out.size
     have hbr1:=z2h hbw HBa.out.size
     go_upto_if 41 with fail
     go_cut [5]from 17 to 84 (fun s wx=>s= .string O2/\Hid (Below W0.heap.size W0 wx))
     case first=>
      cases NW with
      |true=>
       have sx:=HS0.out rfl
       have hO:=HO2.out
       rw[if_pos rfl]at hO
       have HOo:=z2g hO
       clear hO
       go_wp2_with fail
       rw[HOo.out]
       go_meet
       case rel=>exact⟨rfl,by show Below _ _ _;exact HBa.out.trans ((bel).mono HBa.out.size)⟩
      |false=>
       obtain rfl:O=O2:=HO2.out
       go_wp2_with fail
       go_meet
       case rel=>exact⟨rfl,by show Below _ _ _;exact HBa.out.trans ((bel).mono HBa.out.size)⟩
     case rest=>
      obtain⟨rfl,HBb⟩:=hcut
      clear r4 x0 hbr0 hbr1 HBa
      try apply_assumption
      have r4:=(HBb.out.cell (p:=⟨B,4,none⟩) hBl).trans c4
      have x1:=(HBb.out.cell (p:=⟨b,off+k*2+1,none⟩) hbw).trans e1
      have hbr0:=z2h hBl HBb.out.size
      have hbr1:=z2h hbw HBb.out.size
      go_upto_region 11 with fail
      rw[HO3.out]
      clear r4 x1 hbr0 hbr1
      go_cut [82]from 17 to 84 (fun s wx=>s= .bool LA/\Hid (Below W0.heap.size W0 wx))
      case first=>
       by_cases hl:k+1=n4
       ·obtain rfl:LA=true:=by rw[<-HLA.out];unfold zom;rw[HN4.out,decide_eq_true hl];rfl
        subst hl
        have hws:IntKind.i64.wrap (k:Int)=(k:Int):=IntWalk.i64_in _ (by omega)
        refine zai 21 [(0,true),(1,true),(2,true),(3,true),(4,true),(5,true),(6,true),(7,true),(8,true),(9,true),(10,true),(11,true),(12,true),(13,true),(14,true),(15,true),(16,true),(17,true),(18,true),(19,true),(20,true)] (fun V=>Below W0.heap.size W0 V) hmx (by kernel_rfl) (by kernel_rfl) (by kernel_rfl) (by decide) rfl (fun c a d v w h=>by first|exact h|(obtain⟨x,y⟩:=(h:_/\_);cases d<;>exact⟨x,y⟩)) (by kernel_rfl) (by exact show Below _ _ _ from HBb.out.trans ((bel).mono HBb.out.size)) ?_
        refine zaa (v:= .int .i64 (k:Nat)) 61 rfl rfl rfl (fun W hW=>by simp[execOp,go_sem]) ?_
        simp only[Act.put,z2d,z2f,z2e]
        refine zaa (v:= .pointer (some ⟨B,4,none⟩)) 62 rfl rfl rfl (fun W hW=>by simp[execOp,go_sem]) ?_
        simp only[Act.put,z2d,z2f,z2e]
        refine zaa (v:= .slice (some ⟨b,off,none⟩) (k+1) k4) 63 rfl rfl rfl (fun W hW=>by have q:=(hW.cell (p:=⟨B,4,none⟩) hBl).trans c4;simp[execOp,go_sem,q]) ?_
        simp only[Act.put,z2d,z2f,z2e]
        refine zaa (v:= .int .i64 (k+1:Nat)) 64 rfl rfl rfl (fun W hW=>by simp[execOp,go_sem]) ?_
        simp only[Act.put,z2d,z2f,z2e]
        refine zaa (v:= .int .i64 (k:Nat)) 65 rfl rfl rfl (fun W hW=>by simp[execOp,go_sem,hws]) ?_
        simp only[Act.put,z2d,z2f,z2e]
        refine zaa (v:= .bool true) 66 rfl rfl rfl (fun W hW=>by simp[execOp,go_sem]) ?_
        simp only[Act.put,z2d,z2f,z2e]
        refine zaa (v:= .bool true) 67 rfl rfl rfl (fun W hW=>by simp[execOp,go_sem]) ?_
        simp only[Act.put,z2d,z2f,z2e]
        refine zab 68 rfl rfl rfl ?_
        simp only[Act.put,z2d,z2f,z2e]
        refine zab 69 rfl rfl rfl ?_
        simp only[Act.put,z2d,z2f,z2e]
        refine zab 70 rfl rfl rfl ?_
        simp only[Act.put,z2d,z2f,z2e]
        refine zab 71 rfl rfl rfl ?_
        simp only[Act.put,z2d,z2f,z2e]
        refine zab 72 rfl rfl rfl ?_
        simp only[Act.put,z2d,z2f,z2e]
        refine zab 73 rfl rfl rfl ?_
        simp only[Act.put,z2d,z2f,z2e]
        refine zab 74 rfl rfl rfl ?_
        simp only[Act.put,z2d,z2f,z2e]
        refine zab 75 rfl rfl rfl ?_
        simp only[Act.put,z2d,z2f,z2e]
        refine zab 76 rfl rfl rfl ?_
        simp only[Act.put,z2d,z2f,z2e]
        refine zab 77 rfl rfl rfl ?_
        simp only[Act.put,z2d,z2f,z2e]
        refine zab 78 rfl rfl rfl ?_
        simp only[Act.put,z2d,z2f,z2e]
        refine zab 79 rfl rfl rfl ?_
        simp only[Act.put,z2d,z2f,z2e]
        refine zab 80 rfl rfl rfl ?_
        simp only[Act.put,z2d,z2f,z2e]
        refine zab 81 rfl rfl rfl ?_
        simp only[Act.put,z2d,z2f,z2e]
        dsimp only[zbe,z3t]
        go_wp2_with fail
        go_meet
        case rel=>exact⟨rfl,by show Below _ _ _;exact HBb.out.trans ((bel).mono HBb.out.size)⟩
       ·obtain⟨N,rfl⟩: ∃N,n4=N+1:=⟨n4-1,by omega⟩
        have hm:k+1<p.attrs.length:=by have:=HN4.out;omega
        have f0:=HC0.out (k+1) hm
        obtain⟨y,hy⟩: ∃y,p.attrs[k+1]=y:=⟨_,rfl⟩
        rw[hy]at f0
        have hlm:k+1<N+1:=by omega
        have hLv:LA= !decide (x.tag=y.tag):=by rw[<-HLA.out];unfold zom;rw[HX.out,HN4.out,decide_eq_false hl,z4o,z2r hm,hy];simp
        have hq:=HEt.out y.tag
        obtain⟨Q,hQ⟩: ∃r,decide (x.tag=y.tag)=r:=⟨_,rfl⟩
        rw[hQ]at hLv hq
        subst hLv
        clear hy hQ
        generalize(⟨y.tag.toArray⟩:ByteArray)=yt at*
        have hz0:((k:Int)==(N:Int))=false:=by simp;omega
        have hws:IntKind.i64.wrap (N:Int)=(N:Int):=IntWalk.i64_in _ (by omega)
        have hwk:IntKind.i64.wrap ((k:Int)+1)=(k:Int)+1:=IntWalk.i64_in _ (by omega)
        refine zai 21 [(0,true),(1,true),(2,true),(3,true),(4,true),(5,true),(6,true),(7,true),(8,true),(9,true),(10,true),(11,true),(12,true),(13,true),(14,true),(15,true),(16,true),(17,true),(18,true),(19,true),(20,true)] (fun V=>Below W0.heap.size W0 V) hmx (by kernel_rfl) (by kernel_rfl) (by kernel_rfl) (by decide) rfl (fun c a d v w h=>by first|exact h|(obtain⟨x,y⟩:=(h:_/\_);cases d<;>exact⟨x,y⟩)) (by kernel_rfl) (by exact show Below _ _ _ from HBb.out.trans ((bel).mono HBb.out.size)) ?_
        refine zaa (v:= .int .i64 (k:Nat)) 61 rfl rfl rfl (fun W hW=>by simp[execOp,go_sem]) ?_
        simp only[Act.put,z2d,z2f,z2e]
        refine zaa (v:= .pointer (some ⟨B,4,none⟩)) 62 rfl rfl rfl (fun W hW=>by simp[execOp,go_sem]) ?_
        simp only[Act.put,z2d,z2f,z2e]
        refine zaa (v:= .slice (some ⟨b,off,none⟩) (N+1) k4) 63 rfl rfl rfl (fun W hW=>by have q:=(hW.cell (p:=⟨B,4,none⟩) hBl).trans c4;simp[execOp,go_sem,q]) ?_
        simp only[Act.put,z2d,z2f,z2e]
        refine zaa (v:= .int .i64 (N+1:Nat)) 64 rfl rfl rfl (fun W hW=>by simp[execOp,go_sem]) ?_
        simp only[Act.put,z2d,z2f,z2e]
        refine zaa (v:= .int .i64 (N:Nat)) 65 rfl rfl rfl (fun W hW=>by simp[execOp,go_sem,hws]) ?_
        simp only[Act.put,z2d,z2f,z2e]
        refine zaa (v:= .bool false) 66 rfl rfl rfl (fun W hW=>by simp[execOp,go_sem];try omega) ?_
        simp only[Act.put,z2d,z2f,z2e]
        refine zaa (v:= .bool false) 67 rfl rfl rfl (fun W hW=>by simp[execOp,go_sem]) ?_
        simp only[Act.put,z2d,z2f,z2e]
        refine zaa (v:= .pointer (some ⟨B,4,none⟩)) 68 rfl rfl rfl (fun W hW=>by simp[execOp,go_sem]) ?_
        simp only[Act.put,z2d,z2f,z2e]
        refine zaa (v:= .slice (some ⟨b,off,none⟩) (N+1) k4) 69 rfl rfl rfl (fun W hW=>by have q:=(hW.cell (p:=⟨B,4,none⟩) hBl).trans c4;simp[execOp,go_sem,q]) ?_
        simp only[Act.put,z2d,z2f,z2e]
        refine zaa (v:= .int .i64 (k:Nat)) 70 rfl rfl rfl (fun W hW=>by simp[execOp,go_sem]) ?_
        simp only[Act.put,z2d,z2f,z2e]
        refine zaa (v:= .pointer (some ⟨b,off+(k)*2,none⟩)) 71 rfl rfl rfl (fun W hW=>by simp[execOp,go_sem];try omega) ?_
        simp only[Act.put,z2d,z2f,z2e]
        refine zaa (v:= .pointer (some ⟨b,off+(k)*2,none⟩)) 72 rfl rfl rfl (fun W hW=>by simp[execOp,go_sem]) ?_
        simp only[Act.put,z2d,z2f,z2e]
        refine zaa (v:= .string xt) 73 rfl rfl rfl (fun W hW=>by have q:=(hW.cell (p:=⟨b,off+(k)*2,none⟩) hbw).trans e0;simp[execOp,go_sem,q]) ?_
        simp only[Act.put,z2d,z2f,z2e]
        refine zaa (v:= .pointer (some ⟨B,4,none⟩)) 74 rfl rfl rfl (fun W hW=>by simp[execOp,go_sem]) ?_
        simp only[Act.put,z2d,z2f,z2e]
        refine zaa (v:= .slice (some ⟨b,off,none⟩) (N+1) k4) 75 rfl rfl rfl (fun W hW=>by have q:=(hW.cell (p:=⟨B,4,none⟩) hBl).trans c4;simp[execOp,go_sem,q]) ?_
        simp only[Act.put,z2d,z2f,z2e]
        refine zaa (v:= .int .i64 (k:Nat)) 76 rfl rfl rfl (fun W hW=>by simp[execOp,go_sem]) ?_
        simp only[Act.put,z2d,z2f,z2e]
        refine zaa (v:= .int .i64 (k+1:Nat)) 77 rfl rfl rfl (fun W hW=>by simp[execOp,go_sem,hwk]) ?_
        simp only[Act.put,z2d,z2f,z2e]
        refine zaa (v:= .pointer (some ⟨b,off+(k+1)*2,none⟩)) 78 rfl rfl rfl (fun W hW=>by simp[execOp,go_sem];try omega) ?_
        simp only[Act.put,z2d,z2f,z2e]
        refine zaa (v:= .pointer (some ⟨b,off+(k+1)*2,none⟩)) 79 rfl rfl rfl (fun W hW=>by simp[execOp,go_sem]) ?_
        simp only[Act.put,z2d,z2f,z2e]
        refine zaa (v:= .string yt) 80 rfl rfl rfl (fun W hW=>by have q:=(hW.cell (p:=⟨b,off+(k+1)*2,none⟩) hbw).trans f0;simp[execOp,go_sem,q]) ?_
        simp only[Act.put,z2d,z2f,z2e]
        refine zaa (v:= .bool (!Q)) 81 rfl rfl rfl (fun W hW=>by simp[execOp,go_sem,hq]) ?_
        simp only[Act.put,z2d,z2f,z2e]
        dsimp only[zbe,z3t]
        go_wp2_with fail
        go_meet
        case rel=>exact⟨rfl,by show Below _ _ _;exact HBb.out.trans ((bel).mono HBb.out.size)⟩
      case rest=>
       obtain⟨rfl,HBc⟩:=hcut
       clear HBb
       try apply_assumption
       cases LA with
       |true=>
        have hO:=HO4.out
        rw[if_pos rfl]at hO
        have HOo:=z2g hO
        clear hO
        go_wp2_with fail
        go_roundw
        case rel=>exact⟨k+1,_,by omega,by go_num,rfl,by show _=_;rw[HOo.out];exact HKn.out,by show Below _ _ _;exact HBc.out.trans ((bel).mono HBc.out.size)⟩
        case measure=>simp[intOf];omega
       |false=>
        obtain rfl:O3=O4:=HO4.out
        go_wp2_with fail
        go_roundw
        case rel=>exact⟨k+1,_,by omega,by go_num,rfl,HKn.out,by show Below _ _ _;exact HBc.out.trans ((bel).mono HBc.out.size)⟩
        case measure=>simp[intOf];omega
   ·have hOA:O=SA:=by
     rw[<-HK.out,zxm (by rw[HN4.out];omega)]
     exact zb7 (by simp)
    rw[hOA]
    clear HK H4 hOA
    go_upto_region 13 with fail
    refine zaf fun W2 hW2=> ?_
    have hb2:Below W0.heap.size W0 W2:=by rw[hW2];exact HB.out.trans ((bel:Below wr.heap.size wr _).mono HB.out.size)
    have hw0:Below W0.heap.size W0 W2.drew:=hb2.trans ((bel:Below W2.heap.size W2 _).mono hb2.size)
    clear hW2 r4 hbr0 HB hlt
    refine zai 13 [(0,true),(1,true),(2,true),(5,true),(6,true),(9,true),(10,true),(3,false),(4,true),(7,false),(8,true),(11,false),(12,true)] (fun V=>Below W0.heap.size W0 V) hmx (by kernel_rfl) (by kernel_rfl) (by kernel_rfl) (by decide) rfl (fun c a d v w h=>by first|exact h|(obtain⟨x,y⟩:=(h:_/\_);cases d<;>exact⟨x,y⟩)) (by kernel_rfl) (by exact hw0) ?_
    refine zaa (v:= .string SA) 85 rfl rfl rfl (fun W hW=>by simp[execOp,go_sem]) ?_
    simp only[Act.put,z2d,z2f,z2e]
    refine zaa (v:= .pointer (some ⟨B,1,none⟩)) 86 rfl rfl rfl (fun W hW=>by simp[execOp,go_sem]) ?_
    simp only[Act.put,z2d,z2f,z2e]
    refine zaa (v:= .slice A1 (fN p 1) k1) 87 rfl rfl rfl (fun W hW=>by have q:=(hW.cell (p:=⟨B,1,none⟩) hBl).trans c1;simp[execOp,go_sem,q]) ?_
    simp only[Act.put,z2d,z2f,z2e]
    refine zaa (v:= .pointer (some ⟨B,2,none⟩)) 90 rfl rfl rfl (fun W hW=>by simp[execOp,go_sem]) ?_
    simp only[Act.put,z2d,z2f,z2e]
    refine zaa (v:= .slice A2 (fN p 2) k2) 91 rfl rfl rfl (fun W hW=>by have q:=(hW.cell (p:=⟨B,2,none⟩) hBl).trans c2;simp[execOp,go_sem,q]) ?_
    simp only[Act.put,z2d,z2f,z2e]
    refine zaa (v:= .pointer (some ⟨B,3,none⟩)) 94 rfl rfl rfl (fun W hW=>by simp[execOp,go_sem]) ?_
    simp only[Act.put,z2d,z2f,z2e]
    refine zaa (v:= .slice A3 (fN p 3) k3) 95 rfl rfl rfl (fun W hW=>by have q:=(hW.cell (p:=⟨B,3,none⟩) hBl).trans c3;simp[execOp,go_sem,q]) ?_
    simp only[Act.put,z2d,z2f,z2e]
    refine zaj rfl rfl ?_
    intro Kc hKc
    unfold Oper.wp
    simp[execOp,go_sem]
    refine(HN1.out _ (HB0.out.trans (hw0.mono HB0.out.size))).mono ?_
    rintro e V1 ⟨rfl,X1,hV1⟩
    have hw1:Below W0.heap.size W0 V1:=hw0.trans ((show Below _ _ V1 by rw[hV1];exact zal _ _).mono hw0.size)
    clear hV1
    apply hKc
    refine⟨hw1, ?_⟩
    try simp only[Act.put,z2d,z2f,z2e]
    refine zaa (v:= .string (SA++S1)) 89 rfl rfl rfl (fun W hW=>by simp[execOp,go_sem];try omega) ?_
    simp only[Act.put,z2d,z2f,z2e]
    refine zaj rfl rfl ?_
    intro Kc hKc
    unfold Oper.wp
    simp[execOp,go_sem]
    refine(HN2.out _ (HB0.out.trans (hw1.mono HB0.out.size))).mono ?_
    rintro e V2 ⟨rfl,X2,hV2⟩
    have hw2:Below W0.heap.size W0 V2:=hw1.trans ((show Below _ _ V2 by rw[hV2];exact zal _ _).mono hw1.size)
    clear hV2
    apply hKc
    refine⟨hw2, ?_⟩
    try simp only[Act.put,z2d,z2f,z2e]
    refine zaa (v:= .string (SA++S1++S2)) 93 rfl rfl rfl (fun W hW=>by simp[execOp,go_sem];try omega) ?_
    simp only[Act.put,z2d,z2f,z2e]
    refine zaj rfl rfl ?_
    intro Kc hKc
    unfold Oper.wp
    simp[execOp,go_sem]
    refine(HN3.out _ (HB0.out.trans (hw2.mono HB0.out.size))).mono ?_
    rintro e V3 ⟨rfl,X3,hV3⟩
    have hw3:Below W0.heap.size W0 V3:=hw2.trans ((show Below _ _ V3 by rw[hV3];exact zal _ _).mono hw2.size)
    clear hV3
    apply hKc
    refine⟨hw3, ?_⟩
    try simp only[Act.put,z2d,z2f,z2e]
    refine zaa (v:= .string (SA++S1++S2++S3)) 97 rfl rfl rfl (fun W hW=>by simp[execOp,go_sem];try omega) ?_
    simp only[Act.put,z2d,z2f,z2e]
    dsimp only[zbe,z3t]
    rw[HHd.out]
    have hbr0:=z2h hBl hw3.size
    have d6:=(hw3.cell (p:=⟨B,6,none⟩) hBl).trans c6
    obtain⟨HP,hHP⟩: ∃r:ByteArray,⟨(zdt p).toArray⟩=r:=⟨_,rfl⟩
    have hHz:HP.size<=17592186044416:=by rw[<-hHP];exact hHl
    rw[hHP]
    obtain⟨rl,hrl⟩: ∃r,p.rel=r:=⟨_,rfl⟩
    rw[hrl]at d6
    have HRl:Hid (HP++(if rl=true then⟨#[114,101,108,97,116,105,118,101,32,121,101,115,59,10]⟩else⟨#[114,101,108,97,116,105,118,101,32,110,111,59,10]⟩)=⟨(zdt p++relX p).toArray⟩):=by
     show _=_
     rw[<-hHP]
     unfold relX
     rw[hrl]
     refine zb7 ?_
     cases rl<;>simp[sayS,reT,zck,Lib.joinTail]
    have HW3:=z2g hw3
    clear hHP hHl hrl hw0 hw1 hw2 hw3 HHd HN1 HN2 HN3 u1 u2 u3 c0 c1 c2 c3 c4
    go_upto_if 99 with fail
    go_cut [5]from 17 to 103 (fun s wx=>s= .string ⟨(zdt p++relX p).toArray⟩/\Hid (Below W0.heap.size W0 wx))
    case first=>
     cases rl with
     |true=>
      have h:=HRl.out
      rw[if_pos rfl]at h
      have H:=z2g h
      clear h HRl
      go_wp2_with fail
      rw[H.out]
      go_meet
      case rel=>exact⟨rfl,by show Below _ _ _;exact HW3.out.trans ((bel).mono HW3.out.size)⟩
     |false=>
      have h:=HRl.out
      rw[if_neg (by decide)]at h
      have H:=z2g h
      clear h HRl
      go_wp2_with fail
      rw[H.out]
      go_meet
      case rel=>exact⟨rfl,by show Below _ _ _;exact HW3.out.trans ((bel).mono HW3.out.size)⟩
    case rest=>
     obtain⟨rfl,HBd⟩:=hcut
     clear d6 hbr0 HW3 HRl
     try apply_assumption
     obtain⟨TX,hTX⟩: ∃T:ByteArray,⟨(txP p).toArray⟩=T:=⟨_,rfl⟩
     have hsT:TX.size=(txP p).length:=by rw[<-hTX];show(txP p).toArray.size=_;simp
     have hsT2:TX.size<=17592186044416:=by rw[hsT];exact HTx.out
     have HL5:Hid ((⟨(zdt p++relX p).toArray⟩:ByteArray)++⟨((p.forces.drop 0).flatMap zge++zif p).toArray⟩=TX):=by
      show _=_
      rw[<-hTX]
      refine zb7 ?_
      rw[List.drop_zero]
      simp[txP]
     have HsT:=z2g hsT
     have HTX:=z2g hTX
     clear hTX hsT
     generalize(⟨(zdt p++relX p).toArray⟩:ByteArray)=O0 at*
     go_wp2_with fail
     go_loopw [5,7] (fun o i wr=> ∃(k:Nat) (O:ByteArray),k<=n5/\i= .int .i64 (k:Nat)/\o= .string O/\Hid (O++⟨((p.forces.drop k).flatMap zge++zif p).toArray⟩=TX)/\Hid (Below W0.heap.size W0 wr)) (fun _ i _=>n5-(intOf i).toNat)
     case atStart=>exact⟨0,_,by omega,rfl,rfl,HL5.out,by show Below _ _ _;exact HBd.out.trans ((bel).mono HBd.out.size)⟩
     case round=>
      clear HL5 HBd
      obtain⟨k,O,hk,rfl,rfl,HK,HB⟩:=hrel
      have r5:=(HB.out.cell (p:=⟨B,5,none⟩) hBl).trans c5
      have hbr0:B<wr.heap.size:=z2h hBl HB.out.size
      by_cases hlt:k<n5
      ·obtain⟨b,off,hAe,hb,hcc⟩: ∃b off,A5=some ⟨b,off,none⟩/\b<w.heap.size/\ ∀j u,(fC p 5)[j]? =some u->w.cell? ⟨b,off+j,none⟩=some u:=by
        obtain⟨_,_,A',c',e,h9⟩:=H5.out
        cases e
        obtain⟨b,off,h1,h2,h3⟩:=h9 (by omega)
        exact⟨b,off,h1,h2,h3⟩
       subst hAe
       have hkl:k<p.forces.length:=by rw[HN5.out];exact hlt
       obtain⟨x,hx⟩: ∃x,p.forces[k]=x:=⟨_,rfl⟩
       have htx:=HTx5.out x (by rw[<-hx];exact List.getElem_mem hkl)
       have hbw:b<W0.heap.size:=z2h hb HB0.out.size
       have e0:W0.cell? ⟨b,off+k*3,none⟩=some (.string ⟨x.tag.toArray⟩):=(HB0.out.cell (p:=⟨b,off+k*3,none⟩) hb).trans (hcc (k*3+0) (sv x.tag) (by show(p.forces.flatMap Frc.cells)[_]? =_;rw[za1 Frc.cells 3 (fun _=>rfl) p.forces k 0 hkl (by omega),hx];rfl))
       have e1:W0.cell? ⟨b,off+k*3+1,none⟩=some (.string ⟨x.name.toArray⟩):=(HB0.out.cell (p:=⟨b,off+k*3+1,none⟩) hb).trans ((congrArg (fun i=>w.cell? ⟨b,i,none⟩) (by omega)).trans (hcc (k*3+1) (sv x.name) (by show(p.forces.flatMap Frc.cells)[_]? =_;rw[za1 Frc.cells 3 (fun _=>rfl) p.forces k 1 hkl (by omega),hx];rfl)))
       have e2:W0.cell? ⟨b,off+k*3+2,none⟩=some (.string ⟨x.value.toArray⟩):=(HB0.out.cell (p:=⟨b,off+k*3+2,none⟩) hb).trans ((congrArg (fun i=>w.cell? ⟨b,i,none⟩) (by omega)).trans (hcc (k*3+2) (sv x.value) (by show(p.forces.flatMap Frc.cells)[_]? =_;rw[za1 Frc.cells 3 (fun _=>rfl) p.forces k 2 hkl (by omega),hx];rfl)))
       obtain⟨ok,HQ⟩:=zpn x.value htx.2.2
       obtain⟨tg,htg⟩: ∃r:ByteArray,⟨x.tag.toArray⟩=r:=⟨_,rfl⟩
       obtain⟨nm,hnm⟩: ∃r:ByteArray,⟨x.name.toArray⟩=r:=⟨_,rfl⟩
       obtain⟨vl,hvl⟩: ∃r:ByteArray,⟨x.value.toArray⟩=r:=⟨_,rfl⟩
       obtain⟨qv,hqv⟩: ∃r:ByteArray,⟨(quoV x.value).toArray⟩=r:=⟨_,rfl⟩
       obtain⟨ON,hON⟩: ∃r:ByteArray,O++⟨#[102,111,114,99,101,32]⟩++tg++⟨#[32]⟩++nm++⟨#[32]⟩++qv++⟨#[59,10]⟩=r:=⟨_,rfl⟩
       have HKn:Hid (ON++⟨((p.forces.drop (k+1)).flatMap zge++zif p).toArray⟩=TX):=by
        show _=_
        rw[<-HK.out,List.drop_eq_getElem_cons hkl,List.flatMap_cons,hx,<-hON,<-htg,<-hnm,<-hqv]
        refine zb7 ?_
        simp[zge,sayS,foT,zck,Lib.joinTail]
       have s9:ON.size<=17592186044416:=by have:=congrArg ByteArray.size HKn.out;rw[ByteArray.size_append]at this;omega
       have s8:O.size<=17592186044416/\tg.size<=17592186044416/\nm.size<=17592186044416/\qv.size<=17592186044416/\O.size+tg.size+nm.size+qv.size<=17592186044416:=by
        rw[<-hON]at s9
        simp only[ByteArray.size_append]at s9
        omega
       obtain⟨s1,s2,s3,s4,s5⟩:=s8
       have HON:=z2g hON
       rw[htg]at e0
       rw[hnm]at e1
       rw[hvl]at e2
       rw[hvl,hqv]at HQ
       have HQ:=z2g HQ
       clear hcc hx hkl HK htx htg hnm hvl hqv hON hb
       have x2:=(HB.out.cell (p:=⟨b,off+k*3+2,none⟩) hbw).trans e2
       have hbr1:=z2h hbw HB.out.size
       go_upto_region 21 with(go_at_call 65;(with_reducible refine(HQ.out _).mono ?_);rintro e Wq ⟨rfl,Xq,rfl⟩)
       refine zaf fun W2 hW2=> ?_
       have hb2:Below W0.heap.size W0 W2:=by rw[hW2];exact HB.out.trans ((bel:Below wr.heap.size wr _).mono HB.out.size)
       have hw0:Below W0.heap.size W0 W2.drew:=hb2.trans ((bel:Below W2.heap.size W2 _).mono hb2.size)
       clear hW2 r5 hbr0 hbr1 x2 HB
       refine zai 21 [(0,true),(1,true),(2,true),(3,true),(4,true),(5,true),(6,true),(7,true),(8,true),(9,true),(10,true),(11,true),(12,true),(13,true),(14,true),(15,true),(16,true),(17,true),(18,true),(19,true),(20,true)] (fun V=>Below W0.heap.size W0 V) hmx (by kernel_rfl) (by kernel_rfl) (by kernel_rfl) (by decide) rfl (fun c a d v w h=>by first|exact h|(obtain⟨x,y⟩:=(h:_/\_);cases d<;>exact⟨x,y⟩)) (by kernel_rfl) (by exact hw0) ?_
       refine zaa (v:= .string O) 121 rfl rfl rfl (fun W hW=>by simp[execOp,go_sem]) ?_
       simp only[Act.put,z2d,z2f,z2e]
       refine zaa (v:= .string (O++⟨#[102,111,114,99,101,32]⟩)) 122 rfl rfl rfl (fun W hW=>by simp[execOp,go_sem];try omega) ?_
       simp only[Act.put,z2d,z2f,z2e]
       refine zaa (v:= .pointer (some ⟨B,5,none⟩)) 123 rfl rfl rfl (fun W hW=>by simp[execOp,go_sem]) ?_
       simp only[Act.put,z2d,z2f,z2e]
       refine zaa (v:= .slice (some ⟨b,off,none⟩) n5 k5) 124 rfl rfl rfl (fun W hW=>by have q:=(hW.cell (p:=⟨B,5,none⟩) hBl).trans c5;simp[execOp,go_sem,q]) ?_
       simp only[Act.put,z2d,z2f,z2e]
       refine zaa (v:= .int .i64 (k:Nat)) 125 rfl rfl rfl (fun W hW=>by simp[execOp,go_sem]) ?_
       simp only[Act.put,z2d,z2f,z2e]
       refine zaa (v:= .pointer (some ⟨b,off+k*3,none⟩)) 126 rfl rfl rfl (fun W hW=>by simp[execOp,go_sem,hlt];try omega) ?_
       simp only[Act.put,z2d,z2f,z2e]
       refine zaa (v:= .pointer (some ⟨b,off+k*3,none⟩)) 127 rfl rfl rfl (fun W hW=>by simp[execOp,go_sem]) ?_
       simp only[Act.put,z2d,z2f,z2e]
       refine zaa (v:= .string tg) 128 rfl rfl rfl (fun W hW=>by have q:=(hW.cell (p:=⟨b,off+k*3,none⟩) hbw).trans e0;simp[execOp,go_sem,q]) ?_
       simp only[Act.put,z2d,z2f,z2e]
       refine zaa (v:= .string (O++⟨#[102,111,114,99,101,32]⟩++tg)) 129 rfl rfl rfl (fun W hW=>by simp[execOp,go_sem];try omega) ?_
       simp only[Act.put,z2d,z2f,z2e]
       refine zaa (v:= .string (O++⟨#[102,111,114,99,101,32]⟩++tg++⟨#[32]⟩)) 130 rfl rfl rfl (fun W hW=>by simp[execOp,go_sem];try omega) ?_
       simp only[Act.put,z2d,z2f,z2e]
       refine zaa (v:= .pointer (some ⟨B,5,none⟩)) 131 rfl rfl rfl (fun W hW=>by simp[execOp,go_sem]) ?_
       simp only[Act.put,z2d,z2f,z2e]
       refine zaa (v:= .slice (some ⟨b,off,none⟩) n5 k5) 132 rfl rfl rfl (fun W hW=>by have q:=(hW.cell (p:=⟨B,5,none⟩) hBl).trans c5;simp[execOp,go_sem,q]) ?_
       simp only[Act.put,z2d,z2f,z2e]
       refine zaa (v:= .int .i64 (k:Nat)) 133 rfl rfl rfl (fun W hW=>by simp[execOp,go_sem]) ?_
       simp only[Act.put,z2d,z2f,z2e]
       refine zaa (v:= .pointer (some ⟨b,off+k*3,none⟩)) 134 rfl rfl rfl (fun W hW=>by simp[execOp,go_sem,hlt];try omega) ?_
       simp only[Act.put,z2d,z2f,z2e]
       refine zaa (v:= .pointer (some ⟨b,off+k*3+1,none⟩)) 135 rfl rfl rfl (fun W hW=>by simp[execOp,go_sem]) ?_
       simp only[Act.put,z2d,z2f,z2e]
       refine zaa (v:= .string nm) 136 rfl rfl rfl (fun W hW=>by have q:=(hW.cell (p:=⟨b,off+k*3+1,none⟩) hbw).trans e1;simp[execOp,go_sem,q]) ?_
       simp only[Act.put,z2d,z2f,z2e]
       refine zaa (v:= .string (O++⟨#[102,111,114,99,101,32]⟩++tg++⟨#[32]⟩++nm)) 137 rfl rfl rfl (fun W hW=>by simp[execOp,go_sem];try omega) ?_
       simp only[Act.put,z2d,z2f,z2e]
       refine zaa (v:= .string (O++⟨#[102,111,114,99,101,32]⟩++tg++⟨#[32]⟩++nm++⟨#[32]⟩)) 138 rfl rfl rfl (fun W hW=>by simp[execOp,go_sem];try omega) ?_
       simp only[Act.put,z2d,z2f,z2e]
       refine zaa (v:= .string qv) 139 rfl rfl rfl (fun W hW=>by simp[execOp,go_sem]) ?_
       simp only[Act.put,z2d,z2f,z2e]
       refine zaa (v:= .string (O++⟨#[102,111,114,99,101,32]⟩++tg++⟨#[32]⟩++nm++⟨#[32]⟩++qv)) 140 rfl rfl rfl (fun W hW=>by simp[execOp,go_sem];try omega) ?_
       simp only[Act.put,z2d,z2f,z2e]
       refine zaa (v:= .string (O++⟨#[102,111,114,99,101,32]⟩++tg++⟨#[32]⟩++nm++⟨#[32]⟩++qv++⟨#[59,10]⟩)) 141 rfl rfl rfl (fun W hW=>by simp[execOp,go_sem];try omega) ?_
       simp only[Act.put,z2d,z2f,z2e]
       dsimp only[zbe,z3t]
       rw[HON.out]
       go_wp2_with fail
       go_roundw
       case rel=>exact⟨k+1,_,by omega,by go_num,rfl,HKn.out,by show Below _ _ _;exact hw0.trans ((bel).mono hw0.size)⟩
       case measure=>simp[intOf];omega
      ·have HKn:Hid (O++⟨(zif p).toArray⟩=TX):=by
        show _=_
        rw[<-HK.out,List.drop_eq_nil_of_le (by rw[HN5.out];omega)]
        rfl
       obtain⟨⟨a0,a1⟩,⟨a2,a3⟩,⟨a4,a5⟩⟩:=HLim.out
       obtain⟨F1,hF1⟩: ∃r:ByteArray,⟨(Lib.itoa p.depth).toArray⟩=r:=⟨_,rfl⟩
       obtain⟨F2,hF2⟩: ∃r:ByteArray,⟨(Lib.itoa p.name).toArray⟩=r:=⟨_,rfl⟩
       obtain⟨F3,hF3⟩: ∃r:ByteArray,⟨(Lib.itoa p.value).toArray⟩=r:=⟨_,rfl⟩
       have HF1:=z2g (hF1 ▸ zma p.depth a0 a1)
       have HF2:=z2g (hF2 ▸ zma p.name a2 a3)
       have HF3:=z2g (hF3 ▸ zma p.value a4 a5)
       have HE:Hid (O++⟨#[108,105,109,105,116,32,100,101,112,116,104,32]⟩++F1++⟨#[59,10,108,105,109,105,116,32,110,97,109,101,32]⟩++F2++⟨#[59,10,108,105,109,105,116,32,118,97,108,117,101,32]⟩++F3++⟨#[59,10]⟩=TX):=by
        show _=_
        rw[<-HKn.out,<-hF1,<-hF2,<-hF3]
        refine zb7 ?_
        simp[zif,sayS,limT,zck,Lib.joinTail]
       have s1:O.size+F1.size+F2.size+F3.size<=17592186044416:=by
        have:=congrArg ByteArray.size HE.out
        simp only[ByteArray.size_append]at this
        omega
       have s2:O.size<=17592186044416:=by omega
       have s3:F1.size<=17592186044416:=by omega
       have s4:F2.size<=17592186044416:=by omega
       have s5:F3.size<=17592186044416:=by omega
       clear HK HKn hF1 hF2 hF3 a0 a1 a2 a3 a4 a5 H5
       go_upto_region 22 with fail
       refine zaf fun W2 hW2=> ?_
       have hb2:Below W0.heap.size W0 W2:=by rw[hW2];exact HB.out.trans ((bel:Below wr.heap.size wr _).mono HB.out.size)
       have hw0:Below W0.heap.size W0 W2.drew:=hb2.trans ((bel:Below W2.heap.size W2 _).mono hb2.size)
       clear hW2 r5 hbr0 HB hlt
       refine zai 17 [(0,true),(1,true),(2,true),(3,true),(7,true),(8,true),(12,true),(13,true),(4,false),(5,true),(6,true),(9,false),(10,true),(11,true),(14,false),(15,true),(16,true)] (fun V=>Below W0.heap.size W0 V) hmx (by kernel_rfl) (by kernel_rfl) (by kernel_rfl) (by decide) rfl (fun c a d v w h=>by first|exact h|(obtain⟨x,y⟩:=(h:_/\_);cases d<;>exact⟨x,y⟩)) (by kernel_rfl) (by exact hw0) ?_
       refine zaa (v:= .string O) 142 rfl rfl rfl (fun W hW=>by simp[execOp,go_sem]) ?_
       simp only[Act.put,z2d,z2f,z2e]
       refine zaa (v:= .string (O++⟨#[108,105,109,105,116,32,100,101,112,116,104,32]⟩)) 143 rfl rfl rfl (fun W hW=>by simp[execOp,go_sem];try omega) ?_
       simp only[Act.put,z2d,z2f,z2e]
       refine zaa (v:= .pointer (some ⟨B,7,none⟩)) 144 rfl rfl rfl (fun W hW=>by simp[execOp,go_sem]) ?_
       simp only[Act.put,z2d,z2f,z2e]
       refine zaa (v:= .int .i64 p.depth) 145 rfl rfl rfl (fun W hW=>by have q:=(hW.cell (p:=⟨B,7,none⟩) hBl).trans c7;simp[execOp,go_sem,q]) ?_
       simp only[Act.put,z2d,z2f,z2e]
       refine zaa (v:= .pointer (some ⟨B,8,none⟩)) 149 rfl rfl rfl (fun W hW=>by simp[execOp,go_sem]) ?_
       simp only[Act.put,z2d,z2f,z2e]
       refine zaa (v:= .int .i64 p.name) 150 rfl rfl rfl (fun W hW=>by have q:=(hW.cell (p:=⟨B,8,none⟩) hBl).trans c8;simp[execOp,go_sem,q]) ?_
       simp only[Act.put,z2d,z2f,z2e]
       refine zaa (v:= .pointer (some ⟨B,9,none⟩)) 154 rfl rfl rfl (fun W hW=>by simp[execOp,go_sem]) ?_
       simp only[Act.put,z2d,z2f,z2e]
       refine zaa (v:= .int .i64 p.value) 155 rfl rfl rfl (fun W hW=>by have q:=(hW.cell (p:=⟨B,9,none⟩) hBl).trans c9;simp[execOp,go_sem,q]) ?_
       simp only[Act.put,z2d,z2f,z2e]
       refine zaj rfl rfl ?_
       intro Kc hKc
       unfold Oper.wp
       simp[execOp,go_sem]
       refine(HF1.out _).mono ?_
       rintro e V1 ⟨rfl,X1,hV1⟩
       have hw1:Below W0.heap.size W0 V1:=hw0.trans ((show Below _ _ V1 by rw[hV1];exact zal _ _).mono hw0.size)
       clear hV1
       apply hKc
       refine⟨hw1, ?_⟩
       try simp only[Act.put,z2d,z2f,z2e]
       refine zaa (v:= .string (O++⟨#[108,105,109,105,116,32,100,101,112,116,104,32]⟩++F1)) 147 rfl rfl rfl (fun W hW=>by simp[execOp,go_sem];try omega) ?_
       simp only[Act.put,z2d,z2f,z2e]
       refine zaa (v:= .string (O++⟨#[108,105,109,105,116,32,100,101,112,116,104,32]⟩++F1++⟨#[59,10,108,105,109,105,116,32,110,97,109,101,32]⟩)) 148 rfl rfl rfl (fun W hW=>by simp[execOp,go_sem];try omega) ?_
       simp only[Act.put,z2d,z2f,z2e]
       refine zaj rfl rfl ?_
       intro Kc hKc
       unfold Oper.wp
       simp[execOp,go_sem]
       refine(HF2.out _).mono ?_
       rintro e V2 ⟨rfl,X2,hV2⟩
       have hw2:Below W0.heap.size W0 V2:=hw1.trans ((show Below _ _ V2 by rw[hV2];exact zal _ _).mono hw1.size)
       clear hV2
       apply hKc
       refine⟨hw2, ?_⟩
       try simp only[Act.put,z2d,z2f,z2e]
       refine zaa (v:= .string (O++⟨#[108,105,109,105,116,32,100,101,112,116,104,32]⟩++F1++⟨#[59,10,108,105,109,105,116,32,110,97,109,101,32]⟩++F2)) 152 rfl rfl rfl (fun W hW=>by simp[execOp,go_sem];try omega) ?_
       simp only[Act.put,z2d,z2f,z2e]
       refine zaa (v:= .string (O++⟨#[108,105,109,105,116,32,100,101,112,116,104,32]⟩++F1++⟨#[59,10,108,105,109,105,116,32,110,97,109,101,32]⟩++F2++⟨#[59,10,108,105,109,105,116,32,118,97,108,117,101,32]⟩)) 153 rfl rfl rfl (fun W hW=>by simp[execOp,go_sem];try omega) ?_
       simp only[Act.put,z2d,z2f,z2e]
       refine zaj rfl rfl ?_
       intro Kc hKc
       unfold Oper.wp
       simp[execOp,go_sem]
       refine(HF3.out _).mono ?_
       rintro e V3 ⟨rfl,X3,hV3⟩
       have hw3:Below W0.heap.size W0 V3:=hw2.trans ((show Below _ _ V3 by rw[hV3];exact zal _ _).mono hw2.size)
       clear hV3
       apply hKc
       refine⟨hw3, ?_⟩
       try simp only[Act.put,z2d,z2f,z2e]
       refine zaa (v:= .string (O++⟨#[108,105,109,105,116,32,100,101,112,116,104,32]⟩++F1++⟨#[59,10,108,105,109,105,116,32,110,97,109,101,32]⟩++F2++⟨#[59,10,108,105,109,105,116,32,118,97,108,117,101,32]⟩++F3)) 157 rfl rfl rfl (fun W hW=>by simp[execOp,go_sem];try omega) ?_
       simp only[Act.put,z2d,z2f,z2e]
       refine zaa (v:= .string (O++⟨#[108,105,109,105,116,32,100,101,112,116,104,32]⟩++F1++⟨#[59,10,108,105,109,105,116,32,110,97,109,101,32]⟩++F2++⟨#[59,10,108,105,109,105,116,32,118,97,108,117,101,32]⟩++F3++⟨#[59,10]⟩)) 158 rfl rfl rfl (fun W hW=>by simp[execOp,go_sem];try omega) ?_
       simp only[Act.put,z2d,z2f,z2e]
       dsimp only[zbe,z3t]
       rw[HE.out]
       have HW3:=z2g (HB0.out.trans (hw3.mono HB0.out.size))
       clear HE HF1 HF2 HF3 hw0 hw1 hw2 hw3
       by_cases h8:TX.size<=8192
       ·have HU:Hid (txV p= .tuple #[.string TX,.int .i64 0]):=by
         show _=_
         rw[HV.out,if_pos (by have:=HsT.out;omega),HTX.out]
        clear HV
        go_wp2_with fail
        go_ret2
        exact Ret.of (by rw[HU.out];rfl) (HW3.out.trans ((bel).mono HW3.out.size))
       ·have HU:Hid (txV p= .tuple #[.string ⟨#[]⟩,.int .i64 3]):=by
         show _=_
         rw[HV.out,if_neg (by have:=HsT.out;omega)]
        clear HV
        go_wp2_with fail
        go_ret2
        exact Ret.of (by rw[HU.out];rfl) (HW3.out.trans ((bel).mono HW3.out.size))
end Go.Proofs.YtbhhgbgfaemfdaaGreatDoor

