/- The reference's list, each thing once: api.Force. -/
import Derived.BigRegion
import Derived.Test.YtiikamobcmgekaaGreatDoorPA
import Derived.Test.YtiikamobcmgekaaGreatDoorF3
import Derived.Test.YtiikamobcmgekaaGreatDoorA3
import Derived.Test.YtiikamobcmgekaaGreatDoorS3
namespace Go.Proofs.YtiikamobcmgekaaGreatDoor
open Lib renaming hid→z2c
open List renaming drop_of_length_le→z5u,eq_nil_of_length_eq_zero→z2u,getElem?_eq_getElem→z2q,getElem?_eq_none→z3v,getElem?_eq_some_iff→z24,length_append→z2h,length_cons→z2i,length_drop→z2n,length_take→z2r,mem_of_mem_drop→z3x,mem_of_mem_take→z3o,take_of_length_le→z2p
open Nat renaming lt_of_lt_of_le→z2g
set_option maxRecDepth 1000000
set_option maxHeartbeats 8000000
open Go.RowKit
attribute [local go_sem] Oper.semAt_some
theorem Rd.atS {w:World} {A:Option Addr} {n c:Nat} {l:List Bs} (h:Rd w (.slice A n c) l.length 1 ((l).map sv)) (k:Nat) (x:Bs) (hx:l[k]? =some x): ∃b off,A=some ⟨b,off,none⟩/\b<w.heap.size/\w.cell? ⟨b,off+k,none⟩=some (sv x):=by
 obtain⟨h1,_,A',c',e,h4⟩:=h;cases e;obtain⟨hl,hxe⟩:=z24.1 hx;obtain⟨b,off,rfl,hb,hc⟩:=h4 (by omega);exact⟨b,off,rfl,hb,hc k (sv x) (by rw[List.getElem?_map,hx];rfl)⟩
theorem zq7 (x:Bs) (O:List Bs) (a:Nat):(O.take a++x::O.drop a).map sv=(#[]:Array Value).toList++((O).map sv).take (a)++[sv x]++((O).map sv).drop (a):=by
 rw[List.map_append,List.map_cons,<-List.map_take,<-List.map_drop];simp
theorem zga (A:Option Addr) (n c:Nat) (d:List Bs) (w:World) (h:Rd w (.slice A n c) d.length 1 ((d).map sv)) (hn:d.length<=100000000):
  Calls Tryz.prog 148 #[.slice A n c] w (RetN w (zap ltB d).length 1 ((zap ltB d).map sv)):=by
 have hmx:=mxd;have hn0:n=d.length:=by obtain⟨_,_,_,_,he,_⟩:=h;cases he;rfl
 subst hn0;have HR:=z2c (fun W (hB:Below w.heap.size w W)=>show Rd W (.slice A d.length c) d.length 1 ((d).map sv)from by obtain⟨X,rfl⟩:=zao hB;exact h.grow X);clear h;go_enter Tryz.func148,Tryz.ntmps148;go_wp2_with fail
 go_loopw [3,4] (fun vo i wr=> ∃k:Nat,k<=d.length/\i= .int .i64 k/\Hid (Below w.heap.size w wr)/\Hid (wr.ownsRow w.heap.size 9 1 vo (zap ltB (d.take k)).length ((zap ltB (d.take k)).map sv))) (fun _ i _=>d.length-(intOf i).toNat)
 case atStart=>exact⟨0,by omega,rfl,Below.refl _ _,World.ownsRow_nil _ _ _ _⟩
 case round=>
  obtain⟨k,hk,rfl,HB,HO⟩:=hrel;by_cases hlt:k<d.length
  ·obtain⟨x,hx⟩: ∃x,d[k]? =some x:=⟨d[k],z2q hlt⟩;have HS:=z2c (zkh ltB d k x hx);have hol:(zap ltB (d.take k)).length<=100000000:=by have:=zdo ltB (d.take k);rw[z2r]at this;omega
   generalize zap ltB (d.take k)=O at*;have HX:=z2c hx;clear hx;rcases HO.out.2 with⟨rfl,h0⟩|⟨g,cap,cur,rfl,hg1,hg2,hcap,hcap2,hcu1,hcu2⟩
   ·obtain rfl:O=[]:=z2u h0;have HI:Hid (zap ltB (d.take (k+1))=[x]):=HS.out;have HCe:Hid (([x]).map sv=[sv x]):=rfl;clear HS h0 hol;go_wp2_with fail
    go_loopw [5] (fun s5 wv=>s5= .int .i64 0/\Hid (Below w.heap.size w wv)) (fun _ _=>0)
    case atStart=>exact⟨rfl,HB⟩
    case round=>
     clear HB HO;obtain⟨rfl,HB⟩:=hrel;obtain⟨b,off,he,hb,x0⟩:=Rd.atS (HR.out wr HB.out) k x HX.out;cases he;simp only[sv]at x0;simp only[sv]at HCe;generalize(⟨x.toArray⟩:ByteArray)=xs0 at*;go_wp2_with fail
     refine zad (by kernel_rfl) (by kernel_rfl) ?_;repeat(go_big_quiet_step(fail))
     refine wpQuiet_nil ?_;intro _ hw';obtain⟨nq,hw''⟩:=hw';subst hw'';go_wp2_with fail
     refine zad (by kernel_rfl) (by kernel_rfl) ?_;repeat(go_big_quiet_step(fail))
     refine wpQuiet_nil ?_;intro _ hw';obtain⟨nq,hw''⟩:=hw';subst hw'';go_upto_region 9 with fail
     refine zae fun W8 hW8=> ?_;have HB8:Hid (Below wr.heap.size wr W8):=by show Below _ _ _;rw[hW8];exact bel
     have hb8:b<W8.heap.size:=z2g hb HB8.out.size;have x0:=(HB8.out.cell hb).trans x0;clear hW8;go_wp2_with(first
      |(at_builtin;go_loud(refine zaw rfl _ _ 47 rfl sltS W8.heap.size rfl (za5 (c:= #[]) (n:=0) (size:=1) rfl (by unfold maxLen;omega)) (by simp[go_sem]) 0 [] (.inl ⟨rfl,rfl⟩) rfl (fun u hu=>by cases hu) (by unfold maxLen;omega) (by omega) ?_);intro v1 W1 ho1 hg1;have HB1:=zaq (w:=W8) hg1 (za5 (c:= #[]) (n:=0) (size:=1) rfl (by unfold maxLen;omega)) bel;have hz1:=HB1.out.size;have HO1:=z2c ho1;have x0:=(HB1.out.cell hb8).trans x0;clear ho1 hg1)
      |(at_builtin;refine zar rfl _ _ 47 rfl sltS W8.heap.size rfl (HO1.out.alloc _) (by simp[go_sem]<;>omega) ⟨_,0,none⟩ 1 1 [.string xs0] rfl rfl (zaf (c:= #[.string xs0]) (by simp[go_sem])) (by simp[Value.oneCell']) (by unfold maxLen;omega) (by omega) ?_;intro v2 W2 ho2 hg2;have HB2:=zaq (w:=W8) hg2 (HO1.out.alloc _) (zck HB1.out bel);have HO2:=z2c ho2;clear ho2 hg2)
      |(at_builtin;go_loud(refine zaw rfl _ _ 47 rfl sltS W8.heap.size rfl HO2.out (by have:=HB2.out.size;omega) 0 [] (.inl ⟨rfl,rfl⟩) rfl (fun u hu=>by cases hu) (by unfold maxLen;omega) (by omega) ?_);intro v3 W3 ho3 hg3;have HB3:=zaq (w:=W8) hg3 HO2.out HB2.out;have HO3:=z2c ho3;clear ho3 hg3))
     go_roundw
     case rel=>
      refine⟨k+1,by omega,by go_num,zac HB.out (zac HB8.out HB3.out), ?_⟩;show World.ownsRow _ _ _ _ _ _ _;have h9:=zcp HO3.out (zac HB.out HB8.out).size;rw[HI.out,HCe.out];exact h9
     case measure=>simp[intOf];omega
   ·clear hcu1 hcu2 hg2 cur;go_wp2_with fail
    go_loopw [5] (fun s5 wv=> ∃a:Nat,a<=O.length/\s5= .int .i64 a/\Hid (Below w.heap.size w wv)/\Hid (wv.ownsRow w.heap.size 9 1 (.slice (some ⟨g,0,none⟩) O.length cap) O.length ((O).map sv))/\Hid (∀y∈O.take a,ltB y x=true)) (fun s5 _=>O.length-(intOf s5).toNat)
    case atStart=>exact⟨0,by omega,rfl,HB,HO,by show ∀_∈_,_;intro y hy;simp at hy⟩
    case round=>
     clear HB HO;obtain⟨a,ha,rfl,HB,HO,HA⟩:=hrel;obtain⟨b,off,he,hb,x0⟩:=Rd.atS (HR.out wr HB.out) k x HX.out;cases he;simp only[sv]at x0;have hgl:g<wr.heap.size:=(HO.out.lt g rfl).2;have HCe0:=z2c (fun a=>zq7 x O a);simp only[sv]at HCe0;by_cases hal:a<O.length
     ·obtain⟨y,hy⟩: ∃y,O[a]? =some y:=⟨O[a],z2q hal⟩;have HY:=z2c hy;obtain⟨b2,off2,he2,hb2,y0⟩:=Rd.atS (Rd.own HO.out) a y hy;cases he2;simp only[Nat.zero_add,sv]at y0;have q1:Op.bytesLess (⟨y.toArray⟩:ByteArray).toList (⟨x.toArray⟩:ByteArray).toList=ltB y x:=by rw[ByteArray.toList_eq,ByteArray.toList_eq];exact zgh y x
      have q2:((⟨y.toArray⟩:ByteArray).toList==(⟨x.toArray⟩:ByteArray).toList)=ev ltB y x:=by rw[zhs,ev_B]
      clear hy;generalize(⟨x.toArray⟩:ByteArray)=xs0 at*;generalize(⟨y.toArray⟩:ByteArray)=ys0 at*;cases hl:ltB y x
      ·have HI0:Hid (zap ltB (d.take (k+1))=if ev ltB y x=true then O else O.take a++x::O.drop a):=by
        show _=_;rw[HS.out,zkd swoB x O a (by omega) HA.out (fun z hz=>by rw[HY.out]at hz;cases hz;exact hl),HY.out]
       rw[hl]at q1;cases hev:ev ltB y x
       ·rw[hev]at HI0 q2;have HI:Hid (zap ltB (d.take (k+1))=O.take a++x::O.drop a):=HI0.out;clear hl hev HI0 HS;go_wp2_with fail
        refine zad (by kernel_rfl) (by kernel_rfl) ?_;repeat(go_big_quiet_step(fail))
        refine wpQuiet_nil ?_;intro _ hw';obtain⟨nq,hw''⟩:=hw';subst hw'';go_wp2_with fail
        refine zad (by kernel_rfl) (by kernel_rfl) ?_;repeat(go_big_quiet_step(fail))
        refine wpQuiet_nil ?_;intro _ hw';obtain⟨nq,hw''⟩:=hw';subst hw'';go_upto_region 9 with fail
        refine zae fun W8 hW8=> ?_;have HB8:Hid (Below wr.heap.size wr W8):=by show Below _ _ _;rw[hW8];exact bel
        have hb8:b<W8.heap.size:=z2g hb HB8.out.size;have x0:=(HB8.out.cell hb).trans x0;clear hW8;have HO8:=z2c (zb5 HO.out HB8.out);have HP1:=z2c (Rd.part (Rd.own HO8.out) a (by omega));have HP2:=z2c (Rd.rest (Rd.own HO8.out) (a:=a) (by omega));rw[Nat.mul_one]at HP1 HP2;obtain⟨hlA,hlB⟩:=And.intro HP1.out.1 HP2.out.1;have HNa:=z2c (fun W (hB:Below W8.heap.size W8 W)=>zd3 HP1.out (fun h=>by cases h) hB);have hca:a<=cap:=by omega
        have i1:(0:Int)<=a/\(a:Int)<=cap:=by omega
        have i2:(0:Int)<=a/\(a:Int)<=O.length/\(O.length:Int)<=cap:=by omega
        have HCe:=z2c (HCe0.out a);clear HCe0;have hcc2: ¬cap=a:=by omega
        have HNb:=z2c (fun W (hB:Below W8.heap.size W8 W)=>zd3 HP2.out (fun h=>by cases h) hB);go_wp2_with(first
         |(at_builtin;go_loud(refine zaw rfl _ _ 47 rfl sltS W8.heap.size rfl (za5 (c:= #[]) (n:=0) (size:=1) rfl (by unfold maxLen;omega)) (by simp[go_sem]) a _ (HNa.out _ bel) hlA (fun u hu=>zec O u (z3o hu)) (by unfold maxLen;omega) (by omega) ?_);intro v1 W1 ho1 hg1;have HB1:=zaq (w:=W8) hg1 (za5 (c:= #[]) (n:=0) (size:=1) rfl (by unfold maxLen;omega)) bel;have hz1:=HB1.out.size;have HO1:=z2c ho1;have x0:=(HB1.out.cell hb8).trans x0;clear ho1 hg1)
         |(at_builtin;refine zar rfl _ _ 47 rfl sltS W8.heap.size rfl (HO1.out.alloc _) (by simp[go_sem]<;>omega) ⟨_,0,none⟩ 1 1 [.string xs0] rfl rfl (zaf (c:= #[.string xs0]) (by simp[go_sem])) (by simp[Value.oneCell']) (by unfold maxLen;omega) (by omega) ?_;intro v2 W2 ho2 hg2;have HB2:=zaq (w:=W8) hg2 (HO1.out.alloc _) (zck HB1.out bel);have HO2:=z2c ho2;clear ho2 hg2)
         |(at_builtin;go_loud(refine zaw rfl _ _ 47 rfl sltS W8.heap.size rfl HO2.out (by have:=HB2.out.size;omega) (O.length-a) _ (HNb.out _ HB2.out) hlB (fun u hu=>zec O u (z3x hu)) (by unfold maxLen;omega) (by omega) ?_);intro v3 W3 ho3 hg3;have HB3:=zaq (w:=W8) hg3 HO2.out HB2.out;have HO3:=z2c ho3;clear ho3 hg3))
        go_roundw
        case rel=>
         refine⟨k+1,by omega,by go_num,zac HB.out (zac HB8.out HB3.out), ?_⟩;show World.ownsRow _ _ _ _ _ _ _;have h9:=zcp HO3.out (zac HB.out HB8.out).size;rw[HI.out];have e1:(O.take a++x::O.drop a).length=0+a+1+(O.length-a):=by simp only[z2h,z2r,z2i,z2n];omega
         rw[e1,HCe.out];exact h9
        case measure=>simp[intOf];omega
       ·rw[hev]at HI0 q2;have HI:Hid (zap ltB (d.take (k+1))=O):=HI0.out;clear hl hev HI0 HS;go_wp2_with fail
        refine zad (by kernel_rfl) (by kernel_rfl) ?_;repeat(go_big_quiet_step(fail))
        refine wpQuiet_nil ?_;intro _ hw';obtain⟨nq,hw''⟩:=hw';subst hw'';go_wp2_with fail
        refine zad (by kernel_rfl) (by kernel_rfl) ?_;repeat(go_big_quiet_step(fail))
        refine wpQuiet_nil ?_;intro _ hw';obtain⟨nq,hw''⟩:=hw';subst hw'';go_wp2_with fail
        go_roundw
        case rel=>
         refine⟨k+1,by omega,by go_num,zac HB.out bel, ?_⟩;show World.ownsRow _ _ _ _ _ _ _;rw[HI.out];exact zb5 HO.out bel
        case measure=>simp[intOf];omega
      ·rw[hl]at q1;have HA2:Hid (∀z∈O.take (a+1),ltB z x=true):=zfu HA.out HY.out hl;clear hl q2;go_wp2_with fail
       refine zad (by kernel_rfl) (by kernel_rfl) ?_;repeat(go_big_quiet_step(fail))
       refine wpQuiet_nil ?_;intro _ hw';obtain⟨nq,hw''⟩:=hw';subst hw'';go_wp2_with fail
       go_roundw
       case rel=>exact⟨a+1,by omega,by go_num,zac HB.out bel,zb5 HO.out bel,HA2⟩
       case measure=>simp[intOf];omega
     ·have HI:Hid (zap ltB (d.take (k+1))=O.take a++x::O.drop a):=by
       show _=_;rw[HS.out,zkd swoB x O a (by omega) HA.out (fun z hz=>by rw[z3v (by omega)]at hz;cases hz),z3v (by omega)];simp only;rw[z2p (by omega),z5u (by omega)]
      generalize(⟨x.toArray⟩:ByteArray)=xs0 at*;clear HS;go_wp2_with fail
      refine zad (by kernel_rfl) (by kernel_rfl) ?_;repeat(go_big_quiet_step(fail))
      refine wpQuiet_nil ?_;intro _ hw';obtain⟨nq,hw''⟩:=hw';subst hw'';go_wp2_with fail
      refine zad (by kernel_rfl) (by kernel_rfl) ?_;repeat(go_big_quiet_step(fail))
      refine wpQuiet_nil ?_;intro _ hw';obtain⟨nq,hw''⟩:=hw';subst hw'';go_upto_region 9 with fail
      refine zae fun W8 hW8=> ?_;have HB8:Hid (Below wr.heap.size wr W8):=by show Below _ _ _;rw[hW8];exact bel
      have hb8:b<W8.heap.size:=z2g hb HB8.out.size;have x0:=(HB8.out.cell hb).trans x0;clear hW8;have HO8:=z2c (zb5 HO.out HB8.out);have HP1:=z2c (Rd.part (Rd.own HO8.out) a (by omega));have HP2:=z2c (Rd.rest (Rd.own HO8.out) (a:=a) (by omega));rw[Nat.mul_one]at HP1 HP2;obtain⟨hlA,hlB⟩:=And.intro HP1.out.1 HP2.out.1;have HNa:=z2c (fun W (hB:Below W8.heap.size W8 W)=>zd3 HP1.out (fun h=>by cases h) hB);have hca:a<=cap:=by omega
      have i1:(0:Int)<=a/\(a:Int)<=cap:=by omega
      have i2:(0:Int)<=a/\(a:Int)<=O.length/\(O.length:Int)<=cap:=by omega
      have HCe:=z2c (HCe0.out a);clear HCe0;by_cases hcc:a=cap
      ·subst hcc;have hOa:O.length-a=0:=by omega
       have hdr:((O).map sv).drop (a)=[]:=z2u (by rw[hlB,hOa,Nat.zero_mul]);rw[hdr]at HCe;go_wp2_with(first
        |(at_builtin;go_loud(refine zaw rfl _ _ 47 rfl sltS W8.heap.size rfl (za5 (c:= #[]) (n:=0) (size:=1) rfl (by unfold maxLen;omega)) (by simp[go_sem]) a _ (HNa.out _ bel) hlA (fun u hu=>zec O u (z3o hu)) (by unfold maxLen;omega) (by omega) ?_);intro v1 W1 ho1 hg1;have HB1:=zaq (w:=W8) hg1 (za5 (c:= #[]) (n:=0) (size:=1) rfl (by unfold maxLen;omega)) bel;have hz1:=HB1.out.size;have HO1:=z2c ho1;have x0:=(HB1.out.cell hb8).trans x0;clear ho1 hg1)
        |(at_builtin;refine zar rfl _ _ 47 rfl sltS W8.heap.size rfl (HO1.out.alloc _) (by simp[go_sem]<;>omega) ⟨_,0,none⟩ 1 1 [.string xs0] rfl rfl (zaf (c:= #[.string xs0]) (by simp[go_sem])) (by simp[Value.oneCell']) (by unfold maxLen;omega) (by omega) ?_;intro v2 W2 ho2 hg2;have HB2:=zaq (w:=W8) hg2 (HO1.out.alloc _) (zck HB1.out bel);have HO2:=z2c ho2;clear ho2 hg2)
        |(at_builtin;go_loud(refine zaw rfl _ _ 47 rfl sltS W8.heap.size rfl HO2.out (by have:=HB2.out.size;omega) 0 [] (.inr ⟨⟨g,0,none⟩,0,rfl,fun j u hu=>by simp at hu⟩) rfl (fun u hu=>by cases hu) (by unfold maxLen;omega) (by omega) ?_);intro v3 W3 ho3 hg3;have HB3:=zaq (w:=W8) hg3 HO2.out HB2.out;have HO3:=z2c ho3;clear ho3 hg3))
       go_roundw
       case rel=>
        refine⟨k+1,by omega,by go_num,zac HB.out (zac HB8.out HB3.out), ?_⟩;show World.ownsRow _ _ _ _ _ _ _;have h9:=zcp HO3.out (zac HB.out HB8.out).size;rw[HI.out];have e1:(O.take a++x::O.drop a).length=0+a+1+0:=by simp only[z2h,z2r,z2i,z2n];omega
        rw[e1,HCe.out];exact h9
       case measure=>simp[intOf];omega
      ·have hcc2: ¬cap=a:=fun h=>hcc h.symm;have HNb:=z2c (fun W (hB:Below W8.heap.size W8 W)=>zd3 HP2.out (fun h=>by cases h) hB);go_wp2_with(first
        |(at_builtin;go_loud(refine zaw rfl _ _ 47 rfl sltS W8.heap.size rfl (za5 (c:= #[]) (n:=0) (size:=1) rfl (by unfold maxLen;omega)) (by simp[go_sem]) a _ (HNa.out _ bel) hlA (fun u hu=>zec O u (z3o hu)) (by unfold maxLen;omega) (by omega) ?_);intro v1 W1 ho1 hg1;have HB1:=zaq (w:=W8) hg1 (za5 (c:= #[]) (n:=0) (size:=1) rfl (by unfold maxLen;omega)) bel;have hz1:=HB1.out.size;have HO1:=z2c ho1;have x0:=(HB1.out.cell hb8).trans x0;clear ho1 hg1)
        |(at_builtin;refine zar rfl _ _ 47 rfl sltS W8.heap.size rfl (HO1.out.alloc _) (by simp[go_sem]<;>omega) ⟨_,0,none⟩ 1 1 [.string xs0] rfl rfl (zaf (c:= #[.string xs0]) (by simp[go_sem])) (by simp[Value.oneCell']) (by unfold maxLen;omega) (by omega) ?_;intro v2 W2 ho2 hg2;have HB2:=zaq (w:=W8) hg2 (HO1.out.alloc _) (zck HB1.out bel);have HO2:=z2c ho2;clear ho2 hg2)
        |(at_builtin;go_loud(refine zaw rfl _ _ 47 rfl sltS W8.heap.size rfl HO2.out (by have:=HB2.out.size;omega) (O.length-a) _ (HNb.out _ HB2.out) hlB (fun u hu=>zec O u (z3x hu)) (by unfold maxLen;omega) (by omega) ?_);intro v3 W3 ho3 hg3;have HB3:=zaq (w:=W8) hg3 HO2.out HB2.out;have HO3:=z2c ho3;clear ho3 hg3))
       go_roundw
       case rel=>
        refine⟨k+1,by omega,by go_num,zac HB.out (zac HB8.out HB3.out), ?_⟩;show World.ownsRow _ _ _ _ _ _ _;have h9:=zcp HO3.out (zac HB.out HB8.out).size;rw[HI.out];have e1:(O.take a++x::O.drop a).length=0+a+1+(O.length-a):=by simp only[z2h,z2r,z2i,z2n];omega
        rw[e1,HCe.out];exact h9
       case measure=>simp[intOf];omega
  ·have hkl:k=d.length:=by omega
   subst hkl;rw[List.take_length]at HO;go_wp2_with fail
   go_ret;obtain⟨A',c',rfl,hc'⟩:=zah HO.out;exact⟨A',c',rfl,HB.out,zmz HO.out,Rd.own HO.out,fun _ b off s h=>by subst h;exact(HO.out.lt b rfl).1⟩
theorem Rd.atA {w:World} {A:Option Addr} {n c:Nat} {l:List Alw} (h:Rd w (.slice A n c) l.length 2 ((l).flatMap Alw.cells)) (k:Nat) (x:Alw) (hx:l[k]? =some x): ∃b off,A=some ⟨b,off,none⟩/\b<w.heap.size/\w.cell? ⟨b,off+k*2,none⟩=some (sv x.tag)/\w.cell? ⟨b,off+k*2+1,none⟩=some (sv x.name):=by
 obtain⟨h1,_,A',c',e,h4⟩:=h;cases e;obtain⟨hl,hxe⟩:=z24.1 hx;obtain⟨b,off,rfl,hb,hc⟩:=h4 (by omega);have key: ∀j u,j<2->(Alw.cells x)[j]? =some u->w.cell? ⟨b,off+k*2+j,none⟩=some u:=fun j u hj hu=>by
  have:=hc (k*2+j) u (by rw[zki Alw.cells 2 (fun _=>rfl) l k hl j hj,hxe];exact hu);rw[show off+(k*2+j)=off+k*2+j by omega]at this;exact this
 exact⟨b,off,rfl,hb,key 0 _ (by omega) rfl,key 1 _ (by omega) rfl⟩
theorem zq9 (x:Alw) (O:List Alw) (a:Nat):(O.take a++x::O.drop a).flatMap Alw.cells=(#[]:Array Value).toList++((O).flatMap Alw.cells).take (a*2)++[sv x.tag,sv x.name]++((O).flatMap Alw.cells).drop (a*2):=by
 rw[List.flatMap_append,List.flatMap_cons,zhq Alw.cells 2 (fun _=>rfl),zo5 Alw.cells 2 (fun _=>rfl)];simp[Alw.cells]
theorem zs4 (A:Option Addr) (n c:Nat) (d:List Alw) (w:World) (h:Rd w (.slice A n c) d.length 2 ((d).flatMap Alw.cells)) (hn:d.length<=100000000):
  Calls Tryz.prog 149 #[.slice A n c] w (RetN w (zap ltA d).length 2 ((zap ltA d).flatMap Alw.cells)):=by
 have hmx:=mxd;have hn0:n=d.length:=by obtain⟨_,_,_,_,he,_⟩:=h;cases he;rfl
 subst hn0;have HR:=z2c (fun W (hB:Below w.heap.size w W)=>show Rd W (.slice A d.length c) d.length 2 ((d).flatMap Alw.cells)from by obtain⟨X,rfl⟩:=zao hB;exact h.grow X);clear h;go_enter Tryz.func149,Tryz.ntmps149;go_wp2_with fail
 go_loopw [3,4] (fun vo i wr=> ∃k:Nat,k<=d.length/\i= .int .i64 k/\Hid (Below w.heap.size w wr)/\Hid (wr.ownsRow w.heap.size 101 2 vo (zap ltA (d.take k)).length ((zap ltA (d.take k)).flatMap Alw.cells))) (fun _ i _=>d.length-(intOf i).toNat)
 case atStart=>exact⟨0,by omega,rfl,Below.refl _ _,World.ownsRow_nil _ _ _ _⟩
 case round=>
  obtain⟨k,hk,rfl,HB,HO⟩:=hrel;by_cases hlt:k<d.length
  ·obtain⟨x,hx⟩: ∃x,d[k]? =some x:=⟨d[k],z2q hlt⟩;have HS:=z2c (zkh ltA d k x hx);have hol:(zap ltA (d.take k)).length<=100000000:=by have:=zdo ltA (d.take k);rw[z2r]at this;omega
   generalize zap ltA (d.take k)=O at*;have HX:=z2c hx;clear hx;rcases HO.out.2 with⟨rfl,h0⟩|⟨g,cap,cur,rfl,hg1,hg2,hcap,hcap2,hcu1,hcu2⟩
   ·obtain rfl:O=[]:=z2u h0;have HI:Hid (zap ltA (d.take (k+1))=[x]):=HS.out;have HCe:Hid (([x]).flatMap Alw.cells=[sv x.tag,sv x.name]):=rfl;clear HS h0 hol;go_wp2_with fail
    go_loopw [5] (fun s5 wv=>s5= .int .i64 0/\Hid (Below w.heap.size w wv)) (fun _ _=>0)
    case atStart=>exact⟨rfl,HB⟩
    case round=>
     clear HB HO;obtain⟨rfl,HB⟩:=hrel;obtain⟨b,off,he,hb,x0,x1⟩:=Rd.atA (HR.out wr HB.out) k x HX.out;cases he;simp only[sv]at x0 x1;simp only[sv]at HCe;generalize(⟨x.tag.toArray⟩:ByteArray)=xs0 at*;generalize(⟨x.name.toArray⟩:ByteArray)=xs1 at*;go_wp2_with fail
     refine zad (by kernel_rfl) (by kernel_rfl) ?_;repeat(go_big_quiet_step(fail))
     refine wpQuiet_nil ?_;intro _ hw';obtain⟨nq,hw''⟩:=hw';subst hw'';go_wp2_with fail
     refine zad (by kernel_rfl) (by kernel_rfl) ?_;repeat(go_big_quiet_step(fail))
     refine wpQuiet_nil ?_;intro _ hw';obtain⟨nq,hw''⟩:=hw';subst hw'';go_upto_region 9 with fail
     refine zae fun W8 hW8=> ?_;have HB8:Hid (Below wr.heap.size wr W8):=by show Below _ _ _;rw[hW8];exact bel
     have hb8:b<W8.heap.size:=z2g hb HB8.out.size;have x0:=(HB8.out.cell hb).trans x0;have x1:=(HB8.out.cell hb).trans x1;clear hW8;go_wp2_with(first
      |(at_builtin;go_loud(refine zaw rfl _ _ 48 rfl sltA W8.heap.size rfl (za5 (c:= #[]) (n:=0) (size:=2) rfl (by unfold maxLen;omega)) (by simp[go_sem]) 0 [] (.inl ⟨rfl,rfl⟩) rfl (fun u hu=>by cases hu) (by unfold maxLen;omega) (by omega) ?_);intro v1 W1 ho1 hg1;have HB1:=zaq (w:=W8) hg1 (za5 (c:= #[]) (n:=0) (size:=2) rfl (by unfold maxLen;omega)) bel;have hz1:=HB1.out.size;have HO1:=z2c ho1;have x0:=(HB1.out.cell hb8).trans x0;have x1:=(HB1.out.cell hb8).trans x1;clear ho1 hg1)
      |(at_builtin;refine zar rfl _ _ 48 rfl sltA W8.heap.size rfl (HO1.out.alloc _) (by simp[go_sem]<;>omega) ⟨_,0,none⟩ 1 1 [.string xs0,.string xs1] rfl rfl (zaf (c:= #[.string xs0,.string xs1]) (by simp[go_sem])) (by simp[Value.oneCell']) (by unfold maxLen;omega) (by omega) ?_;intro v2 W2 ho2 hg2;have HB2:=zaq (w:=W8) hg2 (HO1.out.alloc _) (zck HB1.out bel);have HO2:=z2c ho2;clear ho2 hg2)
      |(at_builtin;go_loud(refine zaw rfl _ _ 48 rfl sltA W8.heap.size rfl HO2.out (by have:=HB2.out.size;omega) 0 [] (.inl ⟨rfl,rfl⟩) rfl (fun u hu=>by cases hu) (by unfold maxLen;omega) (by omega) ?_);intro v3 W3 ho3 hg3;have HB3:=zaq (w:=W8) hg3 HO2.out HB2.out;have HO3:=z2c ho3;clear ho3 hg3))
     go_roundw
     case rel=>
      refine⟨k+1,by omega,by go_num,zac HB.out (zac HB8.out HB3.out), ?_⟩;show World.ownsRow _ _ _ _ _ _ _;have h9:=zcp HO3.out (zac HB.out HB8.out).size;rw[HI.out,HCe.out];exact h9
     case measure=>simp[intOf];omega
   ·clear hcu1 hcu2 hg2 cur;go_wp2_with fail
    go_loopw [5] (fun s5 wv=> ∃a:Nat,a<=O.length/\s5= .int .i64 a/\Hid (Below w.heap.size w wv)/\Hid (wv.ownsRow w.heap.size 101 2 (.slice (some ⟨g,0,none⟩) O.length cap) O.length ((O).flatMap Alw.cells))/\Hid (∀y∈O.take a,ltA y x=true)) (fun s5 _=>O.length-(intOf s5).toNat)
    case atStart=>exact⟨0,by omega,rfl,HB,HO,by show ∀_∈_,_;intro y hy;simp at hy⟩
    case round=>
     clear HB HO;obtain⟨a,ha,rfl,HB,HO,HA⟩:=hrel;obtain⟨b,off,he,hb,x0,x1⟩:=Rd.atA (HR.out wr HB.out) k x HX.out;cases he;simp only[sv]at x0 x1;have hgl:g<wr.heap.size:=(HO.out.lt g rfl).2;have HCe0:=z2c (fun a=>zq9 x O a);simp only[sv]at HCe0;by_cases hal:a<O.length
     ·obtain⟨y,hy⟩: ∃y,O[a]? =some y:=⟨O[a],z2q hal⟩;have HY:=z2c hy;obtain⟨b2,off2,he2,hb2,y0,y1⟩:=Rd.atA (Rd.own HO.out) a y hy;cases he2;simp only[Nat.zero_add,sv]at y0 y1;have HAh:=z2c (fun W=>zlw y x W);have q2:(((⟨y.tag.toArray⟩:ByteArray).toList==(⟨x.tag.toArray⟩:ByteArray).toList)&&((⟨y.name.toArray⟩:ByteArray).toList==(⟨x.name.toArray⟩:ByteArray).toList))=ev ltA y x:=by rw[zhs,zhs];exact(ev_A y x).symm
      simp only[Alw.agg,sv]at HAh;clear hy;generalize(⟨x.tag.toArray⟩:ByteArray)=xs0 at*;generalize(⟨x.name.toArray⟩:ByteArray)=xs1 at*;generalize(⟨y.tag.toArray⟩:ByteArray)=ys0 at*;generalize(⟨y.name.toArray⟩:ByteArray)=ys1 at*;cases hl:ltA y x
      ·have HI0:Hid (zap ltA (d.take (k+1))=if ev ltA y x=true then O else O.take a++x::O.drop a):=by
        show _=_;rw[HS.out,zkd swoA x O a (by omega) HA.out (fun z hz=>by rw[HY.out]at hz;cases hz;exact hl),HY.out]
       rw[hl]at HAh;cases hev:ev ltA y x
       ·rw[hev]at HI0 q2;have HI:Hid (zap ltA (d.take (k+1))=O.take a++x::O.drop a):=HI0.out;clear hl hev HI0 HS;have HAh:=z2c HAh.out;go_wp2_with fail
        refine zad (by kernel_rfl) (by kernel_rfl) ?_;repeat(go_big_quiet_step((go_at_call 221;with_reducible exact Calls.grow_of (HAh.out _))))
        refine wpQuiet_nil ?_;intro _ hw';obtain⟨nq,hw''⟩:=hw';subst hw'';go_wp2_with fail
        refine zad (by kernel_rfl) (by kernel_rfl) ?_;repeat(go_big_quiet_step(fail))
        refine wpQuiet_nil ?_;intro _ hw';obtain⟨nq,hw''⟩:=hw';subst hw'';go_upto_region 9 with fail
        refine zae fun W8 hW8=> ?_;have HB8:Hid (Below wr.heap.size wr W8):=by show Below _ _ _;rw[hW8];exact bel
        have hb8:b<W8.heap.size:=z2g hb HB8.out.size;have x0:=(HB8.out.cell hb).trans x0;have x1:=(HB8.out.cell hb).trans x1;clear hW8;have HO8:=z2c (zb5 HO.out HB8.out);have HP1:=z2c (Rd.part (Rd.own HO8.out) a (by omega));have HP2:=z2c (Rd.rest (Rd.own HO8.out) (a:=a) (by omega));obtain⟨hlA,hlB⟩:=And.intro HP1.out.1 HP2.out.1;have HNa:=z2c (fun W (hB:Below W8.heap.size W8 W)=>zd3 HP1.out (fun h=>by cases h) hB);have hca:a<=cap:=by omega
        have i1:(0:Int)<=a/\(a:Int)<=cap:=by omega
        have i2:(0:Int)<=a/\(a:Int)<=O.length/\(O.length:Int)<=cap:=by omega
        have HCe:=z2c (HCe0.out a);clear HCe0;have hcc2: ¬cap=a:=by omega
        have HNb:=z2c (fun W (hB:Below W8.heap.size W8 W)=>zd3 HP2.out (fun h=>by cases h) hB);go_wp2_with(first
         |(at_builtin;go_loud(refine zaw rfl _ _ 48 rfl sltA W8.heap.size rfl (za5 (c:= #[]) (n:=0) (size:=2) rfl (by unfold maxLen;omega)) (by simp[go_sem]) a _ (HNa.out _ bel) hlA (fun u hu=>zee O u (z3o hu)) (by unfold maxLen;omega) (by omega) ?_);intro v1 W1 ho1 hg1;have HB1:=zaq (w:=W8) hg1 (za5 (c:= #[]) (n:=0) (size:=2) rfl (by unfold maxLen;omega)) bel;have hz1:=HB1.out.size;have HO1:=z2c ho1;have x0:=(HB1.out.cell hb8).trans x0;have x1:=(HB1.out.cell hb8).trans x1;clear ho1 hg1)
         |(at_builtin;refine zar rfl _ _ 48 rfl sltA W8.heap.size rfl (HO1.out.alloc _) (by simp[go_sem]<;>omega) ⟨_,0,none⟩ 1 1 [.string xs0,.string xs1] rfl rfl (zaf (c:= #[.string xs0,.string xs1]) (by simp[go_sem])) (by simp[Value.oneCell']) (by unfold maxLen;omega) (by omega) ?_;intro v2 W2 ho2 hg2;have HB2:=zaq (w:=W8) hg2 (HO1.out.alloc _) (zck HB1.out bel);have HO2:=z2c ho2;clear ho2 hg2)
         |(at_builtin;go_loud(refine zaw rfl _ _ 48 rfl sltA W8.heap.size rfl HO2.out (by have:=HB2.out.size;omega) (O.length-a) _ (HNb.out _ HB2.out) hlB (fun u hu=>zee O u (z3x hu)) (by unfold maxLen;omega) (by omega) ?_);intro v3 W3 ho3 hg3;have HB3:=zaq (w:=W8) hg3 HO2.out HB2.out;have HO3:=z2c ho3;clear ho3 hg3))
        go_roundw
        case rel=>
         refine⟨k+1,by omega,by go_num,zac HB.out (zac HB8.out HB3.out), ?_⟩;show World.ownsRow _ _ _ _ _ _ _;have h9:=zcp HO3.out (zac HB.out HB8.out).size;rw[HI.out];have e1:(O.take a++x::O.drop a).length=0+a+1+(O.length-a):=by simp only[z2h,z2r,z2i,z2n];omega
         rw[e1,HCe.out];exact h9
        case measure=>simp[intOf];omega
       ·rw[hev]at HI0 q2;have HI:Hid (zap ltA (d.take (k+1))=O):=HI0.out;clear hl hev HI0 HS;have HAh:=z2c HAh.out;go_wp2_with fail
        refine zad (by kernel_rfl) (by kernel_rfl) ?_;repeat(go_big_quiet_step((go_at_call 221;with_reducible exact Calls.grow_of (HAh.out _))))
        refine wpQuiet_nil ?_;intro _ hw';obtain⟨nq,hw''⟩:=hw';subst hw'';go_wp2_with fail
        refine zad (by kernel_rfl) (by kernel_rfl) ?_;repeat(go_big_quiet_step(fail))
        refine wpQuiet_nil ?_;intro _ hw';obtain⟨nq,hw''⟩:=hw';subst hw'';go_wp2_with fail
        go_roundw
        case rel=>
         refine⟨k+1,by omega,by go_num,zac HB.out bel, ?_⟩;show World.ownsRow _ _ _ _ _ _ _;rw[HI.out];exact zb5 HO.out bel
        case measure=>simp[intOf];omega
      ·rw[hl]at HAh;have HA2:Hid (∀z∈O.take (a+1),ltA z x=true):=zfu HA.out HY.out hl;clear hl q2;have HAh:=z2c HAh.out;go_wp2_with fail
       refine zad (by kernel_rfl) (by kernel_rfl) ?_;repeat(go_big_quiet_step((go_at_call 221;with_reducible exact Calls.grow_of (HAh.out _))))
       refine wpQuiet_nil ?_;intro _ hw';obtain⟨nq,hw''⟩:=hw';subst hw'';go_wp2_with fail
       go_roundw
       case rel=>exact⟨a+1,by omega,by go_num,zac HB.out bel,zb5 HO.out bel,HA2⟩
       case measure=>simp[intOf];omega
     ·have HI:Hid (zap ltA (d.take (k+1))=O.take a++x::O.drop a):=by
       show _=_;rw[HS.out,zkd swoA x O a (by omega) HA.out (fun z hz=>by rw[z3v (by omega)]at hz;cases hz),z3v (by omega)];simp only;rw[z2p (by omega),z5u (by omega)]
      generalize(⟨x.tag.toArray⟩:ByteArray)=xs0 at*;generalize(⟨x.name.toArray⟩:ByteArray)=xs1 at*;clear HS;go_wp2_with fail
      refine zad (by kernel_rfl) (by kernel_rfl) ?_;repeat(go_big_quiet_step(fail))
      refine wpQuiet_nil ?_;intro _ hw';obtain⟨nq,hw''⟩:=hw';subst hw'';go_wp2_with fail
      refine zad (by kernel_rfl) (by kernel_rfl) ?_;repeat(go_big_quiet_step(fail))
      refine wpQuiet_nil ?_;intro _ hw';obtain⟨nq,hw''⟩:=hw';subst hw'';go_upto_region 9 with fail
      refine zae fun W8 hW8=> ?_;have HB8:Hid (Below wr.heap.size wr W8):=by show Below _ _ _;rw[hW8];exact bel
      have hb8:b<W8.heap.size:=z2g hb HB8.out.size;have x0:=(HB8.out.cell hb).trans x0;have x1:=(HB8.out.cell hb).trans x1;clear hW8;have HO8:=z2c (zb5 HO.out HB8.out);have HP1:=z2c (Rd.part (Rd.own HO8.out) a (by omega));have HP2:=z2c (Rd.rest (Rd.own HO8.out) (a:=a) (by omega));obtain⟨hlA,hlB⟩:=And.intro HP1.out.1 HP2.out.1;have HNa:=z2c (fun W (hB:Below W8.heap.size W8 W)=>zd3 HP1.out (fun h=>by cases h) hB);have hca:a<=cap:=by omega
      have i1:(0:Int)<=a/\(a:Int)<=cap:=by omega
      have i2:(0:Int)<=a/\(a:Int)<=O.length/\(O.length:Int)<=cap:=by omega
      have HCe:=z2c (HCe0.out a);clear HCe0;by_cases hcc:a=cap
      ·subst hcc;have hOa:O.length-a=0:=by omega
       have hdr:((O).flatMap Alw.cells).drop (a*2)=[]:=z2u (by rw[hlB,hOa,Nat.zero_mul]);rw[hdr]at HCe;go_wp2_with(first
        |(at_builtin;go_loud(refine zaw rfl _ _ 48 rfl sltA W8.heap.size rfl (za5 (c:= #[]) (n:=0) (size:=2) rfl (by unfold maxLen;omega)) (by simp[go_sem]) a _ (HNa.out _ bel) hlA (fun u hu=>zee O u (z3o hu)) (by unfold maxLen;omega) (by omega) ?_);intro v1 W1 ho1 hg1;have HB1:=zaq (w:=W8) hg1 (za5 (c:= #[]) (n:=0) (size:=2) rfl (by unfold maxLen;omega)) bel;have hz1:=HB1.out.size;have HO1:=z2c ho1;have x0:=(HB1.out.cell hb8).trans x0;have x1:=(HB1.out.cell hb8).trans x1;clear ho1 hg1)
        |(at_builtin;refine zar rfl _ _ 48 rfl sltA W8.heap.size rfl (HO1.out.alloc _) (by simp[go_sem]<;>omega) ⟨_,0,none⟩ 1 1 [.string xs0,.string xs1] rfl rfl (zaf (c:= #[.string xs0,.string xs1]) (by simp[go_sem])) (by simp[Value.oneCell']) (by unfold maxLen;omega) (by omega) ?_;intro v2 W2 ho2 hg2;have HB2:=zaq (w:=W8) hg2 (HO1.out.alloc _) (zck HB1.out bel);have HO2:=z2c ho2;clear ho2 hg2)
        |(at_builtin;go_loud(refine zaw rfl _ _ 48 rfl sltA W8.heap.size rfl HO2.out (by have:=HB2.out.size;omega) 0 [] (.inr ⟨⟨g,0,none⟩,0,rfl,fun j u hu=>by simp at hu⟩) rfl (fun u hu=>by cases hu) (by unfold maxLen;omega) (by omega) ?_);intro v3 W3 ho3 hg3;have HB3:=zaq (w:=W8) hg3 HO2.out HB2.out;have HO3:=z2c ho3;clear ho3 hg3))
       go_roundw
       case rel=>
        refine⟨k+1,by omega,by go_num,zac HB.out (zac HB8.out HB3.out), ?_⟩;show World.ownsRow _ _ _ _ _ _ _;have h9:=zcp HO3.out (zac HB.out HB8.out).size;rw[HI.out];have e1:(O.take a++x::O.drop a).length=0+a+1+0:=by simp only[z2h,z2r,z2i,z2n];omega
        rw[e1,HCe.out];exact h9
       case measure=>simp[intOf];omega
      ·have hcc2: ¬cap=a:=fun h=>hcc h.symm;have HNb:=z2c (fun W (hB:Below W8.heap.size W8 W)=>zd3 HP2.out (fun h=>by cases h) hB);go_wp2_with(first
        |(at_builtin;go_loud(refine zaw rfl _ _ 48 rfl sltA W8.heap.size rfl (za5 (c:= #[]) (n:=0) (size:=2) rfl (by unfold maxLen;omega)) (by simp[go_sem]) a _ (HNa.out _ bel) hlA (fun u hu=>zee O u (z3o hu)) (by unfold maxLen;omega) (by omega) ?_);intro v1 W1 ho1 hg1;have HB1:=zaq (w:=W8) hg1 (za5 (c:= #[]) (n:=0) (size:=2) rfl (by unfold maxLen;omega)) bel;have hz1:=HB1.out.size;have HO1:=z2c ho1;have x0:=(HB1.out.cell hb8).trans x0;have x1:=(HB1.out.cell hb8).trans x1;clear ho1 hg1)
        |(at_builtin;refine zar rfl _ _ 48 rfl sltA W8.heap.size rfl (HO1.out.alloc _) (by simp[go_sem]<;>omega) ⟨_,0,none⟩ 1 1 [.string xs0,.string xs1] rfl rfl (zaf (c:= #[.string xs0,.string xs1]) (by simp[go_sem])) (by simp[Value.oneCell']) (by unfold maxLen;omega) (by omega) ?_;intro v2 W2 ho2 hg2;have HB2:=zaq (w:=W8) hg2 (HO1.out.alloc _) (zck HB1.out bel);have HO2:=z2c ho2;clear ho2 hg2)
        |(at_builtin;go_loud(refine zaw rfl _ _ 48 rfl sltA W8.heap.size rfl HO2.out (by have:=HB2.out.size;omega) (O.length-a) _ (HNb.out _ HB2.out) hlB (fun u hu=>zee O u (z3x hu)) (by unfold maxLen;omega) (by omega) ?_);intro v3 W3 ho3 hg3;have HB3:=zaq (w:=W8) hg3 HO2.out HB2.out;have HO3:=z2c ho3;clear ho3 hg3))
       go_roundw
       case rel=>
        refine⟨k+1,by omega,by go_num,zac HB.out (zac HB8.out HB3.out), ?_⟩;show World.ownsRow _ _ _ _ _ _ _;have h9:=zcp HO3.out (zac HB.out HB8.out).size;rw[HI.out];have e1:(O.take a++x::O.drop a).length=0+a+1+(O.length-a):=by simp only[z2h,z2r,z2i,z2n];omega
        rw[e1,HCe.out];exact h9
       case measure=>simp[intOf];omega
  ·have hkl:k=d.length:=by omega
   subst hkl;rw[List.take_length]at HO;go_wp2_with fail
   go_ret;obtain⟨A',c',rfl,hc'⟩:=zah HO.out;exact⟨A',c',rfl,HB.out,zmz HO.out,Rd.own HO.out,fun _ b off s h=>by subst h;exact(HO.out.lt b rfl).1⟩
theorem Rd.atF {w:World} {A:Option Addr} {n c:Nat} {l:List Frc} (h:Rd w (.slice A n c) l.length 3 ((l).flatMap Frc.cells)) (k:Nat) (x:Frc) (hx:l[k]? =some x): ∃b off,A=some ⟨b,off,none⟩/\b<w.heap.size/\w.cell? ⟨b,off+k*3,none⟩=some (sv x.tag)/\w.cell? ⟨b,off+k*3+1,none⟩=some (sv x.name)/\w.cell? ⟨b,off+k*3+2,none⟩=some (sv x.value):=by
 obtain⟨h1,_,A',c',e,h4⟩:=h;cases e;obtain⟨hl,hxe⟩:=z24.1 hx;obtain⟨b,off,rfl,hb,hc⟩:=h4 (by omega);have key: ∀j u,j<3->(Frc.cells x)[j]? =some u->w.cell? ⟨b,off+k*3+j,none⟩=some u:=fun j u hj hu=>by
  have:=hc (k*3+j) u (by rw[zki Frc.cells 3 (fun _=>rfl) l k hl j hj,hxe];exact hu);rw[show off+(k*3+j)=off+k*3+j by omega]at this;exact this
 exact⟨b,off,rfl,hb,key 0 _ (by omega) rfl,key 1 _ (by omega) rfl,key 2 _ (by omega) rfl⟩
theorem zq8 (x:Frc) (O:List Frc) (a:Nat):(O.take a++x::O.drop a).flatMap Frc.cells=(#[]:Array Value).toList++((O).flatMap Frc.cells).take (a*3)++[sv x.tag,sv x.name,sv x.value]++((O).flatMap Frc.cells).drop (a*3):=by
 rw[List.flatMap_append,List.flatMap_cons,zhq Frc.cells 3 (fun _=>rfl),zo5 Frc.cells 3 (fun _=>rfl)];simp[Frc.cells]
theorem zs3 (A:Option Addr) (n c:Nat) (d:List Frc) (w:World) (h:Rd w (.slice A n c) d.length 3 ((d).flatMap Frc.cells)) (hn:d.length<=100000000):
  Calls Tryz.prog 150 #[.slice A n c] w (RetN w (zap ltF d).length 3 ((zap ltF d).flatMap Frc.cells)):=by
 have hmx:=mxd;have hn0:n=d.length:=by obtain⟨_,_,_,_,he,_⟩:=h;cases he;rfl
 subst hn0;have HR:=z2c (fun W (hB:Below w.heap.size w W)=>show Rd W (.slice A d.length c) d.length 3 ((d).flatMap Frc.cells)from by obtain⟨X,rfl⟩:=zao hB;exact h.grow X);clear h;go_enter Tryz.func150,Tryz.ntmps150;go_wp2_with fail
 go_loopw [3,4] (fun vo i wr=> ∃k:Nat,k<=d.length/\i= .int .i64 k/\Hid (Below w.heap.size w wr)/\Hid (wr.ownsRow w.heap.size 103 3 vo (zap ltF (d.take k)).length ((zap ltF (d.take k)).flatMap Frc.cells))) (fun _ i _=>d.length-(intOf i).toNat)
 case atStart=>exact⟨0,by omega,rfl,Below.refl _ _,World.ownsRow_nil _ _ _ _⟩
 case round=>
  obtain⟨k,hk,rfl,HB,HO⟩:=hrel;by_cases hlt:k<d.length
  ·obtain⟨x,hx⟩: ∃x,d[k]? =some x:=⟨d[k],z2q hlt⟩;have HS:=z2c (zkh ltF d k x hx);have hol:(zap ltF (d.take k)).length<=100000000:=by have:=zdo ltF (d.take k);rw[z2r]at this;omega
   generalize zap ltF (d.take k)=O at*;have HX:=z2c hx;clear hx;rcases HO.out.2 with⟨rfl,h0⟩|⟨g,cap,cur,rfl,hg1,hg2,hcap,hcap2,hcu1,hcu2⟩
   ·obtain rfl:O=[]:=z2u h0;have HI:Hid (zap ltF (d.take (k+1))=[x]):=HS.out;have HCe:Hid (([x]).flatMap Frc.cells=[sv x.tag,sv x.name,sv x.value]):=rfl;clear HS h0 hol;go_wp2_with fail
    go_loopw [5] (fun s5 wv=>s5= .int .i64 0/\Hid (Below w.heap.size w wv)) (fun _ _=>0)
    case atStart=>exact⟨rfl,HB⟩
    case round=>
     clear HB HO;obtain⟨rfl,HB⟩:=hrel;obtain⟨b,off,he,hb,x0,x1,x2⟩:=Rd.atF (HR.out wr HB.out) k x HX.out;cases he;simp only[sv]at x0 x1 x2;simp only[sv]at HCe;generalize(⟨x.tag.toArray⟩:ByteArray)=xs0 at*;generalize(⟨x.name.toArray⟩:ByteArray)=xs1 at*;generalize(⟨x.value.toArray⟩:ByteArray)=xs2 at*;go_wp2_with fail
     refine zad (by kernel_rfl) (by kernel_rfl) ?_;repeat(go_big_quiet_step(fail))
     refine wpQuiet_nil ?_;intro _ hw';obtain⟨nq,hw''⟩:=hw';subst hw'';go_wp2_with fail
     refine zad (by kernel_rfl) (by kernel_rfl) ?_;repeat(go_big_quiet_step(fail))
     refine wpQuiet_nil ?_;intro _ hw';obtain⟨nq,hw''⟩:=hw';subst hw'';go_upto_region 9 with fail
     refine zae fun W8 hW8=> ?_;have HB8:Hid (Below wr.heap.size wr W8):=by show Below _ _ _;rw[hW8];exact bel
     have hb8:b<W8.heap.size:=z2g hb HB8.out.size;have x0:=(HB8.out.cell hb).trans x0;have x1:=(HB8.out.cell hb).trans x1;have x2:=(HB8.out.cell hb).trans x2;clear hW8;go_wp2_with(first
      |(at_builtin;go_loud(refine zaw rfl _ _ 49 rfl sltF W8.heap.size rfl (za5 (c:= #[]) (n:=0) (size:=3) rfl (by unfold maxLen;omega)) (by simp[go_sem]) 0 [] (.inl ⟨rfl,rfl⟩) rfl (fun u hu=>by cases hu) (by unfold maxLen;omega) (by omega) ?_);intro v1 W1 ho1 hg1;have HB1:=zaq (w:=W8) hg1 (za5 (c:= #[]) (n:=0) (size:=3) rfl (by unfold maxLen;omega)) bel;have hz1:=HB1.out.size;have HO1:=z2c ho1;have x0:=(HB1.out.cell hb8).trans x0;have x1:=(HB1.out.cell hb8).trans x1;have x2:=(HB1.out.cell hb8).trans x2;clear ho1 hg1)
      |(at_builtin;refine zar rfl _ _ 49 rfl sltF W8.heap.size rfl (HO1.out.alloc _) (by simp[go_sem]<;>omega) ⟨_,0,none⟩ 1 1 [.string xs0,.string xs1,.string xs2] rfl rfl (zaf (c:= #[.string xs0,.string xs1,.string xs2]) (by simp[go_sem])) (by simp[Value.oneCell']) (by unfold maxLen;omega) (by omega) ?_;intro v2 W2 ho2 hg2;have HB2:=zaq (w:=W8) hg2 (HO1.out.alloc _) (zck HB1.out bel);have HO2:=z2c ho2;clear ho2 hg2)
      |(at_builtin;go_loud(refine zaw rfl _ _ 49 rfl sltF W8.heap.size rfl HO2.out (by have:=HB2.out.size;omega) 0 [] (.inl ⟨rfl,rfl⟩) rfl (fun u hu=>by cases hu) (by unfold maxLen;omega) (by omega) ?_);intro v3 W3 ho3 hg3;have HB3:=zaq (w:=W8) hg3 HO2.out HB2.out;have HO3:=z2c ho3;clear ho3 hg3))
     go_roundw
     case rel=>
      refine⟨k+1,by omega,by go_num,zac HB.out (zac HB8.out HB3.out), ?_⟩;show World.ownsRow _ _ _ _ _ _ _;have h9:=zcp HO3.out (zac HB.out HB8.out).size;rw[HI.out,HCe.out];exact h9
     case measure=>simp[intOf];omega
   ·clear hcu1 hcu2 hg2 cur;go_wp2_with fail
    go_loopw [5] (fun s5 wv=> ∃a:Nat,a<=O.length/\s5= .int .i64 a/\Hid (Below w.heap.size w wv)/\Hid (wv.ownsRow w.heap.size 103 3 (.slice (some ⟨g,0,none⟩) O.length cap) O.length ((O).flatMap Frc.cells))/\Hid (∀y∈O.take a,ltF y x=true)) (fun s5 _=>O.length-(intOf s5).toNat)
    case atStart=>exact⟨0,by omega,rfl,HB,HO,by show ∀_∈_,_;intro y hy;simp at hy⟩
    case round=>
     clear HB HO;obtain⟨a,ha,rfl,HB,HO,HA⟩:=hrel;obtain⟨b,off,he,hb,x0,x1,x2⟩:=Rd.atF (HR.out wr HB.out) k x HX.out;cases he;simp only[sv]at x0 x1 x2;have hgl:g<wr.heap.size:=(HO.out.lt g rfl).2;have HCe0:=z2c (fun a=>zq8 x O a);simp only[sv]at HCe0;by_cases hal:a<O.length
     ·obtain⟨y,hy⟩: ∃y,O[a]? =some y:=⟨O[a],z2q hal⟩;have HY:=z2c hy;obtain⟨b2,off2,he2,hb2,y0,y1,y2⟩:=Rd.atF (Rd.own HO.out) a y hy;cases he2;simp only[Nat.zero_add,sv]at y0 y1 y2;have HAh:=z2c (fun W=>zlw (keyF y) (keyF x) W);have HKy:=z2c (fun W=>zsd y W);have HKx:=z2c (fun W=>zsd x W);have q2:(((⟨y.tag.toArray⟩:ByteArray).toList==(⟨x.tag.toArray⟩:ByteArray).toList)&&((⟨y.name.toArray⟩:ByteArray).toList==(⟨x.name.toArray⟩:ByteArray).toList))=ev ltF y x:=by rw[zhs,zhs];exact(ev_A (keyF y) (keyF x)).symm
      have HLe:Hid (ltA (keyF y) (keyF x)=ltF y x):=rfl;rw[HLe.out]at HAh;simp only[Alw.agg,Frc.agg,keyF,sv]at HAh HKy HKx;clear hy;generalize(⟨x.tag.toArray⟩:ByteArray)=xs0 at*;generalize(⟨x.name.toArray⟩:ByteArray)=xs1 at*;generalize(⟨x.value.toArray⟩:ByteArray)=xs2 at*;generalize(⟨y.tag.toArray⟩:ByteArray)=ys0 at*;generalize(⟨y.name.toArray⟩:ByteArray)=ys1 at*;generalize(⟨y.value.toArray⟩:ByteArray)=ys2 at*;cases hl:ltF y x
      ·have HI0:Hid (zap ltF (d.take (k+1))=if ev ltF y x=true then O else O.take a++x::O.drop a):=by
        show _=_;rw[HS.out,zkd swoF x O a (by omega) HA.out (fun z hz=>by rw[HY.out]at hz;cases hz;exact hl),HY.out]
       rw[hl]at HAh;cases hev:ev ltF y x
       ·rw[hev]at HI0 q2;have HI:Hid (zap ltF (d.take (k+1))=O.take a++x::O.drop a):=HI0.out;clear hl hev HI0 HS;have HAh:=z2c HAh.out;go_wp2_with fail
        refine zad (by kernel_rfl) (by kernel_rfl) ?_;repeat(go_big_quiet_step((first|(go_at_call 222;with_reducible exact Calls.grow_of (HKy.out _))|(go_at_call 222;with_reducible exact Calls.grow_of (HKx.out _))|(go_at_call 221;with_reducible exact Calls.grow_of (HAh.out _)))))
        refine wpQuiet_nil ?_;intro _ hw';obtain⟨nq,hw''⟩:=hw';subst hw'';go_wp2_with fail
        refine zad (by kernel_rfl) (by kernel_rfl) ?_;repeat(go_big_quiet_step((first|(go_at_call 222;with_reducible exact Calls.grow_of (HKy.out _))|(go_at_call 222;with_reducible exact Calls.grow_of (HKx.out _)))))
        refine wpQuiet_nil ?_;intro _ hw';obtain⟨nq,hw''⟩:=hw';subst hw'';go_upto_region 9 with fail
        refine zae fun W8 hW8=> ?_;have HB8:Hid (Below wr.heap.size wr W8):=by show Below _ _ _;rw[hW8];exact bel
        have hb8:b<W8.heap.size:=z2g hb HB8.out.size;have x0:=(HB8.out.cell hb).trans x0;have x1:=(HB8.out.cell hb).trans x1;have x2:=(HB8.out.cell hb).trans x2;clear hW8;have HO8:=z2c (zb5 HO.out HB8.out);have HP1:=z2c (Rd.part (Rd.own HO8.out) a (by omega));have HP2:=z2c (Rd.rest (Rd.own HO8.out) (a:=a) (by omega));obtain⟨hlA,hlB⟩:=And.intro HP1.out.1 HP2.out.1;have HNa:=z2c (fun W (hB:Below W8.heap.size W8 W)=>zd3 HP1.out (fun h=>by cases h) hB);have hca:a<=cap:=by omega
        have i1:(0:Int)<=a/\(a:Int)<=cap:=by omega
        have i2:(0:Int)<=a/\(a:Int)<=O.length/\(O.length:Int)<=cap:=by omega
        have HCe:=z2c (HCe0.out a);clear HCe0;have hcc2: ¬cap=a:=by omega
        have HNb:=z2c (fun W (hB:Below W8.heap.size W8 W)=>zd3 HP2.out (fun h=>by cases h) hB);go_wp2_with(first
         |(at_builtin;go_loud(refine zaw rfl _ _ 49 rfl sltF W8.heap.size rfl (za5 (c:= #[]) (n:=0) (size:=3) rfl (by unfold maxLen;omega)) (by simp[go_sem]) a _ (HNa.out _ bel) hlA (fun u hu=>zed O u (z3o hu)) (by unfold maxLen;omega) (by omega) ?_);intro v1 W1 ho1 hg1;have HB1:=zaq (w:=W8) hg1 (za5 (c:= #[]) (n:=0) (size:=3) rfl (by unfold maxLen;omega)) bel;have hz1:=HB1.out.size;have HO1:=z2c ho1;have x0:=(HB1.out.cell hb8).trans x0;have x1:=(HB1.out.cell hb8).trans x1;have x2:=(HB1.out.cell hb8).trans x2;clear ho1 hg1)
         |(at_builtin;refine zar rfl _ _ 49 rfl sltF W8.heap.size rfl (HO1.out.alloc _) (by simp[go_sem]<;>omega) ⟨_,0,none⟩ 1 1 [.string xs0,.string xs1,.string xs2] rfl rfl (zaf (c:= #[.string xs0,.string xs1,.string xs2]) (by simp[go_sem])) (by simp[Value.oneCell']) (by unfold maxLen;omega) (by omega) ?_;intro v2 W2 ho2 hg2;have HB2:=zaq (w:=W8) hg2 (HO1.out.alloc _) (zck HB1.out bel);have HO2:=z2c ho2;clear ho2 hg2)
         |(at_builtin;go_loud(refine zaw rfl _ _ 49 rfl sltF W8.heap.size rfl HO2.out (by have:=HB2.out.size;omega) (O.length-a) _ (HNb.out _ HB2.out) hlB (fun u hu=>zed O u (z3x hu)) (by unfold maxLen;omega) (by omega) ?_);intro v3 W3 ho3 hg3;have HB3:=zaq (w:=W8) hg3 HO2.out HB2.out;have HO3:=z2c ho3;clear ho3 hg3))
        go_roundw
        case rel=>
         refine⟨k+1,by omega,by go_num,zac HB.out (zac HB8.out HB3.out), ?_⟩;show World.ownsRow _ _ _ _ _ _ _;have h9:=zcp HO3.out (zac HB.out HB8.out).size;rw[HI.out];have e1:(O.take a++x::O.drop a).length=0+a+1+(O.length-a):=by simp only[z2h,z2r,z2i,z2n];omega
         rw[e1,HCe.out];exact h9
        case measure=>simp[intOf];omega
       ·rw[hev]at HI0 q2;have HI:Hid (zap ltF (d.take (k+1))=O):=HI0.out;clear hl hev HI0 HS;have HAh:=z2c HAh.out;go_wp2_with fail
        refine zad (by kernel_rfl) (by kernel_rfl) ?_;repeat(go_big_quiet_step((first|(go_at_call 222;with_reducible exact Calls.grow_of (HKy.out _))|(go_at_call 222;with_reducible exact Calls.grow_of (HKx.out _))|(go_at_call 221;with_reducible exact Calls.grow_of (HAh.out _)))))
        refine wpQuiet_nil ?_;intro _ hw';obtain⟨nq,hw''⟩:=hw';subst hw'';go_wp2_with fail
        refine zad (by kernel_rfl) (by kernel_rfl) ?_;repeat(go_big_quiet_step((first|(go_at_call 222;with_reducible exact Calls.grow_of (HKy.out _))|(go_at_call 222;with_reducible exact Calls.grow_of (HKx.out _)))))
        refine wpQuiet_nil ?_;intro _ hw';obtain⟨nq,hw''⟩:=hw';subst hw'';go_wp2_with fail
        go_roundw
        case rel=>
         refine⟨k+1,by omega,by go_num,zac HB.out bel, ?_⟩;show World.ownsRow _ _ _ _ _ _ _;rw[HI.out];exact zb5 HO.out bel
        case measure=>simp[intOf];omega
      ·rw[hl]at HAh;have HA2:Hid (∀z∈O.take (a+1),ltF z x=true):=zfu HA.out HY.out hl;clear hl q2;have HAh:=z2c HAh.out;go_wp2_with fail
       refine zad (by kernel_rfl) (by kernel_rfl) ?_;repeat(go_big_quiet_step((first|(go_at_call 222;with_reducible exact Calls.grow_of (HKy.out _))|(go_at_call 222;with_reducible exact Calls.grow_of (HKx.out _))|(go_at_call 221;with_reducible exact Calls.grow_of (HAh.out _)))))
       refine wpQuiet_nil ?_;intro _ hw';obtain⟨nq,hw''⟩:=hw';subst hw'';go_wp2_with fail
       go_roundw
       case rel=>exact⟨a+1,by omega,by go_num,zac HB.out bel,zb5 HO.out bel,HA2⟩
       case measure=>simp[intOf];omega
     ·have HI:Hid (zap ltF (d.take (k+1))=O.take a++x::O.drop a):=by
       show _=_;rw[HS.out,zkd swoF x O a (by omega) HA.out (fun z hz=>by rw[z3v (by omega)]at hz;cases hz),z3v (by omega)];simp only;rw[z2p (by omega),z5u (by omega)]
      generalize(⟨x.tag.toArray⟩:ByteArray)=xs0 at*;generalize(⟨x.name.toArray⟩:ByteArray)=xs1 at*;generalize(⟨x.value.toArray⟩:ByteArray)=xs2 at*;clear HS;go_wp2_with fail
      refine zad (by kernel_rfl) (by kernel_rfl) ?_;repeat(go_big_quiet_step(fail))
      refine wpQuiet_nil ?_;intro _ hw';obtain⟨nq,hw''⟩:=hw';subst hw'';go_wp2_with fail
      refine zad (by kernel_rfl) (by kernel_rfl) ?_;repeat(go_big_quiet_step(fail))
      refine wpQuiet_nil ?_;intro _ hw';obtain⟨nq,hw''⟩:=hw';subst hw'';go_upto_region 9 with fail
      refine zae fun W8 hW8=> ?_;have HB8:Hid (Below wr.heap.size wr W8):=by show Below _ _ _;rw[hW8];exact bel
      have hb8:b<W8.heap.size:=z2g hb HB8.out.size;have x0:=(HB8.out.cell hb).trans x0;have x1:=(HB8.out.cell hb).trans x1;have x2:=(HB8.out.cell hb).trans x2;clear hW8;have HO8:=z2c (zb5 HO.out HB8.out);have HP1:=z2c (Rd.part (Rd.own HO8.out) a (by omega));have HP2:=z2c (Rd.rest (Rd.own HO8.out) (a:=a) (by omega));obtain⟨hlA,hlB⟩:=And.intro HP1.out.1 HP2.out.1;have HNa:=z2c (fun W (hB:Below W8.heap.size W8 W)=>zd3 HP1.out (fun h=>by cases h) hB);have hca:a<=cap:=by omega
      have i1:(0:Int)<=a/\(a:Int)<=cap:=by omega
      have i2:(0:Int)<=a/\(a:Int)<=O.length/\(O.length:Int)<=cap:=by omega
      have HCe:=z2c (HCe0.out a);clear HCe0;by_cases hcc:a=cap
      ·subst hcc;have hOa:O.length-a=0:=by omega
       have hdr:((O).flatMap Frc.cells).drop (a*3)=[]:=z2u (by rw[hlB,hOa,Nat.zero_mul]);rw[hdr]at HCe;go_wp2_with(first
        |(at_builtin;go_loud(refine zaw rfl _ _ 49 rfl sltF W8.heap.size rfl (za5 (c:= #[]) (n:=0) (size:=3) rfl (by unfold maxLen;omega)) (by simp[go_sem]) a _ (HNa.out _ bel) hlA (fun u hu=>zed O u (z3o hu)) (by unfold maxLen;omega) (by omega) ?_);intro v1 W1 ho1 hg1;have HB1:=zaq (w:=W8) hg1 (za5 (c:= #[]) (n:=0) (size:=3) rfl (by unfold maxLen;omega)) bel;have hz1:=HB1.out.size;have HO1:=z2c ho1;have x0:=(HB1.out.cell hb8).trans x0;have x1:=(HB1.out.cell hb8).trans x1;have x2:=(HB1.out.cell hb8).trans x2;clear ho1 hg1)
        |(at_builtin;refine zar rfl _ _ 49 rfl sltF W8.heap.size rfl (HO1.out.alloc _) (by simp[go_sem]<;>omega) ⟨_,0,none⟩ 1 1 [.string xs0,.string xs1,.string xs2] rfl rfl (zaf (c:= #[.string xs0,.string xs1,.string xs2]) (by simp[go_sem])) (by simp[Value.oneCell']) (by unfold maxLen;omega) (by omega) ?_;intro v2 W2 ho2 hg2;have HB2:=zaq (w:=W8) hg2 (HO1.out.alloc _) (zck HB1.out bel);have HO2:=z2c ho2;clear ho2 hg2)
        |(at_builtin;go_loud(refine zaw rfl _ _ 49 rfl sltF W8.heap.size rfl HO2.out (by have:=HB2.out.size;omega) 0 [] (.inr ⟨⟨g,0,none⟩,0,rfl,fun j u hu=>by simp at hu⟩) rfl (fun u hu=>by cases hu) (by unfold maxLen;omega) (by omega) ?_);intro v3 W3 ho3 hg3;have HB3:=zaq (w:=W8) hg3 HO2.out HB2.out;have HO3:=z2c ho3;clear ho3 hg3))
       go_roundw
       case rel=>
        refine⟨k+1,by omega,by go_num,zac HB.out (zac HB8.out HB3.out), ?_⟩;show World.ownsRow _ _ _ _ _ _ _;have h9:=zcp HO3.out (zac HB.out HB8.out).size;rw[HI.out];have e1:(O.take a++x::O.drop a).length=0+a+1+0:=by simp only[z2h,z2r,z2i,z2n];omega
        rw[e1,HCe.out];exact h9
       case measure=>simp[intOf];omega
      ·have hcc2: ¬cap=a:=fun h=>hcc h.symm;have HNb:=z2c (fun W (hB:Below W8.heap.size W8 W)=>zd3 HP2.out (fun h=>by cases h) hB);go_wp2_with(first
        |(at_builtin;go_loud(refine zaw rfl _ _ 49 rfl sltF W8.heap.size rfl (za5 (c:= #[]) (n:=0) (size:=3) rfl (by unfold maxLen;omega)) (by simp[go_sem]) a _ (HNa.out _ bel) hlA (fun u hu=>zed O u (z3o hu)) (by unfold maxLen;omega) (by omega) ?_);intro v1 W1 ho1 hg1;have HB1:=zaq (w:=W8) hg1 (za5 (c:= #[]) (n:=0) (size:=3) rfl (by unfold maxLen;omega)) bel;have hz1:=HB1.out.size;have HO1:=z2c ho1;have x0:=(HB1.out.cell hb8).trans x0;have x1:=(HB1.out.cell hb8).trans x1;have x2:=(HB1.out.cell hb8).trans x2;clear ho1 hg1)
        |(at_builtin;refine zar rfl _ _ 49 rfl sltF W8.heap.size rfl (HO1.out.alloc _) (by simp[go_sem]<;>omega) ⟨_,0,none⟩ 1 1 [.string xs0,.string xs1,.string xs2] rfl rfl (zaf (c:= #[.string xs0,.string xs1,.string xs2]) (by simp[go_sem])) (by simp[Value.oneCell']) (by unfold maxLen;omega) (by omega) ?_;intro v2 W2 ho2 hg2;have HB2:=zaq (w:=W8) hg2 (HO1.out.alloc _) (zck HB1.out bel);have HO2:=z2c ho2;clear ho2 hg2)
        |(at_builtin;go_loud(refine zaw rfl _ _ 49 rfl sltF W8.heap.size rfl HO2.out (by have:=HB2.out.size;omega) (O.length-a) _ (HNb.out _ HB2.out) hlB (fun u hu=>zed O u (z3x hu)) (by unfold maxLen;omega) (by omega) ?_);intro v3 W3 ho3 hg3;have HB3:=zaq (w:=W8) hg3 HO2.out HB2.out;have HO3:=z2c ho3;clear ho3 hg3))
       go_roundw
       case rel=>
        refine⟨k+1,by omega,by go_num,zac HB.out (zac HB8.out HB3.out), ?_⟩;show World.ownsRow _ _ _ _ _ _ _;have h9:=zcp HO3.out (zac HB.out HB8.out).size;rw[HI.out];have e1:(O.take a++x::O.drop a).length=0+a+1+(O.length-a):=by simp only[z2h,z2r,z2i,z2n];omega
        rw[e1,HCe.out];exact h9
       case measure=>simp[intOf];omega
  ·have hkl:k=d.length:=by omega
   subst hkl;rw[List.take_length]at HO;go_wp2_with fail
   go_ret;obtain⟨A',c',rfl,hc'⟩:=zah HO.out;exact⟨A',c',rfl,HB.out,zmz HO.out,Rd.own HO.out,fun _ b off s h=>by subst h;exact(HO.out.lt b rfl).1⟩
end Go.Proofs.YtiikamobcmgekaaGreatDoor
