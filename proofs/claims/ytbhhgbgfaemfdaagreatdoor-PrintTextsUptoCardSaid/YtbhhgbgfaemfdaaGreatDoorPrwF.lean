/- The walks of print.among and print.Within. (written by gen_within.py) -/
import Derived.BigRegion
import Derived.Test.YtbhhgbgfaemfdaaGreatDoorC3
import Derived.Test.YtbhhgbgfaemfdaaGreatDoorR1
import Derived.Test.YtbhhgbgfaemfdaaGreatDoorRG
import Derived.Test.YtbhhgbgfaemfdaaGreatDoorPrnPlain
import Derived.Lib.AppendZerosOnto
import Derived.Test.YtbhhgbgfaemfdaaGreatDoorWN
namespace Go.Proofs.YtbhhgbgfaemfdaaGreatDoor
open Lib renaming hid→z2g,wpList_append_run→z4z
set_option maxRecDepth 100000
set_option maxHeartbeats 4000000
open Go.RowKit
attribute [local go_sem] Oper.semAt_some
theorem zhi {P:Program} {t tn e:TypeId} {z:Value} {size bytes:Nat} (row:SlT P t e z size bytes) (htn:P.underlying tn=some (.int .i64)) (w:World) (n:Nat) (h0:0<n) (hn:n<=1000000000) (hb:bytes<=64):
  ∃G cs,n<=G/\G<=maxLen/\cs.size=G*size/\ ∀ty,(Builtin.append_ #[t,tn] ty #[.slice none 0 0,.int .i64 n]).run P w= .ok (.slice (some ⟨w.heap.size,0,none⟩) n G) (w.drew.alloc (.cells cs e)):=by
 obtain⟨i,hi,hz0,hz1,hz2⟩:=info_parts row.hi
 have hG:=grownCap_ge w (0+n) 0 e
 have hG2:=grownCap_le_maxLen w (0+n) 0 e (by unfold maxLen;omega)
 have hnb:(0+n)*i.bytes<=140737488355328:=by
  rw[hz2]
  have:(0+n)*bytes<=1000000000*64:=Nat.mul_le_mul (by omega) hb
  omega
 refine⟨grownCap w (0+n) 0 e,#[]++Builtin.zeroCells z.cells n++Builtin.zeroCells z.cells (grownCap w (0+n) 0 e-(0+n)),by omega,hG2, ?_,fun ty=> ?_⟩
 ·have e:n*size+(grownCap w (0+n) 0 e-(0+n))*size=grownCap w (0+n) 0 e*size:=by
   rw[<-Nat.add_mul];congr 1;omega
  rw[<-e]
  simp[size_zeroCells,row.hzs]
 ·have h:=Lib.run_append_grow_zeros w t tn ty e i z .i64 .i64 row.ht htn hi hz0 none 0 0 [] (run_firstCells_none w.drew i.size 0 0 0) n h0 (by rw[hz1];exact row.hsz) (by omega) (by omega)
   (by have:n*i.bytes<=(0+n)*i.bytes:=Nat.mul_le_mul_right _ (by omega);omega) (growslice_fits (by omega) hnb)
  rw[Nat.zero_add]at h ⊢
  exact h
theorem zjq {W:World} {e:TypeId} {size G:Nat} {cs:Array Value} (h:cs.size=G*size) (hG:G<=maxLen):(W.drew.alloc (.cells cs e)).ownsRow W.heap.size e size (.slice (some ⟨W.heap.size,0,none⟩) 0 G) 0 []:=
 ⟨by simp,.inr ⟨W.heap.size,G,cs,rfl,Nat.le_refl _,heap_alloc_new W.drew _,Nat.zero_le _,hG,h,by simp⟩⟩
theorem zti (n:Nat) (w:World) (hn:n<=1000000000):Calls Tryz.prog 122 #[.slice none 0 0,.int .i64 n] w fun e w'=> ∃v,e= .returned v/\w'.ownsRow w.heap.size 9 1 v 0 []/\Below w.heap.size w w':=by
 by_cases h0:n=0
 ·subst h0
  go_enter Tryz.func122,Tryz.ntmps122
  go_wp2_with fail
  go_ret
  exact⟨_,rfl,⟨rfl,.inl ⟨rfl,rfl⟩⟩,bel⟩
 ·obtain⟨G,cs,hG,hG2,hc,hz⟩:=zhi sltS (tn:=3) (by kernel_rfl) w n (by omega) hn (by decide)
  have HO:=z2g (zjq (W:=w) (e:=9) hc hG2)
  have hrz:=fun ty=>hz ty
  have h3:IntKind.i64.wrap ((n:Int)-0)=n:=by rw[IntKind.wrap_i64];omega
  clear hz hc
  go_enter Tryz.func122,Tryz.ntmps122
  go_wp2_with(at_builtin;refine z4z _ rfl _ _ _ _ rfl _ _ rfl rfl _ _ (hrz _) ?_)
  go_ret
  exact⟨_,rfl,HO.out,bel⟩
theorem ze8 (b:Nat) (v1 v2:Value) (l m:List Bs) (bad1 bad2:Nat->Prop) (w:World) (x1:w.cell? ⟨b,0,none⟩=some v1) (x2:w.cell? ⟨b,1,none⟩=some v2)
  (h1:Rx w bad1 v1 l.length 1 (l.map sv)) (h2:Rx w bad2 v2 m.length 1 (m.map sv)) (hl:l.length<=100000000) (hm:m.length<=100000000):
  Calls Tryz.prog 74 #[.slice (some ⟨b,0,none⟩) 2 2] w fun e w'=> ∃v,e= .returned v/\w'.ownsRow w.heap.size 9 1 v (l.length+m.length) ((l.map sv)++(m.map sv))/\Below w.heap.size w w':=by
 obtain⟨A1,c1,rfl,z1,r1,_⟩:=h1
 obtain⟨A2,c2,rfl,z2,r2,_⟩:=h2
 have hbl:b<w.heap.size:=World.block_lt_of_cell? w _ x1
 have HN1:=z2g (fun W (hb:Below w.heap.size w W)=>zc1 r1 z1.1 hb)
 have HN2:=z2g (fun W (hb:Below w.heap.size w W)=>zc1 r2 z2.1 hb)
 have HL1:Hid ((l.map sv).length=l.length*1):=r1.1
 have HL2:Hid ((m.map sv).length=m.length*1):=r2.1
 have HO1:=z2g (zc5 l)
 have HO2:=z2g (zc5 m)
 have HG:=z2g (fun W (k:Nat) (hk:k<=200000000)=>zti k W (by omega))
 clear r1 r2 z1 z2
 generalize(l.map sv)=S1 at*
 generalize(m.map sv)=S2 at*
 generalize l.length=n1 at*
 generalize m.length=n2 at*
 have s1:IntKind.i64.wrap ((0:Int)+n1)=n1:=by rw[IntKind.wrap_i64];omega
 obtain⟨N,hN⟩: ∃N,n1+n2=N:=⟨_,rfl⟩
 have s2:IntKind.i64.wrap ((n1:Int)+n2)=(N:Nat):=by rw[IntKind.wrap_i64];omega
 have HN:=z2g hN
 have hp1: ¬(n1:Int)<0:=by omega
 have hp2: ¬(N:Int)<0:=by omega
 have hN9:N<=200000000:=by omega
 rw[hN]
 clear hN
 go_enter Tryz.func74,Tryz.ntmps74
 go_wp2_with fail
 go_loopw [3,11] (fun s i wr=>((i= .int .i64 0/\s= .int .i64 0)\/(i= .int .i64 1/\s= .int .i64 n1)\/(i= .int .i64 2/\s= .int .i64 N))/\w=wr) (fun _ i _=>2-(intOf i).toNat)
 case atStart=>exact⟨.inl ⟨rfl,rfl⟩,rfl⟩
 case round=>
  obtain⟨⟨rfl,rfl⟩|⟨rfl,rfl⟩|⟨rfl,rfl⟩,rfl⟩:=hrel
  ·go_wp2_with fail
   go_roundw
   case rel=>exact⟨.inr (.inl ⟨by go_num,by first|rfl|go_num⟩),by first|rfl|trivial⟩
   case measure=>simp[intOf]
  ·go_wp2_with fail
   go_roundw
   case rel=>exact⟨.inr (.inr ⟨by go_num,by first|rfl|go_num⟩),by first|rfl|trivial⟩
   case measure=>simp[intOf]
  ·have HG1:=z2g (HG.out w N hN9)
   go_upto_region 10 with(go_at_call 122;(with_reducible refine HG1.out.mono ?_);rintro e W1 ⟨v0,rfl,ho0,hb0⟩;have HB0:=z2g hb0;have HV0:=z2g ho0;clear ho0 hb0)
   go_wp2_with fail
   go_loopw [6,27] (fun v i wx=>((i= .int .i64 0/\wx.ownsRow w.heap.size 9 1 v 0 [])\/(i= .int .i64 1/\wx.ownsRow w.heap.size 9 1 v n1 S1)\/(i= .int .i64 2/\wx.ownsRow w.heap.size 9 1 v N (S1++S2)))/\Hid (Below w.heap.size w wx)) (fun _ i _=>2-(intOf i).toNat)
   case atStart=>exact⟨.inl ⟨rfl,HV0.out⟩,HB0.out⟩
   case round=>
    clear HB0 HV0 HG1
    obtain⟨⟨rfl,ho⟩|⟨rfl,ho⟩|⟨rfl,ho⟩,HB⟩:=hrel
    ·have y1:=(HB.out.cell (p:=⟨b,0,none⟩) hbl).trans x1
     have HOw:=z2g ho
     have hsz:=HB.out.size
     clear ho x1 x2
     go_wp2_with(at_builtin;go_loud(refine zas rfl _ _ 39 rfl sltS w.heap.size rfl HOw.out hsz n1 S1 (HN1.out _ HB.out) HL1.out HO1.out (by unfold maxLen;omega) (by omega) ?_);intro v1 W2 ho1 hg1;have HB2:=zao (w:=w) (size:=1) hg1 HOw.out HB.out;have HV2:=z2g ho1;clear ho1 hg1)
     go_roundw
     case rel=>exact⟨.inr (.inl ⟨by go_num,by have:=HV2.out;rwa[Nat.zero_add,List.nil_append]at this⟩),HB2.out⟩
     case measure=>simp[intOf]
    ·have y1:=(HB.out.cell (p:=⟨b,1,none⟩) hbl).trans x2
     have HOw:=z2g ho
     have hsz:=HB.out.size
     clear ho x1 x2
     go_wp2_with(at_builtin;go_loud(refine zas rfl _ _ 39 rfl sltS w.heap.size rfl HOw.out hsz n2 S2 (HN2.out _ HB.out) HL2.out HO2.out (by unfold maxLen;omega) (by omega) ?_);intro v1 W2 ho1 hg1;have HB2:=zao (w:=w) (size:=1) hg1 HOw.out HB.out;have HV2:=z2g ho1;clear ho1 hg1)
     go_roundw
     case rel=>exact⟨.inr (.inr ⟨by go_num,by have:=HV2.out;rwa[HN.out]at this⟩),HB2.out⟩
     case measure=>simp[intOf]
    ·have HOw:=z2g ho
     clear ho x1 x2
     go_wp2_with fail
     go_ret
     exact⟨_,rfl,HOw.out,HB.out⟩
theorem ztk (n:Nat) (w:World) (hn:n<=1000000000):Calls Tryz.prog 123 #[.slice none 0 0,.int .i64 n] w fun e w'=> ∃v,e= .returned v/\w'.ownsRow w.heap.size 80 2 v 0 []/\Below w.heap.size w w':=by
 by_cases h0:n=0
 ·subst h0
  go_enter Tryz.func123,Tryz.ntmps123
  go_wp2_with fail
  go_ret
  exact⟨_,rfl,⟨rfl,.inl ⟨rfl,rfl⟩⟩,bel⟩
 ·obtain⟨G,cs,hG,hG2,hc,hz⟩:=zhi sltA (tn:=3) (by kernel_rfl) w n (by omega) hn (by decide)
  have HO:=z2g (zjq (W:=w) (e:=80) hc hG2)
  have hrz:=fun ty=>hz ty
  have h3:IntKind.i64.wrap ((n:Int)-0)=n:=by rw[IntKind.wrap_i64];omega
  clear hz hc
  go_enter Tryz.func123,Tryz.ntmps123
  go_wp2_with(at_builtin;refine z4z _ rfl _ _ _ _ rfl _ _ rfl rfl _ _ (hrz _) ?_)
  go_ret
  exact⟨_,rfl,HO.out,bel⟩
theorem zqv (b:Nat) (v1 v2:Value) (l m:List Alw) (bad1 bad2:Nat->Prop) (w:World) (x1:w.cell? ⟨b,0,none⟩=some v1) (x2:w.cell? ⟨b,1,none⟩=some v2)
  (h1:Rx w bad1 v1 l.length 2 (l.flatMap Alw.cells)) (h2:Rx w bad2 v2 m.length 2 (m.flatMap Alw.cells)) (hl:l.length<=100000000) (hm:m.length<=100000000):
  Calls Tryz.prog 75 #[.slice (some ⟨b,0,none⟩) 2 2] w fun e w'=> ∃v,e= .returned v/\w'.ownsRow w.heap.size 80 2 v (l.length+m.length) ((l.flatMap Alw.cells)++(m.flatMap Alw.cells))/\Below w.heap.size w w':=by
 obtain⟨A1,c1,rfl,z1,r1,_⟩:=h1
 obtain⟨A2,c2,rfl,z2,r2,_⟩:=h2
 have hbl:b<w.heap.size:=World.block_lt_of_cell? w _ x1
 have HN1:=z2g (fun W (hb:Below w.heap.size w W)=>zc1 r1 z1.1 hb)
 have HN2:=z2g (fun W (hb:Below w.heap.size w W)=>zc1 r2 z2.1 hb)
 have HL1:Hid ((l.flatMap Alw.cells).length=l.length*2):=r1.1
 have HL2:Hid ((m.flatMap Alw.cells).length=m.length*2):=r2.1
 have HO1:=z2g (zc7 l)
 have HO2:=z2g (zc7 m)
 have HG:=z2g (fun W (k:Nat) (hk:k<=200000000)=>ztk k W (by omega))
 clear r1 r2 z1 z2
 generalize(l.flatMap Alw.cells)=S1 at*
 generalize(m.flatMap Alw.cells)=S2 at*
 generalize l.length=n1 at*
 generalize m.length=n2 at*
 have s1:IntKind.i64.wrap ((0:Int)+n1)=n1:=by rw[IntKind.wrap_i64];omega
 obtain⟨N,hN⟩: ∃N,n1+n2=N:=⟨_,rfl⟩
 have s2:IntKind.i64.wrap ((n1:Int)+n2)=(N:Nat):=by rw[IntKind.wrap_i64];omega
 have HN:=z2g hN
 have hp1: ¬(n1:Int)<0:=by omega
 have hp2: ¬(N:Int)<0:=by omega
 have hN9:N<=200000000:=by omega
 rw[hN]
 clear hN
 go_enter Tryz.func75,Tryz.ntmps75
 go_wp2_with fail
 go_loopw [3,11] (fun s i wr=>((i= .int .i64 0/\s= .int .i64 0)\/(i= .int .i64 1/\s= .int .i64 n1)\/(i= .int .i64 2/\s= .int .i64 N))/\w=wr) (fun _ i _=>2-(intOf i).toNat)
 case atStart=>exact⟨.inl ⟨rfl,rfl⟩,rfl⟩
 case round=>
  obtain⟨⟨rfl,rfl⟩|⟨rfl,rfl⟩|⟨rfl,rfl⟩,rfl⟩:=hrel
  ·go_wp2_with fail
   go_roundw
   case rel=>exact⟨.inr (.inl ⟨by go_num,by first|rfl|go_num⟩),by first|rfl|trivial⟩
   case measure=>simp[intOf]
  ·go_wp2_with fail
   go_roundw
   case rel=>exact⟨.inr (.inr ⟨by go_num,by first|rfl|go_num⟩),by first|rfl|trivial⟩
   case measure=>simp[intOf]
  ·have HG1:=z2g (HG.out w N hN9)
   go_upto_region 10 with(go_at_call 123;(with_reducible refine HG1.out.mono ?_);rintro e W1 ⟨v0,rfl,ho0,hb0⟩;have HB0:=z2g hb0;have HV0:=z2g ho0;clear ho0 hb0)
   go_wp2_with fail
   go_loopw [6,27] (fun v i wx=>((i= .int .i64 0/\wx.ownsRow w.heap.size 80 2 v 0 [])\/(i= .int .i64 1/\wx.ownsRow w.heap.size 80 2 v n1 S1)\/(i= .int .i64 2/\wx.ownsRow w.heap.size 80 2 v N (S1++S2)))/\Hid (Below w.heap.size w wx)) (fun _ i _=>2-(intOf i).toNat)
   case atStart=>exact⟨.inl ⟨rfl,HV0.out⟩,HB0.out⟩
   case round=>
    clear HB0 HV0 HG1
    obtain⟨⟨rfl,ho⟩|⟨rfl,ho⟩|⟨rfl,ho⟩,HB⟩:=hrel
    ·have y1:=(HB.out.cell (p:=⟨b,0,none⟩) hbl).trans x1
     have HOw:=z2g ho
     have hsz:=HB.out.size
     clear ho x1 x2
     go_wp2_with(at_builtin;go_loud(refine zas rfl _ _ 40 rfl sltA w.heap.size rfl HOw.out hsz n1 S1 (HN1.out _ HB.out) HL1.out HO1.out (by unfold maxLen;omega) (by omega) ?_);intro v1 W2 ho1 hg1;have HB2:=zao (w:=w) (size:=2) hg1 HOw.out HB.out;have HV2:=z2g ho1;clear ho1 hg1)
     go_roundw
     case rel=>exact⟨.inr (.inl ⟨by go_num,by have:=HV2.out;rwa[Nat.zero_add,List.nil_append]at this⟩),HB2.out⟩
     case measure=>simp[intOf]
    ·have y1:=(HB.out.cell (p:=⟨b,1,none⟩) hbl).trans x2
     have HOw:=z2g ho
     have hsz:=HB.out.size
     clear ho x1 x2
     go_wp2_with(at_builtin;go_loud(refine zas rfl _ _ 40 rfl sltA w.heap.size rfl HOw.out hsz n2 S2 (HN2.out _ HB.out) HL2.out HO2.out (by unfold maxLen;omega) (by omega) ?_);intro v1 W2 ho1 hg1;have HB2:=zao (w:=w) (size:=2) hg1 HOw.out HB.out;have HV2:=z2g ho1;clear ho1 hg1)
     go_roundw
     case rel=>exact⟨.inr (.inr ⟨by go_num,by have:=HV2.out;rwa[HN.out]at this⟩),HB2.out⟩
     case measure=>simp[intOf]
    ·have HOw:=z2g ho
     clear ho x1 x2
     go_wp2_with fail
     go_ret
     exact⟨_,rfl,HOw.out,HB.out⟩
theorem ztj (n:Nat) (w:World) (hn:n<=1000000000):Calls Tryz.prog 124 #[.slice none 0 0,.int .i64 n] w fun e w'=> ∃v,e= .returned v/\w'.ownsRow w.heap.size 72 3 v 0 []/\Below w.heap.size w w':=by
 by_cases h0:n=0
 ·subst h0
  go_enter Tryz.func124,Tryz.ntmps124
  go_wp2_with fail
  go_ret
  exact⟨_,rfl,⟨rfl,.inl ⟨rfl,rfl⟩⟩,bel⟩
 ·obtain⟨G,cs,hG,hG2,hc,hz⟩:=zhi sltF (tn:=3) (by kernel_rfl) w n (by omega) hn (by decide)
  have HO:=z2g (zjq (W:=w) (e:=72) hc hG2)
  have hrz:=fun ty=>hz ty
  have h3:IntKind.i64.wrap ((n:Int)-0)=n:=by rw[IntKind.wrap_i64];omega
  clear hz hc
  go_enter Tryz.func124,Tryz.ntmps124
  go_wp2_with(at_builtin;refine z4z _ rfl _ _ _ _ rfl _ _ rfl rfl _ _ (hrz _) ?_)
  go_ret
  exact⟨_,rfl,HO.out,bel⟩
theorem zqu (b:Nat) (v1 v2:Value) (l m:List Frc) (bad1 bad2:Nat->Prop) (w:World) (x1:w.cell? ⟨b,0,none⟩=some v1) (x2:w.cell? ⟨b,1,none⟩=some v2)
  (h1:Rx w bad1 v1 l.length 3 (l.flatMap Frc.cells)) (h2:Rx w bad2 v2 m.length 3 (m.flatMap Frc.cells)) (hl:l.length<=100000000) (hm:m.length<=100000000):
  Calls Tryz.prog 76 #[.slice (some ⟨b,0,none⟩) 2 2] w fun e w'=> ∃v,e= .returned v/\w'.ownsRow w.heap.size 72 3 v (l.length+m.length) ((l.flatMap Frc.cells)++(m.flatMap Frc.cells))/\Below w.heap.size w w':=by
 obtain⟨A1,c1,rfl,z1,r1,_⟩:=h1
 obtain⟨A2,c2,rfl,z2,r2,_⟩:=h2
 have hbl:b<w.heap.size:=World.block_lt_of_cell? w _ x1
 have HN1:=z2g (fun W (hb:Below w.heap.size w W)=>zc1 r1 z1.1 hb)
 have HN2:=z2g (fun W (hb:Below w.heap.size w W)=>zc1 r2 z2.1 hb)
 have HL1:Hid ((l.flatMap Frc.cells).length=l.length*3):=r1.1
 have HL2:Hid ((m.flatMap Frc.cells).length=m.length*3):=r2.1
 have HO1:=z2g (zc6 l)
 have HO2:=z2g (zc6 m)
 have HG:=z2g (fun W (k:Nat) (hk:k<=200000000)=>ztj k W (by omega))
 clear r1 r2 z1 z2
 generalize(l.flatMap Frc.cells)=S1 at*
 generalize(m.flatMap Frc.cells)=S2 at*
 generalize l.length=n1 at*
 generalize m.length=n2 at*
 have s1:IntKind.i64.wrap ((0:Int)+n1)=n1:=by rw[IntKind.wrap_i64];omega
 obtain⟨N,hN⟩: ∃N,n1+n2=N:=⟨_,rfl⟩
 have s2:IntKind.i64.wrap ((n1:Int)+n2)=(N:Nat):=by rw[IntKind.wrap_i64];omega
 have HN:=z2g hN
 have hp1: ¬(n1:Int)<0:=by omega
 have hp2: ¬(N:Int)<0:=by omega
 have hN9:N<=200000000:=by omega
 rw[hN]
 clear hN
 go_enter Tryz.func76,Tryz.ntmps76
 go_wp2_with fail
 go_loopw [3,11] (fun s i wr=>((i= .int .i64 0/\s= .int .i64 0)\/(i= .int .i64 1/\s= .int .i64 n1)\/(i= .int .i64 2/\s= .int .i64 N))/\w=wr) (fun _ i _=>2-(intOf i).toNat)
 case atStart=>exact⟨.inl ⟨rfl,rfl⟩,rfl⟩
 case round=>
  obtain⟨⟨rfl,rfl⟩|⟨rfl,rfl⟩|⟨rfl,rfl⟩,rfl⟩:=hrel
  ·go_wp2_with fail
   go_roundw
   case rel=>exact⟨.inr (.inl ⟨by go_num,by first|rfl|go_num⟩),by first|rfl|trivial⟩
   case measure=>simp[intOf]
  ·go_wp2_with fail
   go_roundw
   case rel=>exact⟨.inr (.inr ⟨by go_num,by first|rfl|go_num⟩),by first|rfl|trivial⟩
   case measure=>simp[intOf]
  ·have HG1:=z2g (HG.out w N hN9)
   go_upto_region 10 with(go_at_call 124;(with_reducible refine HG1.out.mono ?_);rintro e W1 ⟨v0,rfl,ho0,hb0⟩;have HB0:=z2g hb0;have HV0:=z2g ho0;clear ho0 hb0)
   go_wp2_with fail
   go_loopw [6,27] (fun v i wx=>((i= .int .i64 0/\wx.ownsRow w.heap.size 72 3 v 0 [])\/(i= .int .i64 1/\wx.ownsRow w.heap.size 72 3 v n1 S1)\/(i= .int .i64 2/\wx.ownsRow w.heap.size 72 3 v N (S1++S2)))/\Hid (Below w.heap.size w wx)) (fun _ i _=>2-(intOf i).toNat)
   case atStart=>exact⟨.inl ⟨rfl,HV0.out⟩,HB0.out⟩
   case round=>
    clear HB0 HV0 HG1
    obtain⟨⟨rfl,ho⟩|⟨rfl,ho⟩|⟨rfl,ho⟩,HB⟩:=hrel
    ·have y1:=(HB.out.cell (p:=⟨b,0,none⟩) hbl).trans x1
     have HOw:=z2g ho
     have hsz:=HB.out.size
     clear ho x1 x2
     go_wp2_with(at_builtin;go_loud(refine zas rfl _ _ 41 rfl sltF w.heap.size rfl HOw.out hsz n1 S1 (HN1.out _ HB.out) HL1.out HO1.out (by unfold maxLen;omega) (by omega) ?_);intro v1 W2 ho1 hg1;have HB2:=zao (w:=w) (size:=3) hg1 HOw.out HB.out;have HV2:=z2g ho1;clear ho1 hg1)
     go_roundw
     case rel=>exact⟨.inr (.inl ⟨by go_num,by have:=HV2.out;rwa[Nat.zero_add,List.nil_append]at this⟩),HB2.out⟩
     case measure=>simp[intOf]
    ·have y1:=(HB.out.cell (p:=⟨b,1,none⟩) hbl).trans x2
     have HOw:=z2g ho
     have hsz:=HB.out.size
     clear ho x1 x2
     go_wp2_with(at_builtin;go_loud(refine zas rfl _ _ 41 rfl sltF w.heap.size rfl HOw.out hsz n2 S2 (HN2.out _ HB.out) HL2.out HO2.out (by unfold maxLen;omega) (by omega) ?_);intro v1 W2 ho1 hg1;have HB2:=zao (w:=w) (size:=3) hg1 HOw.out HB.out;have HV2:=z2g ho1;clear ho1 hg1)
     go_roundw
     case rel=>exact⟨.inr (.inr ⟨by go_num,by have:=HV2.out;rwa[HN.out]at this⟩),HB2.out⟩
     case measure=>simp[intOf]
    ·have HOw:=z2g ho
     clear ho x1 x2
     go_wp2_with fail
     go_ret
     exact⟨_,rfl,HOw.out,HB.out⟩
theorem strange9_any (b:Nat) (v:Value) (o:List Bs) (t:Bs) (W:World) (hc:W.cell? ⟨b,0,none⟩=some v) (h:Rd W v o.length 1 (o.map sv)):Calls Tryz.prog 120 #[sv t,.pointer (some ⟨b,0,none⟩)] W (Ret (.bool (!decide (t∈o))) W):=by
 have HC:=z2g (zib v o t W h)
 have hb:=World.block_lt_of_cell? W _ hc
 unfold sv
 generalize decide (t∈o)=D at*
 generalize(⟨t.toArray⟩:ByteArray)=x at*
 clear h
 go_enter Tryz.func120,Tryz.ntmps120
 go_wp2_with(go_at_call 121;(with_reducible refine HC.out.mono ?_);rintro e w' ⟨rfl,rfl⟩)
 go_ret
 exact Ret.of rfl bel
theorem z0e (l o:List Bs):(!l.any fun t=> !decide (t∈o))=zcs l o:=by
 unfold zcs
 rw[Bool.eq_iff_iff]
 simp
theorem zhg (v u:Value) (l o:List Bs) (w:World) (h:Rd w v l.length 1 (l.map sv)) (g:Rd w u o.length 1 (o.map sv)):Calls Tryz.prog 73 #[v,u] w (Ret (.bool (zcs l o)) w):=by
 have hk:Hid (Below w.heap.size w (w.alloc (.cells #[u] 39))):=by show Below _ _ _;exact bel
 obtain⟨A2,c2,rfl⟩: ∃A c,u= .slice A o.length c:=by obtain⟨_,_,A,c,e,_⟩:=g;exact⟨A,c,e⟩
 have hcl:(w.alloc (.cells #[.slice A2 o.length c2] 39)).cell? ⟨w.heap.size,0,none⟩=some (.slice A2 o.length c2):=by simp[go_sem]
 have HF:=z2g (zj2 v l 120 #[] #[.pointer (some ⟨w.heap.size,0,none⟩)] (fun t=> !decide (t∈o)) _ (h.belowW hk.out) ⟨enters_of Tryz.func120 (by kernel_rfl) rfl,fun t _ W hW=>strange9_any w.heap.size _ o t W ((hW.cell (p:=⟨w.heap.size,0,none⟩) (by simp)).trans hcl) (g.belowW (hk.out.trans (hW.mono hk.out.size)))⟩)
 have HE:=z2g (z0e l o)
 generalize l.any (fun t=> !decide (t∈o))=D at*
 clear h g hcl hk
 go_enter Tryz.func73,Tryz.ntmps73
 go_wp2_with(go_at_call 101;(refine HF.out.mono ?_);rintro e W1 ⟨rfl,X1,rfl⟩)
 go_ret
 exact Ret.of (by first|rfl|(rw[HE.out];rfl)|rw[HE.out]) bel
theorem zzw (v:Value) (l:List Alw) (y:Alw) (w:World) (h:Rd w v l.length 2 (l.flatMap Alw.cells)):
  Calls Tryz.prog 119 #[v,.agg #[.string ⟨y.tag.toArray⟩,.string ⟨y.name.toArray⟩]] w fun e w'=> ∃i:Int,e= .returned (.int .i64 i)/\decide (0<=i)=decide (y∈l)/\Below w.heap.size w w':=by
 have hmx:Tryz.prog.follows .mixedOrders=true:=by kernel_rfl
 obtain⟨_,hm,A,c,rfl,h4⟩:=h
 obtain⟨n,hn⟩: ∃n,l.length=n:=⟨_,rfl⟩
 have HN:=z2g hn
 have HD0:Hid (decide (y∈l)=decide (y∈l.drop 0)):=by show _=_;rw[List.drop_zero]
 obtain⟨D,hD⟩: ∃D,decide (y∈l)=D:=⟨_,rfl⟩
 rw[hD]at HD0 ⊢
 rw[hn]at hm h4 ⊢
 clear hn hD
 have H4:=z2g h4
 have HQ:=z2g (fun x:Alw=>show(((⟨y.tag.toArray⟩:ByteArray).toList==(⟨x.tag.toArray⟩:ByteArray).toList)&&((⟨y.name.toArray⟩:ByteArray).toList==(⟨x.name.toArray⟩:ByteArray).toList))=decide (y=x) by
  rw[zfg,zfg]
  obtain⟨y1,y2⟩:=y
  obtain⟨x1,x2⟩:=x
  rw[Bool.eq_iff_iff];simp)
 clear h4
 generalize hxs:(⟨y.tag.toArray⟩:ByteArray)=yt at*
 generalize hxn:(⟨y.name.toArray⟩:ByteArray)=yn at*
 clear hxs hxn
 go_enter Tryz.func119,Tryz.ntmps119
 go_wp2_with fail
 obtain⟨W0,hW0⟩: ∃W0,w.alloc (.cells #[.string yt,.string yn] 80)=W0:=⟨_,rfl⟩
 have HB0:Hid (Below w.heap.size w W0):=by show Below _ _ _;rw[<-hW0];exact bel
 have y0:W0.cell? ⟨w.heap.size,0,none⟩=some (.string yt):=by rw[<-hW0];simp[go_sem]
 have y1:W0.cell? ⟨w.heap.size,1,none⟩=some (.string yn):=by rw[<-hW0];simp[go_sem]
 have hl0:w.heap.size<W0.heap.size:=World.block_lt_of_cell? W0 _ y0
 obtain⟨B,hB⟩: ∃B,w.heap.size=B:=⟨_,rfl⟩
 rw[hB]at y0 y1 hl0
 rw[hW0,hB]
 clear hW0
 go_loopw [8] (fun i wr=> ∃k:Nat,k<=n/\i= .int .i64 (k:Nat)/\Hid (D=decide (y∈l.drop k))/\Hid (Below W0.heap.size W0 wr)) (fun i _=>n-(intOf i).toNat)
 case atStart=>exact⟨0,by omega,rfl,HD0.out,by show Below _ _ _;exact bel⟩
 case round=>
  clear HD0
  obtain⟨k,hk,rfl,HK,HB⟩:=hrel
  have HBw:=z2g (HB0.out.trans (HB.out.mono HB0.out.size))
  have z0:=(HB.out.cell (p:=⟨B,0,none⟩) hl0).trans y0
  have z1:=(HB.out.cell (p:=⟨B,1,none⟩) hl0).trans y1
  have hz:B<wr.heap.size:=Nat.lt_of_lt_of_le hl0 HB.out.size
  by_cases hlt:k<n
  ·obtain⟨b,off,rfl,hb,hc⟩:=H4.out (by omega)
   have hkl:k<l.length:=by rw[HN.out];exact hlt
   obtain⟨x,hx⟩: ∃x,l[k]=x:=⟨_,rfl⟩
   have x0:wr.cell? ⟨b,off+k*2,none⟩=some (.string ⟨x.tag.toArray⟩):=(HBw.out.cell (p:=⟨b,off+k*2,none⟩) hb).trans (hc (k*2+0) (sv x.tag) (by rw[za1 Alw.cells 2 (fun _=>rfl) l k 0 hkl (by omega),hx];rfl))
   have x1:wr.cell? ⟨b,off+k*2+1,none⟩=some (.string ⟨x.name.toArray⟩):=(HBw.out.cell (p:=⟨b,off+k*2+1,none⟩) hb).trans ((congrArg (fun i=>w.cell? ⟨b,i,none⟩) (by omega)).trans (hc (k*2+1) (sv x.name) (by rw[za1 Alw.cells 2 (fun _=>rfl) l k 1 hkl (by omega),hx];rfl)))
   have hbr:b<wr.heap.size:=Nat.lt_of_lt_of_le hb HBw.out.size
   have HD:Hid (l.drop k=x::l.drop (k+1)):=by show _=_;rw[List.drop_eq_getElem_cons hkl,hx]
   have hq:=HQ.out x
   clear hc hx hkl HQ y0 y1
   generalize(⟨x.tag.toArray⟩:ByteArray)=xt at*
   generalize(⟨x.name.toArray⟩:ByteArray)=xn at*
   by_cases he:y=x
   ·rw[decide_eq_true he]at hq
    have HT:Hid (D=true):=by show _=_;rw[HK.out,HD.out,he];simp
    clear HK HD he
    go_wp2_with fail
    go_region
    go_wp2_with fail
    go_ret
    exact⟨k,rfl,by rw[HT.out];simp,HBw.out.trans ((bel:Below wr.heap.size wr _).mono HBw.out.size)⟩
   ·rw[decide_eq_false he]at hq
    have HT:Hid (D=decide (y∈l.drop (k+1))):=by show _=_;rw[HK.out,HD.out];simp[he]
    clear HK HD he
    go_wp2_with fail
    go_region
    go_wp2_with fail
    go_roundw
    case rel=>exact⟨k+1,by omega,by go_num,HT.out,by show Below _ _ _;exact HB.out.trans ((bel:Below wr.heap.size wr _).mono HB.out.size)⟩
    case measure=>simp[intOf];omega
  ·have HT:Hid (D=false):=by show _=_;rw[HK.out,List.drop_eq_nil_of_le (by rw[HN.out];omega)];rfl
   go_wp2_with fail
   go_ret
   exact⟨-1,rfl,by rw[HT.out];rfl,HBw.out⟩
theorem zz7 (v:Value) (l:List Alw) (y:Alw) (w:World) (h:Rd w v l.length 2 (l.flatMap Alw.cells)):
  Calls Tryz.prog 72 #[v,.agg #[.string ⟨y.tag.toArray⟩,.string ⟨y.name.toArray⟩]] w (Ret (.bool (decide (y∈l))) w):=by
 have HI:=z2g (fun W (hb:Below w.heap.size w W)=>zzw v l y W (h.belowW hb))
 clear h
 generalize(⟨y.tag.toArray⟩:ByteArray)=yt at*
 generalize(⟨y.name.toArray⟩:ByteArray)=yn at*
 go_enter Tryz.func72,Tryz.ntmps72
 go_wp2_with(go_at_call 119;go_loud(refine(HI.out _ bel).mono ?_);rintro e w' ⟨i,rfl,hi,hb⟩;have HB:=z2g (zcb (B:=w.heap.size) (a:=w) bel (hb.mono (by simp)));have HI2:=z2g hi;clear hb hi)
 go_ret
 exact Ret.of (by rw[<-HI2.out];simp) HB.out
end Go.Proofs.YtbhhgbgfaemfdaaGreatDoor
