/- The walks of slices.Grow and slices.Concat: two lists, one behind the other. (written by gen_concat.py) -/
import Derived.Lib.AppendZerosOnto
import Derived.Test.YtbhhgbgfaemfdaaGreatDoorWN
namespace Go.Proofs.YtbhhgbgfaemfdaaGreatDoor
open Go.RowKit
attribute [local go_sem] Oper.semAt_some
theorem zeros_none {P:Program} {t tn e:TypeId} {z:Value} {size bytes:Nat} (row:SlT P t e z size bytes) (htn:P.underlying tn=some (.int .i64)) (w:World) (n:Nat) (h0:0<n) (hn:n<=1000000000) (hb:bytes<=64):
  ∃G cs,n<=G/\G<=maxLen/\cs.size=G*size/\ ∀ty,(Builtin.append_ #[t,tn] ty #[.slice none 0 0,.int .i64 n]).run P w= .ok (.slice (some ⟨w.heap.size,0,none⟩) n G) (w.drew.alloc (.cells cs e)):=by
 obtain⟨i,hi,hz0,hz1,hz2⟩:=info_parts row.hi
 have hG:=grownCap_ge w (0+n) 0 e
 have hG2:=grownCap_le_maxLen w (0+n) 0 e (by unfold maxLen;omega)
 have hnb:(0+n)*i.bytes<=140737488355328:=by
  rw[hz2]
  have:(0+n)*bytes<=1000000000*64:=Nat.mul_le_mul (by omega) hb
  omega
 refine⟨grownCap w (0+n) 0 e,#[]++Builtin.zeroCells z.cells n++Builtin.zeroCells z.cells (grownCap w (0+n) 0 e-(0+n)),by omega,hG2, ?_,fun ty=> ?_⟩
 ·have e:n*size+(grownCap w (0+n) 0 e-(0+n))*size=grownCap w (0+n) 0 e*size:=by
   rw[<-Nat.add_mul];congr 1;omega
  rw[<-e]
  simp[size_zeroCells,row.hzs]
 ·have h:=Lib.run_append_grow_zeros w t tn ty e i z .i64 .i64 row.ht htn hi hz0 none 0 0 [] (run_firstCells_none w.drew i.size 0 0 0) n h0 (by rw[hz1];exact row.hsz) (by omega) (by omega)
   (by have:n*i.bytes<=(0+n)*i.bytes:=Nat.mul_le_mul_right _ (by omega);omega) (growslice_fits (by omega) hnb)
  rw[Nat.zero_add]at h ⊢
  exact h
theorem own_empty {W:World} {e:TypeId} {size G:Nat} {cs:Array Value} (h:cs.size=G*size) (hG:G<=maxLen):(W.drew.alloc (.cells cs e)).ownsRow W.heap.size e size (.slice (some ⟨W.heap.size,0,none⟩) 0 G) 0 []:=
 ⟨by simp,.inr ⟨W.heap.size,G,cs,rfl,Nat.le_refl _,heap_alloc_new W.drew _,Nat.zero_le _,hG,h,by simp⟩⟩
set_option maxRecDepth 100000 in
set_option maxHeartbeats 1600000 in
theorem grow0S_any (n:Nat) (w:World) (hn:n<=1000000000):Calls Tryz.prog 122 #[.slice none 0 0,.int .i64 n] w fun e w'=> ∃v,e= .returned v/\w'.ownsRow w.heap.size 9 1 v 0 []/\Below w.heap.size w w':=by
 by_cases h0:n=0
 ·subst h0
  go_enter Tryz.func122,Tryz.ntmps122
  go_wp2_with fail
  go_ret
  exact⟨_,rfl,⟨rfl,.inl ⟨rfl,rfl⟩⟩,bel⟩
 ·obtain⟨G,cs,hG,hG2,hc,hz⟩:=zeros_none sltS (tn:=3) (by kernel_rfl) w n (by omega) hn (by decide)
  have HO:=Lib.hid (own_empty (W:=w) (e:=9) hc hG2)
  have hrz:=fun ty=>hz ty
  have h3:IntKind.i64.wrap ((n:Int)-0)=n:=by rw[IntKind.wrap_i64];omega
  clear hz hc
  go_enter Tryz.func122,Tryz.ntmps122
  go_wp2_with(at_builtin;refine Lib.wpList_append_run _ rfl _ _ _ _ rfl _ _ rfl rfl _ _ (hrz _) ?_)
  go_ret
  exact⟨_,rfl,HO.out,bel⟩
set_option maxRecDepth 100000 in
set_option maxHeartbeats 4000000 in
theorem concatS_any (b:Nat) (v1 v2:Value) (l m:List Bs) (bad1 bad2:Nat->Prop) (w:World) (x1:w.cell? ⟨b,0,none⟩=some v1) (x2:w.cell? ⟨b,1,none⟩=some v2)
  (h1:Rx w bad1 v1 l.length 1 (l.map sv)) (h2:Rx w bad2 v2 m.length 1 (m.map sv)) (hl:l.length<=100000000) (hm:m.length<=100000000):
  Calls Tryz.prog 74 #[.slice (some ⟨b,0,none⟩) 2 2] w fun e w'=> ∃v,e= .returned v/\w'.ownsRow w.heap.size 9 1 v (l.length+m.length) ((l.map sv)++(m.map sv))/\Below w.heap.size w w':=by
 obtain⟨A1,c1,rfl,z1,r1,_⟩:=h1
 obtain⟨A2,c2,rfl,z2,r2,_⟩:=h2
 have hbl:b<w.heap.size:=World.block_lt_of_cell? w _ x1
 have HN1:=Lib.hid (fun W (hb:Below w.heap.size w W)=>news_rd r1 z1.1 hb)
 have HN2:=Lib.hid (fun W (hb:Below w.heap.size w W)=>news_rd r2 z2.1 hb)
 have HL1:Hid ((l.map sv).length=l.length*1):=r1.1
 have HL2:Hid ((m.map sv).length=m.length*1):=r2.1
 have HO1:=Lib.hid (cells_oneS l)
 have HO2:=Lib.hid (cells_oneS m)
 have HG:=Lib.hid (fun W (k:Nat) (hk:k<=200000000)=>grow0S_any k W (by omega))
 clear r1 r2 z1 z2
 generalize(l.map sv)=S1 at*
 generalize(m.map sv)=S2 at*
 generalize l.length=n1 at*
 generalize m.length=n2 at*
 have s1:IntKind.i64.wrap ((0:Int)+n1)=n1:=by rw[IntKind.wrap_i64];omega
 obtain⟨N,hN⟩: ∃N,n1+n2=N:=⟨_,rfl⟩
 have s2:IntKind.i64.wrap ((n1:Int)+n2)=(N:Nat):=by rw[IntKind.wrap_i64];omega
 have HN:=Lib.hid hN
 have hp1: ¬(n1:Int)<0:=by omega
 have hp2: ¬(N:Int)<0:=by omega
 have hN9:N<=200000000:=by omega
 rw[hN]
 clear hN
 go_enter Tryz.func74,Tryz.ntmps74
 go_wp2_with fail
 go_loopw [3,11] (fun s i wr=>((i= .int .i64 0/\s= .int .i64 0)\/(i= .int .i64 1/\s= .int .i64 n1)\/(i= .int .i64 2/\s= .int .i64 N))/\w=wr) (fun _ i _=>2-(intOf i).toNat)
 case atStart=>exact⟨.inl ⟨rfl,rfl⟩,rfl⟩
 case round=>
  obtain⟨⟨rfl,rfl⟩|⟨rfl,rfl⟩|⟨rfl,rfl⟩,rfl⟩:=hrel
  ·go_wp2_with fail
   go_roundw
   case rel=>exact⟨.inr (.inl ⟨by go_num,by first|rfl|go_num⟩),by first|rfl|trivial⟩
   case measure=>simp[intOf]
  ·go_wp2_with fail
   go_roundw
   case rel=>exact⟨.inr (.inr ⟨by go_num,by first|rfl|go_num⟩),by first|rfl|trivial⟩
   case measure=>simp[intOf]
  ·have HG1:=Lib.hid (HG.out w N hN9)
   go_upto_region 10 with(go_at_call 122;(with_reducible refine HG1.out.mono ?_);rintro e W1 ⟨v0,rfl,ho0,hb0⟩;have HB0:=Lib.hid hb0;have HV0:=Lib.hid ho0;clear ho0 hb0)
   go_wp2_with fail
   go_loopw [6,27] (fun v i wx=>((i= .int .i64 0/\wx.ownsRow w.heap.size 9 1 v 0 [])\/(i= .int .i64 1/\wx.ownsRow w.heap.size 9 1 v n1 S1)\/(i= .int .i64 2/\wx.ownsRow w.heap.size 9 1 v N (S1++S2)))/\Hid (Below w.heap.size w wx)) (fun _ i _=>2-(intOf i).toNat)
   case atStart=>exact⟨.inl ⟨rfl,HV0.out⟩,HB0.out⟩
   case round=>
    clear HB0 HV0 HG1
    obtain⟨⟨rfl,ho⟩|⟨rfl,ho⟩|⟨rfl,ho⟩,HB⟩:=hrel
    ·have y1:=(HB.out.cell (p:=⟨b,0,none⟩) hbl).trans x1
     have HOw:=Lib.hid ho
     have hsz:=HB.out.size
     clear ho x1 x2
     go_wp2_with(at_builtin;go_loud(refine append_any rfl _ _ 39 rfl sltS w.heap.size rfl HOw.out hsz n1 S1 (HN1.out _ HB.out) HL1.out HO1.out (by unfold maxLen;omega) (by omega) ?_);intro v1 W2 ho1 hg1;have HB2:=own_step (w:=w) (size:=1) hg1 HOw.out HB.out;have HV2:=Lib.hid ho1;clear ho1 hg1)
     go_roundw
     case rel=>exact⟨.inr (.inl ⟨by go_num,by have:=HV2.out;rwa[Nat.zero_add,List.nil_append]at this⟩),HB2.out⟩
     case measure=>simp[intOf]
    ·have y1:=(HB.out.cell (p:=⟨b,1,none⟩) hbl).trans x2
     have HOw:=Lib.hid ho
     have hsz:=HB.out.size
     clear ho x1 x2
     go_wp2_with(at_builtin;go_loud(refine append_any rfl _ _ 39 rfl sltS w.heap.size rfl HOw.out hsz n2 S2 (HN2.out _ HB.out) HL2.out HO2.out (by unfold maxLen;omega) (by omega) ?_);intro v1 W2 ho1 hg1;have HB2:=own_step (w:=w) (size:=1) hg1 HOw.out HB.out;have HV2:=Lib.hid ho1;clear ho1 hg1)
     go_roundw
     case rel=>exact⟨.inr (.inr ⟨by go_num,by have:=HV2.out;rwa[HN.out]at this⟩),HB2.out⟩
     case measure=>simp[intOf]
    ·have HOw:=Lib.hid ho
     clear ho x1 x2
     go_wp2_with fail
     go_ret
     exact⟨_,rfl,HOw.out,HB.out⟩
set_option maxRecDepth 100000 in
set_option maxHeartbeats 1600000 in
theorem grow0A_any (n:Nat) (w:World) (hn:n<=1000000000):Calls Tryz.prog 123 #[.slice none 0 0,.int .i64 n] w fun e w'=> ∃v,e= .returned v/\w'.ownsRow w.heap.size 80 2 v 0 []/\Below w.heap.size w w':=by
 by_cases h0:n=0
 ·subst h0
  go_enter Tryz.func123,Tryz.ntmps123
  go_wp2_with fail
  go_ret
  exact⟨_,rfl,⟨rfl,.inl ⟨rfl,rfl⟩⟩,bel⟩
 ·obtain⟨G,cs,hG,hG2,hc,hz⟩:=zeros_none sltA (tn:=3) (by kernel_rfl) w n (by omega) hn (by decide)
  have HO:=Lib.hid (own_empty (W:=w) (e:=80) hc hG2)
  have hrz:=fun ty=>hz ty
  have h3:IntKind.i64.wrap ((n:Int)-0)=n:=by rw[IntKind.wrap_i64];omega
  clear hz hc
  go_enter Tryz.func123,Tryz.ntmps123
  go_wp2_with(at_builtin;refine Lib.wpList_append_run _ rfl _ _ _ _ rfl _ _ rfl rfl _ _ (hrz _) ?_)
  go_ret
  exact⟨_,rfl,HO.out,bel⟩
set_option maxRecDepth 100000 in
set_option maxHeartbeats 4000000 in
theorem concatA_any (b:Nat) (v1 v2:Value) (l m:List Alw) (bad1 bad2:Nat->Prop) (w:World) (x1:w.cell? ⟨b,0,none⟩=some v1) (x2:w.cell? ⟨b,1,none⟩=some v2)
  (h1:Rx w bad1 v1 l.length 2 (l.flatMap Alw.cells)) (h2:Rx w bad2 v2 m.length 2 (m.flatMap Alw.cells)) (hl:l.length<=100000000) (hm:m.length<=100000000):
  Calls Tryz.prog 75 #[.slice (some ⟨b,0,none⟩) 2 2] w fun e w'=> ∃v,e= .returned v/\w'.ownsRow w.heap.size 80 2 v (l.length+m.length) ((l.flatMap Alw.cells)++(m.flatMap Alw.cells))/\Below w.heap.size w w':=by
 obtain⟨A1,c1,rfl,z1,r1,_⟩:=h1
 obtain⟨A2,c2,rfl,z2,r2,_⟩:=h2
 have hbl:b<w.heap.size:=World.block_lt_of_cell? w _ x1
 have HN1:=Lib.hid (fun W (hb:Below w.heap.size w W)=>news_rd r1 z1.1 hb)
 have HN2:=Lib.hid (fun W (hb:Below w.heap.size w W)=>news_rd r2 z2.1 hb)
 have HL1:Hid ((l.flatMap Alw.cells).length=l.length*2):=r1.1
 have HL2:Hid ((m.flatMap Alw.cells).length=m.length*2):=r2.1
 have HO1:=Lib.hid (cells_oneA l)
 have HO2:=Lib.hid (cells_oneA m)
 have HG:=Lib.hid (fun W (k:Nat) (hk:k<=200000000)=>grow0A_any k W (by omega))
 clear r1 r2 z1 z2
 generalize(l.flatMap Alw.cells)=S1 at*
 generalize(m.flatMap Alw.cells)=S2 at*
 generalize l.length=n1 at*
 generalize m.length=n2 at*
 have s1:IntKind.i64.wrap ((0:Int)+n1)=n1:=by rw[IntKind.wrap_i64];omega
 obtain⟨N,hN⟩: ∃N,n1+n2=N:=⟨_,rfl⟩
 have s2:IntKind.i64.wrap ((n1:Int)+n2)=(N:Nat):=by rw[IntKind.wrap_i64];omega
 have HN:=Lib.hid hN
 have hp1: ¬(n1:Int)<0:=by omega
 have hp2: ¬(N:Int)<0:=by omega
 have hN9:N<=200000000:=by omega
 rw[hN]
 clear hN
 go_enter Tryz.func75,Tryz.ntmps75
 go_wp2_with fail
 go_loopw [3,11] (fun s i wr=>((i= .int .i64 0/\s= .int .i64 0)\/(i= .int .i64 1/\s= .int .i64 n1)\/(i= .int .i64 2/\s= .int .i64 N))/\w=wr) (fun _ i _=>2-(intOf i).toNat)
 case atStart=>exact⟨.inl ⟨rfl,rfl⟩,rfl⟩
 case round=>
  obtain⟨⟨rfl,rfl⟩|⟨rfl,rfl⟩|⟨rfl,rfl⟩,rfl⟩:=hrel
  ·go_wp2_with fail
   go_roundw
   case rel=>exact⟨.inr (.inl ⟨by go_num,by first|rfl|go_num⟩),by first|rfl|trivial⟩
   case measure=>simp[intOf]
  ·go_wp2_with fail
   go_roundw
   case rel=>exact⟨.inr (.inr ⟨by go_num,by first|rfl|go_num⟩),by first|rfl|trivial⟩
   case measure=>simp[intOf]
  ·have HG1:=Lib.hid (HG.out w N hN9)
   go_upto_region 10 with(go_at_call 123;(with_reducible refine HG1.out.mono ?_);rintro e W1 ⟨v0,rfl,ho0,hb0⟩;have HB0:=Lib.hid hb0;have HV0:=Lib.hid ho0;clear ho0 hb0)
   go_wp2_with fail
   go_loopw [6,27] (fun v i wx=>((i= .int .i64 0/\wx.ownsRow w.heap.size 80 2 v 0 [])\/(i= .int .i64 1/\wx.ownsRow w.heap.size 80 2 v n1 S1)\/(i= .int .i64 2/\wx.ownsRow w.heap.size 80 2 v N (S1++S2)))/\Hid (Below w.heap.size w wx)) (fun _ i _=>2-(intOf i).toNat)
   case atStart=>exact⟨.inl ⟨rfl,HV0.out⟩,HB0.out⟩
   case round=>
    clear HB0 HV0 HG1
    obtain⟨⟨rfl,ho⟩|⟨rfl,ho⟩|⟨rfl,ho⟩,HB⟩:=hrel
    ·have y1:=(HB.out.cell (p:=⟨b,0,none⟩) hbl).trans x1
     have HOw:=Lib.hid ho
     have hsz:=HB.out.size
     clear ho x1 x2
     go_wp2_with(at_builtin;go_loud(refine append_any rfl _ _ 40 rfl sltA w.heap.size rfl HOw.out hsz n1 S1 (HN1.out _ HB.out) HL1.out HO1.out (by unfold maxLen;omega) (by omega) ?_);intro v1 W2 ho1 hg1;have HB2:=own_step (w:=w) (size:=2) hg1 HOw.out HB.out;have HV2:=Lib.hid ho1;clear ho1 hg1)
     go_roundw
     case rel=>exact⟨.inr (.inl ⟨by go_num,by have:=HV2.out;rwa[Nat.zero_add,List.nil_append]at this⟩),HB2.out⟩
     case measure=>simp[intOf]
    ·have y1:=(HB.out.cell (p:=⟨b,1,none⟩) hbl).trans x2
     have HOw:=Lib.hid ho
     have hsz:=HB.out.size
     clear ho x1 x2
     go_wp2_with(at_builtin;go_loud(refine append_any rfl _ _ 40 rfl sltA w.heap.size rfl HOw.out hsz n2 S2 (HN2.out _ HB.out) HL2.out HO2.out (by unfold maxLen;omega) (by omega) ?_);intro v1 W2 ho1 hg1;have HB2:=own_step (w:=w) (size:=2) hg1 HOw.out HB.out;have HV2:=Lib.hid ho1;clear ho1 hg1)
     go_roundw
     case rel=>exact⟨.inr (.inr ⟨by go_num,by have:=HV2.out;rwa[HN.out]at this⟩),HB2.out⟩
     case measure=>simp[intOf]
    ·have HOw:=Lib.hid ho
     clear ho x1 x2
     go_wp2_with fail
     go_ret
     exact⟨_,rfl,HOw.out,HB.out⟩
set_option maxRecDepth 100000 in
set_option maxHeartbeats 1600000 in
theorem grow0F_any (n:Nat) (w:World) (hn:n<=1000000000):Calls Tryz.prog 124 #[.slice none 0 0,.int .i64 n] w fun e w'=> ∃v,e= .returned v/\w'.ownsRow w.heap.size 72 3 v 0 []/\Below w.heap.size w w':=by
 by_cases h0:n=0
 ·subst h0
  go_enter Tryz.func124,Tryz.ntmps124
  go_wp2_with fail
  go_ret
  exact⟨_,rfl,⟨rfl,.inl ⟨rfl,rfl⟩⟩,bel⟩
 ·obtain⟨G,cs,hG,hG2,hc,hz⟩:=zeros_none sltF (tn:=3) (by kernel_rfl) w n (by omega) hn (by decide)
  have HO:=Lib.hid (own_empty (W:=w) (e:=72) hc hG2)
  have hrz:=fun ty=>hz ty
  have h3:IntKind.i64.wrap ((n:Int)-0)=n:=by rw[IntKind.wrap_i64];omega
  clear hz hc
  go_enter Tryz.func124,Tryz.ntmps124
  go_wp2_with(at_builtin;refine Lib.wpList_append_run _ rfl _ _ _ _ rfl _ _ rfl rfl _ _ (hrz _) ?_)
  go_ret
  exact⟨_,rfl,HO.out,bel⟩
set_option maxRecDepth 100000 in
set_option maxHeartbeats 4000000 in
theorem concatF_any (b:Nat) (v1 v2:Value) (l m:List Frc) (bad1 bad2:Nat->Prop) (w:World) (x1:w.cell? ⟨b,0,none⟩=some v1) (x2:w.cell? ⟨b,1,none⟩=some v2)
  (h1:Rx w bad1 v1 l.length 3 (l.flatMap Frc.cells)) (h2:Rx w bad2 v2 m.length 3 (m.flatMap Frc.cells)) (hl:l.length<=100000000) (hm:m.length<=100000000):
  Calls Tryz.prog 76 #[.slice (some ⟨b,0,none⟩) 2 2] w fun e w'=> ∃v,e= .returned v/\w'.ownsRow w.heap.size 72 3 v (l.length+m.length) ((l.flatMap Frc.cells)++(m.flatMap Frc.cells))/\Below w.heap.size w w':=by
 obtain⟨A1,c1,rfl,z1,r1,_⟩:=h1
 obtain⟨A2,c2,rfl,z2,r2,_⟩:=h2
 have hbl:b<w.heap.size:=World.block_lt_of_cell? w _ x1
 have HN1:=Lib.hid (fun W (hb:Below w.heap.size w W)=>news_rd r1 z1.1 hb)
 have HN2:=Lib.hid (fun W (hb:Below w.heap.size w W)=>news_rd r2 z2.1 hb)
 have HL1:Hid ((l.flatMap Frc.cells).length=l.length*3):=r1.1
 have HL2:Hid ((m.flatMap Frc.cells).length=m.length*3):=r2.1
 have HO1:=Lib.hid (cells_oneF l)
 have HO2:=Lib.hid (cells_oneF m)
 have HG:=Lib.hid (fun W (k:Nat) (hk:k<=200000000)=>grow0F_any k W (by omega))
 clear r1 r2 z1 z2
 generalize(l.flatMap Frc.cells)=S1 at*
 generalize(m.flatMap Frc.cells)=S2 at*
 generalize l.length=n1 at*
 generalize m.length=n2 at*
 have s1:IntKind.i64.wrap ((0:Int)+n1)=n1:=by rw[IntKind.wrap_i64];omega
 obtain⟨N,hN⟩: ∃N,n1+n2=N:=⟨_,rfl⟩
 have s2:IntKind.i64.wrap ((n1:Int)+n2)=(N:Nat):=by rw[IntKind.wrap_i64];omega
 have HN:=Lib.hid hN
 have hp1: ¬(n1:Int)<0:=by omega
 have hp2: ¬(N:Int)<0:=by omega
 have hN9:N<=200000000:=by omega
 rw[hN]
 clear hN
 go_enter Tryz.func76,Tryz.ntmps76
 go_wp2_with fail
 go_loopw [3,11] (fun s i wr=>((i= .int .i64 0/\s= .int .i64 0)\/(i= .int .i64 1/\s= .int .i64 n1)\/(i= .int .i64 2/\s= .int .i64 N))/\w=wr) (fun _ i _=>2-(intOf i).toNat)
 case atStart=>exact⟨.inl ⟨rfl,rfl⟩,rfl⟩
 case round=>
  obtain⟨⟨rfl,rfl⟩|⟨rfl,rfl⟩|⟨rfl,rfl⟩,rfl⟩:=hrel
  ·go_wp2_with fail
   go_roundw
   case rel=>exact⟨.inr (.inl ⟨by go_num,by first|rfl|go_num⟩),by first|rfl|trivial⟩
   case measure=>simp[intOf]
  ·go_wp2_with fail
   go_roundw
   case rel=>exact⟨.inr (.inr ⟨by go_num,by first|rfl|go_num⟩),by first|rfl|trivial⟩
   case measure=>simp[intOf]
  ·have HG1:=Lib.hid (HG.out w N hN9)
   go_upto_region 10 with(go_at_call 124;(with_reducible refine HG1.out.mono ?_);rintro e W1 ⟨v0,rfl,ho0,hb0⟩;have HB0:=Lib.hid hb0;have HV0:=Lib.hid ho0;clear ho0 hb0)
   go_wp2_with fail
   go_loopw [6,27] (fun v i wx=>((i= .int .i64 0/\wx.ownsRow w.heap.size 72 3 v 0 [])\/(i= .int .i64 1/\wx.ownsRow w.heap.size 72 3 v n1 S1)\/(i= .int .i64 2/\wx.ownsRow w.heap.size 72 3 v N (S1++S2)))/\Hid (Below w.heap.size w wx)) (fun _ i _=>2-(intOf i).toNat)
   case atStart=>exact⟨.inl ⟨rfl,HV0.out⟩,HB0.out⟩
   case round=>
    clear HB0 HV0 HG1
    obtain⟨⟨rfl,ho⟩|⟨rfl,ho⟩|⟨rfl,ho⟩,HB⟩:=hrel
    ·have y1:=(HB.out.cell (p:=⟨b,0,none⟩) hbl).trans x1
     have HOw:=Lib.hid ho
     have hsz:=HB.out.size
     clear ho x1 x2
     go_wp2_with(at_builtin;go_loud(refine append_any rfl _ _ 41 rfl sltF w.heap.size rfl HOw.out hsz n1 S1 (HN1.out _ HB.out) HL1.out HO1.out (by unfold maxLen;omega) (by omega) ?_);intro v1 W2 ho1 hg1;have HB2:=own_step (w:=w) (size:=3) hg1 HOw.out HB.out;have HV2:=Lib.hid ho1;clear ho1 hg1)
     go_roundw
     case rel=>exact⟨.inr (.inl ⟨by go_num,by have:=HV2.out;rwa[Nat.zero_add,List.nil_append]at this⟩),HB2.out⟩
     case measure=>simp[intOf]
    ·have y1:=(HB.out.cell (p:=⟨b,1,none⟩) hbl).trans x2
     have HOw:=Lib.hid ho
     have hsz:=HB.out.size
     clear ho x1 x2
     go_wp2_with(at_builtin;go_loud(refine append_any rfl _ _ 41 rfl sltF w.heap.size rfl HOw.out hsz n2 S2 (HN2.out _ HB.out) HL2.out HO2.out (by unfold maxLen;omega) (by omega) ?_);intro v1 W2 ho1 hg1;have HB2:=own_step (w:=w) (size:=3) hg1 HOw.out HB.out;have HV2:=Lib.hid ho1;clear ho1 hg1)
     go_roundw
     case rel=>exact⟨.inr (.inr ⟨by go_num,by have:=HV2.out;rwa[HN.out]at this⟩),HB2.out⟩
     case measure=>simp[intOf]
    ·have HOw:=Lib.hid ho
     clear ho x1 x2
     go_wp2_with fail
     go_ret
     exact⟨_,rfl,HOw.out,HB.out⟩
end Go.Proofs.YtbhhgbgfaemfdaaGreatDoor

