/- The walks that Right rests on: whether one of a list is odd; whether two lists are alike. -/
import Derived.BigRegion
import Derived.Test.YtiikamobcmgekaaGreatDoorPA
import Derived.Test.YtiikamobcmgekaaGreatDoorLA
import Derived.Test.YtiikamobcmgekaaGreatDoorWN
namespace Go.Proofs.YtiikamobcmgekaaGreatDoor
open Lib renaming hid→z2c
open List renaming drop_eq_getElem_cons→z2m,drop_eq_nil_of_le→z2o,drop_zero→z2w
open Nat renaming lt_of_lt_of_le→z2g
open Tryz renaming prog→z2f
set_option maxRecDepth 100000
set_option maxHeartbeats 1600000
open Go.RowKit
attribute [local go_sem] Oper.semAt_some
def z19 (g:Nat) (p:Bs->Bool) (l:List Bs):Prop:=(∀args w,(callFunc g args).run z2f w= .ok (.enter g args) w)/\ ∀t∈l,∀w,Calls z2f g #[sv t] w (Ret (.bool (p t)) w)
theorem ze8 (t:Bs) (w:World) (ht:t.length<=9223372036854775807):Calls z2f 123 #[sv t] w (Ret (.bool (!zau t)) w):=by
 have HW:=z2c (fun W=>show Calls z2f 124 #[.string ⟨t.toArray⟩] W (Ret (.bool (zau t)) W)from zru ⟨t.toArray⟩ W (by show t.toArray.size<=_;simpa using ht));generalize zau t=b at*;unfold sv;go_enter Tryz.func123,Tryz.ntmps123;go_wp2_with(go_at_call 124;(with_reducible refine(HW.out _).mono ?_);rintro e w' ⟨rfl,X,rfl⟩)
 go_ret;exact Ret.of rfl bel
theorem zua (v:Value) (l:List Bs) (g:Nat) (p:Bs->Bool) (w:World) (h:Rd w v l.length 1 (l.map sv)) (hp:z19 g p l):
  Calls z2f 207 #[v,.func (.func g) #[] #[]] w fun e w'=> ∃i:Int,e= .returned (.int .i64 i)/\decide (0<=i)=l.any p/\Below w.heap.size w w':=by
 obtain⟨eg,hp⟩:=hp;have hp:=z2c hp;have HR:=z2c h;obtain⟨_,hm,A,c,rfl,h4⟩:=h;obtain⟨n,hn⟩: ∃n,l.length=n:=⟨_,rfl⟩;have HN:=z2c hn;rw[hn]at hm h4 HR ⊢;clear hn;have H4:=z2c h4;clear h4;go_enter Tryz.func207,Tryz.ntmps207;go_wp2_with fail
 go_loopw [8] (fun i wr=> ∃k:Nat,k<=n/\i= .int .i64 (k:Nat)/\Hid (l.any p=(l.drop k).any p)/\Hid (Below w.heap.size w wr)) (fun i _=>n-(intOf i).toNat)
 case atStart=>exact⟨0,by omega,rfl,by show _=_;rw[z2w],by show Below _ _ _;exact bel⟩
 case round=>
  obtain⟨k,hk,rfl,HK,HB⟩:=hrel;by_cases hlt:k<n
  ·obtain⟨b,off,rfl,hb,hc⟩:=H4.out (by omega);have hkl:k<l.length:=by rw[HN.out];exact hlt
   have hcw:=(HB.out.cell (p:=⟨b,off+k,none⟩) hb).trans (hc k (sv l[k]) (by simp[hkl]));have hbr:b<wr.heap.size:=z2g hb HB.out.size;have HD:Hid (l.drop k=l[k]::l.drop (k+1)):=z2m hkl;have HP:=z2c (hp.out l[k] (List.getElem_mem hkl));clear hc;generalize l[k]=t at*;have HS:Hid (sv t= .string ⟨t.toArray⟩):=rfl;rw[HS.out]at hcw;have HP2:=z2c (fun W=>show Calls z2f g #[.string ⟨t.toArray⟩] W _ from HP.out W);clear HP HS;generalize(⟨t.toArray⟩:ByteArray)=ts at*;cases hpc:p t
   ·rw[hpc]at HP2;have HT:Hid (l.any p=(l.drop (k+1)).any p):=by
     show _=_;rw[HK.out,HD.out,List.any_cons,hpc,Bool.false_or]
    clear HK HD hpc;go_wp2_with((with_reducible refine(HP2.out _).mono ?_);rintro e w' ⟨rfl,X,rfl⟩)
    go_roundw
    case rel=>exact⟨k+1,by omega,by go_num,HT.out,by show Below _ _ _;exact HB.out.trans ((bel:Below wr.heap.size wr (wr.grow X)).mono HB.out.size)⟩
    case measure=>simp[intOf];omega
   ·rw[hpc]at HP2;have HT:Hid (l.any p=true):=by
     show _=_;rw[HK.out,HD.out,List.any_cons,hpc,Bool.true_or]
    clear HK HD hpc;go_wp2_with((with_reducible refine(HP2.out _).mono ?_);rintro e w' ⟨rfl,X,rfl⟩)
    go_ret;exact⟨k,rfl,by rw[HT.out];simp,HB.out.trans ((bel:Below wr.heap.size wr (wr.grow X)).mono HB.out.size)⟩
  ·have HT:Hid (l.any p=false):=by
    show _=_;rw[HK.out,z2o (by rw[HN.out];omega)];rfl
   go_wp2_with fail
   go_ret;exact⟨-1,rfl,by rw[HT.out];rfl,HB.out⟩
theorem znb (v:Value) (l:List Bs) (g:Nat) (p:Bs->Bool) (w:World) (h:Rd w v l.length 1 (l.map sv)) (hp:z19 g p l):
  Calls z2f 125 #[v,.func (.func g) #[] #[]] w (Ret (.bool (l.any p)) w):=by
 have HI:=z2c (zua v l g p w h hp);clear h hp;go_enter Tryz.func125,Tryz.ntmps125;go_wp2_with(go_at_call 207;(with_reducible refine HI.out.mono ?_);rintro e w' ⟨i,rfl,hi,hb⟩;have HB:=z2c hb;have HI2:=z2c hi;clear hb hi)
 go_ret;exact Ret.of (by rw[<-HI2.out];simp) HB.out
theorem zql (l:List Bs) (hl: ∀t∈l,t.length<=9223372036854775807):z19 123 (fun t=> !zau t) l:=⟨enters_of Tryz.func123 (by kernel_rfl) rfl,fun t ht w=>ze8 t w (hl t ht)⟩
theorem eq_frc (a b c d e f:ByteArray) (w:World):(Op.equalIn 10000 103 (.agg #[.string a,.string b,.string e]) (.agg #[.string c,.string d,.string f])).run z2f w= .ok ((a.toList==c.toList)&&(b.toList==d.toList)&&(e.toList==f.toList)) w:=by
 have h2:z2f.underlying 103=some (.struct (z2f.fieldsOf 103)):=by kernel_rfl
 have h3:z2f.stoodInHeld 103=false:=by kernel_rfl
 rw[run_equalIn_agg _ _ _ _ _ h2 h3];simp only[Program.fieldsOf,Tryz.underlying103];cases h1:(a.toList==c.toList)<;>cases h4:(b.toList==d.toList)<;>cases h5:(e.toList==f.toList)<;>simp[go_sem,Tryz.underlying9,h1,h4,h5]
@[go_sem high] theorem neq_frc (a b c d e f:ByteArray) (w:World):(binOp .neq 103 (.agg #[.string a,.string b,.string e]) (.agg #[.string c,.string d,.string f])).run z2f w= .ok (.bool (!((a.toList==c.toList)&&(b.toList==d.toList)&&(e.toList==f.toList)))) w:=by
 rw[run_neq_struct,eq_frc];rfl
@[go_sem] theorem guard_frc:z2f.eqGuardType z2f.depth 103=false:=by kernel_rfl
theorem za3 {α:Type} (cells:α->List Value) (n:Nat) (hn: ∀x,(cells x).length=n) (l:List α) (k j:Nat) (hk:k<l.length) (hj:j<n):(l.flatMap cells)[k*n+j]? =(cells l[k])[j]? :=by
 induction l generalizing k with
 |nil=>simp at hk
 |cons x r ih=>
  cases k with
  |zero=>simp only[List.flatMap_cons,Nat.zero_mul,Nat.zero_add,List.getElem_cons_zero];rw[List.getElem?_append_left (by rw[hn];exact hj)]
  |succ k=>
   simp only[List.flatMap_cons,List.getElem_cons_succ];rw[List.getElem?_append_right (by rw[hn,Nat.add_mul];omega),hn,show(k+1)*n+j-n=k*n+j by rw[Nat.add_mul];omega];exact ih k (by simpa using hk)
theorem zfb {α:Type} [DecidableEq α] {a b:List α} {k:Nat} (ha:k<a.length) (hb:k<b.length) (h:a[k]=b[k]) (_hl:a.length=b.length):decide (a.drop k=b.drop k)=decide (a.drop (k+1)=b.drop (k+1)):=by
 rw[z2m ha,z2m hb,h,decide_eq_decide];simp only[List.cons.injEq,true_and]
theorem zfa {α:Type} [DecidableEq α] {a b:List α} {k:Nat} (ha:k<a.length) (hb:k<b.length) (h: ¬a[k]=b[k]):decide (a.drop k=b.drop k)=false:=by
 rw[z2m ha,z2m hb,decide_eq_false_iff_not];simp only[List.cons.injEq,h,false_and,not_false_eq_true]
theorem zd4 (x:Alw):x.cells.length=2:=rfl
theorem zcl (x:Frc):x.cells.length=3:=rfl
theorem zbz (s t:Bs):((⟨s.toArray⟩:ByteArray).toList==(⟨t.toArray⟩:ByteArray).toList)=decide (s=t):=by rw[zhs]
theorem zui (v u:Value) (a b:List Bs) (w:World) (ha:Rd w v a.length 1 (a.map sv)) (hb:Rd w u b.length 1 (b.map sv)):
  Calls z2f 126 #[v,u] w (Ret (.bool (decide (a=b))) w):=by
 have hmx:=mxd;obtain⟨_,hma,Aa,ca,rfl,h4a⟩:=ha;obtain⟨_,hmb,Ab,cb,rfl,h4b⟩:=hb;by_cases hl:a.length=b.length
 ·have HE0:Hid (decide (a=b)=decide (a.drop 0=b.drop 0)):=by show _=_;rw[z2w,z2w]
  obtain⟨D,hD⟩: ∃D,decide (a=b)=D:=⟨_,rfl⟩;rw[hD]at HE0 ⊢;have HLa:=z2c (rfl:a.length=a.length);obtain⟨n,hn⟩: ∃n,a.length=n:=⟨_,rfl⟩;have HNa:=z2c hn;have HNb:=z2c (hl.symm.trans hn);rw[<-hl]at h4b hmb ⊢;rw[hn]at h4a h4b hma hmb ⊢;have H4a:=z2c h4a;have H4b:=z2c h4b;clear hn hl h4a h4b hD HLa hmb;go_enter Tryz.func126,Tryz.ntmps126;go_wp2_with fail
  go_loopw [13] (fun i wr=> ∃k:Nat,k<=n/\i= .int .i64 (k:Nat)/\Hid (D=decide (a.drop k=b.drop k))/\Hid (Below w.heap.size w wr)) (fun i _=>n-(intOf i).toNat)
  case atStart=>exact⟨0,by omega,rfl,HE0.out,by show Below _ _ _;exact bel⟩
  case round=>
   clear HE0;obtain⟨k,hk,rfl,HK,HB⟩:=hrel;by_cases hlt:k<n
   ·obtain⟨ba,oa,rfl,hlt_a,ha⟩:=H4a.out (by omega);obtain⟨bb,ob,rfl,hlt_b,hb⟩:=H4b.out (by omega);have hka:k<a.length:=by rw[HNa.out];exact hlt
    have hkb:k<b.length:=by rw[HNb.out];exact hlt
    have HS:=z2c (fun h=>zfb hka hkb h (HNa.out.trans HNb.out.symm));have HS2:=z2c (zfa hka hkb);obtain⟨x,hx⟩: ∃x,a[k]=x:=⟨_,rfl⟩;obtain⟨y,hy⟩: ∃y,b[k]=y:=⟨_,rfl⟩;rw[hx,hy]at HS HS2;have a0:wr.cell? ⟨ba,oa+k,none⟩=some (.string ⟨x.toArray⟩):=by
     have h9:=ha k (sv x) (by simp[hka,hx]);exact(HB.out.cell hlt_a).trans (h9)
    have b0:wr.cell? ⟨bb,ob+k,none⟩=some (.string ⟨y.toArray⟩):=by
     have h9:=hb k (sv y) (by simp[hkb,hy]);exact(HB.out.cell hlt_b).trans (h9)
    have c1: ¬(n:Int)<=k:=by omega
    have hba:ba<wr.heap.size:=z2g hlt_a HB.out.size;have hbb:bb<wr.heap.size:=z2g hlt_b HB.out.size;clear ha hb hx hy;by_cases hxy:x=y
    ·have HT:Hid (D=decide (a.drop (k+1)=b.drop (k+1))):=HK.out.trans (HS.out hxy);have e0:((⟨x.toArray⟩:ByteArray).toList==(⟨y.toArray⟩:ByteArray).toList)=true:=by rw[zbz,hxy];simp
     clear HK HS HS2 hxy;generalize(⟨x.toArray⟩:ByteArray)=x0s at*;generalize(⟨y.toArray⟩:ByteArray)=y0s at*;go_upto_region 6 with fail
     go_region;go_wp2_with fail
     go_roundw
     case rel=>exact⟨k+1,by omega,by go_num,HT.out,by show Below _ _ _;exact HB.out.trans ((bel:Below wr.heap.size wr wr.drew).mono HB.out.size)⟩
     case measure=>simp[intOf];omega
    ·have HT:Hid (D=false):=HK.out.trans (HS2.out hxy);have e0:(((⟨x.toArray⟩:ByteArray).toList==(⟨y.toArray⟩:ByteArray).toList))=false:=by
      simp only[zbz];simpa using hxy
     clear HK HS HS2 hxy;generalize(⟨x.toArray⟩:ByteArray)=x0s at*;generalize(⟨y.toArray⟩:ByteArray)=y0s at*;go_upto_region 6 with fail
     go_region;go_wp2_with fail
     go_ret;exact Ret.of (by rw[HT.out];rfl) (HB.out.trans ((bel:Below wr.heap.size wr wr.drew).mono HB.out.size))
   ·have HT:Hid (D=true):=by
     show _=_;rw[HK.out,z2o (by rw[HNa.out];omega),z2o (by rw[HNb.out];omega)];simp
    go_wp2_with fail
    go_ret;exact Ret.of (by rw[HT.out];rfl) HB.out
 ·have hlb:((a.length:Int) !=(b.length:Int))=true:=by simp;omega
  have HD:Hid (decide (a=b)=false):=by
   show _=_;rw[decide_eq_false_iff_not];exact fun h=>hl (congrArg List.length h)
  rw[HD.out];clear HD hl h4a h4b;go_enter Tryz.func126,Tryz.ntmps126;go_wp2_with fail
  go_ret;exact Ret.of rfl bel
theorem zuk (v u:Value) (a b:List Alw) (w:World) (ha:Rd w v a.length 2 (a.flatMap Alw.cells)) (hb:Rd w u b.length 2 (b.flatMap Alw.cells)):
  Calls z2f 129 #[v,u] w (Ret (.bool (decide (a=b))) w):=by
 have hmx:=mxd;obtain⟨_,hma,Aa,ca,rfl,h4a⟩:=ha;obtain⟨_,hmb,Ab,cb,rfl,h4b⟩:=hb;by_cases hl:a.length=b.length
 ·have HE0:Hid (decide (a=b)=decide (a.drop 0=b.drop 0)):=by show _=_;rw[z2w,z2w]
  obtain⟨D,hD⟩: ∃D,decide (a=b)=D:=⟨_,rfl⟩;rw[hD]at HE0 ⊢;have HLa:=z2c (rfl:a.length=a.length);obtain⟨n,hn⟩: ∃n,a.length=n:=⟨_,rfl⟩;have HNa:=z2c hn;have HNb:=z2c (hl.symm.trans hn);rw[<-hl]at h4b hmb ⊢;rw[hn]at h4a h4b hma hmb ⊢;have H4a:=z2c h4a;have H4b:=z2c h4b;clear hn hl h4a h4b hD HLa hmb;go_enter Tryz.func129,Tryz.ntmps129;go_wp2_with fail
  go_loopw [13] (fun i wr=> ∃k:Nat,k<=n/\i= .int .i64 (k:Nat)/\Hid (D=decide (a.drop k=b.drop k))/\Hid (Below w.heap.size w wr)) (fun i _=>n-(intOf i).toNat)
  case atStart=>exact⟨0,by omega,rfl,HE0.out,by show Below _ _ _;exact bel⟩
  case round=>
   clear HE0;obtain⟨k,hk,rfl,HK,HB⟩:=hrel;by_cases hlt:k<n
   ·obtain⟨ba,oa,rfl,hlt_a,ha⟩:=H4a.out (by omega);obtain⟨bb,ob,rfl,hlt_b,hb⟩:=H4b.out (by omega);have hka:k<a.length:=by rw[HNa.out];exact hlt
    have hkb:k<b.length:=by rw[HNb.out];exact hlt
    have HS:=z2c (fun h=>zfb hka hkb h (HNa.out.trans HNb.out.symm));have HS2:=z2c (zfa hka hkb);obtain⟨x,hx⟩: ∃x,a[k]=x:=⟨_,rfl⟩;obtain⟨y,hy⟩: ∃y,b[k]=y:=⟨_,rfl⟩;rw[hx,hy]at HS HS2;have a0:wr.cell? ⟨ba,oa+k*2,none⟩=some (.string ⟨x.tag.toArray⟩):=by
     have h9:=ha (k*2+0) (sv x.tag) (by rw[za3 Alw.cells 2 zd4 a k 0 hka (by omega),hx];rfl);exact(HB.out.cell hlt_a).trans ((congrArg (fun i=>w.cell? ⟨ba,i,none⟩) (by omega)).trans h9)
    have a1:wr.cell? ⟨ba,oa+k*2+1,none⟩=some (.string ⟨x.name.toArray⟩):=by
     have h9:=ha (k*2+1) (sv x.name) (by rw[za3 Alw.cells 2 zd4 a k 1 hka (by omega),hx];rfl);exact(HB.out.cell hlt_a).trans ((congrArg (fun i=>w.cell? ⟨ba,i,none⟩) (by omega)).trans h9)
    have b0:wr.cell? ⟨bb,ob+k*2,none⟩=some (.string ⟨y.tag.toArray⟩):=by
     have h9:=hb (k*2+0) (sv y.tag) (by rw[za3 Alw.cells 2 zd4 b k 0 hkb (by omega),hy];rfl);exact(HB.out.cell hlt_b).trans ((congrArg (fun i=>w.cell? ⟨bb,i,none⟩) (by omega)).trans h9)
    have b1:wr.cell? ⟨bb,ob+k*2+1,none⟩=some (.string ⟨y.name.toArray⟩):=by
     have h9:=hb (k*2+1) (sv y.name) (by rw[za3 Alw.cells 2 zd4 b k 1 hkb (by omega),hy];rfl);exact(HB.out.cell hlt_b).trans ((congrArg (fun i=>w.cell? ⟨bb,i,none⟩) (by omega)).trans h9)
    have c1: ¬(n:Int)<=k:=by omega
    have hba:ba<wr.heap.size:=z2g hlt_a HB.out.size;have hbb:bb<wr.heap.size:=z2g hlt_b HB.out.size;clear ha hb hx hy;by_cases hxy:x=y
    ·have HT:Hid (D=decide (a.drop (k+1)=b.drop (k+1))):=HK.out.trans (HS.out hxy);have e0:((⟨x.tag.toArray⟩:ByteArray).toList==(⟨y.tag.toArray⟩:ByteArray).toList)=true:=by rw[zbz,hxy];simp
     have e1:((⟨x.name.toArray⟩:ByteArray).toList==(⟨y.name.toArray⟩:ByteArray).toList)=true:=by rw[zbz,hxy];simp
     clear HK HS HS2 hxy;generalize(⟨x.tag.toArray⟩:ByteArray)=x0s at*;generalize(⟨x.name.toArray⟩:ByteArray)=x1s at*;generalize(⟨y.tag.toArray⟩:ByteArray)=y0s at*;generalize(⟨y.name.toArray⟩:ByteArray)=y1s at*;go_upto_region 6 with fail
     go_region;go_wp2_with fail
     go_roundw
     case rel=>exact⟨k+1,by omega,by go_num,HT.out,by show Below _ _ _;exact HB.out.trans ((bel:Below wr.heap.size wr wr.drew).mono HB.out.size)⟩
     case measure=>simp[intOf];omega
    ·have HT:Hid (D=false):=HK.out.trans (HS2.out hxy);have e0:(((⟨x.tag.toArray⟩:ByteArray).toList==(⟨y.tag.toArray⟩:ByteArray).toList)&&((⟨x.name.toArray⟩:ByteArray).toList==(⟨y.name.toArray⟩:ByteArray).toList))=false:=by
      simp only[zbz];cases x;cases y;simp only[Alw.mk.injEq]at hxy;simpa using hxy
     clear HK HS HS2 hxy;generalize(⟨x.tag.toArray⟩:ByteArray)=x0s at*;generalize(⟨x.name.toArray⟩:ByteArray)=x1s at*;generalize(⟨y.tag.toArray⟩:ByteArray)=y0s at*;generalize(⟨y.name.toArray⟩:ByteArray)=y1s at*;go_upto_region 6 with fail
     go_region;go_wp2_with fail
     go_ret;exact Ret.of (by rw[HT.out];rfl) (HB.out.trans ((bel:Below wr.heap.size wr wr.drew).mono HB.out.size))
   ·have HT:Hid (D=true):=by
     show _=_;rw[HK.out,z2o (by rw[HNa.out];omega),z2o (by rw[HNb.out];omega)];simp
    go_wp2_with fail
    go_ret;exact Ret.of (by rw[HT.out];rfl) HB.out
 ·have hlb:((a.length:Int) !=(b.length:Int))=true:=by simp;omega
  have HD:Hid (decide (a=b)=false):=by
   show _=_;rw[decide_eq_false_iff_not];exact fun h=>hl (congrArg List.length h)
  rw[HD.out];clear HD hl h4a h4b;go_enter Tryz.func129,Tryz.ntmps129;go_wp2_with fail
  go_ret;exact Ret.of rfl bel
theorem zuj (v u:Value) (a b:List Frc) (w:World) (ha:Rd w v a.length 3 (a.flatMap Frc.cells)) (hb:Rd w u b.length 3 (b.flatMap Frc.cells)):
  Calls z2f 130 #[v,u] w (Ret (.bool (decide (a=b))) w):=by
 have hmx:=mxd;obtain⟨_,hma,Aa,ca,rfl,h4a⟩:=ha;obtain⟨_,hmb,Ab,cb,rfl,h4b⟩:=hb;by_cases hl:a.length=b.length
 ·have HE0:Hid (decide (a=b)=decide (a.drop 0=b.drop 0)):=by show _=_;rw[z2w,z2w]
  obtain⟨D,hD⟩: ∃D,decide (a=b)=D:=⟨_,rfl⟩;rw[hD]at HE0 ⊢;have HLa:=z2c (rfl:a.length=a.length);obtain⟨n,hn⟩: ∃n,a.length=n:=⟨_,rfl⟩;have HNa:=z2c hn;have HNb:=z2c (hl.symm.trans hn);rw[<-hl]at h4b hmb ⊢;rw[hn]at h4a h4b hma hmb ⊢;have H4a:=z2c h4a;have H4b:=z2c h4b;clear hn hl h4a h4b hD HLa hmb;go_enter Tryz.func130,Tryz.ntmps130;go_wp2_with fail
  go_loopw [13] (fun i wr=> ∃k:Nat,k<=n/\i= .int .i64 (k:Nat)/\Hid (D=decide (a.drop k=b.drop k))/\Hid (Below w.heap.size w wr)) (fun i _=>n-(intOf i).toNat)
  case atStart=>exact⟨0,by omega,rfl,HE0.out,by show Below _ _ _;exact bel⟩
  case round=>
   clear HE0;obtain⟨k,hk,rfl,HK,HB⟩:=hrel;by_cases hlt:k<n
   ·obtain⟨ba,oa,rfl,hlt_a,ha⟩:=H4a.out (by omega);obtain⟨bb,ob,rfl,hlt_b,hb⟩:=H4b.out (by omega);have hka:k<a.length:=by rw[HNa.out];exact hlt
    have hkb:k<b.length:=by rw[HNb.out];exact hlt
    have HS:=z2c (fun h=>zfb hka hkb h (HNa.out.trans HNb.out.symm));have HS2:=z2c (zfa hka hkb);obtain⟨x,hx⟩: ∃x,a[k]=x:=⟨_,rfl⟩;obtain⟨y,hy⟩: ∃y,b[k]=y:=⟨_,rfl⟩;rw[hx,hy]at HS HS2;have a0:wr.cell? ⟨ba,oa+k*3,none⟩=some (.string ⟨x.tag.toArray⟩):=by
     have h9:=ha (k*3+0) (sv x.tag) (by rw[za3 Frc.cells 3 zcl a k 0 hka (by omega),hx];rfl);exact(HB.out.cell hlt_a).trans ((congrArg (fun i=>w.cell? ⟨ba,i,none⟩) (by omega)).trans h9)
    have a1:wr.cell? ⟨ba,oa+k*3+1,none⟩=some (.string ⟨x.name.toArray⟩):=by
     have h9:=ha (k*3+1) (sv x.name) (by rw[za3 Frc.cells 3 zcl a k 1 hka (by omega),hx];rfl);exact(HB.out.cell hlt_a).trans ((congrArg (fun i=>w.cell? ⟨ba,i,none⟩) (by omega)).trans h9)
    have a2:wr.cell? ⟨ba,oa+k*3+2,none⟩=some (.string ⟨x.value.toArray⟩):=by
     have h9:=ha (k*3+2) (sv x.value) (by rw[za3 Frc.cells 3 zcl a k 2 hka (by omega),hx];rfl);exact(HB.out.cell hlt_a).trans ((congrArg (fun i=>w.cell? ⟨ba,i,none⟩) (by omega)).trans h9)
    have b0:wr.cell? ⟨bb,ob+k*3,none⟩=some (.string ⟨y.tag.toArray⟩):=by
     have h9:=hb (k*3+0) (sv y.tag) (by rw[za3 Frc.cells 3 zcl b k 0 hkb (by omega),hy];rfl);exact(HB.out.cell hlt_b).trans ((congrArg (fun i=>w.cell? ⟨bb,i,none⟩) (by omega)).trans h9)
    have b1:wr.cell? ⟨bb,ob+k*3+1,none⟩=some (.string ⟨y.name.toArray⟩):=by
     have h9:=hb (k*3+1) (sv y.name) (by rw[za3 Frc.cells 3 zcl b k 1 hkb (by omega),hy];rfl);exact(HB.out.cell hlt_b).trans ((congrArg (fun i=>w.cell? ⟨bb,i,none⟩) (by omega)).trans h9)
    have b2:wr.cell? ⟨bb,ob+k*3+2,none⟩=some (.string ⟨y.value.toArray⟩):=by
     have h9:=hb (k*3+2) (sv y.value) (by rw[za3 Frc.cells 3 zcl b k 2 hkb (by omega),hy];rfl);exact(HB.out.cell hlt_b).trans ((congrArg (fun i=>w.cell? ⟨bb,i,none⟩) (by omega)).trans h9)
    have c1: ¬(n:Int)<=k:=by omega
    have hba:ba<wr.heap.size:=z2g hlt_a HB.out.size;have hbb:bb<wr.heap.size:=z2g hlt_b HB.out.size;clear ha hb hx hy;by_cases hxy:x=y
    ·have HT:Hid (D=decide (a.drop (k+1)=b.drop (k+1))):=HK.out.trans (HS.out hxy);have e0:((⟨x.tag.toArray⟩:ByteArray).toList==(⟨y.tag.toArray⟩:ByteArray).toList)=true:=by rw[zbz,hxy];simp
     have e1:((⟨x.name.toArray⟩:ByteArray).toList==(⟨y.name.toArray⟩:ByteArray).toList)=true:=by rw[zbz,hxy];simp
     have e2:((⟨x.value.toArray⟩:ByteArray).toList==(⟨y.value.toArray⟩:ByteArray).toList)=true:=by rw[zbz,hxy];simp
     clear HK HS HS2 hxy;generalize(⟨x.tag.toArray⟩:ByteArray)=x0s at*;generalize(⟨x.name.toArray⟩:ByteArray)=x1s at*;generalize(⟨x.value.toArray⟩:ByteArray)=x2s at*;generalize(⟨y.tag.toArray⟩:ByteArray)=y0s at*;generalize(⟨y.name.toArray⟩:ByteArray)=y1s at*;generalize(⟨y.value.toArray⟩:ByteArray)=y2s at*;go_upto_region 6 with fail
     go_region;go_wp2_with fail
     go_roundw
     case rel=>exact⟨k+1,by omega,by go_num,HT.out,by show Below _ _ _;exact HB.out.trans ((bel:Below wr.heap.size wr wr.drew).mono HB.out.size)⟩
     case measure=>simp[intOf];omega
    ·have HT:Hid (D=false):=HK.out.trans (HS2.out hxy);have e0:(((⟨x.tag.toArray⟩:ByteArray).toList==(⟨y.tag.toArray⟩:ByteArray).toList)&&((⟨x.name.toArray⟩:ByteArray).toList==(⟨y.name.toArray⟩:ByteArray).toList)&&((⟨x.value.toArray⟩:ByteArray).toList==(⟨y.value.toArray⟩:ByteArray).toList))=false:=by
      simp only[zbz];cases x;cases y;simp only[Frc.mk.injEq]at hxy;simpa[and_assoc]using hxy
     clear HK HS HS2 hxy;generalize(⟨x.tag.toArray⟩:ByteArray)=x0s at*;generalize(⟨x.name.toArray⟩:ByteArray)=x1s at*;generalize(⟨x.value.toArray⟩:ByteArray)=x2s at*;generalize(⟨y.tag.toArray⟩:ByteArray)=y0s at*;generalize(⟨y.name.toArray⟩:ByteArray)=y1s at*;generalize(⟨y.value.toArray⟩:ByteArray)=y2s at*;go_upto_region 6 with fail
     go_region;go_wp2_with fail
     go_ret;exact Ret.of (by rw[HT.out];rfl) (HB.out.trans ((bel:Below wr.heap.size wr wr.drew).mono HB.out.size))
   ·have HT:Hid (D=true):=by
     show _=_;rw[HK.out,z2o (by rw[HNa.out];omega),z2o (by rw[HNb.out];omega)];simp
    go_wp2_with fail
    go_ret;exact Ret.of (by rw[HT.out];rfl) HB.out
 ·have hlb:((a.length:Int) !=(b.length:Int))=true:=by simp;omega
  have HD:Hid (decide (a=b)=false):=by
   show _=_;rw[decide_eq_false_iff_not];exact fun h=>hl (congrArg List.length h)
  rw[HD.out];clear HD hl h4a h4b;go_enter Tryz.func130,Tryz.ntmps130;go_wp2_with fail
  go_ret;exact Ret.of rfl bel
end Go.Proofs.YtiikamobcmgekaaGreatDoor

