import Derived.Test.YtccjfanpjojbnaaGreatDoorLB
import Derived.Test.YtccjfanpjojbnaaGreatDoorWN
namespace Go.Proofs.YtccjfanpjojbnaaGreatDoor
open Go.IntKind renaming i64→aC
open Lib renaming hid→aA
open List renaming drop_eq_getElem_cons→iK,drop_eq_nil_of_le→iG,drop_zero→fJ,flatMap_cons→iF
open Nat renaming lt_of_lt_of_le→bQ
open Tryz renaming prog→aE
open Go.Value renaming agg→aR,bool→aI,int→aB,string→aD
set_option maxRecDepth 100000
set_option maxHeartbeats 1600000
open Go.RowKit
def OJ (g:Nat) (p:Bs->Bool) (l:List Bs):Prop:=(∀args w,(callFunc g args).run aE w= .ok (.enter g args) w)/\ ∀t∈l,∀w,Calls aE g #[sv t] w (aH (aI (p t)) w)
theorem BH (t:Bs) (w:World) (ht:t.length<=9223372036854775807):Calls aE 54 #[sv t] w (aH (aI (!bW t)) w):=by
 have HW:=aA (λW=>show Calls aE 55 #[aD ⟨t.toArray⟩] W (aH (aI (bW t)) W)from PM ⟨t.toArray⟩ W (by show t.toArray.size<=_;simpa using ht));generalize bW t=b at*;unfold sv;go_enter Tryz.func54,Tryz.ntmps54;go_wp2_with(go_at_call 55;(with_reducible refine zG (HW.out _) λX=>?_))
 go_ret;exact aH.of rfl aG
theorem Ju (v:Value) (l:List Bs) (g:Nat) (p:Bs->Bool) (w:World) (h:Rd w v l.length 1 (l.map sv)) (hp:OJ g p l):
  Calls aE 111 #[v,.func (.func g) #[] #[]] w λe w'=> ∃i:Int,e=Ending.returned (aB aC i)/\decide (0<=i)=l.any p/\Below w.heap.size w w':=by
 obtain⟨eg,hp⟩:=hp;have hp:=aA hp;have HR:=aA h;obtain⟨_,hm,A,c,rfl,h4⟩:=h;obtain⟨n,hn⟩: ∃n,l.length=n:=⟨_,rfl⟩;have HN:=aA hn;rw[hn]at hm h4 HR ⊢;clear hn;have H4:=aA h4;clear h4;go_enter Tryz.func111,Tryz.ntmps111;go_wp2_with fail
 go_loopw [8] (λi wr=> ∃k:Nat,k<=n/\i=aB aC (k:Nat)/\Hid (l.any p=(l.drop k).any p)/\Hid (Below w.heap.size w wr)) (λi _=>n-(intOf i).toNat)
 case atStart=>exact⟨0,by omega,rfl,by show _=_;rw[fJ],by show Below _ _ _;exact aG⟩
 case round=>
  obtain⟨k,hk,rfl,HK,HB⟩:=hrel;by_cases hlt:k<n
  .obtain⟨b,off,rfl,hb,hc⟩:=H4.out om;have hkl:k<l.length:=by rw[HN.out];exact hlt
   have hcw:=(HB.out.cell (p:=⟨b,off+k,none⟩) hb).trans (hc k (sv l[k]) (by simp[hkl]));have hbr:b<wr.heap.size:=bQ hb HB.out.size;have HD:Hid (l.drop k=l[k]::l.drop (k+1)):=iK hkl;have HP:=aA (hp.out l[k] (List.getElem_mem hkl));clear hc;generalize l[k]=t at*;have HS:Hid (sv t=aD ⟨t.toArray⟩):=rfl;rw[HS.out]at hcw;have HP2:=aA (λW=>show Calls aE g #[aD ⟨t.toArray⟩] W _ from HP.out W);clear HP HS;generalize(⟨t.toArray⟩:ByteArray)=ts at*;cases hpc:p t
   .rw[hpc]at HP2;have HT:Hid (l.any p=(l.drop (k+1)).any p):=by
     show _=_;rw[HK.out,HD.out,List.any_cons,hpc,Bool.false_or]
    clear HK HD hpc;go_wp2_with((with_reducible refine zG (HP2.out _) λX=>?_))
    go_roundw
    case rel=>exact⟨k+1,by omega,by go_num,HT.out,by show Below _ _ _;exact HB.out.trans ((aG:Below wr.heap.size wr (wr.grow X)).mono HB.out.size)⟩
    case measure=>simp[intOf];omega
   .rw[hpc]at HP2;have HT:Hid (l.any p=true):=by
     show _=_;rw[HK.out,HD.out,List.any_cons,hpc,Bool.true_or]
    clear HK HD hpc;go_wp2_with((with_reducible refine zG (HP2.out _) λX=>?_))
    go_ret;exact⟨k,rfl,by rw[HT.out];simp,HB.out.trans ((aG:Below wr.heap.size wr (wr.grow X)).mono HB.out.size)⟩
  .have HT:Hid (l.any p=false):=by
    show _=_;rw[HK.out,iG (by rw[HN.out];omega)];rfl
   go_wp2_with fail
   go_ret;exact⟨-1,rfl,by rw[HT.out];rfl,HB.out⟩
theorem Oz (v:Value) (l:List Bs) (g:Nat) (p:Bs->Bool) (w:World) (h:Rd w v l.length 1 (l.map sv)) (hp:OJ g p l):
  Calls aE 56 #[v,.func (.func g) #[] #[]] w (aH (aI (l.any p)) w):=by
 have HI:=aA (Ju v l g p w h hp);clear h hp;go_enter Tryz.func56,Tryz.ntmps56;go_wp2_with(go_at_call 111;(with_reducible refine HI.out.mono ?_);rintro e w' ⟨i,rfl,hi,hb⟩;have HB:=aA hb;have HI2:=aA hi;clear hb hi)
 go_ret;exact aH.of (by rw[<-HI2.out];simp) HB.out
theorem Bk (l:List Bs) (hl: ∀t∈l,t.length<=9223372036854775807):OJ 54 (λt=> !bW t) l:=⟨enters_of Tryz.func54 kr rfl,λt ht w=>BH t w (hl t ht)⟩
theorem Mz (a b c d e f:ByteArray) (w:World):(Op.equalIn 10000 81 (aR #[aD a,aD b,aD e]) (aR #[aD c,aD d,aD f])).run aE w= .ok ((a.toList==c.toList)&&(b.toList==d.toList)&&(e.toList==f.toList)) w:=by
 have h2:aE.underlying 81=some (.struct (aE.fieldsOf 81)):=by kernel_rfl
 have h3:aE.stoodInHeld 81=false:=by kernel_rfl
 rw[run_equalIn_agg _ _ _ _ _ h2 h3];simp only[Program.fieldsOf,Tryz.underlying81];cases h1:(a.toList==c.toList)<;>cases h4:(b.toList==d.toList)<;>cases h5:(e.toList==f.toList)<;>simp[go_sem,Tryz.underlying9,h1,h4,h5]
@[go_sem high] theorem Un (a b c d e f:ByteArray) (w:World):(binOp .neq 81 (aR #[aD a,aD b,aD e]) (aR #[aD c,aD d,aD f])).run aE w= .ok (aI (!((a.toList==c.toList)&&(b.toList==d.toList)&&(e.toList==f.toList)))) w:=by
 rw[run_neq_struct,Mz];rfl
@[go_sem] theorem Vt:aE.eqGuardType aE.depth 81=false:=by kernel_rfl
theorem nZ {α:Type} (cells:α->List Value) (n:Nat) (hn: ∀x,(cells x).length=n) (l:List α) (k j:Nat) (hk:k<l.length) (hj:j<n):(l.flatMap cells)[k*n+j]? =(cells l[k])[j]? :=by
 induction l generalizing k with
 |nil=>simp at hk
 |cons x r ih=>
  cases k with
  |zero=>simp only[iF,Nat.zero_mul,Nat.zero_add,List.getElem_cons_zero];rw[List.getElem?_append_left (by rw[hn];exact hj)]
  |succ k=>
   simp only[iF,List.getElem_cons_succ];rw[List.getElem?_append_right (by rw[hn,Nat.add_mul];omega),hn,show(k+1)*n+j-n=k*n+j by rw[Nat.add_mul];omega];exact ih k (by simpa using hk)
theorem OC {α:Type} [DecidableEq α] {a b:List α} {k:Nat} (ha:k<a.length) (hb:k<b.length) (h:a[k]=b[k]) (_hl:a.length=b.length):decide (a.drop k=b.drop k)=decide (a.drop (k+1)=b.drop (k+1)):=by
 rw[iK ha,iK hb,h,decide_eq_decide];simp only[List.cons.injEq,true_and]
theorem OB {α:Type} [DecidableEq α] {a b:List α} {k:Nat} (ha:k<a.length) (hb:k<b.length) (h: ¬a[k]=b[k]):decide (a.drop k=b.drop k)=false:=by
 rw[iK ha,iK hb,decide_eq_false_iff_not];simp only[List.cons.injEq,h,false_and,not_false_eq_true]
theorem AF (x:aW):x.cells.length=2:=rfl
theorem uR (x:aS):x.cells.length=3:=rfl
theorem vD (s t:Bs):((⟨s.toArray⟩:ByteArray).toList==(⟨t.toArray⟩:ByteArray).toList)=decide (s=t):=by rw[nD]
theorem Mu (v u:Value) (a b:List Bs) (w:World) (ha:Rd w v a.length 1 (a.map sv)) (hb:Rd w u b.length 1 (b.map sv)):
  Calls aE 57 #[v,u] w (aH (aI (decide (a=b))) w):=by
 have hmx:=bX;obtain⟨_,hma,Aa,ca,rfl,h4a⟩:=ha;obtain⟨_,hmb,Ab,cb,rfl,h4b⟩:=hb;by_cases hl:a.length=b.length
 .have HE0:Hid (decide (a=b)=decide (a.drop 0=b.drop 0)):=by show _=_;rw[fJ,fJ]
  obtain⟨D,hD⟩: ∃D,decide (a=b)=D:=⟨_,rfl⟩;rw[hD]at HE0 ⊢;have HLa:=aA (rfl:a.length=a.length);obtain⟨n,hn⟩: ∃n,a.length=n:=⟨_,rfl⟩;have HNa:=aA hn;have HNb:=aA (hl.symm.trans hn);rw[<-hl]at h4b hmb ⊢;rw[hn]at h4a h4b hma hmb ⊢;have H4a:=aA h4a;have H4b:=aA h4b;clear hn hl h4a h4b hD HLa hmb;go_enter Tryz.func57,Tryz.ntmps57;go_wp2_with fail
  go_loopw [13] (λi wr=> ∃k:Nat,k<=n/\i=aB aC (k:Nat)/\Hid (D=decide (a.drop k=b.drop k))/\Hid (Below w.heap.size w wr)) (λi _=>n-(intOf i).toNat)
  case atStart=>exact⟨0,by omega,rfl,HE0.out,by show Below _ _ _;exact aG⟩
  case round=>
   clear HE0;obtain⟨k,hk,rfl,HK,HB⟩:=hrel;by_cases hlt:k<n
   .obtain⟨ba,oa,rfl,hlt_a,ha⟩:=H4a.out om;obtain⟨bb,ob,rfl,hlt_b,hb⟩:=H4b.out om;have hka:k<a.length:=by rw[HNa.out];exact hlt
    have hkb:k<b.length:=by rw[HNb.out];exact hlt
    have HS:=aA (λh=>OC hka hkb h (HNa.out.trans HNb.out.symm));have HS2:=aA (OB hka hkb);obtain⟨x,hx⟩: ∃x,a[k]=x:=⟨_,rfl⟩;obtain⟨y,hy⟩: ∃y,b[k]=y:=⟨_,rfl⟩;rw[hx,hy]at HS HS2;have a0:wr.cell? ⟨ba,oa+k,none⟩=some (aD ⟨x.toArray⟩):=by
     have h9:=ha k (sv x) (by simp[hka,hx]);exact(HB.out.cell hlt_a).trans (h9)
    have b0:wr.cell? ⟨bb,ob+k,none⟩=some (aD ⟨y.toArray⟩):=by
     have h9:=hb k (sv y) (by simp[hkb,hy]);exact(HB.out.cell hlt_b).trans (h9)
    have c1: ¬(n:Int)<=k:=by omega
    have hba:ba<wr.heap.size:=bQ hlt_a HB.out.size;have hbb:bb<wr.heap.size:=bQ hlt_b HB.out.size;clear ha hb hx hy;by_cases hxy:x=y
    .have HT:Hid (D=decide (a.drop (k+1)=b.drop (k+1))):=HK.out.trans (HS.out hxy);have e0:((⟨x.toArray⟩:ByteArray).toList==(⟨y.toArray⟩:ByteArray).toList)=true:=by rw[vD,hxy];simp
     clear HK HS HS2 hxy;generalize(⟨x.toArray⟩:ByteArray)=x0s at*;generalize(⟨y.toArray⟩:ByteArray)=y0s at*;go_upto_region 6 with fail
     go_region;go_wp2_with fail
     go_roundw
     case rel=>exact⟨k+1,by omega,by go_num,HT.out,by show Below _ _ _;exact HB.out.trans ((aG:Below wr.heap.size wr wr.drew).mono HB.out.size)⟩
     case measure=>simp[intOf];omega
    .have HT:Hid (D=false):=HK.out.trans (HS2.out hxy);have e0:(((⟨x.toArray⟩:ByteArray).toList==(⟨y.toArray⟩:ByteArray).toList))=false:=by
      simp only[vD];simpa using hxy
     clear HK HS HS2 hxy;generalize(⟨x.toArray⟩:ByteArray)=x0s at*;generalize(⟨y.toArray⟩:ByteArray)=y0s at*;go_upto_region 6 with fail
     go_region;go_wp2_with fail
     go_ret;exact aH.of (by rw[HT.out];rfl) (HB.out.trans ((aG:Below wr.heap.size wr wr.drew).mono HB.out.size))
   .have HT:Hid (D=true):=by
     show _=_;rw[HK.out,iG (by rw[HNa.out];omega),iG (by rw[HNb.out];omega)];simp
    go_wp2_with fail
    go_ret;exact aH.of (by rw[HT.out];rfl) HB.out
 .have hlb:((a.length:Int) !=(b.length:Int))=true:=by simp;omega
  have HD:Hid (decide (a=b)=false):=by
   show _=_;rw[decide_eq_false_iff_not];exact λh=>hl (congrArg List.length h)
  rw[HD.out];clear HD hl h4a h4b;go_enter Tryz.func57,Tryz.ntmps57;go_wp2_with fail
  go_ret;exact aH.of rfl aG
theorem Mw (v u:Value) (a b:List aW) (w:World) (ha:Rd w v a.length 2 (a.flatMap aW.cells)) (hb:Rd w u b.length 2 (b.flatMap aW.cells)):
  Calls aE 60 #[v,u] w (aH (aI (decide (a=b))) w):=by
 have hmx:=bX;obtain⟨_,hma,Aa,ca,rfl,h4a⟩:=ha;obtain⟨_,hmb,Ab,cb,rfl,h4b⟩:=hb;by_cases hl:a.length=b.length
 .have HE0:Hid (decide (a=b)=decide (a.drop 0=b.drop 0)):=by show _=_;rw[fJ,fJ]
  obtain⟨D,hD⟩: ∃D,decide (a=b)=D:=⟨_,rfl⟩;rw[hD]at HE0 ⊢;have HLa:=aA (rfl:a.length=a.length);obtain⟨n,hn⟩: ∃n,a.length=n:=⟨_,rfl⟩;have HNa:=aA hn;have HNb:=aA (hl.symm.trans hn);rw[<-hl]at h4b hmb ⊢;rw[hn]at h4a h4b hma hmb ⊢;have H4a:=aA h4a;have H4b:=aA h4b;clear hn hl h4a h4b hD HLa hmb;go_enter Tryz.func60,Tryz.ntmps60;go_wp2_with fail
  go_loopw [13] (λi wr=> ∃k:Nat,k<=n/\i=aB aC (k:Nat)/\Hid (D=decide (a.drop k=b.drop k))/\Hid (Below w.heap.size w wr)) (λi _=>n-(intOf i).toNat)
  case atStart=>exact⟨0,by omega,rfl,HE0.out,by show Below _ _ _;exact aG⟩
  case round=>
   clear HE0;obtain⟨k,hk,rfl,HK,HB⟩:=hrel;by_cases hlt:k<n
   .obtain⟨ba,oa,rfl,hlt_a,ha⟩:=H4a.out om;obtain⟨bb,ob,rfl,hlt_b,hb⟩:=H4b.out om;have hka:k<a.length:=by rw[HNa.out];exact hlt
    have hkb:k<b.length:=by rw[HNb.out];exact hlt
    have HS:=aA (λh=>OC hka hkb h (HNa.out.trans HNb.out.symm));have HS2:=aA (OB hka hkb);obtain⟨x,hx⟩: ∃x,a[k]=x:=⟨_,rfl⟩;obtain⟨y,hy⟩: ∃y,b[k]=y:=⟨_,rfl⟩;rw[hx,hy]at HS HS2;have a0:wr.cell? ⟨ba,oa+k*2,none⟩=some (aD ⟨x.tag.toArray⟩):=by
     have h9:=ha (k*2+0) (sv x.tag) (by rw[nZ aW.cells 2 AF a k 0 hka om,hx];rfl);exact(HB.out.cell hlt_a).trans ((congrArg (λi=>w.cell? ⟨ba,i,none⟩) om).trans h9)
    have a1:wr.cell? ⟨ba,oa+k*2+1,none⟩=some (aD ⟨x.name.toArray⟩):=by
     have h9:=ha (k*2+1) (sv x.name) (by rw[nZ aW.cells 2 AF a k 1 hka om,hx];rfl);exact(HB.out.cell hlt_a).trans ((congrArg (λi=>w.cell? ⟨ba,i,none⟩) om).trans h9)
    have b0:wr.cell? ⟨bb,ob+k*2,none⟩=some (aD ⟨y.tag.toArray⟩):=by
     have h9:=hb (k*2+0) (sv y.tag) (by rw[nZ aW.cells 2 AF b k 0 hkb om,hy];rfl);exact(HB.out.cell hlt_b).trans ((congrArg (λi=>w.cell? ⟨bb,i,none⟩) om).trans h9)
    have b1:wr.cell? ⟨bb,ob+k*2+1,none⟩=some (aD ⟨y.name.toArray⟩):=by
     have h9:=hb (k*2+1) (sv y.name) (by rw[nZ aW.cells 2 AF b k 1 hkb om,hy];rfl);exact(HB.out.cell hlt_b).trans ((congrArg (λi=>w.cell? ⟨bb,i,none⟩) om).trans h9)
    have c1: ¬(n:Int)<=k:=by omega
    have hba:ba<wr.heap.size:=bQ hlt_a HB.out.size;have hbb:bb<wr.heap.size:=bQ hlt_b HB.out.size;clear ha hb hx hy;by_cases hxy:x=y
    .have HT:Hid (D=decide (a.drop (k+1)=b.drop (k+1))):=HK.out.trans (HS.out hxy);have e0:((⟨x.tag.toArray⟩:ByteArray).toList==(⟨y.tag.toArray⟩:ByteArray).toList)=true:=by rw[vD,hxy];simp
     have e1:((⟨x.name.toArray⟩:ByteArray).toList==(⟨y.name.toArray⟩:ByteArray).toList)=true:=by rw[vD,hxy];simp
     clear HK HS HS2 hxy;generalize(⟨x.tag.toArray⟩:ByteArray)=x0s at*;generalize(⟨x.name.toArray⟩:ByteArray)=x1s at*;generalize(⟨y.tag.toArray⟩:ByteArray)=y0s at*;generalize(⟨y.name.toArray⟩:ByteArray)=y1s at*;go_upto_region 6 with fail
     go_region;go_wp2_with fail
     go_roundw
     case rel=>exact⟨k+1,by omega,by go_num,HT.out,by show Below _ _ _;exact HB.out.trans ((aG:Below wr.heap.size wr wr.drew).mono HB.out.size)⟩
     case measure=>simp[intOf];omega
    .have HT:Hid (D=false):=HK.out.trans (HS2.out hxy);have e0:(((⟨x.tag.toArray⟩:ByteArray).toList==(⟨y.tag.toArray⟩:ByteArray).toList)&&((⟨x.name.toArray⟩:ByteArray).toList==(⟨y.name.toArray⟩:ByteArray).toList))=false:=by
      simp only[vD];cases x;cases y;simp only[aW.mk.injEq]at hxy;simpa using hxy
     clear HK HS HS2 hxy;generalize(⟨x.tag.toArray⟩:ByteArray)=x0s at*;generalize(⟨x.name.toArray⟩:ByteArray)=x1s at*;generalize(⟨y.tag.toArray⟩:ByteArray)=y0s at*;generalize(⟨y.name.toArray⟩:ByteArray)=y1s at*;go_upto_region 6 with fail
     go_region;go_wp2_with fail
     go_ret;exact aH.of (by rw[HT.out];rfl) (HB.out.trans ((aG:Below wr.heap.size wr wr.drew).mono HB.out.size))
   .have HT:Hid (D=true):=by
     show _=_;rw[HK.out,iG (by rw[HNa.out];omega),iG (by rw[HNb.out];omega)];simp
    go_wp2_with fail
    go_ret;exact aH.of (by rw[HT.out];rfl) HB.out
 .have hlb:((a.length:Int) !=(b.length:Int))=true:=by simp;omega
  have HD:Hid (decide (a=b)=false):=by
   show _=_;rw[decide_eq_false_iff_not];exact λh=>hl (congrArg List.length h)
  rw[HD.out];clear HD hl h4a h4b;go_enter Tryz.func60,Tryz.ntmps60;go_wp2_with fail
  go_ret;exact aH.of rfl aG
theorem Mv (v u:Value) (a b:List aS) (w:World) (ha:Rd w v a.length 3 (a.flatMap aS.cells)) (hb:Rd w u b.length 3 (b.flatMap aS.cells)):
  Calls aE 61 #[v,u] w (aH (aI (decide (a=b))) w):=by
 have hmx:=bX;obtain⟨_,hma,Aa,ca,rfl,h4a⟩:=ha;obtain⟨_,hmb,Ab,cb,rfl,h4b⟩:=hb;by_cases hl:a.length=b.length
 .have HE0:Hid (decide (a=b)=decide (a.drop 0=b.drop 0)):=by show _=_;rw[fJ,fJ]
  obtain⟨D,hD⟩: ∃D,decide (a=b)=D:=⟨_,rfl⟩;rw[hD]at HE0 ⊢;have HLa:=aA (rfl:a.length=a.length);obtain⟨n,hn⟩: ∃n,a.length=n:=⟨_,rfl⟩;have HNa:=aA hn;have HNb:=aA (hl.symm.trans hn);rw[<-hl]at h4b hmb ⊢;rw[hn]at h4a h4b hma hmb ⊢;have H4a:=aA h4a;have H4b:=aA h4b;clear hn hl h4a h4b hD HLa hmb;go_enter Tryz.func61,Tryz.ntmps61;go_wp2_with fail
  go_loopw [13] (λi wr=> ∃k:Nat,k<=n/\i=aB aC (k:Nat)/\Hid (D=decide (a.drop k=b.drop k))/\Hid (Below w.heap.size w wr)) (λi _=>n-(intOf i).toNat)
  case atStart=>exact⟨0,by omega,rfl,HE0.out,by show Below _ _ _;exact aG⟩
  case round=>
   clear HE0;obtain⟨k,hk,rfl,HK,HB⟩:=hrel;by_cases hlt:k<n
   .obtain⟨ba,oa,rfl,hlt_a,ha⟩:=H4a.out om;obtain⟨bb,ob,rfl,hlt_b,hb⟩:=H4b.out om;have hka:k<a.length:=by rw[HNa.out];exact hlt
    have hkb:k<b.length:=by rw[HNb.out];exact hlt
    have HS:=aA (λh=>OC hka hkb h (HNa.out.trans HNb.out.symm));have HS2:=aA (OB hka hkb);obtain⟨x,hx⟩: ∃x,a[k]=x:=⟨_,rfl⟩;obtain⟨y,hy⟩: ∃y,b[k]=y:=⟨_,rfl⟩;rw[hx,hy]at HS HS2;have a0:wr.cell? ⟨ba,oa+k*3,none⟩=some (aD ⟨x.tag.toArray⟩):=by
     have h9:=ha (k*3+0) (sv x.tag) (by rw[nZ aS.cells 3 uR a k 0 hka om,hx];rfl);exact(HB.out.cell hlt_a).trans ((congrArg (λi=>w.cell? ⟨ba,i,none⟩) om).trans h9)
    have a1:wr.cell? ⟨ba,oa+k*3+1,none⟩=some (aD ⟨x.name.toArray⟩):=by
     have h9:=ha (k*3+1) (sv x.name) (by rw[nZ aS.cells 3 uR a k 1 hka om,hx];rfl);exact(HB.out.cell hlt_a).trans ((congrArg (λi=>w.cell? ⟨ba,i,none⟩) om).trans h9)
    have a2:wr.cell? ⟨ba,oa+k*3+2,none⟩=some (aD ⟨x.value.toArray⟩):=by
     have h9:=ha (k*3+2) (sv x.value) (by rw[nZ aS.cells 3 uR a k 2 hka om,hx];rfl);exact(HB.out.cell hlt_a).trans ((congrArg (λi=>w.cell? ⟨ba,i,none⟩) om).trans h9)
    have b0:wr.cell? ⟨bb,ob+k*3,none⟩=some (aD ⟨y.tag.toArray⟩):=by
     have h9:=hb (k*3+0) (sv y.tag) (by rw[nZ aS.cells 3 uR b k 0 hkb om,hy];rfl);exact(HB.out.cell hlt_b).trans ((congrArg (λi=>w.cell? ⟨bb,i,none⟩) om).trans h9)
    have b1:wr.cell? ⟨bb,ob+k*3+1,none⟩=some (aD ⟨y.name.toArray⟩):=by
     have h9:=hb (k*3+1) (sv y.name) (by rw[nZ aS.cells 3 uR b k 1 hkb om,hy];rfl);exact(HB.out.cell hlt_b).trans ((congrArg (λi=>w.cell? ⟨bb,i,none⟩) om).trans h9)
    have b2:wr.cell? ⟨bb,ob+k*3+2,none⟩=some (aD ⟨y.value.toArray⟩):=by
     have h9:=hb (k*3+2) (sv y.value) (by rw[nZ aS.cells 3 uR b k 2 hkb om,hy];rfl);exact(HB.out.cell hlt_b).trans ((congrArg (λi=>w.cell? ⟨bb,i,none⟩) om).trans h9)
    have c1: ¬(n:Int)<=k:=by omega
    have hba:ba<wr.heap.size:=bQ hlt_a HB.out.size;have hbb:bb<wr.heap.size:=bQ hlt_b HB.out.size;clear ha hb hx hy;by_cases hxy:x=y
    .have HT:Hid (D=decide (a.drop (k+1)=b.drop (k+1))):=HK.out.trans (HS.out hxy);have e0:((⟨x.tag.toArray⟩:ByteArray).toList==(⟨y.tag.toArray⟩:ByteArray).toList)=true:=by rw[vD,hxy];simp
     have e1:((⟨x.name.toArray⟩:ByteArray).toList==(⟨y.name.toArray⟩:ByteArray).toList)=true:=by rw[vD,hxy];simp
     have e2:((⟨x.value.toArray⟩:ByteArray).toList==(⟨y.value.toArray⟩:ByteArray).toList)=true:=by rw[vD,hxy];simp
     clear HK HS HS2 hxy;generalize(⟨x.tag.toArray⟩:ByteArray)=x0s at*;generalize(⟨x.name.toArray⟩:ByteArray)=x1s at*;generalize(⟨x.value.toArray⟩:ByteArray)=x2s at*;generalize(⟨y.tag.toArray⟩:ByteArray)=y0s at*;generalize(⟨y.name.toArray⟩:ByteArray)=y1s at*;generalize(⟨y.value.toArray⟩:ByteArray)=y2s at*;go_upto_region 6 with fail
     go_region;go_wp2_with fail
     go_roundw
     case rel=>exact⟨k+1,by omega,by go_num,HT.out,by show Below _ _ _;exact HB.out.trans ((aG:Below wr.heap.size wr wr.drew).mono HB.out.size)⟩
     case measure=>simp[intOf];omega
    .have HT:Hid (D=false):=HK.out.trans (HS2.out hxy);have e0:(((⟨x.tag.toArray⟩:ByteArray).toList==(⟨y.tag.toArray⟩:ByteArray).toList)&&((⟨x.name.toArray⟩:ByteArray).toList==(⟨y.name.toArray⟩:ByteArray).toList)&&((⟨x.value.toArray⟩:ByteArray).toList==(⟨y.value.toArray⟩:ByteArray).toList))=false:=by
      simp only[vD];cases x;cases y;simp only[aS.mk.injEq]at hxy;simpa[and_assoc]using hxy
     clear HK HS HS2 hxy;generalize(⟨x.tag.toArray⟩:ByteArray)=x0s at*;generalize(⟨x.name.toArray⟩:ByteArray)=x1s at*;generalize(⟨x.value.toArray⟩:ByteArray)=x2s at*;generalize(⟨y.tag.toArray⟩:ByteArray)=y0s at*;generalize(⟨y.name.toArray⟩:ByteArray)=y1s at*;generalize(⟨y.value.toArray⟩:ByteArray)=y2s at*;go_upto_region 6 with fail
     go_region;go_wp2_with fail
     go_ret;exact aH.of (by rw[HT.out];rfl) (HB.out.trans ((aG:Below wr.heap.size wr wr.drew).mono HB.out.size))
   .have HT:Hid (D=true):=by
     show _=_;rw[HK.out,iG (by rw[HNa.out];omega),iG (by rw[HNb.out];omega)];simp
    go_wp2_with fail
    go_ret;exact aH.of (by rw[HT.out];rfl) HB.out
 .have hlb:((a.length:Int) !=(b.length:Int))=true:=by simp;omega
  have HD:Hid (decide (a=b)=false):=by
   show _=_;rw[decide_eq_false_iff_not];exact λh=>hl (congrArg List.length h)
  rw[HD.out];clear HD hl h4a h4b;go_enter Tryz.func61,Tryz.ntmps61;go_wp2_with fail
  go_ret;exact aH.of rfl aG
