/- The walk of cribbleref08.Right. (written by gen_rright.py) -/
import Derived.BigRegion
import Derived.Test.YtiikamobcmgekaaGreatDoorRiC
import Derived.Test.YtiikamobcmgekaaGreatDoorRiD
import Derived.Test.YtiikamobcmgekaaGreatDoorWN
namespace Go.Proofs.YtiikamobcmgekaaGreatDoor
open Lib renaming hid→z2c
open List renaming all_cons→z4s,drop_eq_getElem_cons→z2m,drop_eq_nil_of_le→z2o
open Nat renaming le_trans→z2j,lt_of_lt_of_le→z2g
open Tryz renaming prog→z2f
set_option maxRecDepth 100000
set_option maxHeartbeats 4000000
open Go.RowKit
attribute [local go_sem] Oper.semAt_some
def wsB (l:List Bs):Bool:=l.all zau&&decide (l.length<=200)
theorem zgd (A:Option Addr) (c:Nat) (l:List Bs) (w:World) (h:Rd w (.slice A l.length c) l.length 1 (l.map sv)) (ht: ∀t∈l,t.length<=9223372036854775807):Calls z2f 151 #[.slice A l.length c] w fun e w'=>e= .returned (.bool (wsB l))/\w=w':=by
 have HR:=z2c h;have HTx:=z2c ht;have HE:Hid (wsB l=(l.all zau&&decide (l.length<=200))):=rfl;obtain⟨R,hR⟩: ∃R,wsB l=R:=⟨_,rfl⟩;rw[hR]at HE ⊢;have hm:=h.2.1;obtain⟨n,hn⟩: ∃n,l.length=n:=⟨_,rfl⟩;have HN:=z2c hn;rw[hn]at hm HE ⊢;clear h ht hR hn;go_enter Tryz.func151,Tryz.ntmps151;go_wp2_with fail
 go_loopw [3] (fun i wr=> ∃k:Nat,k<=n/\i= .int .i64 k/\Hid (l.all zau=(l.drop k).all zau)/\wr=w) (fun i _=>n-(intOf i).toNat)
 case atStart=>exact⟨0,by omega,rfl,by show _=_;rw[List.drop_zero],rfl⟩
 case round=>
  obtain⟨k,hk,rfl,HK,rfl⟩:=hrel;by_cases hlt:k<n
  ·have hkl:k<l.length:=by rw[HN.out];exact hlt
   obtain⟨t,hx⟩: ∃t,l[k]=t:=⟨_,rfl⟩;obtain⟨b,o,rfl,hb,x0⟩:=Rd.atS HR.out k t (by rw[<-hx];exact List.getElem?_eq_getElem hkl);have HD:Hid (l.drop k=t::l.drop (k+1)):=by show _=_;rw[<-hx];exact z2m hkl
   have HW:=z2c (ze6 ⟨t.toArray⟩ wr (by show t.toArray.size<=_;have:=HTx.out t (by rw[<-hx];exact List.getElem_mem hkl);simpa using this));simp only[sv]at x0;have HW2:=z2c (show Calls z2f 152 #[.string ⟨t.toArray⟩] wr fun e w'=>e= .returned (.bool (zau t))/\wr=w' from HW.out);clear hx HW;generalize(⟨t.toArray⟩:ByteArray)=ts at*;cases hw:zau t with
   |true=>
    rw[hw]at HW2;have HT:Hid (l.all zau=(l.drop (k+1)).all zau):=by show _=_;rw[HK.out,HD.out,z4s,hw,Bool.true_and]
    clear HK HD hw;go_wp2_with(go_at_call 152;(with_reducible refine HW2.out.mono ?_);rintro e w' ⟨rfl,rfl⟩)
    go_roundw
    case rel=>exact⟨k+1,by omega,by go_num,HT.out,by first|rfl|trivial⟩
    case measure=>simp[intOf];omega
   |false=>
    rw[hw]at HW2;have HT:Hid (R=false):=by show _=_;rw[HE.out,HK.out,HD.out,z4s,hw];rfl
    clear HK HD hw;go_wp2_with(go_at_call 152;(with_reducible refine HW2.out.mono ?_);rintro e w' ⟨rfl,rfl⟩)
    go_ret;exact⟨by rw[HT.out];rfl,rfl⟩
  ·have HT:Hid (R=decide ((n:Int)<=200)):=by
    show _=_;rw[HE.out,HK.out,z2o (by rw[HN.out];omega),List.all_nil,Bool.true_and,decide_eq_decide];omega
   go_wp2_with fail
   go_ret;exact⟨by rw[HT.out];rfl,rfl⟩
theorem zir.neat {p:Pol} (h:zir p):zir (za7 p):=⟨z2j (zdo _ _) h.tags,z2j (zdo _ _) h.schemes,z2j (zdo _ _) h.css,z2j (zdo _ _) h.drops,z2j (zdo _ _) h.attrs,z2j (zdo _ _) h.forces⟩
def r3 (p:Pol):Bool:=p.attrs.all alwB&&(p.forces.all frcB&&decide (p=za7 p))
theorem ztq (p:Pol):zco p=(wsB p.tags&&(wsB p.schemes&&(wsB p.css&&(wsB p.drops&&(limB p&&(decide (p.attrs.length<=200)&&(decide (p.forces.length<=200)&&r3 p))))))):=by
 have hf:fitB p=(decide (p.tags.length<=200)&&(decide (p.schemes.length<=200)&&(decide (p.css.length<=200)&&(decide (p.drops.length<=200)&&(decide (p.attrs.length<=200)&&decide (p.forces.length<=200)))))):=by
  unfold fitB;rw[Bool.eq_iff_iff];simp only[Bool.and_eq_true,decide_eq_true_eq]
 have hn:decide (za7 p=p)=decide (p=za7 p):=by rw[decide_eq_decide];exact eq_comm
 unfold zco r3 wsB;rw[hf,hn];generalize decide (p=za7 p)=x0;generalize decide (p.tags.length<=200)=x1;generalize decide (p.schemes.length<=200)=x2;generalize decide (p.css.length<=200)=x3;generalize decide (p.drops.length<=200)=x4;generalize decide (p.attrs.length<=200)=x5;generalize decide (p.forces.length<=200)=x6;generalize p.tags.all zau=y1;generalize p.schemes.all zau=y2;generalize p.css.all zau=y3;generalize p.drops.all zau=y4;generalize p.attrs.all alwB=y5;generalize p.forces.all frcB=y6;generalize limB p=y7;rw[Bool.eq_iff_iff];simp only[Bool.and_eq_true];constructor
 ·rintro⟨⟨⟨⟨⟨⟨⟨⟨a0,a1⟩,a2⟩,a3⟩,a4⟩,a5⟩,a6⟩,b0,b1,b2,b3,b4,b5⟩,c⟩;exact⟨⟨a0,b0⟩,⟨a1,b1⟩,⟨a2,b2⟩,⟨a3,b3⟩,a6,b4,b5,a4,a5,c⟩
 ·rintro⟨⟨a0,b0⟩,⟨a1,b1⟩,⟨a2,b2⟩,⟨a3,b3⟩,a6,b4,b5,a4,a5,c⟩;exact⟨⟨⟨⟨⟨⟨⟨⟨a0,a1⟩,a2⟩,a3⟩,a4⟩,a5⟩,a6⟩,b0,b1,b2,b3,b4,b5⟩,c⟩
theorem ztm (v:Value) (p:Pol) (w:World) (h:PolV w (fun _=>False) v p) (hs:zir p) (ht:z0w p):Calls z2f 60 #[v] w (Ret (.bool (zco p)) w):=by
 have hmx:=mxd;have HV:=z2c h;have HE:=z2c (ztq p);have HSm:=z2c hs;have HTx:=z2c ht;obtain⟨v0,v1,v2,v3,v4,v5,rfl,⟨A0,k0,rfl,_,h0,_⟩,⟨A1,k1,rfl,_,h1,_⟩,⟨A2,k2,rfl,_,h2,_⟩,⟨A3,k3,rfl,_,h3,_⟩,⟨A4,k4,rfl,_,h4,_⟩,⟨A5,k5,rfl,_,h5,_⟩⟩:=h;have H0:=z2c h0;have H1:=z2c h1;have H2:=z2c h2;have H3:=z2c h3;have H4:=z2c h4;have H5:=z2c h5;obtain⟨R,hR⟩: ∃R,zco p=R:=⟨_,rfl⟩;rw[hR]at HE ⊢;clear hR hs ht h0 h1 h2 h3 h4 h5;go_enter Tryz.func60,Tryz.ntmps60;go_upto_region 1 with fail
 refine zae fun W0 hW0=> ?_;obtain⟨B,hB⟩: ∃B,w.heap.size=B:=⟨_,rfl⟩;rw[hB];have hb0:Below w.heap.size w W0:=by rw[hW0];exact bel
 have c0:W0.cell? ⟨B,0,none⟩=some (.slice A0 (fN p 0) k0):=by rw[hW0,<-hB];simp[go_sem]
 have c1:W0.cell? ⟨B,1,none⟩=some (.slice A1 (fN p 1) k1):=by rw[hW0,<-hB];simp[go_sem]
 have c2:W0.cell? ⟨B,2,none⟩=some (.slice A2 (fN p 2) k2):=by rw[hW0,<-hB];simp[go_sem]
 have c3:W0.cell? ⟨B,3,none⟩=some (.slice A3 (fN p 3) k3):=by rw[hW0,<-hB];simp[go_sem]
 have c4:W0.cell? ⟨B,4,none⟩=some (.slice A4 (fN p 4) k4):=by rw[hW0,<-hB];simp[go_sem]
 have c5:W0.cell? ⟨B,5,none⟩=some (.slice A5 (fN p 5) k5):=by rw[hW0,<-hB];simp[go_sem]
 have c6:W0.cell? ⟨B,6,none⟩=some (.bool p.rel):=by rw[hW0,<-hB];simp[go_sem]
 have c7:W0.cell? ⟨B,7,none⟩=some (.int .i64 p.depth):=by rw[hW0,<-hB];simp[go_sem]
 have c8:W0.cell? ⟨B,8,none⟩=some (.int .i64 p.name):=by rw[hW0,<-hB];simp[go_sem]
 have c9:W0.cell? ⟨B,9,none⟩=some (.int .i64 p.value):=by rw[hW0,<-hB];simp[go_sem]
 have hBl:B<W0.heap.size:=by rw[hW0,<-hB];simp
 have HB0:=z2c hb0;clear hW0 hb0;have HC0:=z2c (show Calls z2f 151 #[.slice A0 (fN p 0) k0] W0 fun e w'=>e= .returned (.bool (wsB p.tags))/\W0=w' from zgd A0 k0 p.tags W0 (H0.out.belowX HB0.out) (HTx.out.lists 0 (by omega)));have HC1:=z2c (show Calls z2f 151 #[.slice A1 (fN p 1) k1] W0 fun e w'=>e= .returned (.bool (wsB p.schemes))/\W0=w' from zgd A1 k1 p.schemes W0 (H1.out.belowX HB0.out) (HTx.out.lists 1 (by omega)));have HC2:=z2c (show Calls z2f 151 #[.slice A2 (fN p 2) k2] W0 fun e w'=>e= .returned (.bool (wsB p.css))/\W0=w' from zgd A2 k2 p.css W0 (H2.out.belowX HB0.out) (HTx.out.lists 2 (by omega)));have HC3:=z2c (show Calls z2f 151 #[.slice A3 (fN p 3) k3] W0 fun e w'=>e= .returned (.bool (wsB p.drops))/\W0=w' from zgd A3 k3 p.drops W0 (H3.out.belowX HB0.out) (HTx.out.lists 3 (by omega)));have HL:=z2c (fun W=>zfe (.slice A0 (fN p 0) k0) (.slice A1 (fN p 1) k1) (.slice A2 (fN p 2) k2) (.slice A3 (fN p 3) k3) (.slice A4 (fN p 4) k4) (.slice A5 (fN p 5) k5) p W);generalize wsB p.tags=T0 at*;generalize wsB p.schemes=T1 at*;generalize wsB p.css=T2 at*;generalize wsB p.drops=T3 at*;generalize limB p=LB at*;have hE4:Hid (decide (p.attrs.length<=200)=decide (fN p 4<=200)):=rfl;have hE5:Hid (decide (p.forces.length<=200)=decide (fN p 5<=200)):=rfl;rw[hE4.out,hE5.out]at HE;clear hE4 hE5;cases T0 with
 |false=>
  have HR:Hid (R=false):=by show _=_;rw[HE.out];simp
  clear HE;go_wp2_with(first|(go_at_call 151;(with_reducible refine HC0.out.mono ?_);rintro e w' ⟨rfl,rfl⟩))
  go_ret;exact Ret.of (by rw[HR.out];rfl) HB0.out
 |true=>
  cases T1 with
  |false=>
   have HR:Hid (R=false):=by show _=_;rw[HE.out];simp
   clear HE;go_wp2_with(first|(go_at_call 151;(with_reducible refine HC0.out.mono ?_);rintro e w' ⟨rfl,rfl⟩)|(go_at_call 151;(with_reducible refine HC1.out.mono ?_);rintro e w' ⟨rfl,rfl⟩))
   go_ret;exact Ret.of (by rw[HR.out];rfl) HB0.out
  |true=>
   cases T2 with
   |false=>
    have HR:Hid (R=false):=by show _=_;rw[HE.out];simp
    clear HE;go_wp2_with(first|(go_at_call 151;(with_reducible refine HC0.out.mono ?_);rintro e w' ⟨rfl,rfl⟩)|(go_at_call 151;(with_reducible refine HC1.out.mono ?_);rintro e w' ⟨rfl,rfl⟩)|(go_at_call 151;(with_reducible refine HC2.out.mono ?_);rintro e w' ⟨rfl,rfl⟩))
    go_ret;exact Ret.of (by rw[HR.out];rfl) HB0.out
   |true=>
    cases T3 with
    |false=>
     have HR:Hid (R=false):=by show _=_;rw[HE.out];simp
     clear HE;go_wp2_with(first|(go_at_call 151;(with_reducible refine HC0.out.mono ?_);rintro e w' ⟨rfl,rfl⟩)|(go_at_call 151;(with_reducible refine HC1.out.mono ?_);rintro e w' ⟨rfl,rfl⟩)|(go_at_call 151;(with_reducible refine HC2.out.mono ?_);rintro e w' ⟨rfl,rfl⟩)|(go_at_call 151;(with_reducible refine HC3.out.mono ?_);rintro e w' ⟨rfl,rfl⟩))
     go_ret;exact Ret.of (by rw[HR.out];rfl) HB0.out
    |true=>
     cases LB with
     |false=>
      have HR:Hid (R=false):=by show _=_;rw[HE.out];simp
      clear HE;go_wp2_with(first|(go_at_call 151;(with_reducible refine HC0.out.mono ?_);rintro e w' ⟨rfl,rfl⟩)|(go_at_call 151;(with_reducible refine HC1.out.mono ?_);rintro e w' ⟨rfl,rfl⟩)|(go_at_call 151;(with_reducible refine HC2.out.mono ?_);rintro e w' ⟨rfl,rfl⟩)|(go_at_call 151;(with_reducible refine HC3.out.mono ?_);rintro e w' ⟨rfl,rfl⟩)|(go_at_call 147;(with_reducible refine(HL.out _).mono ?_);rintro e W1 ⟨rfl,X1,hX1⟩;have hb1:Below W0.heap.size W0 W1:=(by rw[hX1];exact bel);have HB1:=z2c hb1;clear hX1;have d4:=(hb1.cell (p:=⟨B,4,none⟩) hBl).trans c4;have d5:=(hb1.cell (p:=⟨B,5,none⟩) hBl).trans c5;have hBm:B<W1.heap.size:=z2g hBl hb1.size;clear hb1))
      go_ret;exact Ret.of (by rw[HR.out];rfl) (HB0.out.trans (HB1.out.mono HB0.out.size))
     |true=>
      by_cases hx4:fN p 4<=200;rotate_left
      ·have HR:Hid (R=false):=by show _=_;rw[HE.out,decide_eq_false hx4];simp
       have e4:decide ((200:Int)<(fN p 4:Int))=true:=by simp;omega
       clear HE hx4;go_wp2_with(first|(go_at_call 151;(with_reducible refine HC0.out.mono ?_);rintro e w' ⟨rfl,rfl⟩)|(go_at_call 151;(with_reducible refine HC1.out.mono ?_);rintro e w' ⟨rfl,rfl⟩)|(go_at_call 151;(with_reducible refine HC2.out.mono ?_);rintro e w' ⟨rfl,rfl⟩)|(go_at_call 151;(with_reducible refine HC3.out.mono ?_);rintro e w' ⟨rfl,rfl⟩)|(go_at_call 147;(with_reducible refine(HL.out _).mono ?_);rintro e W1 ⟨rfl,X1,hX1⟩;have hb1:Below W0.heap.size W0 W1:=(by rw[hX1];exact bel);have HB1:=z2c hb1;clear hX1;have d4:=(hb1.cell (p:=⟨B,4,none⟩) hBl).trans c4;have d5:=(hb1.cell (p:=⟨B,5,none⟩) hBl).trans c5;have hBm:B<W1.heap.size:=z2g hBl hb1.size;clear hb1))
       go_ret;exact Ret.of (by rw[HR.out];rfl) (HB0.out.trans (HB1.out.mono HB0.out.size))
      have e4:decide ((200:Int)<(fN p 4:Int))=false:=by simp;omega
      by_cases hx5:fN p 5<=200;rotate_left
      ·have HR:Hid (R=false):=by show _=_;rw[HE.out,decide_eq_false hx5];simp
       have e5:decide ((200:Int)<(fN p 5:Int))=true:=by simp;omega
       clear HE hx5;go_wp2_with(first|(go_at_call 151;(with_reducible refine HC0.out.mono ?_);rintro e w' ⟨rfl,rfl⟩)|(go_at_call 151;(with_reducible refine HC1.out.mono ?_);rintro e w' ⟨rfl,rfl⟩)|(go_at_call 151;(with_reducible refine HC2.out.mono ?_);rintro e w' ⟨rfl,rfl⟩)|(go_at_call 151;(with_reducible refine HC3.out.mono ?_);rintro e w' ⟨rfl,rfl⟩)|(go_at_call 147;(with_reducible refine(HL.out _).mono ?_);rintro e W1 ⟨rfl,X1,hX1⟩;have hb1:Below W0.heap.size W0 W1:=(by rw[hX1];exact bel);have HB1:=z2c hb1;clear hX1;have d4:=(hb1.cell (p:=⟨B,4,none⟩) hBl).trans c4;have d5:=(hb1.cell (p:=⟨B,5,none⟩) hBl).trans c5;have hBm:B<W1.heap.size:=z2g hBl hb1.size;clear hb1))
       go_ret;exact Ret.of (by rw[HR.out];rfl) (HB0.out.trans (HB1.out.mono HB0.out.size))
      have e5:decide ((200:Int)<(fN p 5:Int))=false:=by simp;omega
      have HE1:Hid (R=((p.attrs.drop 0).all alwB&&(p.forces.all frcB&&decide (p=za7 p)))):=by show _=_;rw[HE.out,decide_eq_true hx4,decide_eq_true hx5,List.drop_zero];rfl
      clear HE;go_wp2_with(first|(go_at_call 151;(with_reducible refine HC0.out.mono ?_);rintro e w' ⟨rfl,rfl⟩)|(go_at_call 151;(with_reducible refine HC1.out.mono ?_);rintro e w' ⟨rfl,rfl⟩)|(go_at_call 151;(with_reducible refine HC2.out.mono ?_);rintro e w' ⟨rfl,rfl⟩)|(go_at_call 151;(with_reducible refine HC3.out.mono ?_);rintro e w' ⟨rfl,rfl⟩)|(go_at_call 147;(with_reducible refine(HL.out _).mono ?_);rintro e W1 ⟨rfl,X1,hX1⟩;have hb1:Below W0.heap.size W0 W1:=(by rw[hX1];exact bel);have HB1:=z2c hb1;clear hX1;have d4:=(hb1.cell (p:=⟨B,4,none⟩) hBl).trans c4;have d5:=(hb1.cell (p:=⟨B,5,none⟩) hBl).trans c5;have hBm:B<W1.heap.size:=z2g hBl hb1.size;clear hb1))
      have HB2:=z2c (HB0.out.trans (HB1.out.mono HB0.out.size));have c0:=(HB1.out.cell (p:=⟨B,0,none⟩) hBl).trans c0;have c1:=(HB1.out.cell (p:=⟨B,1,none⟩) hBl).trans c1;have c2:=(HB1.out.cell (p:=⟨B,2,none⟩) hBl).trans c2;have c3:=(HB1.out.cell (p:=⟨B,3,none⟩) hBl).trans c3;have c4:=(HB1.out.cell (p:=⟨B,4,none⟩) hBl).trans c4;have c5:=(HB1.out.cell (p:=⟨B,5,none⟩) hBl).trans c5;have c6:=(HB1.out.cell (p:=⟨B,6,none⟩) hBl).trans c6;have c7:=(HB1.out.cell (p:=⟨B,7,none⟩) hBl).trans c7;have c8:=(HB1.out.cell (p:=⟨B,8,none⟩) hBl).trans c8;have c9:=(HB1.out.cell (p:=⟨B,9,none⟩) hBl).trans c9;clear hBl d4 d5 e4 e5 HC0 HC1 HC2 HC3 HL HB0 HB1;obtain⟨n4,hn4⟩: ∃n,fN p 4=n:=⟨_,rfl⟩;obtain⟨n5,hn5⟩: ∃n,fN p 5=n:=⟨_,rfl⟩;have HN4:=z2c hn4;have HN5:=z2c hn5;have hm4:n4<=200:=by omega
      have hm5:n5<=200:=by omega
      rw[hn4]at c4;rw[hn5]at c5;clear hx4 hx5 hn4 hn5;go_loopw [3] (fun i wr=> ∃k:Nat,k<=n4/\i= .int .i64 (k:Nat)/\Hid (R=((p.attrs.drop k).all alwB&&(p.forces.all frcB&&decide (p=za7 p))))/\Hid (Below w.heap.size w wr)/\Hid (Below W1.heap.size W1 wr)) (fun i _=>n4-(intOf i).toNat)
      case atStart=>exact⟨0,by omega,rfl,HE1.out,HB2.out,by show Below _ _ _;exact bel⟩
      case round=>
       clear HE1;obtain⟨k,hk,rfl,HK,HB,HD⟩:=hrel;have r4:=(HD.out.cell (p:=⟨B,4,none⟩) hBm).trans c4;have hBr:B<wr.heap.size:=z2g hBm HD.out.size;by_cases hlt:k<n4
       ·have hkl:k<p.attrs.length:=by show k<fN p 4;rw[HN4.out];exact hlt
        obtain⟨b,off,hAd,hb,hc⟩: ∃b off,A4=some ⟨b,off,none⟩/\b<w.heap.size/\ ∀i u,(fC p 4)[i]? =some u->w.cell? ⟨b,off+i,none⟩=some u:=by
         obtain⟨_,_,A',c',e,h4⟩:=H4.out;cases e;exact h4 (by rw[HN4.out];omega)
        subst hAd;obtain⟨x,hx⟩: ∃x,p.attrs[k]=x:=⟨_,rfl⟩;have htx:=HTx.out.attrs x (by rw[<-hx];exact List.getElem_mem hkl);have hbr:b<wr.heap.size:=z2g hb HB.out.size;have x0:wr.cell? ⟨b,off+k*2,none⟩=some (.string ⟨x.tag.toArray⟩):=by
         have h9:=hc (k*2+0) (sv x.tag) (by show(p.attrs.flatMap Alw.cells)[k*2+0]? =_;rw[za3 Alw.cells 2 zd4 p.attrs k 0 hkl (by omega),hx];rfl);exact(HB.out.cell hb).trans ((congrArg (fun i=>w.cell? ⟨b,i,none⟩) (by omega)).trans h9)
        have x1:wr.cell? ⟨b,off+k*2+1,none⟩=some (.string ⟨x.name.toArray⟩):=by
         have h9:=hc (k*2+1) (sv x.name) (by show(p.attrs.flatMap Alw.cells)[k*2+1]? =_;rw[za3 Alw.cells 2 zd4 p.attrs k 1 hkl (by omega),hx];rfl);exact(HB.out.cell hb).trans ((congrArg (fun i=>w.cell? ⟨b,i,none⟩) (by omega)).trans h9)
        have HN:Hid (R=(((decide (x.tag=[42])||zau x.tag)&&zau x.name)&&((p.attrs.drop (k+1)).all alwB&&(p.forces.all frcB&&decide (p=za7 p))))):=by show _=_;rw[HK.out,z2m hkl,hx,z4s,Bool.and_assoc];rfl
        have HW1:=z2c (fun W=>show Calls z2f 152 #[.string ⟨x.tag.toArray⟩] W fun e w'=>e= .returned (.bool (zau x.tag))/\W=w' from ze6 ⟨x.tag.toArray⟩ W (by show x.tag.toArray.size<=_;have:=htx.1;simpa using this));have HW2:=z2c (fun W=>show Calls z2f 152 #[.string ⟨x.name.toArray⟩] W fun e w'=>e= .returned (.bool (zau x.name))/\W=w' from ze6 ⟨x.name.toArray⟩ W (by show x.name.toArray.size<=_;have:=htx.2;simpa using this));have hstar:(⟨x.tag.toArray⟩:ByteArray).toList=x.tag:=by rw[ByteArray.toList_eq]
        clear hc hx htx HK;generalize(⟨x.tag.toArray⟩:ByteArray)=s1 at*;generalize(⟨x.name.toArray⟩:ByteArray)=s2 at*;generalize zau x.tag=B2 at*;generalize zau x.name=B3 at*;go_upto_region 7 with fail
        refine zae fun Wa hWa=> ?_;have hba:Below wr.heap.size wr Wa:=by rw[hWa];exact bel
        have z0:Wa.cell? ⟨wr.heap.size,0,none⟩=some (.string s1):=by rw[hWa];simp[go_sem]
        have z1:Wa.cell? ⟨wr.heap.size,1,none⟩=some (.string s2):=by rw[hWa];simp[go_sem]
        have HBa:=z2c (HB.out.trans (hba.mono HB.out.size));have HDa:=z2c (HD.out.trans (hba.mono HD.out.size));clear hWa hba x0 x1;by_cases hB1:x.tag=[42]
        ·rw[decide_eq_true hB1]at HN;rw[hB1]at hstar;clear hB1;cases B3 with
         |true=>
          have HR:Hid (R=((p.attrs.drop (k+1)).all alwB&&(p.forces.all frcB&&decide (p=za7 p)))):=HN.out;go_wp2_with(go_at_call 152;(with_reducible refine(HW2.out _).mono ?_);rintro e w' ⟨rfl,rfl⟩)
          go_roundw
          case rel=>exact⟨k+1,by omega,by go_num,HR.out,HBa.out,HDa.out⟩
          case measure=>simp[intOf];omega
         |false=>
          have HR:Hid (R=false):=HN.out;go_wp2_with(go_at_call 152;(with_reducible refine(HW2.out _).mono ?_);rintro e w' ⟨rfl,rfl⟩)
          go_ret;exact Ret.of (by rw[HR.out];rfl) HBa.out
        ·rw[decide_eq_false hB1]at HN;have hst2: ¬s1.toList=[42]:=by rw[hstar];exact hB1
         clear hB1 hstar;cases B2 with
         |true=>
          cases B3 with
          |true=>
           have HR:Hid (R=((p.attrs.drop (k+1)).all alwB&&(p.forces.all frcB&&decide (p=za7 p)))):=HN.out;go_wp2_with(first|(go_at_call 152;(with_reducible refine(HW1.out _).mono ?_);rintro e w' ⟨rfl,rfl⟩)|(go_at_call 152;(with_reducible refine(HW2.out _).mono ?_);rintro e w' ⟨rfl,rfl⟩))
           go_roundw
           case rel=>exact⟨k+1,by omega,by go_num,HR.out,HBa.out,HDa.out⟩
           case measure=>simp[intOf];omega
          |false=>
           have HR:Hid (R=false):=HN.out;go_wp2_with(first|(go_at_call 152;(with_reducible refine(HW1.out _).mono ?_);rintro e w' ⟨rfl,rfl⟩)|(go_at_call 152;(with_reducible refine(HW2.out _).mono ?_);rintro e w' ⟨rfl,rfl⟩))
           go_ret;exact Ret.of (by rw[HR.out];rfl) HBa.out
         |false=>
          have HR:Hid (R=false):=HN.out;go_wp2_with(go_at_call 152;(with_reducible refine(HW1.out _).mono ?_);rintro e w' ⟨rfl,rfl⟩)
          go_ret;exact Ret.of (by rw[HR.out];rfl) HBa.out
       ·have HE2:Hid (R=((p.forces.drop 0).all frcB&&decide (p=za7 p))):=by
         show _=_;rw[HK.out,z2o (by show fN p 4<=k;rw[HN4.out];omega),List.drop_zero];rfl
        clear HK;go_wp2_with fail
        go_loopw [5] (fun i wr=> ∃k:Nat,k<=n5/\i= .int .i64 (k:Nat)/\Hid (R=((p.forces.drop k).all frcB&&decide (p=za7 p)))/\Hid (Below w.heap.size w wr)/\Hid (Below W1.heap.size W1 wr)) (fun i _=>n5-(intOf i).toNat)
        case atStart=>exact⟨0,by omega,rfl,HE2.out,HB.out,HD.out⟩
        case round=>
         clear HE2 HB HD hlt hk;obtain⟨k,hk,rfl,HK,HB,HD⟩:=hrel;have r5:=(HD.out.cell (p:=⟨B,5,none⟩) hBm).trans c5;have hBr:B<wr.heap.size:=z2g hBm HD.out.size;by_cases hlt:k<n5
         ·have hkl:k<p.forces.length:=by show k<fN p 5;rw[HN5.out];exact hlt
          obtain⟨b,off,hAd,hb,hc⟩: ∃b off,A5=some ⟨b,off,none⟩/\b<w.heap.size/\ ∀i u,(fC p 5)[i]? =some u->w.cell? ⟨b,off+i,none⟩=some u:=by
           obtain⟨_,_,A',c',e,h4⟩:=H5.out;cases e;exact h4 (by rw[HN5.out];omega)
          subst hAd;obtain⟨x,hx⟩: ∃x,p.forces[k]=x:=⟨_,rfl⟩;have htx:=HTx.out.forces x (by rw[<-hx];exact List.getElem_mem hkl);have hbr:b<wr.heap.size:=z2g hb HB.out.size;have x0:wr.cell? ⟨b,off+k*3,none⟩=some (.string ⟨x.tag.toArray⟩):=by
           have h9:=hc (k*3+0) (sv x.tag) (by show(p.forces.flatMap Frc.cells)[k*3+0]? =_;rw[za3 Frc.cells 3 zcl p.forces k 0 hkl (by omega),hx];rfl);exact(HB.out.cell hb).trans ((congrArg (fun i=>w.cell? ⟨b,i,none⟩) (by omega)).trans h9)
          have x1:wr.cell? ⟨b,off+k*3+1,none⟩=some (.string ⟨x.name.toArray⟩):=by
           have h9:=hc (k*3+1) (sv x.name) (by show(p.forces.flatMap Frc.cells)[k*3+1]? =_;rw[za3 Frc.cells 3 zcl p.forces k 1 hkl (by omega),hx];rfl);exact(HB.out.cell hb).trans ((congrArg (fun i=>w.cell? ⟨b,i,none⟩) (by omega)).trans h9)
          have x2:wr.cell? ⟨b,off+k*3+2,none⟩=some (.string ⟨x.value.toArray⟩):=by
           have h9:=hc (k*3+2) (sv x.value) (by show(p.forces.flatMap Frc.cells)[k*3+2]? =_;rw[za3 Frc.cells 3 zcl p.forces k 2 hkl (by omega),hx];rfl);exact(HB.out.cell hb).trans ((congrArg (fun i=>w.cell? ⟨b,i,none⟩) (by omega)).trans h9)
          have HN:Hid (R=((!x.value.any oddB&&zau x.tag&&zau x.name)&&((p.forces.drop (k+1)).all frcB&&decide (p=za7 p)))):=by show _=_;rw[HK.out,z2m hkl,hx,z4s,Bool.and_assoc];rfl
          have HW1:=z2c (fun W=>show Calls z2f 152 #[.string ⟨x.tag.toArray⟩] W fun e w'=>e= .returned (.bool (zau x.tag))/\W=w' from ze6 ⟨x.tag.toArray⟩ W (by show x.tag.toArray.size<=_;have:=htx.1;simpa using this));have HW2:=z2c (fun W=>show Calls z2f 152 #[.string ⟨x.name.toArray⟩] W fun e w'=>e= .returned (.bool (zau x.name))/\W=w' from ze6 ⟨x.name.toArray⟩ W (by show x.name.toArray.size<=_;have:=htx.2.1;simpa using this));have HQ:=z2c (fun W=>show Calls z2f 153 #[.string ⟨x.value.toArray⟩] W (Ret (zfo (zew x.value)) W)from ztn ⟨x.value.toArray⟩ W (by show x.value.toArray.size<=_;simpa using htx.2.2));have hqv:zfo (zew x.value)=if x.value.any oddB then .tuple #[.string ⟨#[]⟩,.bool false]else .tuple #[.string ⟨(34::esc x.value++[34]).toArray⟩,.bool true]:=by
           unfold zew;split<;>rfl
          rw[hqv]at HQ;clear hc hx htx HK hqv;generalize(⟨x.tag.toArray⟩:ByteArray)=s1 at*;generalize(⟨x.name.toArray⟩:ByteArray)=s2 at*;generalize(⟨x.value.toArray⟩:ByteArray)=s3 at*;generalize(⟨(34::esc x.value++[34]).toArray⟩:ByteArray)=sq at*;generalize x.value.any oddB=B1 at*;generalize zau x.tag=B2 at*;generalize zau x.name=B3 at*;go_upto_region 13 with fail
          refine zae fun Wb hWb=> ?_;have hbb:Below wr.heap.size wr Wb:=by rw[hWb];exact bel
          have y0:Wb.cell? ⟨wr.heap.size,0,none⟩=some (.string s1):=by rw[hWb];simp[go_sem]
          have y1:Wb.cell? ⟨wr.heap.size,1,none⟩=some (.string s2):=by rw[hWb];simp[go_sem]
          have y2:Wb.cell? ⟨wr.heap.size,2,none⟩=some (.string s3):=by rw[hWb];simp[go_sem]
          have hlb:wr.heap.size<Wb.heap.size:=World.block_lt_of_cell? Wb _ y0;have HBb:=z2c (HB.out.trans (hbb.mono HB.out.size));have HDb:=z2c (HD.out.trans (hbb.mono HD.out.size));clear hWb hbb x0 x1 x2;cases B1 with
          |true=>
           have HQ:=z2c (fun W=>show Calls z2f 153 #[.string s3] W (Ret (.tuple #[.string ⟨#[]⟩,.bool false]) W)from HQ.out W);have HR:Hid (R=false):=HN.out;go_wp2_with(go_at_call 153;(with_reducible refine(HQ.out _).mono ?_);rintro e Wa ⟨rfl,Xq,hXq⟩;have hba:Below Wb.heap.size Wb Wa:=(by rw[hXq];exact bel);have z0:=(hba.cell (p:=⟨wr.heap.size,0,none⟩) hlb).trans y0;have z1:=(hba.cell (p:=⟨wr.heap.size,1,none⟩) hlb).trans y1;have hla:wr.heap.size<Wa.heap.size:=z2g hlb hba.size;have HBa:=z2c (HBb.out.trans (hba.mono HBb.out.size));have HDa:=z2c (HDb.out.trans (hba.mono HDb.out.size));clear hXq hba)
           go_ret;exact Ret.of (by rw[HR.out];rfl) HBa.out
          |false=>
           have HQ:=z2c (fun W=>show Calls z2f 153 #[.string s3] W (Ret (.tuple #[.string sq,.bool true]) W)from HQ.out W);cases B2 with
           |true=>
            cases B3 with
            |true=>
             have HR:Hid (R=((p.forces.drop (k+1)).all frcB&&decide (p=za7 p))):=HN.out;go_wp2_with(first|(go_at_call 153;(with_reducible refine(HQ.out _).mono ?_);rintro e Wa ⟨rfl,Xq,hXq⟩;have hba:Below Wb.heap.size Wb Wa:=(by rw[hXq];exact bel);have z0:=(hba.cell (p:=⟨wr.heap.size,0,none⟩) hlb).trans y0;have z1:=(hba.cell (p:=⟨wr.heap.size,1,none⟩) hlb).trans y1;have hla:wr.heap.size<Wa.heap.size:=z2g hlb hba.size;have HBa:=z2c (HBb.out.trans (hba.mono HBb.out.size));have HDa:=z2c (HDb.out.trans (hba.mono HDb.out.size));clear hXq hba)|(go_at_call 152;(with_reducible refine(HW1.out _).mono ?_);rintro e w' ⟨rfl,rfl⟩)|(go_at_call 152;(with_reducible refine(HW2.out _).mono ?_);rintro e w' ⟨rfl,rfl⟩))
             go_roundw
             case rel=>exact⟨k+1,by omega,by go_num,HR.out,HBa.out,HDa.out⟩
             case measure=>simp[intOf];omega
            |false=>
             have HR:Hid (R=false):=HN.out;go_wp2_with(first|(go_at_call 153;(with_reducible refine(HQ.out _).mono ?_);rintro e Wa ⟨rfl,Xq,hXq⟩;have hba:Below Wb.heap.size Wb Wa:=(by rw[hXq];exact bel);have z0:=(hba.cell (p:=⟨wr.heap.size,0,none⟩) hlb).trans y0;have z1:=(hba.cell (p:=⟨wr.heap.size,1,none⟩) hlb).trans y1;have hla:wr.heap.size<Wa.heap.size:=z2g hlb hba.size;have HBa:=z2c (HBb.out.trans (hba.mono HBb.out.size));have HDa:=z2c (HDb.out.trans (hba.mono HDb.out.size));clear hXq hba)|(go_at_call 152;(with_reducible refine(HW1.out _).mono ?_);rintro e w' ⟨rfl,rfl⟩)|(go_at_call 152;(with_reducible refine(HW2.out _).mono ?_);rintro e w' ⟨rfl,rfl⟩))
             go_ret;exact Ret.of (by rw[HR.out];rfl) HBa.out
           |false=>
            have HR:Hid (R=false):=HN.out;go_wp2_with(first|(go_at_call 153;(with_reducible refine(HQ.out _).mono ?_);rintro e Wa ⟨rfl,Xq,hXq⟩;have hba:Below Wb.heap.size Wb Wa:=(by rw[hXq];exact bel);have z0:=(hba.cell (p:=⟨wr.heap.size,0,none⟩) hlb).trans y0;have z1:=(hba.cell (p:=⟨wr.heap.size,1,none⟩) hlb).trans y1;have hla:wr.heap.size<Wa.heap.size:=z2g hlb hba.size;have HBa:=z2c (HBb.out.trans (hba.mono HBb.out.size));have HDa:=z2c (HDb.out.trans (hba.mono HDb.out.size));clear hXq hba)|(go_at_call 152;(with_reducible refine(HW1.out _).mono ?_);rintro e w' ⟨rfl,rfl⟩))
            go_ret;exact Ret.of (by rw[HR.out];rfl) HBa.out
         ·have HE3:Hid (R=decide (p=za7 p)):=by
           show _=_;rw[HK.out,z2o (by show fN p 5<=k;rw[HN5.out];omega)];rfl
          clear HK;rw[<-HN4.out]at c4;rw[<-HN5.out]at c5;clear hm4 hm5;go_upto_region 16 with fail
          have hS0:Below W1.heap.size W1 wr.drew:=HD.out.drew;have HVB:=z2c (fun W (hb:Below w.heap.size w W)=>HV.out.below hb);have HB3:=z2c (fun W (hb:Below W1.heap.size W1 W)=>show Below w.heap.size w W from HB2.out.trans (hb.mono HB2.out.size));refine zak 4 [(0,true),(1,true),(2,false),(3,false)] (fun V=>Below W1.heap.size W1 V) hmx (by kernel_rfl) (by kernel_rfl) (by kernel_rfl) (by decide) rfl (fun c a d v w h=>by obtain⟨x,y⟩:=(h:_/\_);cases d<;>exact⟨x,y⟩) (by kernel_rfl) (by exact hS0) ?_;refine zaa (v:=(.agg #[.slice A0 (fN p 0) k0,.slice A1 (fN p 1) k1,.slice A2 (fN p 2) k2,.slice A3 (fN p 3) k3,.slice A4 (fN p 4) k4,.slice A5 (fN p 5) k5,.bool p.rel,.int .i64 p.depth,.int .i64 p.name,.int .i64 p.value])) 107 rfl rfl rfl (fun W hW=>by have d0:=(hW.cell (p:=⟨B,0,none⟩) hBm).trans c0;have d1:=(hW.cell (p:=⟨B,1,none⟩) hBm).trans c1;have d2:=(hW.cell (p:=⟨B,2,none⟩) hBm).trans c2;have d3:=(hW.cell (p:=⟨B,3,none⟩) hBm).trans c3;have d4:=(hW.cell (p:=⟨B,4,none⟩) hBm).trans c4;have d5:=(hW.cell (p:=⟨B,5,none⟩) hBm).trans c5;have d6:=(hW.cell (p:=⟨B,6,none⟩) hBm).trans c6;have d7:=(hW.cell (p:=⟨B,7,none⟩) hBm).trans c7;have d8:=(hW.cell (p:=⟨B,8,none⟩) hBm).trans c8;have d9:=(hW.cell (p:=⟨B,9,none⟩) hBm).trans c9;simp[execOp,go_sem,d0,d1,d2,d3,d4,d5,d6,d7,d8,d9]) ?_;simp only[Act.put,List.setIfInBounds_toArray,List.set_cons_succ,List.set_cons_zero];refine zaa (v:=(.agg #[.slice A0 (fN p 0) k0,.slice A1 (fN p 1) k1,.slice A2 (fN p 2) k2,.slice A3 (fN p 3) k3,.slice A4 (fN p 4) k4,.slice A5 (fN p 5) k5,.bool p.rel,.int .i64 p.depth,.int .i64 p.name,.int .i64 p.value])) 108 rfl rfl rfl (fun W hW=>by have d0:=(hW.cell (p:=⟨B,0,none⟩) hBm).trans c0;have d1:=(hW.cell (p:=⟨B,1,none⟩) hBm).trans c1;have d2:=(hW.cell (p:=⟨B,2,none⟩) hBm).trans c2;have d3:=(hW.cell (p:=⟨B,3,none⟩) hBm).trans c3;have d4:=(hW.cell (p:=⟨B,4,none⟩) hBm).trans c4;have d5:=(hW.cell (p:=⟨B,5,none⟩) hBm).trans c5;have d6:=(hW.cell (p:=⟨B,6,none⟩) hBm).trans c6;have d7:=(hW.cell (p:=⟨B,7,none⟩) hBm).trans c7;have d8:=(hW.cell (p:=⟨B,8,none⟩) hBm).trans c8;have d9:=(hW.cell (p:=⟨B,9,none⟩) hBm).trans c9;simp[execOp,go_sem,d0,d1,d2,d3,d4,d5,d6,d7,d8,d9]) ?_;simp only[Act.put,List.setIfInBounds_toArray,List.set_cons_succ,List.set_cons_zero];refine zai rfl rfl fun Kc hKc=> ?_;unfold Oper.wp;simp[execOp,go_sem];refine(zoh _ p _ (HVB.out _ (HB3.out _ hS0)) HSm.out).mono ?_;rintro e Wk1 ⟨vn,rfl,hbn,hpn⟩;have hk1:Below W1.heap.size W1 Wk1:=hS0.trans (hbn.mono hS0.size);show Kc _ _;apply hKc;refine⟨hk1, ?_⟩;refine zai rfl rfl fun Kc hKc=> ?_;unfold Oper.wp;simp[execOp,go_sem];refine(zwq _ _ p (za7 p) _ _ _ (HVB.out _ (HB3.out _ hk1)) hpn HSm.out HSm.out.neat).mono ?_;rintro e Wk2 ⟨rfl,Xk2,hXk2⟩;have hk2:Below W1.heap.size W1 Wk2:=hk1.trans ((show Below Wk1.heap.size Wk1 Wk2 by rw[hXk2];exact bel).mono hk1.size);clear hXk2;show Kc _ _;apply hKc;refine⟨hk2, ?_⟩;dsimp only[zbq,List.drop];go_wp2_with fail
          go_ret;exact Ret.of (by rw[HE3.out];rfl) (HB3.out _ hk2)
end Go.Proofs.YtiikamobcmgekaaGreatDoor

