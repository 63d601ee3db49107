import Derived.Test.YtccjfanpjojbnaaGreatDoorJValH
namespace Go.Proofs.YtccjfanpjojbnaaGreatDoor
open Bool renaming and_eq_true→bD
open Go.Ending renaming returned→aL
open Go.IntKind renaming i64→aC
open Lib renaming hid→aA
open List renaming length_pos_iff→pN,mem_cons→bJ,not_mem_nil→eO
open Tryz renaming func177→qy,ntmps177→qg,prog→aE
open Go.Value renaming bool→aI,int→aB,slice→aF,string→aD,tuple→aN
set_option maxRecDepth 100000
set_option maxHeartbeats 4000000
open Go.RowKit Go.Shelf
theorem Px (A:Option Addr) (n c:Nat) (l:List aK) (w:World) (h:Rd w (aF A n c) l.length 4 (bC l)) (hA:A=none->c=0) (hl:l.length<=1000000000):
  Calls aE 176 #[aF A n c] w λe w'=> ∃A' c',e=aL (aF A' l.length c')/\Below w.heap.size w w'/\Nn w' A' c'/\l.length<=c'/\Rd w' (aF A' l.length c') l.length 4 (bC l):=by
 cases A with
 |some ad=>
  refine(ZA ad n c l w h hl).mono ?_;rintro e w' ⟨v,X,rfl,rfl,ho⟩;obtain⟨A',c',rfl,hc⟩:=dF ho;exact⟨A',c',rfl,dG w X,Nn.own ho,hc,Rd.own ho⟩
 |none=>
  have hn:l.length=n:=by obtain⟨_,_,_,_,he,_⟩:=h;cases he;rfl
  have h0:n=0:=by
   rcases Nat.eq_zero_or_pos n with h0|h0
   .exact h0
   .obtain⟨_,_,_,_,he,h4⟩:=h;cases he;obtain⟨_,_,h5,_⟩:=h4 om;cases h5
  obtain rfl:l=[]:=List.eq_nil_of_length_eq_zero om;subst h0;obtain rfl:=hA rfl;clear h hA hn;have hnil: ∀W:World,(binOp .eql 175 (aF none 0 0) (aF none 0 0)).run aE W= .ok (aI true) W:=λW=>Lib.run_eql_slice_nil W _ _ none 0 0 0 0 Tryz.underlying175;go_enter Tryz.func176,Tryz.ntmps176;go_wp2_with fail
  go_ret;exact⟨none,0,rfl,aG,Nn.none _,Nat.le_refl _,Rd.nil _ _⟩
theorem UU:fZ []=[]/\jU []=0:=by constructor<;>rfl
theorem Gs (A:Option Addr) (n c:Nat) (l:List aK) (w:World) (h:Rd w (aF A n c) l.length 4 (bC l)) (hA:Nn w A c) (hc:l.length<=c) (hp: ∀x∈l,jY x) (hl:l.length<=100000000):Calls aE 177 #[aF A n c] w (gJ w (iP l)):=by
 have hmx:=bX;have hn0:n=l.length:=by obtain⟨_,_,_,_,he,_⟩:=h;cases he;rfl
 subst hn0;have HRd:=aA (λW (hB:Below w.heap.size w W)=>show Rd W (aF A l.length c) l.length 4 (bC l)from by obtain⟨X,rfl⟩:=cV hB;exact h.grow X);have HA:=aA (λW (hB:Below w.heap.size w W)=>hA.below hB);have HSt:=aA (λW (hB:Below w.heap.size w W)=>S6 A l.length c l W (HRd.out W hB) hc hp hl);have HCx:Hid (bC [kF]=[aB aC 1,aD ⟨#[110,111,110,101]⟩,aB aC 0,aD ⟨#[]⟩]):=rfl;have HEq:=aA (λW (hB:Below w.heap.size w W) A2 n2 c2 (hb:Rd W (aF A2 n2 c2) 1 4 (bC [kF]))=>zZ A A2 l.length n2 c c2 l [kF] W (HRd.out W hB) hb);rw[HCx.out]at HEq;clear h hp;have EQ: ∀d:Bool,d=d:=λ_=>rfl;clear EQ;by_cases hd:l=[kF]
 .rw[decide_eq_true hd]at HEq;have HEq2:=aA HEq.out;have HN:Hid (iP l=some l):=by show _=_;unfold iP;rw[if_pos hd,hd]
  clear hd HEq;go_enter qy,qg;go_wp2_with(go_at_call 213;(refine(HEq2.out _ aG _ _ _ (vZ (by simp[go_sem]))).mono ?_);rintro e w' ⟨rfl,X3,rfl⟩)
  go_ret2;rw[HN.out];exact gJ.rd aG rfl rfl (HA.out _ aG) hc (HRd.out _ aG)
 rw[decide_eq_false hd]at HEq;have HEq2:=aA HEq.out;clear HEq;have HM:Hid (iP l=match rA l with
  |none=>none
  |some ss=>if jU ss=0 then(if fZ ss=[]then some [kF]else some (fD (fZ ss)))else none):=by show _=_;unfold iP;rw[if_neg hd];rfl
 clear hd;cases hs:rA l with
 |none=>
  rw[hs]at HM;have HSt2:=aA (λW (hB:Below w.heap.size w W)=>show Calls aE 214 #[aF A l.length c] W (λe w'=> ∃v,e=aL (aN #[v,aI false])/\Below W.heap.size W w'/\Sl w' v [])from by
   have h9:=HSt.out W hB;rw[hs]at h9;exact h9.mono λe w' ⟨v,X,h1,h2,h3⟩=>⟨v,h1,by rw[h2];exact dG _ _,by rw[h2];exact h3⟩)
  have HNe:=aA (λv W (hv:Sl W v [])=>(UX v [] W hv).mono λe w' h=>DB.abs h);rw[UU.1,UU.2]at HNe;have HN:Hid (iP l=none):=HM.out;clear hs HSt HM HRd;go_enter qy,qg;go_wp2_with(first
   |(go_at_call 213;(refine(HEq2.out _ aG _ _ _ (vZ (by simp[go_sem]))).mono ?_);rintro e w' ⟨rfl,X3,rfl⟩)
   |(go_at_call 214;(refine(HSt2.out _ aG).mono ?_);rintro e W2 ⟨v2,rfl,hb2,hsl2⟩;have HS2:=aA hsl2;have HB2:=aA (aP (show Below w.heap.size w _ from aG) hb2);clear hb2 hsl2)
   |(go_at_call 215;(refine(HNe.out _ _ HS2.out).mono ?_);rintro e W3 ⟨v3,rfl,hb3,hsl3⟩;have HB3:=aA (aP HB2.out hb3);clear hb3 hsl3))
  go_ret2;rw[HN.out];exact gJ.no HB3.out rfl
 |some ss=>
  rw[hs]at HM;have HSt2:=aA (λW (hB:Below w.heap.size w W)=>show Calls aE 214 #[aF A l.length c] W (λe w'=> ∃v,e=aL (aN #[v,aI true])/\Below W.heap.size W w'/\Sl w' v ss)from by
   have h9:=HSt.out W hB;rw[hs]at h9;exact h9.mono λe w' ⟨v,X,h1,h2,h3⟩=>⟨v,h1,by rw[h2];exact dG _ _,by rw[h2];exact h3⟩)
  have HNe:=aA (λv W (hv:Sl W v ss)=>(UX v ss W hv).mono λe w' h=>DB.abs h);have HM2:Hid (iP l=if jU ss=0 then(if fZ ss=[]then some [kF]else some (fD (fZ ss)))else none):=HM.out;clear hs HSt HM HRd;by_cases he:jU ss=0
  .have hnl:=(LT ss he).1;rw[if_pos he]at HM2;rw[he]at HNe;by_cases hn0:fZ ss=[]
   .have HN:Hid (iP l=some [kF]):=by show _=_;rw[HM2.out,if_pos hn0]
    rw[hn0]at HNe;clear HM2 hn0 hnl he;go_enter qy,qg;go_upto_region 2 with fail
    refine dL λW0 hW0=> ?_;have HB0:Hid (Below w.heap.size w W0):=by show Below _ _ _;rw[hW0];exact aG
    have hlt0:w.heap.size<W0.heap.size:=by rw[hW0];simp
    have k0:W0.cell? ⟨w.heap.size,0,none⟩=some (aB aC 1):=by rw[hW0];simp[go_sem]
    have k1:W0.cell? ⟨w.heap.size,1,none⟩=some (aD ⟨#[110,111,110,101]⟩):=by rw[hW0];simp[go_sem]
    have k2:W0.cell? ⟨w.heap.size,2,none⟩=some (aB aC 0):=by rw[hW0];simp[go_sem]
    have k3:W0.cell? ⟨w.heap.size,3,none⟩=some (aD ⟨#[]⟩):=by rw[hW0];simp[go_sem]
    clear hW0;go_wp2_with(first
     |(go_at_call 213;(refine(HEq2.out _ (aP HB0.out aG) _ _ _ (vZ (by simp[go_sem]))).mono ?_);rintro e w' ⟨rfl,X3,rfl⟩)
     |(go_at_call 214;(refine(HSt2.out _ (aP HB0.out aG)).mono ?_);rintro e W2 ⟨v2,rfl,hb2,hsl2⟩;have HS2:=aA hsl2;have HB2:=aA (aP (show Below W0.heap.size W0 _ from aG) hb2);clear hb2 hsl2)
     |(go_at_call 215;(refine(HNe.out _ _ HS2.out).mono ?_);rintro e W3 ⟨v3,rfl,hb3,hsl3⟩;have HB3:=aA (aP HB2.out hb3);obtain⟨a3,cap3,rfl,_,_⟩:=hsl3;have r0:=(HB3.out.cell hlt0).trans k0;have r1:=(HB3.out.cell hlt0).trans k1;have r2:=(HB3.out.cell hlt0).trans k2;have r3:=(HB3.out.cell hlt0).trans k3;clear hb3))
    go_ret2;rw[HN.out];exact gJ.own (n:=1) (aP HB0.out (aP HB3.out aG)) rfl rfl (lW (c:= #[aB aC 1,aD ⟨#[110,111,110,101]⟩,aB aC 0,aD ⟨#[]⟩]) (n:=1) (size:=4) rfl dc)
   .have HN:Hid (iP l=some (fD (fZ ss))):=by show _=_;rw[HM2.out,if_neg hn0]
    have HPi:=aA (λv W (hv:Sl W v (fZ ss))=>show Calls aE 216 #[v] W (gJ W (some (fD (fZ ss))))from by
     have h9:=Ct v (fZ ss) W hv;rw[hnl,if_pos rfl]at h9;exact h9)
    have hpos:0<(fZ ss).length:=pN.2 hn0;have bz:(((fZ ss).length:Int)==0)=false:=by rw[beq_eq_false_iff_ne];omega
    clear HM2 hn0 hnl he;generalize fZ ss=ns at*;go_enter qy,qg;go_wp2_with(first
     |(go_at_call 213;(refine(HEq2.out _ aG _ _ _ (vZ (by simp[go_sem]))).mono ?_);rintro e w' ⟨rfl,X3,rfl⟩)
     |(go_at_call 214;(refine(HSt2.out _ aG).mono ?_);rintro e W2 ⟨v2,rfl,hb2,hsl2⟩;have HS2:=aA hsl2;have HB2:=aA (aP (show Below w.heap.size w _ from aG) hb2);clear hb2 hsl2)
     |(go_at_call 215;(refine(HNe.out _ _ HS2.out).mono ?_);rintro e W3 ⟨v3,rfl,hb3,hsl3⟩;have HB3:=aA (aP HB2.out hb3);have HS3:=aA hsl3;obtain⟨a3,cap3,rfl,_,_⟩:=hsl3;clear hb3)
     |(go_at_call 216;(refine(HPi.out _ _ HS3.out).mono ?_);rintro e w' ⟨A4,c4,X4,rfl,rfl,hA4,hc4,hr4⟩;have HA4:=aA hA4;have HR4:=aA hr4;clear hA4 hr4))
    go_ret2;rw[HN.out];exact gJ.rd (aP HB3.out (dG _ _)) rfl rfl HA4.out hc4 HR4.out
  .have HN:Hid (iP l=none):=by show _=_;rw[HM2.out,if_neg he]
   have bz:(jU ss !=0)=true:=by simpa using he
   clear HM2 he;generalize jU ss=er at*;generalize fZ ss=ns at*;go_enter qy,qg;go_wp2_with(first
    |(go_at_call 213;(refine(HEq2.out _ aG _ _ _ (vZ (by simp[go_sem]))).mono ?_);rintro e w' ⟨rfl,X3,rfl⟩)
    |(go_at_call 214;(refine(HSt2.out _ aG).mono ?_);rintro e W2 ⟨v2,rfl,hb2,hsl2⟩;have HS2:=aA hsl2;have HB2:=aA (aP (show Below w.heap.size w _ from aG) hb2);clear hb2 hsl2)
    |(go_at_call 215;(refine(HNe.out _ _ HS2.out).mono ?_);rintro e W3 ⟨v3,rfl,hb3,hsl3⟩;have HB3:=aA (aP HB2.out hb3);have HS3:=aA hsl3;obtain⟨a3,cap3,rfl,_,_⟩:=hsl3;clear hb3))
   go_ret2;rw[HN.out];exact gJ.no HB3.out rfl
theorem I5 (o:Bool) (l:List aK) (k:Nat) (h:k<l.length):lH o (l.drop k)=if sD l[k]then lH o (l.drop (k+1))else if !o&&rI l[k]then lH true (l.drop (k+1))else if o&&decide (l[k]=bP 41)then lH false (l.drop (k+1))else false:=by
 rw[List.drop_eq_getElem_cons h];rfl
theorem I1 (nm:Bs) (A:Option Addr) (n c:Nat) (l:List aK) (w:World) (hw:Tb w) (hx:Mx w) (h:Rd w (aF A n c) l.length 4 (bC l)) (hA:A=none->c=0) (hs:wR l) (hl:l.length<=100000000):
  Calls aE 138 #[aD ⟨nm.toArray⟩,aF A n c] w (gJ w (kN nm l)):=by
 have hmx:=bX;have hn0:n=l.length:=by obtain⟨_,_,_,_,he,_⟩:=h;cases he;rfl
 subst hn0;have HCl:=aA (Px A l.length c l w h hA om);have hp: ∀x∈l,jY x:=λx hx=>(hs x hx).1;have HP:=aA hp;have HSh:=aA hs;have HTM:=aA (λW (hB:Below w.heap.size w W)=>And.intro (Tb.below hw hB) (Mx.below hx hB));clear h hA hs hw hx hp;have hnz:((⟨nm.toArray⟩:ByteArray).toList==[116,114,97,110,115,102,111,114,109])=decide (nm=JQ):=by rw[ByteArray.toList_eq,Bool.eq_iff_iff];exact beq_iff_eq.trans decide_eq_true_iff.symm
 by_cases h0:l=[]
 .have HN:Hid (kN nm l=none):=by show _=_;unfold kN;rw[if_pos h0]
  have hl0:l.length=0:=by rw[h0];rfl
  rw[hl0]at HCl;generalize(⟨nm.toArray⟩:ByteArray)=S at*;rw[hl0];clear h0 hnz;go_enter Tryz.func138,Tryz.ntmps138;go_wp2_with(go_at_call 176;(with_reducible refine HCl.out.mono ?_);rintro e W1 ⟨A1,c1,rfl,hb1,_,_,_⟩;have HB1:=aA hb1;clear hb1)
  go_ret2;rw[HN.out];exact gJ.no HB1.out rfl
 have hpos:0<l.length:=pN.2 h0;have b0:((l.length:Int)==0)=false:=by rw[beq_eq_false_iff_ne];omega
 by_cases ht:nm=JQ
 .have HN:Hid (kN nm l=iP l):=by show _=_;unfold kN;rw[if_neg h0,if_pos ht]
  rw[decide_eq_true ht]at hnz;have HMo:=aA (λW A1 c1 (hr:Rd W (aF A1 l.length c1) l.length 4 (bC l)) (hA:Nn W A1 c1) (hc:l.length<=c1)=>Gs A1 l.length c1 l W hr hA hc HP.out hl);generalize(⟨nm.toArray⟩:ByteArray)=S at*;generalize iP l=R at*;clear h0 ht;go_enter Tryz.func138,Tryz.ntmps138;go_wp2_with(first
   |(go_at_call 176;(with_reducible refine HCl.out.mono ?_);rintro e W1 ⟨A1,c1,rfl,hb1,hA1,hc1,hr1⟩;have HB1:=aA hb1;have HM1:=aA (HMo.out W1 A1 c1 hr1 hA1 hc1);clear hb1 hA1 hr1)
   |(go_at_call 177;(with_reducible refine HM1.out.mono ?_);rintro e w' ⟨A2,c2,X2,rfl,rfl,hA2,hc2,hr2⟩;have HR2:=aA (And.intro hA2 (And.intro hc2 hr2));clear hA2 hc2 hr2))
  go_ret2;rw[HN.out];obtain⟨Y,hY⟩:=cV (aP HB1.out (dG _ X2));exact⟨A2,c2,Y,rfl,hY,by rw[<-hY];exact HR2.out.1,HR2.out.2.1,by rw[<-hY];exact HR2.out.2.2⟩
 have HN:Hid (kN nm l=if lH false l then some l else none):=by show _=_;unfold kN;rw[if_neg h0,if_neg ht]
 rw[decide_eq_false ht]at hnz;obtain⟨D,hD⟩: ∃D,lH false l=D:=⟨_,rfl⟩;have HD:=aA hD;rw[hD]at HN;generalize(⟨nm.toArray⟩:ByteArray)=S at*;clear h0 ht hD;go_enter Tryz.func138,Tryz.ntmps138;go_wp2_with(go_at_call 176;(with_reducible refine HCl.out.mono ?_);rintro e W1 ⟨A1,c1,rfl,hb1,hA1,hc1,hr1⟩;have HBW:=aA hb1;have HR1:=aA hr1;have HA1:=aA hA1;clear hb1 hA1 hr1)
 go_loopw [6,24] (λo i wr=> ∃(k:Nat) (ob:Bool),k<=l.length/\o=aI ob/\i=aB aC k/\Hid (Below W1.heap.size W1 wr)/\Hid (D=lH ob (l.drop k))) (λ_ i _=>l.length-(intOf i).toNat)
 case atStart=>exact⟨0,false,by omega,rfl,rfl,Below.refl _ _,by show _=_;rw[List.drop_zero];exact HD.out.symm⟩
 case round=>
  obtain⟨k,ob,hk,rfl,rfl,HB,HV⟩:=hrel;by_cases hlt:k<l.length
  .have HRw:Hid (Rd wr (aF A1 l.length c1) l.length 4 (bC l)):=by
    obtain⟨Y,hY⟩:=cV HB.out;show Rd _ _ _ _ _;rw[hY];exact HR1.out.grow Y
   obtain⟨b,off,rfl,hb,y0,y1,y2,y3⟩:=HRw.out.css k hlt;have HS:=aA (HV.out.trans (I5 ob l k hlt));have hsx:=HSh.out _ (List.getElem_mem hlt);generalize l[k]=x at*;obtain⟨hs1,hs2,hs3⟩:=hsx;have HPl:=aA (λW (hB:Below W1.heap.size W1 W)=>Cl x W (HTM.out W (aP HBW.out hB)).1 (HTM.out W (aP HBW.out hB)).2 hs1 hs2 hs3);have HCo:=aA (λW=>Po x W);have HMk:=aA (λW=>LY [41] W);have HMx:Hid (decide (x=bP 41)=((x.kind==6)&&((⟨x.text.toArray⟩:ByteArray).toList==[41])&&(x.num==0)&&(⟨x.unit.toArray⟩:ByteArray).toList.isEmpty)):=by
    show _=_;rw[YT,tN];have z1:((⟨(bP 41).text.toArray⟩:ByteArray).toList)=[41]:=by rw[ByteArray.toList_eq];rfl
    have z2:((⟨x.unit.toArray⟩:ByteArray).toList==(⟨(bP 41).unit.toArray⟩:ByteArray).toList)=decide (x.unit=[]):=by rw[nD];rfl
    rw[z1,z2];rfl
   simp only[aK.agg,sv]at HPl HCo HMk y0 y1 y2 y3;generalize(⟨x.text.toArray⟩:ByteArray)=a1 at*;generalize(⟨x.unit.toArray⟩:ByteArray)=a2 at*;generalize x.num=nn at*;generalize x.kind=kk at*;have hsz:=HB.out.size;clear hs1 hs2 hs3;cases hpl:sD x;rotate_left
   .rw[hpl]at HS HPl;have HPl:=aA HPl.out;clear hpl HCo HMk HMx;go_wp2_with(go_at_call 178;(refine(HPl.out _ (aP HB.out aG)).mono ?_);rintro e w' ⟨rfl,X1,rfl⟩)
    have HV2:Hid (D=lH ob (l.drop (k+1))):=by show _=_;rw[HS.out];rfl
    go_roundw
    case rel=>exact⟨k+1,ob,by omega,rfl,by go_num,aP HB.out aG,HV2⟩
    case measure=>simp[intOf];omega
   rw[hpl]at HS HPl;have HPl:=aA HPl.out;clear hpl;cases ob
   .cases hco:rI x
    .rw[hco]at HS HCo;have HCo:=aA HCo.out;clear hco HMk HMx;go_wp2_with(first|(go_at_call 178;(refine(HPl.out _ (aP HB.out aG)).mono ?_);rintro e w' ⟨rfl,X1,rfl⟩)|(go_at_call 179;(with_reducible refine zG (HCo.out _) λX2=>?_)))
     refine dV kr kr  ?_;repeat(go_big_quiet_step(fail))
     refine wpQuiet_nil ?_;rintro _ ⟨nq,rfl⟩;go_wp2_with fail
     have HV2:Hid (D=false):=by show _=_;rw[HS.out];rfl
     go_ret2;rw[HN.out,HV2.out];exact gJ.no (aP HBW.out (aP HB.out aG)) rfl
    .rw[hco]at HS HCo;have HCo:=aA HCo.out;clear hco HMk HMx;go_wp2_with(first|(go_at_call 178;(refine(HPl.out _ (aP HB.out aG)).mono ?_);rintro e w' ⟨rfl,X1,rfl⟩)|(go_at_call 179;(with_reducible refine zG (HCo.out _) λX2=>?_)))
     have HV2:Hid (D=lH true (l.drop (k+1))):=by show _=_;rw[HS.out];rfl
     go_roundw
     case rel=>exact⟨k+1,true,by omega,rfl,by go_num,aP HB.out aG,HV2⟩
     case measure=>simp[intOf];omega
   .clear HCo;go_upto_region 14 with(go_at_call 178;(refine(HPl.out _ (aP HB.out aG)).mono ?_);rintro e w' ⟨rfl,X1,rfl⟩)
    refine dL λW5 hW5=> ?_;have HB5:Hid (Below wr.heap.size wr W5):=by show Below _ _ _;rw[hW5];exact aG
    have hlt5:wr.heap.size<W5.heap.size:=by rw[hW5];simp[go_sem]<;>omega
    have x0:W5.cell? ⟨wr.heap.size,0,none⟩=some (aB aC kk):=by rw[hW5];simp[go_sem]
    have x1:W5.cell? ⟨wr.heap.size,1,none⟩=some (aD a1):=by rw[hW5];simp[go_sem]
    have x2:W5.cell? ⟨wr.heap.size,2,none⟩=some (aB aC nn):=by rw[hW5];simp[go_sem]
    have x3:W5.cell? ⟨wr.heap.size,3,none⟩=some (aD a2):=by rw[hW5];simp[go_sem]
    clear hW5;cases m0:(kk==6)
    .have HMf:Hid (decide (x=bP 41)=false):=by show _=_;rw[HMx.out,m0];try simp
     refine dV kr kr  ?_;repeat(go_big_quiet_step(first|(go_at_call 180;with_reducible exact Calls.grow_of (HMk.out _))))
     refine wpQuiet_nil ?_;rintro _ ⟨nq,rfl⟩;go_wp2_with fail
     have HV2:Hid (D=false):=by show _=_;rw[HS.out,HMf.out];rfl
     go_ret2;rw[HN.out,HV2.out];exact gJ.no (aP HBW.out (aP HB.out (aP HB5.out aG))) rfl
    cases m1:(a1.toList==[41])
    .have HMf:Hid (decide (x=bP 41)=false):=by show _=_;rw[HMx.out,m0,m1];try simp
     refine dV kr kr  ?_;repeat(go_big_quiet_step(first|(go_at_call 180;with_reducible exact Calls.grow_of (HMk.out _))))
     refine wpQuiet_nil ?_;rintro _ ⟨nq,rfl⟩;go_wp2_with fail
     have HV2:Hid (D=false):=by show _=_;rw[HS.out,HMf.out];rfl
     go_ret2;rw[HN.out,HV2.out];exact gJ.no (aP HBW.out (aP HB.out (aP HB5.out aG))) rfl
    cases m2:(nn==0)
    .have HMf:Hid (decide (x=bP 41)=false):=by show _=_;rw[HMx.out,m0,m1,m2];try simp
     refine dV kr kr  ?_;repeat(go_big_quiet_step(first|(go_at_call 180;with_reducible exact Calls.grow_of (HMk.out _))))
     refine wpQuiet_nil ?_;rintro _ ⟨nq,rfl⟩;go_wp2_with fail
     have HV2:Hid (D=false):=by show _=_;rw[HS.out,HMf.out];rfl
     go_ret2;rw[HN.out,HV2.out];exact gJ.no (aP HBW.out (aP HB.out (aP HB5.out aG))) rfl
    cases m3:a2.toList.isEmpty
    .have HMf:Hid (decide (x=bP 41)=false):=by show _=_;rw[HMx.out,m0,m1,m2,m3];try simp
     refine dV kr kr  ?_;repeat(go_big_quiet_step(first|(go_at_call 180;with_reducible exact Calls.grow_of (HMk.out _))))
     refine wpQuiet_nil ?_;rintro _ ⟨nq,rfl⟩;go_wp2_with fail
     have HV2:Hid (D=false):=by show _=_;rw[HS.out,HMf.out];rfl
     go_ret2;rw[HN.out,HV2.out];exact gJ.no (aP HBW.out (aP HB.out (aP HB5.out aG))) rfl
    have HMt:Hid (decide (x=bP 41)=true):=by show _=_;rw[HMx.out,m0,m1,m2,m3];rfl
    refine dV kr kr  ?_;repeat(go_big_quiet_step(first|(go_at_call 180;with_reducible exact Calls.grow_of (HMk.out _))))
    refine wpQuiet_nil ?_;rintro _ ⟨nq,rfl⟩;go_wp2_with fail
    have HV2:Hid (D=lH false (l.drop (k+1))):=by show _=_;rw[HS.out,HMt.out];rfl
    go_roundw
    case rel=>exact⟨k+1,false,by omega,rfl,by go_num,aP HB.out (aP HB5.out aG),HV2⟩
    case measure=>simp[intOf];omega
  .have hkl:k=l.length:=by omega
   subst hkl;have HE:Hid (D= !ob):=by show _=_;rw[HV.out,List.drop_length];rfl
   cases ob
   .have HD1:Hid (D=true):=HE.out;go_wp2_with fail
    go_ret2;rw[HN.out,HD1.out];obtain⟨Y,hY⟩:=cV HB.out;exact gJ.rd (aP HBW.out HB.out) rfl rfl (HA1.out.below HB.out) hc1 (by rw[hY];exact HR1.out.grow Y)
   .have HD1:Hid (D=false):=HE.out;go_wp2_with fail
    go_ret2;rw[HN.out,HD1.out];exact gJ.no (aP HBW.out HB.out) rfl
theorem gJ.abs {w:World} {r:Option (List aK)} {e:Ending} {w':World} (h:gJ w r e w'): ∃A c,e=aL (aN #[aF A (r.getD []).length c,aI r.isSome])/\Below w.heap.size w w'/\(A=none->c=0)/\(r.getD []).length<=c/\Rd w' (aF A (r.getD []).length c) (r.getD []).length 4 (bC (r.getD [])):=by
 obtain⟨A,c,X,h1,rfl,h3,h4,h5⟩:=h;exact⟨A,c,h1,dG w X,h3.1,h4,h5⟩
theorem wT.abs {w:World} {r:Option (List St)} {e:Ending} {w':World} (h:wT w r e w'): ∃a cap,e=aL (aN #[aF a (r.getD []).length cap,aI r.isSome])/\Below w.heap.size w w'/\Sl w' (aF a (r.getD []).length cap) (r.getD []):=by
 obtain⟨v,X,h1,rfl,h3⟩:=h;have h4:=h3;obtain⟨a,cap,rfl,_⟩:=h3;exact⟨a,cap,h1,dG w X,h4⟩
theorem Rd.below' {w w':World} {v:Value} {n size:Nat} {xs:List Value} (h:Rd w v n size xs) (hb:Below w.heap.size w w'):Rd w' v n size xs:=by
 obtain⟨X,rfl⟩:=cV hb;exact h.grow X
theorem Sl.below' {w w':World} {v:Value} {l:List St} (h:Sl w v l) (hb:Below w.heap.size w w'):Sl w' v l:=by
 obtain⟨X,rfl⟩:=cV hb;exact h.grow X
open Go.RowKit
theorem M9 {s:St} (h:dT s=true): ∀x∈cZ s,jY x/\x.text.length<=1000000/\x.unit.length<=1000000:=by
 have f: ∀t:Bs,t.length<=20->jY (dX t)/\(dX t).text.length<=1000000/\(dX t).unit.length<=1000000:=λt ht=>⟨⟨by simp[dX],by simp[dX],by simp[dX],by simp[dX]⟩,by simp[dX];omega,by simp[dX]⟩;have n: ∀(a:Int) (u:Bs),a.natAbs<=999999->u.length<=20->jY (cT a u)/\(cT a u).text.length<=1000000/\(cT a u).unit.length<=1000000:=λa u ha hu=>⟨⟨by simp[cT],by simp[cT],by simp[cT];omega,by simp[cT];omega⟩,by simp[cT],by simp[cT];omega⟩;have m: ∀k,jY (bP k)/\(bP k).text.length<=1000000/\(bP k).unit.length<=1000000:=λk=>⟨⟨by simp[bP],by simp[bP],by simp[bP],by simp[bP]⟩,by simp[bP],by simp[bP]⟩;obtain⟨k,a,b⟩:=s;unfold dT at h;simp only at h;intro x hx;unfold cZ at hx;simp only at hx;split at h
 .rename_i h1;rw[if_pos h1]at hx;simp only[bD]at h;have ha:=uK h.1;have hb:=uK h.2;simp only[bJ,eO,or_false]at hx;rcases hx with rfl|rfl|rfl|rfl|rfl
  .exact f _ dc
  .exact n _ _ om dc
  .exact m _
  .exact n _ _ om dc
  .exact m _
 .rename_i h1;rw[if_neg h1]at hx;split at h
  .rename_i h2;rw[if_pos h2]at hx;simp only[bD]at h;have ha:=uK h.1;simp only[bJ,eO,or_false]at hx;rcases hx with rfl|rfl|rfl
   .exact f _ dc
   .exact n _ _ om dc
   .exact m _
  .rename_i h2;rw[if_neg h2]at hx;split at h
   .rename_i h3;rw[if_pos h3]at hx;simp only[bD,decide_eq_true_eq]at h;simp only[bJ,eO,or_false]at hx;rcases hx with rfl|rfl|rfl
    .exact f _ dc
    .exact n _ _ om dc
    .exact m _
   .rename_i h3;rw[if_neg h3]at hx;simp only[bJ,eO,or_false]at hx;rcases hx with rfl|rfl|rfl
    .exact f _ dc
    .exact n _ _ om dc
    .exact m _
theorem Co {ss:List St} (h:gF ss=true):wR (fD ss)/\(fD ss).length<=40:=by
 obtain⟨h1,h2⟩:=EG h;refine⟨λx hx=> ?_,by have:=TQ ss;omega⟩;obtain⟨s,hs,hx⟩:=List.mem_flatMap.1 hx;exact M9 (h1 s hs) x hx
theorem UQ:wR [kF]:=λx hx=>by
 rw[List.mem_singleton]at hx;subst hx;exact⟨⟨by decide,by decide,by decide,by decide⟩,by decide,by decide⟩
theorem VF {l a:List aK} (h:iP l=some a):wR a/\a.length<=40:=by
 unfold iP at h;split at h
 .cases h;exact⟨UQ,by decide⟩
 .split at h
  .cases h
  .rename_i ss hss;split at h
   .rename_i he;split at h
    .cases h;exact⟨UQ,by decide⟩
    .cases h;exact Co (LT ss he).1
   .cases h
