import Derived.Test.YtccjfanpjojbnaaGreatDoorJCssH
namespace Go.Proofs.YtccjfanpjojbnaaGreatDoor
open Bool renaming and_eq_true→bD
open Go.Ending renaming returned→aL
open Go.IntKind renaming i64→aC
open Lib renaming hid→aA,index→jI,itoa→jw,trimRightB→Yy
open List renaming length_cons→aY,length_drop→bL,length_reverse→Xe
open Nat renaming le_refl→bA
open Tryz renaming func220→zl,ntmps220→yh,prog→aE
open Go.Value renaming agg→aR,bool→aI,int→aB,string→aD,tuple→aN
set_option maxRecDepth 100000
set_option maxHeartbeats 8000000
open Go.RowKit Go.Shelf
def Mx (w:World):Prop:= ∃m,w.cell? ⟨0,0,none⟩=some (aB aC m)
theorem Mx.lt {w:World} (h:Mx w):0<w.heap.size:=by
 obtain⟨m,hm⟩:=h;exact World.block_lt_of_cell? w _ hm
theorem Mx.grow {w:World} (h:Mx w) (X:Gr):Mx (w.grow X):=by
 obtain⟨m,hm⟩:=h;exact⟨m,xV hm⟩
theorem Mx.turned {pv:Nat->Prop} {A B:World} (h:Mx A) (k:aJ pv A B) (hp: ¬pv 0):Mx B:=by
 have h1:=h.lt;obtain⟨m,hm⟩:=h;exact⟨m,by unfold World.cell? at hm ⊢;rw[k.block 0 h1 hp];exact hm⟩
def oD (l:Bs):Bs:=(Lib.cut l [42,47]).2.1
theorem TN (c:UInt8) (r:Bs):([42,47]:Bs).isPrefixOf (c::r)=(decide (c.toNat=42)&&hd (λd=>decide (d.toNat=47)) r):=by
 cases r with
 |nil=>simp[List.isPrefixOf,hd]
 |cons d r=>rw[Bool.eq_iff_iff];simp[List.isPrefixOf,hd,<-UInt8.toNat_inj];constructor<;>(rintro⟨h1,h2⟩;exact⟨h1.symm,h2.symm⟩)
theorem YQ: ∀(l:Bs),dC 2 l=dC 0 (oD l)/\(oD l).length<=l.length:=by
 intro l;induction l with
 |nil=>exact⟨rfl,by simp[oD,Lib.cut,jI]⟩
 |cons c r ih=>
  have hge:=Lib.index_ge r [42,47];by_cases h:([42,47]:Bs).isPrefixOf (c::r)=true
  .have h2:=h;rw[TN,bD,decide_eq_true_eq]at h2;have e1:oD (c::r)=r.drop 1:=by
    unfold oD Lib.cut;rw[show jI (c::r) [42,47]=0 by rw[jI,if_pos h]];rfl
   refine⟨?_,by rw[e1];simp;omega⟩;rw[e1];simp only[dC];rw[if_pos h2];cases r with
   |nil=>rfl
   |cons d r=>rfl
  .have h2:=h;rw[TN,bD,decide_eq_true_eq]at h2;have e0:dC 2 (c::r)=dC 2 r:=by simp only[dC];rw[if_neg h2]
   have e1:oD (c::r)=oD r:=by
    unfold oD Lib.cut;by_cases hi:jI r [42,47]= -1
    .rw[show jI (c::r) [42,47]= -1 by rw[jI,if_neg h,if_pos (by simp[hi])],hi];rfl
    .have e2:jI (c::r) [42,47]=jI r [42,47]+1:=by rw[jI,if_neg h,if_neg (by simpa using hi)]
     rw[e2,if_pos om,if_pos om];show(c::r).drop ((jI r [42,47]+1).toNat+2)=r.drop ((jI r [42,47]).toNat+2);rw[show(jI r [42,47]+1).toNat+2=((jI r [42,47]).toNat+2)+1 by omega];rfl
   rw[e0,e1];exact⟨ih.1,by have:=ih.2;simp;omega⟩
theorem YR (s:ByteArray) (W:World) (hW:Mx W) (hs:s.size<=1000000000): ∃a b,Calls aE 244 #[aD s,aD ⟨#[42,47]⟩] W (aH (aN #[aD a,aD ⟨(oD s.data.toList).toArray⟩,aI b]) W):=by
 obtain⟨m,hm⟩:=hW;refine⟨_,_,(Tryz.strings_Cut s ⟨#[42,47]⟩ m W om hm).mono λe w' ⟨h1,n,h2⟩=>⟨h1, ?_⟩⟩;exact cV (h2 ▸ Below.drewN (Below.refl _ _) n)
theorem Cg (s:Bs):Lib.hasPrefix s [47,42]=match s with
  |[]=>false
  |c::r=>decide (c.toNat=47)&&hd (λd=>decide (d.toNat=42)) r:=by
 cases s with
 |nil=>rfl
 |cons c r=>
  cases r with
  |nil=>simp[Lib.hasPrefix,List.isPrefixOf,hd]
  |cons d r=>rw[Bool.eq_iff_iff];simp[Lib.hasPrefix,hd,<-UInt8.toNat_inj];constructor<;>(rintro⟨h1,h2⟩;exact⟨h1.symm,h2.symm⟩)
def R6:Value->Nat
 | .string t=>t.size
 |_=>0
theorem ZI (s:Bs) (w:World) (hw:Mx w) (hm:s.length<=1000000000):Calls aE 229 #[aD ⟨s.toArray⟩] w (aH (aD ⟨(dC 0 s).toArray⟩) w):=by
 obtain⟨R,hR⟩: ∃R,dC 0 s=R:=⟨_,rfl⟩;have HR:=aA hR;have HW:=aA hw;rw[hR];clear hR;go_enter Tryz.func229,Tryz.ntmps229;go_wp2_with fail
 go_loopw [0] (λx wr=> ∃(u:Bs) (X:Gr),u.length<=s.length/\x=aD ⟨u.toArray⟩/\wr=w.grow X/\Hid (dC 0 u=R)) (λx _=>R6 x)
 case atStart=>exact⟨s,_,bA _,rfl,(kW w).symm,HR⟩
 case round=>
  obtain⟨u,X,hle,rfl,rfl,HK⟩:=hrel;cases u with
  |nil=>
   have HN:Hid (R=[]):=HK.out.symm;go_wp2
   go_ret;exact aH.of (by rw[HN.out];rfl) aG
  |cons c r=>
   obtain⟨U,hU⟩: ∃U:ByteArray,⟨(c::r).toArray⟩=U:=⟨_,rfl⟩;have hUs:U.size=r.length+1:=by rw[<-hU];rfl
   have hUd:U.data.toList=c::r:=by rw[<-hU]
   have hUe:=GN (a:=U) om;have hpos:0<U.size:=by omega
   have hc0:U[0]=c:=by rw[wQ U _ hUd 0 hpos];rfl
   have hUm:U.size<=1000000000:=by simp at hle;omega
   have he1:U.extract 1 U.size=⟨r.toArray⟩:=by rw[DR,hUd];rfl
   have hU1:1<=U.size:=hpos;have HL:Hid (r.length+1<=s.length):=by show _<=_;simpa using hle
   have HUs:=aA hUs;have HUU:=aA hU;rw[hU];cases hsp:bB c
   .have HSp:=aA (λW=>show Calls aE 128 #[.int .u8 U[0].toNat] W λe w'=>e=aL (aI false)/\W=w' from by rw[hc0];exact hsp ▸ nQ c W);have HPf:=aA (λW=>show Calls aE 24 #[aD U,aD ⟨#[47,42]⟩] W λe w'=>e=aL (aI (decide (c.toNat=47)&&hd (λd=>decide (d.toNat=42)) r))/\w'=W from by
     have:=Tryz.strings_HasPrefix U ⟨#[47,42]⟩ W;rw[show(⟨#[47,42]⟩:ByteArray).data.toList=[47,42]from rfl,hUd,Cg]at this;exact this)
    have HB:Hid (dC 0 (c::r)=if c.toNat=47/\hd (λd=>decide (d.toNat=42)) r=true then dC 1 r else c::r):=by show _=_;simp only[dC,hsp,Bool.false_eq_true,if_false]
    by_cases h47:c.toNat=47/\hd (λd=>decide (d.toNat=42)) r=true
    .rw[decide_eq_true h47.1,h47.2]at HPf;rw[if_pos h47]at HB;have HPf2:=aA HPf.out;obtain⟨d,r2,hr⟩: ∃d r2,r=d::r2:=by
      cases r with
      |nil=>simp[hd]at h47
      |cons d r2=>exact⟨d,r2,rfl⟩
     have he2:U.extract 2 U.size=⟨r2.toArray⟩:=by rw[DR,hUd,hr];rfl
     have hU2:2<=U.size:=by rw[hUs,hr];simp
     have HC:Hid (∀Y,∃a b,Calls aE 244 #[aD (U.extract 2 U.size),aD ⟨#[42,47]⟩] ((w.grow X).grow Y) (aH (aN #[aD a,aD ⟨(oD r2).toArray⟩,aI b]) ((w.grow X).grow Y))):=λY=>by
      have:=YR (U.extract 2 U.size) ((w.grow X).grow Y) ((HW.out.grow X).grow Y) (by rw[ByteArray.size_extract];omega);rwa[he2]at this ⊢
     have HC2:Hid (∃a b,Calls aE 244 #[aD (U.extract 2 U.size),aD ⟨#[42,47]⟩] (w.grow X) (aH (aN #[aD a,aD ⟨(oD r2).toArray⟩,aI b]) (w.grow X))):=by
      have:=YR (U.extract 2 U.size) (w.grow X) (HW.out.grow X) (by rw[ByteArray.size_extract];omega);rwa[he2]at this ⊢
     obtain⟨ca,cb,hcut2⟩:=HC2.out;have HC3:=aA hcut2;have HN:Hid (dC 0 (oD r2)=R):=by
      show _=_;rw[<-HK.out,HB.out,hr,<-(YQ r2).1];rfl
     have HLn:Hid ((oD r2).length<=r2.length):=(YQ r2).2;have HL2:Hid (r.length=r2.length+1):=by show _=_;rw[hr];rfl
     clear hcut2 HC HC2 hUd hc0 hsp h47 hr hU HPf he2 he1 hUs hle;go_wp2_with(first|(go_at_call 128;(with_reducible refine zQ (HSp.out _) ?_))|(go_at_call 24;(with_reducible refine zQ (HPf2.out _) ?_))|(go_at_call 244;(with_reducible refine HC3.out.mono ?_);rintro e w' ⟨rfl,X1,rfl⟩))
     go_roundw
     case rel=>exact⟨oD r2,_,by have:=HL.out;have:=HL2.out;have:=HLn.out;omega,rfl,jV w X X1,HN⟩
     case measure=>have:=HL2.out;have:=HLn.out;have:=HUs.out;show(oD r2).length<U.size;omega
    .rw[if_neg h47]at HB;have HPf2:=aA (show ∀W,Calls aE 24 #[aD U,aD ⟨#[47,42]⟩] W λe w'=>e=aL (aI false)/\w'=W from by
      have h0:(decide (c.toNat=47)&&hd (λd=>decide (d.toNat=42)) r)=false:=by
       rw[<-Bool.not_eq_true,bD,decide_eq_true_eq];exact h47
      rw[h0]at HPf;exact HPf.out)
     have HN:Hid (R=c::r):=by show _=_;rw[<-HK.out,HB.out]
     clear hUd hc0 hsp h47 hU HPf he1 hUs hle;go_wp2_with(first|(go_at_call 128;(with_reducible refine zQ (HSp.out _) ?_))|(go_at_call 24;(with_reducible refine zQ (HPf2.out _) ?_)))
     go_ret;exact aH.of (by rw[HN.out,HUU.out];rfl) aG
   .have HSp:=aA (λW=>show Calls aE 128 #[.int .u8 U[0].toNat] W λe w'=>e=aL (aI true)/\W=w' from by rw[hc0];exact hsp ▸ nQ c W);have HN:Hid (dC 0 r=R):=by show _=_;rw[<-HK.out];simp only[dC,hsp,if_true]
    clear hUd hc0 hsp hU hUs hle;go_wp2_with(go_at_call 128;(with_reducible refine zQ (HSp.out _) ?_))
    go_roundw
    case rel=>exact⟨r,X,by have:=HL.out;omega,rfl,rfl,HN⟩
    case measure=>have:=HUs.out;show r.length<U.size;omega
def MK (w:World) (b:Nat):Nat:=match w.cell? ⟨b,0,none⟩with
 |some (aD t)=>t.size
 |_=>0
theorem VS {w:World} {b:Nat} {t:TypeId} {s:ByteArray} (h:Boxed w b t (aD s)):MK w b=s.size:=by
 unfold MK;rw[h.cell]
theorem Cr (s:Bs) (bs:Nat) (bw:Nat->Prop) (W:World) (hb:Boxed W bs 9 (aD ⟨s.toArray⟩)) (hbw: ¬bw bs) (hbw1: ¬bw 0) (hbs:bs≠0) (hx:Mx W) (hm:s.length<=1000000000):
  yM aE 228 #[Value.pointer (some ⟨bs,0,none⟩)] (λx=> #[aK.agg x]) (λk=>k=bs) bw (bU s) W:=by
 intro l J Jx hJ hY h0;refine callsIn_of_wp Tryz.func228 rfl trivial ?_ rfl;have hc:=hb.cell;have hf:=hb.frozen;have hlt1:=hb.lt;have HB0:=aA (ZI s W hx hm);have HX0:=aA hx;simp only[Tryz.ntmps228,List.size_toArray,aY,List.length_nil,Nat.reduceAdd,Nat.reduceSub,Array.replicate_succ,Array.replicate_zero,List.push_toArray,List.append_toArray,List.nil_append,List.cons_append];gi_wp2_with (gi_at_call 229;(with_reducible refine(callsIn_wide.2 HB0.out).mono ?_);rintro e w' ⟨rfl,X0,rfl⟩)
 clear hc hf;gi_loopw [4] (λ_ wr=> ∃(t u:Bs) (pre:List aK),u.length<=s.length/\t=dC 0 u/\Boxed wr bs 9 (aD ⟨t.toArray⟩)/\Mx wr/\J pre wr/\Hid (pre++bU u=bU s)) (λ_ wr=>MK wr bs)
 case atStart=>
  exact⟨_,s,[],bA _,rfl,Boxed.grow' (hb.set _) _,Mx.grow (Mx.turned (pv:=λk=>k=bs) HX0.out (aJ.setCell (pv:=λk=>k=bs) (aJ.refl _ _) (Or.inr rfl) _) om) _,hJ _ _ _ h0 iX,rfl⟩
 case round=>
  obtain⟨t,u,pre,hu,ht,hbx,hMx,hJs,HK⟩:=hrel;have hc:=hbx.cell;have hf:=hbx.frozen;have hl1:=hbx.lt;have hbl:=xY u 0;rw[<-ht]at hbl;cases t with
  |nil=>
   have HE:Hid (pre=bU s):=by
    show _=_;rw[<-HK.out,yY ht.symm,List.append_nil]
   clear HK;gi_wp2;go_end0;exact⟨⟨_,rfl⟩,.inl (HE.out ▸ hJs)⟩
  |cons c r=>
   have HS:=aA (BD ht.symm);obtain⟨n1,n2,_⟩:=zJ (s:=c::r) (by simp) (x:=(cJ (c::r)).1) (n:=(cJ (c::r)).2) rfl;have HP:=aA (λW=>De (c::r) W om (by simp));generalize cJ (c::r)=xn at*;obtain⟨x,n⟩:=xn;simp only at HS HP n1 n2;obtain⟨U,hU⟩: ∃U:ByteArray,⟨(c::r).toArray⟩=U:=⟨_,rfl⟩;have hUs:U.size=(c::r).length:=by rw[<-hU];rfl
   have hUd:U.data.toList=c::r:=by rw[<-hU]
   have hUe:=GN (a:=U) (by rw[hUs];simp);have hnU:n<=U.size:=by omega
   obtain⟨v,hv⟩: ∃v,(c::r).drop n=v:=⟨_,rfl⟩;have hvl:v.length+1<=(c::r).length:=by rw[<-hv,bL];omega
   obtain⟨V,hV⟩: ∃V:ByteArray,⟨v.toArray⟩=V:=⟨_,rfl⟩;have he1:U.extract n U.size=V:=by rw[DR,hUd,hv,hV]
   have HX:Hid (pre++[x]++bU v=bU s):=by
    show _=_;rw[<-HK.out,HS.out,List.append_assoc,<-hv];rfl
   rw[hU]at hbx hc HP;simp only[aK.agg,sv]at HP;have HA:Hid (#[aK.agg x]= #[aR #[aB aC x.kind,aD ⟨x.text.toArray⟩,aB aC x.num,aD ⟨x.unit.toArray⟩]]):=rfl;have HVv:=aA hV;have HL:Hid (v.length+1<=(c::r).length/\(c::r).length<=u.length):=⟨hvl,hbl⟩;have HUs:=aA hUs;have hbx0:=hbx;have HM:=aA hMx;have HUm:Hid (u.length<=1000000000):=by show _<=_;omega
   clear hU hUs hUd hv hV HS ht hMx hbl hvl n2;gi_wp2_with (gi_at_call 230;(with_reducible refine(callsIn_wide.2 (HP.out _)).mono ?_);rintro e w' ⟨rfl,X1,rfl⟩)
   clear hc hf;refine pS (hY pre x _ ⟨_,HX.out⟩ (hJ _ _ _ hJs iX)) (by rw[HA.out]) ?_;rintro e W3 (⟨rfl,hJ3,ht3⟩|⟨rfl,hJx⟩)
   .refine⟨_,rfl, ?_⟩;have hb3:=ht3.boxed (t:=9) (v:= aD U) (by repeat(first|with_reducible assumption|(with_reducible refine @Boxed.set _ _ _ ?_ _ ?_;rotate_left)|(with_reducible refine Boxed.oth ?_ (by first|omega|(simp[go_sem]<;>omega)) _)|with_reducible refine Boxed.grow' ?_ _|with_reducible refine Boxed.alloc ?_ _|with_reducible refine Boxed.drew' ?_)) hbw;have hM3:Mx W3:=Mx.turned (Mx.turned (pv:=λk=>k=bs) HM.out iX om) ht3 hbw1;have hc3:=hb3.cell;have hf3:=hb3.frozen;have hl3:=hb3.lt;have hM4:Mx (W3.setCell ⟨bs,0,none⟩ (aD V)):=Mx.turned (pv:=λk=>k=bs) hM3 (aJ.setCell (pv:=λk=>k=bs) (aJ.refl _ _) (Or.inr rfl) _) om;have HB4:=aA (HVv.out ▸ ZI v (W3.setCell ⟨bs,0,none⟩ (aD V)) hM4 (by have:=HL.out;have:=HUm.out;omega));have HM4:=aA hM4;clear hbx hM3 hM4;go_simp
    gi_wp2_with (gi_at_call 229;(with_reducible refine(callsIn_wide.2 HB4.out).mono ?_);rintro e w' ⟨rfl,X4,rfl⟩)
    go_roundw
    case rel=>
     refine⟨_,v,pre++[x],by have:=HL.out;omega,rfl,(by repeat(first|with_reducible assumption|(with_reducible refine @Boxed.set _ _ _ ?_ _ ?_;rotate_left)|(with_reducible refine Boxed.oth ?_ (by first|omega|(simp[go_sem]<;>omega)) _)|with_reducible refine Boxed.grow' ?_ _|with_reducible refine Boxed.alloc ?_ _|with_reducible refine Boxed.drew' ?_)), ?_,hJ _ _ _ hJ3 iX,HX⟩;exact Mx.turned (pv:=λk=>k=bs) HM4.out iX om
    case measure=>
     have h1:=VS (Boxed.grow' ((hb3.set (aD V)).set (aD ⟨(dC 0 v).toArray⟩)) X4);have h2:=VS hbx0;have h3:=xY v 0;have h4:=HL.out;rw[h1,h2,HUs.out];show(dC 0 v).length<_;omega
   .refine⟨_,rfl, ?_⟩;go_simp
    gi_wp2;refine bodyPost_ret (results_none rfl _ _ _) rfl ?_;exact⟨⟨_,rfl⟩,.inr ⟨pre,_,⟨_,HX.out⟩,hJx⟩⟩
theorem CQ:jX aE 175 209 (aR #[aB aC 0,aD ⟨#[]⟩,aB aC 0,aD ⟨#[]⟩]) 4 48:=⟨by kernel_rfl,by kernel_rfl,by kernel_rfl,by decide⟩
def aK.cells (x:aK):List Value:=[aB aC x.kind,sv x.text,aB aC x.num,sv x.unit]
def bC (l:List aK):List Value:=l.flatMap aK.cells
theorem EC: ∀(f:Nat) (s:Bs),s.length<f->(oE f s).length<=s.length:=by
 intro f;induction f with
 |zero=>intro s h;omega
 |succ f ih=>
  intro s h;simp only[oE];have hl:=xY s 0;cases hb:dC 0 s with
  |nil=>simp
  |cons c r=>
   have hk:=(zJ (s:=c::r) (by simp) (x:=(cJ (c::r)).1) (n:=(cJ (c::r)).2) rfl).1;rw[hb]at hl;have he:(c::r).length=r.length+1:=rfl;have:=ih ((c::r).drop (cJ (c::r)).2) (by rw[bL];omega);rw[bL]at this;simp only[aY];omega
abbrev Sw (w:World):=vG w w.heap.size (w.heap.size+4) 175 209 4 aK.cells
theorem Cu (s:ByteArray) (w:World):Calls aE 208 #[aD s] w λe w'=>e=aL (.func (.func 228) #[] #[Value.pointer (some ⟨w.heap.size,0,none⟩)])/\w.alloc (.cells #[aD s] 9)=w':=by
 go_enter Tryz.func208,Tryz.ntmps208;go_wp2
 go_ret;exact⟨rfl,rfl⟩
theorem SE (s:Bs) (w:World) (hw:Mx w) (hm:s.length<=1000000000):Calls aE 172 #[aD ⟨s.toArray⟩] w (lQ w (bU s).length 4 209 (bC (bU s))):=by
 refine(callsIn_wide (n:=0)).1 ?_;refine callsIn_of_wp_marks (n:=0) Tryz.func172 rfl trivial ?_ rfl;simp only[Tryz.ntmps172,List.size_toArray,aY,List.length_nil,Nat.reduceAdd,Nat.reduceSub,Array.replicate_succ,Array.replicate_zero,List.push_toArray,List.append_toArray,List.nil_append,List.cons_append];have hfew:=EC _ s (Nat.lt_succ_self _);change(bU s).length<=_ at hfew;have h1:=hw.lt;have HW:=aA hw;gi_wp2_with (gi_at_call 208;refine(callsIn_wide.2 (Cu _ _)).mono ?_;rintro e w' ⟨rfl,rfl⟩)
 refine yO (B:=w.heap.size+2) (by simp) rfl (enters_of Tryz.func228 kr rfl) (encs:=λx=> #[aK.agg x]) (λ_=>rfl) (xs:=bU s) (λk=>k=w.heap.size+1)
  (λk=>k=w.heap.size\/w.heap.size+4<=k) (by intro k hk;omega) (by intro k hk;omega) (Sw w) (λ_ _ _=>False) ?hI ?hIx ?h0 ?hiter ?hround ?hdone ?hstop
 case hI=>
  intro pre A C h ht;exact h.turned ht om (by intro k hk;omega) (by intro k hk;omega)
 case hIx=>intro c pre A C h _;exact h.elim
 case h0=>exact⟨⟨_,(Boxed.new w 175 (Value.slice none 0 0)).alloc (.cells #[aD ⟨s.toArray⟩] 9),World.ownsRow_nil _ _ _ _⟩,aG⟩
 case hiter=>
  intro o1 o2;have b5:=(Boxed.new (w.alloc (.cells #[Value.slice none 0 0] 175)) 9 (aD ⟨s.toArray⟩)).alloc o1 |>.alloc o2
  simp only[World.size_alloc]at b5;exact Cr s _ _ _ b5 om om om (Mx.turned (pv:=λ_=>False) HW.out iX (λh=>h)) hm
 case hround=>
  rintro l pre x A hx ⟨_,hBA⟩ hsz;have HAx:Hid (#[aK.agg x]= #[aR #[aB aC x.kind,aD ⟨x.text.toArray⟩,aB aC x.num,aD ⟨x.unit.toArray⟩]]):=rfl;rw[HAx.out];gi_wp2;refine⟨(aJ.refl _ _).alloc _,λA2 ht hI2 hs2=> ?_⟩;have hx2:A2.heap[A.heap.size]? =some (.cells #[aB aC x.kind,aD ⟨x.text.toArray⟩,aB aC x.num,aD ⟨x.unit.toArray⟩] 209):=(ht.block _ (by simp) om).trans (World.alloc_heap_new A _);have c0:A2.cell? ⟨A.heap.size,0,none⟩=some (aB aC x.kind):=by simp[World.cell?,hx2]
  have c1:A2.cell? ⟨A.heap.size,1,none⟩=some (aD ⟨x.text.toArray⟩):=by simp[World.cell?,hx2]
  have c2:A2.cell? ⟨A.heap.size,2,none⟩=some (aB aC x.num):=by simp[World.cell?,hx2]
  have c3:A2.cell? ⟨A.heap.size,3,none⟩=some (aD ⟨x.unit.toArray⟩):=by simp[World.cell?,hx2]
  obtain⟨⟨v,bv,ho⟩,hB⟩:=hI2;have d4:=bv.cell;have e4:=bv.frozen;have HX:=aA hx;have HB:=aA hB;have hlen2:pre.length+1<=1000000000:=by
   have h1:=hx.length_le;simp at h1;omega
  have hs3:w.heap.size+4<=A2.heap.size:=by rw[hs2];simp;omega
  clear hx hB hs2 ht hx2;gi_wp2_with (gi_at_builtin;go_loud(refine CW rfl _ _ 175 rfl CQ (w.heap.size+4) rfl (ho.alloc _) (by simp;omega) ⟨_,0,none⟩ 0 1 (aK.cells x) rfl rfl (eR (c:= #[aB aC x.kind,sv x.text,aB aC x.num,sv x.unit]) (by simp[go_sem])) (by simp[aK.cells,sv,Value.oneCell']) (by unfold maxLen;omega) om ?_);intro g cap W' ho' ht';have bv':=ht'.boxed (bv.alloc _) om;have d5:=bv'.cell;have e5:=bv'.frozen)
  have h3:=vG.put (x:=x) (HB.out.trans ((Below.refl _ _).alloc HB.out.size _)) (bv.alloc _) ho' rfl ht' om (bA _);exact⟨(((aJ.refl _ _).alloc _).trans h3.1),h3.2⟩
 case hdone=>
  rintro W ⟨⟨v,bv,ho⟩,hB⟩ hK;have d1:=bv.cell;gi_wp2;have hT:aJ (λk=>k=w.heap.size+2) W (W.putObj (w.heap.size+2) (.deferred none)):=aJ.putObj (pv:=λk=>k=w.heap.size+2) (aJ.refl _ _) (Or.inr rfl) _;refine⟨by simp,.inl ⟨_,_,rfl,run_takeDeferred hK, ?_⟩⟩;refine⟨v,by simp[results,Tryz.results172,go_sem], ?_⟩;exact lQ.own (hB.trans (hT.below hB.size (λk hk=>by omega))) (hT.own ho (λk hk=>by omega)) om
 case hstop=>intro c pre x W _ h;exact h.elim
theorem t7 (s:Bs) (w:World) (hw:Mx w) (hm:s.length<=1000000000):Calls aE 172 #[aD ⟨s.toArray⟩] w (pA w (bU s).length 4 (bC (bU s))):=(SE s w hw hm).mono λ_ _ h=>h.s
abbrev Tb (w:World):Prop:=Lib.TabIs aE w "internal/strconv.uint64pow10" .u64 Lib.pow10Tab
theorem Tb.grow {w:World} (h:Tb w) (X:Gr):Tb (w.grow X):=by
 unfold Tb Lib.TabIs World.var? at*;cases hg:aE.globalNamed "internal/strconv.uint64pow10" with
 |none=>rw[hg]at h;simp at h
 |some g=>
  rw[hg]at h;simp only[Option.bind_some]at h ⊢;cases hh:w.heap[g]? with
  |none=>rw[hh]at h;simp at h
  |some o=>rw[WZ w X hh];rw[hh]at h;exact h
theorem NH: ∀(f n:Nat),n<10 ^ (f+1)->mA f n=Lib.decDigits n:=by
 intro f;induction f with
 |zero=>
  intro n h;have h1:n<10:=by simpa using h
  rw[Lib.decDigits,dif_pos h1];show [sJ (n%10)]=_;rw[Nat.mod_eq_of_lt h1];rfl
 |succ f ih=>
  intro n h;rw[Lib.decDigits];simp only[mA];by_cases h1:n<10
  .rw[if_pos h1,dif_pos h1];rfl
  .rw[if_neg h1,dif_neg h1,ih _ (by rw[Nat.pow_succ]at h;omega)];rfl
theorem Ji (n:Nat) (h:n<1000000000000000000000):jw (n:Int)=gM n:=by
 rw[Lib.itoa_nonneg];exact(NH 20 n om).symm
theorem Kz (p:Nat) (h0:p≠0) (h:p<1000):46::Yy ((jw ((1000+p:Nat):Int)).drop 1) 48=nA p:=by
 have hd: ∀q:Fin 1000,q.val≠0->46::Yy ((mA 3 (1000+q.val)).drop 1) 48=nA q.val:=by decide+kernel
 rw[Lib.itoa_nonneg,<-NH 3 _ om];exact hd ⟨p,h⟩ h0
theorem XL (n:Int) (W:World) (hW:Tb W) (h0: -9223372036854775808<=n) (h1:n<=9223372036854775807):Calls aE 239 #[aB aC n,aB aC 10] W (aH (aD ⟨(jw n).toArray⟩) W):=
 (Tryz.strconv_FormatInt_10 n h0 h1 W hW).mono λ_ _ ⟨h1,k,os,h2⟩=>⟨h1,⟨os,W.drawn+k⟩,h2⟩
theorem XW (n:Nat) (h:n<1000000000000000000000):(gM n).length<=21:=XX 20 n 21 om om
theorem Mf (n:Int) (w:World) (hw:Tb w) (h0: -9223372036854775808<=n) (h1:n<=9223372036854775807):Calls aE 220 #[aB aC n] w (aH (aD ⟨(gA n).toArray⟩) w):=by
 obtain⟨q,hq⟩: ∃q,n.natAbs/1000=q:=⟨_,rfl⟩;obtain⟨p,hp⟩: ∃p,n.natAbs%1000=p:=⟨_,rfl⟩;have hp3:p<1000:=by omega
 have hq3:q<=9223372036854775:=by omega
 have HF:=aA (λW (hW:Tb W)=>show Calls aE 239 #[aB aC q,aB aC 10] W (aH (aD ⟨(gM q).toArray⟩) W)from by
  have:=XL q W hW om om;rwa[Ji q om]at this)
 have HW:=aA hw;obtain⟨F,hF⟩: ∃F:ByteArray,⟨(gM q).toArray⟩=F:=⟨_,rfl⟩;have hFs:F.size<=21:=by rw[<-hF];exact XW q om
 have HG:Hid (gA n=mR n++(gM q++nA p)):=by show _=_;rw[zY,hq,hp]
 have HFd:Hid (F.data.toList=gM q):=by show _=_;rw[<-hF]
 rw[hF]at HF;clear hF;obtain⟨G,hG⟩: ∃G:ByteArray,⟨(jw ((1000+p:Nat):Int)).toArray⟩=G:=⟨_,rfl⟩;have HF2:=aA (λW (hW:Tb W)=>show Calls aE 239 #[aB aC (1000+(p:Int)),aB aC 10] W (aH (aD G) W)from by
  have:=XL ((1000+p:Nat):Int) W hW om om;rw[hG]at this;rwa[show((1000+p:Nat):Int)=1000+(p:Int) by omega]at this)
 have hGl:G.size=4:=by
  rw[<-hG];show(jw ((1000+p:Nat):Int)).length=4;have hd: ∀q:Fin 1000,(mA 3 (1000+q.val)).length=4:=by decide+kernel
  rw[Lib.itoa_nonneg,<-NH 3 _ om];exact hd ⟨p,hp3⟩
 have hG1:1<=G.size:=by omega
 obtain⟨H,hH⟩: ∃H:ByteArray,⟨(Yy ((jw ((1000+p:Nat):Int)).drop 1) 48).toArray⟩=H:=⟨_,rfl⟩;have HT:=aA (λW=>show Calls aE 131 #[aD (G.extract 1 G.size),aD ⟨#[48]⟩] W λe w'=>e=aL (aD H)/\w'=W from by
  have:=Tryz.strings_TrimRight_one (G.extract 1 G.size) 48 dc W (by rw[ByteArray.size_extract];omega);rw[NI,<-hG]at this;rw[<-hH,<-hG];exact this)
 have hHs:H.size<=4:=by
  rw[<-hH];show(Yy _ _).length<=4;have:(Yy ((jw ((1000+p:Nat):Int)).drop 1) 48).length<=((jw ((1000+p:Nat):Int)).drop 1).length:=by
   unfold Yy;rw[Xe];exact Nat.le_trans (List.dropWhile_sublist _).length_le (by rw[Xe];exact bA _)
  have h4:(jw ((1000+p:Nat):Int)).length=4:=by rw[<-hGl,<-hG];rfl
  rw[bL,h4]at this;omega
 have HHd:Hid (p≠0->46::H.data.toList=nA p):=λh=>by rw[<-hH];exact Kz p h hp3
 clear hG hH hGl;have go: ∀sgn:ByteArray,sgn.data.toList=mR n->sgn.size<=1->True:=λ_ _ _=>trivial;clear go;by_cases hn:n<0
 .have e1:Int.tdiv n 1000= -(q:Int):=by
   rw[show n= -((n.natAbs:Nat):Int) by omega,Int.neg_tdiv,Int.tdiv_eq_ediv_of_nonneg om];omega
  have e2:Int.tmod n 1000= -(p:Int):=by
   rw[show n= -((n.natAbs:Nat):Int) by omega,Int.neg_tmod,Int.tmod_eq_emod_of_nonneg om];omega
  have HS:Hid (mR n=[45]):=by show _=_;unfold mR;rw[if_pos hn]
  by_cases hp0:p=0
  .have HN:Hid (gA n=45::gM q):=by show _=_;rw[HG.out,HS.out,hp0];simp[nA]
   have b0:((p:Int)==0)=true:=by simp[hp0]
   have b1:(p:Int)=0:=by omega
   clear hq hp;go_enter zl,yh;go_wp2_with(go_at_call 239;(with_reducible refine zG (HF.out _ HW.out) λX1=>?_))
   go_ret;exact aH.of (qZ (by rw[ByteArray.data_append,Array.toList_append,HFd.out,HN.out];rfl)) aG
  .have HN:Hid (gA n=45::(gM q++46::H.data.toList)):=by show _=_;rw[HG.out,HS.out,HHd.out hp0];rfl
   have b0:((p:Int)==0)=false:=by simp[hp0]
   have b1: ¬(p:Int)=0:=by omega
   clear hq hp;go_enter zl,yh;go_wp2_with(first|(go_at_call 239;(with_reducible refine zG (HF.out _ HW.out) λX1=>?_))|(go_at_call 239;(with_reducible refine zG (HF2.out _ (HW.out.grow _)) λX2=>?_))|(go_at_call 131;(with_reducible refine zQ (HT.out _) ?_)))
   go_ret;exact aH.of (qZ (by simp only[ByteArray.data_append,Array.toList_append,HFd.out,HN.out];simp)) aG
 .have e1:Int.tdiv n 1000=(q:Int):=by
   rw[Int.tdiv_eq_ediv_of_nonneg om];omega
  have e2:Int.tmod n 1000=(p:Int):=by
   rw[Int.tmod_eq_emod_of_nonneg om];omega
  have HS:Hid (mR n=[]):=by show _=_;unfold mR;rw[if_neg hn]
  by_cases hp0:p=0
  .have HN:Hid (gA n=gM q):=by show _=_;rw[HG.out,HS.out,hp0];simp[nA]
   have b0:((p:Int)==0)=true:=by simp[hp0]
   have b1:(p:Int)=0:=by omega
   clear hq hp;go_enter zl,yh;go_wp2_with(go_at_call 239;(with_reducible refine zG (HF.out _ HW.out) λX1=>?_))
   go_ret;exact aH.of (qZ (by first|(rw[ByteArray.data_append,Array.toList_append,HFd.out,HN.out];rfl)|(rw[HFd.out,HN.out]))) aG
  .have HN:Hid (gA n=gM q++46::H.data.toList):=by show _=_;rw[HG.out,HS.out,HHd.out hp0];rfl
   have b0:((p:Int)==0)=false:=by simp[hp0]
   have b1: ¬(p:Int)=0:=by omega
   clear hq hp;go_enter zl,yh;go_wp2_with(first|(go_at_call 239;(with_reducible refine zG (HF.out _ HW.out) λX1=>?_))|(go_at_call 239;(with_reducible refine zG (HF2.out _ (HW.out.grow _)) λX2=>?_))|(go_at_call 131;(with_reducible refine zQ (HT.out _) ?_)))
   go_ret;exact aH.of (qZ (by simp only[ByteArray.data_append,Array.toList_append,HFd.out,HN.out];simp)) aG
