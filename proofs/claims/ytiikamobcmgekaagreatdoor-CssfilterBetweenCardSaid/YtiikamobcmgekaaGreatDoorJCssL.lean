/- The walks of styles: a number's figures. -/
import Derived.Lib.ItoaMem
import Derived.Test.YtiikamobcmgekaaGreatDoorKB
import Derived.Lib.IndexMore
import Derived.Test.YtiikamobcmgekaaGreatDoorJCssH
namespace Go.Proofs.YtiikamobcmgekaaGreatDoor
set_option maxRecDepth 100000
set_option maxHeartbeats 8000000
open Go.RowKit Go.Shelf
attribute [local go_sem] Oper.semAt_some
def Mx (w:World):Prop:= ∃m,w.cell? ⟨2,0,none⟩=some (.int .i64 m)
theorem Mx.lt {w:World} (h:Mx w):2<w.heap.size:=by
 obtain⟨m,hm⟩:=h
 exact World.block_lt_of_cell? w _ hm
theorem Mx.grow {w:World} (h:Mx w) (X:Gr):Mx (w.grow X):=by
 obtain⟨m,hm⟩:=h
 exact⟨m,cell_grow hm⟩
theorem Mx.turned {pv:Nat->Prop} {A B:World} (h:Mx A) (k:Turned pv A B) (hp: ¬pv 2):Mx B:=by
 have h1:=h.lt
 obtain⟨m,hm⟩:=h
 exact⟨m,by unfold World.cell? at hm ⊢;rw[k.block 2 h1 hp];exact hm⟩
def cutR (l:Bs):Bs:=(Lib.cut l [42,47]).2.1
theorem pre_two (c:UInt8) (r:Bs):([42,47]:Bs).isPrefixOf (c::r)=(decide (c.toNat=42)&&hd (fun d=>decide (d.toNat=47)) r):=by
 cases r with
 |nil=>simp[List.isPrefixOf,hd]
 |cons d r=>rw[Bool.eq_iff_iff];simp[List.isPrefixOf,hd,<-UInt8.toNat_inj];constructor<;>(rintro⟨h1,h2⟩;exact⟨h1.symm,h2.symm⟩)
theorem cut_blk: ∀(l:Bs),blkM 2 l=blkM 0 (cutR l)/\(cutR l).length<=l.length:=by
 intro l
 induction l with
 |nil=>exact⟨rfl,by simp[cutR,Lib.cut,Lib.index]⟩
 |cons c r ih=>
  have hge:=Lib.index_ge r [42,47]
  by_cases h:([42,47]:Bs).isPrefixOf (c::r)=true
  ·have h2:=h
   rw[pre_two,Bool.and_eq_true,decide_eq_true_eq]at h2
   have e1:cutR (c::r)=r.drop 1:=by
    unfold cutR Lib.cut
    rw[show Lib.index (c::r) [42,47]=0 by rw[Lib.index,if_pos h]]
    rfl
   refine⟨?_,by rw[e1];simp;omega⟩
   rw[e1]
   simp only[blkM]
   rw[if_pos h2]
   cases r with
   |nil=>rfl
   |cons d r=>rfl
  ·have h2:=h
   rw[pre_two,Bool.and_eq_true,decide_eq_true_eq]at h2
   have e0:blkM 2 (c::r)=blkM 2 r:=by simp only[blkM];rw[if_neg h2]
   have e1:cutR (c::r)=cutR r:=by
    unfold cutR Lib.cut
    by_cases hi:Lib.index r [42,47]= -1
    ·rw[show Lib.index (c::r) [42,47]= -1 by rw[Lib.index,if_neg h,if_pos (by simp[hi])],hi]
     rfl
    ·have e2:Lib.index (c::r) [42,47]=Lib.index r [42,47]+1:=by rw[Lib.index,if_neg h,if_neg (by simpa using hi)]
     rw[e2,if_pos (by omega),if_pos (by omega)]
     show(c::r).drop ((Lib.index r [42,47]+1).toNat+2)=r.drop ((Lib.index r [42,47]).toNat+2)
     rw[show(Lib.index r [42,47]+1).toNat+2=((Lib.index r [42,47]).toNat+2)+1 by omega]
     rfl
   rw[e0,e1]
   exact⟨ih.1,by have:=ih.2;simp;omega⟩
theorem cut_any (s:ByteArray) (W:World) (hW:Mx W) (hs:s.size<=1000000000): ∃a b,Calls Tryz.prog 239 #[.string s,.string ⟨#[42,47]⟩] W (Ret (.tuple #[.string a,.string ⟨(cutR s.data.toList).toArray⟩,.bool b]) W):=by
 obtain⟨m,hm⟩:=hW
 refine⟨_,_,(Tryz.strings_Cut s ⟨#[42,47]⟩ m W (by omega) hm).mono fun e w' ⟨h1,n,h2⟩=>⟨h1, ?_⟩⟩
 exact grow_of_below (h2 ▸ Below.drewN (Below.refl _ _) n)
theorem pre_slash (s:Bs):Lib.hasPrefix s [47,42]=match s with
  |[]=>false
  |c::r=>decide (c.toNat=47)&&hd (fun d=>decide (d.toNat=42)) r:=by
 cases s with
 |nil=>rfl
 |cons c r=>
  cases r with
  |nil=>simp[Lib.hasPrefix,List.isPrefixOf,hd]
  |cons d r=>rw[Bool.eq_iff_iff];simp[Lib.hasPrefix,hd,<-UInt8.toNat_inj];constructor<;>(rintro⟨h1,h2⟩;exact⟨h1.symm,h2.symm⟩)
def strLen:Value->Nat
 | .string t=>t.size
 |_=>0
theorem blank_anyQ (s:Bs) (w:World) (hw:Mx w) (hm:s.length<=1000000000):Calls Tryz.prog 180 #[.string ⟨s.toArray⟩] w (Ret (.string ⟨(blkM 0 s).toArray⟩) w):=by
 obtain⟨R,hR⟩: ∃R,blkM 0 s=R:=⟨_,rfl⟩
 have HR:=Lib.hid hR
 have HW:=Lib.hid hw
 rw[hR]
 clear hR
 go_enter Tryz.func180,Tryz.ntmps180
 go_wp2_with fail
 go_loopw [0] (fun x wr=> ∃(u:Bs) (X:Gr),u.length<=s.length/\x= .string ⟨u.toArray⟩/\wr=w.grow X/\Hid (blkM 0 u=R)) (fun x _=>strLen x)
 case atStart=>exact⟨s,_,Nat.le_refl _,rfl,(grow_refl w).symm,HR⟩
 case round=>
  obtain⟨u,X,hle,rfl,rfl,HK⟩:=hrel
  cases u with
  |nil=>
   have HN:Hid (R=[]):=HK.out.symm
   go_wp2
   go_ret
   exact Ret.of (by rw[HN.out];rfl) bel
  |cons c r=>
   obtain⟨U,hU⟩: ∃U:ByteArray,⟨(c::r).toArray⟩=U:=⟨_,rfl⟩
   have hUs:U.size=r.length+1:=by rw[<-hU];rfl
   have hUd:U.data.toList=c::r:=by rw[<-hU]
   have hUe:=ba_full (a:=U) (by omega)
   have hpos:0<U.size:=by omega
   have hc0:U[0]=c:=by rw[at_bs U _ hUd 0 hpos];rfl
   have hUm:U.size<=1000000000:=by simp at hle;omega
   have he1:U.extract 1 U.size=⟨r.toArray⟩:=by rw[str_drop,hUd];rfl
   have hU1:1<=U.size:=hpos
   have HL:Hid (r.length+1<=s.length):=by show _<=_;simpa using hle
   have HUs:=Lib.hid hUs
   have HUU:=Lib.hid hU
   rw[hU]
   cases hsp:spB c
   ·have HSp:=Lib.hid (fun W=>show Calls Tryz.prog 33 #[.int .u8 U[0].toNat] W fun e w'=>e= .returned (.bool false)/\W=w' from by rw[hc0];exact hsp ▸ space_any c W)
    have HPf:=Lib.hid (fun W=>show Calls Tryz.prog 45 #[.string U,.string ⟨#[47,42]⟩] W fun e w'=>e= .returned (.bool (decide (c.toNat=47)&&hd (fun d=>decide (d.toNat=42)) r))/\w'=W from by
     have:=Tryz.strings_HasPrefix U ⟨#[47,42]⟩ W
     rw[show(⟨#[47,42]⟩:ByteArray).data.toList=[47,42]from rfl,hUd,pre_slash]at this;exact this)
    have HB:Hid (blkM 0 (c::r)=if c.toNat=47/\hd (fun d=>decide (d.toNat=42)) r=true then blkM 1 r else c::r):=by show _=_;simp only[blkM,hsp,Bool.false_eq_true,if_false]
    by_cases h47:c.toNat=47/\hd (fun d=>decide (d.toNat=42)) r=true
    ·rw[decide_eq_true h47.1,h47.2]at HPf
     rw[if_pos h47]at HB
     have HPf2:=Lib.hid HPf.out
     obtain⟨d,r2,hr⟩: ∃d r2,r=d::r2:=by
      cases r with
      |nil=>simp[hd]at h47
      |cons d r2=>exact⟨d,r2,rfl⟩
     have he2:U.extract 2 U.size=⟨r2.toArray⟩:=by rw[str_drop,hUd,hr];rfl
     have hU2:2<=U.size:=by rw[hUs,hr];simp
     have HC:Hid (∀Y,∃a b,Calls Tryz.prog 239 #[.string (U.extract 2 U.size),.string ⟨#[42,47]⟩] ((w.grow X).grow Y) (Ret (.tuple #[.string a,.string ⟨(cutR r2).toArray⟩,.bool b]) ((w.grow X).grow Y))):=fun Y=>by
      have:=cut_any (U.extract 2 U.size) ((w.grow X).grow Y) ((HW.out.grow X).grow Y) (by rw[ByteArray.size_extract];omega)
      rwa[he2]at this ⊢
     have HC2:Hid (∃a b,Calls Tryz.prog 239 #[.string (U.extract 2 U.size),.string ⟨#[42,47]⟩] (w.grow X) (Ret (.tuple #[.string a,.string ⟨(cutR r2).toArray⟩,.bool b]) (w.grow X))):=by
      have:=cut_any (U.extract 2 U.size) (w.grow X) (HW.out.grow X) (by rw[ByteArray.size_extract];omega)
      rwa[he2]at this ⊢
     obtain⟨ca,cb,hcut2⟩:=HC2.out
     have HC3:=Lib.hid hcut2
     have HN:Hid (blkM 0 (cutR r2)=R):=by
      show _=_
      rw[<-HK.out,HB.out,hr,<-(cut_blk r2).1];rfl
     have HLn:Hid ((cutR r2).length<=r2.length):=(cut_blk r2).2
     have HL2:Hid (r.length=r2.length+1):=by show _=_;rw[hr];rfl
     clear hcut2 HC HC2 hUd hc0 hsp h47 hr hU HPf he2 he1 hUs hle
     go_wp2_with(first|(go_at_call 33;(with_reducible refine(HSp.out _).mono ?_);rintro e w' ⟨rfl,rfl⟩)|(go_at_call 45;(with_reducible refine(HPf2.out _).mono ?_);rintro e w' ⟨rfl,rfl⟩)|(go_at_call 239;(with_reducible refine HC3.out.mono ?_);rintro e w' ⟨rfl,X1,rfl⟩))
     go_roundw
     case rel=>exact⟨cutR r2,_,by have:=HL.out;have:=HL2.out;have:=HLn.out;omega,rfl,grow_grow w X X1,HN⟩
     case measure=>have:=HL2.out;have:=HLn.out;have:=HUs.out;show(cutR r2).length<U.size;omega
    ·rw[if_neg h47]at HB
     have HPf2:=Lib.hid (show ∀W,Calls Tryz.prog 45 #[.string U,.string ⟨#[47,42]⟩] W fun e w'=>e= .returned (.bool false)/\w'=W from by
      have h0:(decide (c.toNat=47)&&hd (fun d=>decide (d.toNat=42)) r)=false:=by
       rw[<-Bool.not_eq_true,Bool.and_eq_true,decide_eq_true_eq];exact h47
      rw[h0]at HPf;exact HPf.out)
     have HN:Hid (R=c::r):=by show _=_;rw[<-HK.out,HB.out]
     clear hUd hc0 hsp h47 hU HPf he1 hUs hle
     go_wp2_with(first|(go_at_call 33;(with_reducible refine(HSp.out _).mono ?_);rintro e w' ⟨rfl,rfl⟩)|(go_at_call 45;(with_reducible refine(HPf2.out _).mono ?_);rintro e w' ⟨rfl,rfl⟩))
     go_ret
     exact Ret.of (by rw[HN.out,HUU.out];rfl) bel
   ·have HSp:=Lib.hid (fun W=>show Calls Tryz.prog 33 #[.int .u8 U[0].toNat] W fun e w'=>e= .returned (.bool true)/\W=w' from by rw[hc0];exact hsp ▸ space_any c W)
    have HN:Hid (blkM 0 r=R):=by show _=_;rw[<-HK.out];simp only[blkM,hsp,if_true]
    clear hUd hc0 hsp hU hUs hle
    go_wp2_with(go_at_call 33;(with_reducible refine(HSp.out _).mono ?_);rintro e w' ⟨rfl,rfl⟩)
    go_roundw
    case rel=>exact⟨r,X,by have:=HL.out;omega,rfl,rfl,HN⟩
    case measure=>have:=HUs.out;show r.length<U.size;omega
def lenAt (w:World) (b:Nat):Nat:=match w.cell? ⟨b,0,none⟩with
 |some (.string t)=>t.size
 |_=>0
theorem lenAt_boxed {w:World} {b:Nat} {t:TypeId} {s:ByteArray} (h:Boxed w b t (.string s)):lenAt w b=s.size:=by
 unfold lenAt;rw[h.cell]
theorem pieces1_iterQ (s:Bs) (bs:Nat) (bw:Nat->Prop) (W:World) (hb:Boxed W bs 9 (.string ⟨s.toArray⟩)) (hbw: ¬bw bs) (hbw1: ¬bw 2) (hbs:bs≠2) (hx:Mx W) (hm:s.length<=1000000000):
  IterAt Tryz.prog 179 #[.pointer (some ⟨bs,0,none⟩)] (fun x=> #[Css.agg x]) (fun k=>k=bs) bw (cssL s) W:=by
 intro l J Jx hJ hY h0
 refine callsIn_of_wp Tryz.func179 rfl trivial ?_ rfl
 have hc:=hb.cell
 have hf:=hb.frozen
 have hlt1:=hb.lt
 have HB0:=Lib.hid (blank_anyQ s W hx hm)
 have HX0:=Lib.hid hx
 simp only[Tryz.ntmps179,List.size_toArray,List.length_cons,List.length_nil,Nat.reduceAdd,Nat.reduceSub,Array.replicate_succ,Array.replicate_zero,List.push_toArray,List.append_toArray,List.nil_append,List.cons_append]
 gi_wp2_with (gi_at_call 180;(with_reducible refine(callsIn_wide.2 HB0.out).mono ?_);rintro e w' ⟨rfl,X0,rfl⟩)
 clear hc hf
 gi_loopw [4] (fun _ wr=> ∃(t u:Bs) (pre:List Css),u.length<=s.length/\t=blkM 0 u/\Boxed wr bs 9 (.string ⟨t.toArray⟩)/\Mx wr/\J pre wr/\Hid (pre++cssL u=cssL s)) (fun _ wr=>lenAt wr bs)
 case atStart=>
  exact⟨_,s,[],Nat.le_refl _,rfl,Boxed.grow' (hb.set _) _,Mx.grow (Mx.turned (pv:=fun k=>k=bs) HX0.out (Turned.setCell (pv:=fun k=>k=bs) (Turned.refl _ _) (Or.inr rfl) _) (by omega)) _,hJ _ _ _ h0 tur,rfl⟩
 case round=>
  obtain⟨t,u,pre,hu,ht,hbx,hMx,hJs,HK⟩:=hrel
  have hc:=hbx.cell
  have hf:=hbx.frozen
  have hl1:=hbx.lt
  have hbl:=blk_len u 0
  rw[<-ht]at hbl
  cases t with
  |nil=>
   have HE:Hid (pre=cssL s):=by
    show _=_
    rw[<-HK.out,scan_nil ht.symm,List.append_nil]
   clear HK
   gi_wp2
   go_end0
   exact⟨⟨_,rfl⟩,.inl (HE.out ▸ hJs)⟩
  |cons c r=>
   have HS:=Lib.hid (scan_cons ht.symm)
   obtain⟨n1,n2,_⟩:=piece_kinds (s:=c::r) (by simp) (x:=(pieceC (c::r)).1) (n:=(pieceC (c::r)).2) rfl
   have HP:=Lib.hid (fun W=>piece_anyQ (c::r) W (by omega) (by simp))
   generalize pieceC (c::r)=xn at*
   obtain⟨x,n⟩:=xn
   simp only at HS HP n1 n2
   obtain⟨U,hU⟩: ∃U:ByteArray,⟨(c::r).toArray⟩=U:=⟨_,rfl⟩
   have hUs:U.size=(c::r).length:=by rw[<-hU];rfl
   have hUd:U.data.toList=c::r:=by rw[<-hU]
   have hUe:=ba_full (a:=U) (by rw[hUs];simp)
   have hnU:n<=U.size:=by omega
   obtain⟨v,hv⟩: ∃v,(c::r).drop n=v:=⟨_,rfl⟩
   have hvl:v.length+1<=(c::r).length:=by rw[<-hv,List.length_drop];omega
   obtain⟨V,hV⟩: ∃V:ByteArray,⟨v.toArray⟩=V:=⟨_,rfl⟩
   have he1:U.extract n U.size=V:=by rw[str_drop,hUd,hv,hV]
   have HX:Hid (pre++[x]++cssL v=cssL s):=by
    show _=_
    rw[<-HK.out,HS.out,List.append_assoc,<-hv];rfl
   rw[hU]at hbx hc HP
   simp only[Css.agg,sv]at HP
   have HA:Hid (#[Css.agg x]= #[.agg #[.int .i64 x.kind,.string ⟨x.text.toArray⟩,.int .i64 x.num,.string ⟨x.unit.toArray⟩]]):=rfl
   have HVv:=Lib.hid hV
   have HL:Hid (v.length+1<=(c::r).length/\(c::r).length<=u.length):=⟨hvl,hbl⟩
   have HUs:=Lib.hid hUs
   have hbx0:=hbx
   have HM:=Lib.hid hMx
   have HUm:Hid (u.length<=1000000000):=by show _<=_;omega
   clear hU hUs hUd hv hV HS ht hMx hbl hvl n2
   gi_wp2_with (gi_at_call 181;(with_reducible refine(callsIn_wide.2 (HP.out _)).mono ?_);rintro e w' ⟨rfl,X1,rfl⟩)
   clear hc hf
   refine upon_yield (hY pre x _ ⟨_,HX.out⟩ (hJ _ _ _ hJs tur)) (by rw[HA.out]) ?_
   rintro e W3 (⟨rfl,hJ3,ht3⟩|⟨rfl,hJx⟩)
   ·refine⟨_,rfl, ?_⟩
    have hb3:=ht3.boxed (t:=9) (v:= .string U) (by repeat(first|with_reducible assumption|(with_reducible refine @Boxed.set _ _ _ ?_ _ ?_;rotate_left)|(with_reducible refine Boxed.oth ?_ (by first|omega|(simp[go_sem]<;>omega)) _)|with_reducible refine Boxed.grow' ?_ _|with_reducible refine Boxed.alloc ?_ _|with_reducible refine Boxed.drew' ?_)) hbw
    have hM3:Mx W3:=Mx.turned (Mx.turned (pv:=fun k=>k=bs) HM.out tur (by omega)) ht3 hbw1
    have hc3:=hb3.cell
    have hf3:=hb3.frozen
    have hl3:=hb3.lt
    have hM4:Mx (W3.setCell ⟨bs,0,none⟩ (.string V)):=Mx.turned (pv:=fun k=>k=bs) hM3 (Turned.setCell (pv:=fun k=>k=bs) (Turned.refl _ _) (Or.inr rfl) _) (by omega)
    have HB4:=Lib.hid (HVv.out ▸ blank_anyQ v (W3.setCell ⟨bs,0,none⟩ (.string V)) hM4 (by have:=HL.out;have:=HUm.out;omega))
    have HM4:=Lib.hid hM4
    clear hbx hM3 hM4
    go_simp
    gi_wp2_with (gi_at_call 180;(with_reducible refine(callsIn_wide.2 HB4.out).mono ?_);rintro e w' ⟨rfl,X4,rfl⟩)
    go_roundw
    case rel=>
     refine⟨_,v,pre++[x],by have:=HL.out;omega,rfl,(by repeat(first|with_reducible assumption|(with_reducible refine @Boxed.set _ _ _ ?_ _ ?_;rotate_left)|(with_reducible refine Boxed.oth ?_ (by first|omega|(simp[go_sem]<;>omega)) _)|with_reducible refine Boxed.grow' ?_ _|with_reducible refine Boxed.alloc ?_ _|with_reducible refine Boxed.drew' ?_)), ?_,hJ _ _ _ hJ3 tur,HX⟩
     exact Mx.turned (pv:=fun k=>k=bs) HM4.out tur (by omega)
    case measure=>
     have h1:=lenAt_boxed (Boxed.grow' ((hb3.set (.string V)).set (.string ⟨(blkM 0 v).toArray⟩)) X4)
     have h2:=lenAt_boxed hbx0
     have h3:=blk_len v 0
     have h4:=HL.out
     rw[h1,h2,HUs.out]
     show(blkM 0 v).length<_
     omega
   ·refine⟨_,rfl, ?_⟩
    go_simp
    gi_wp2
    refine bodyPost_ret (results_none rfl _ _ _) rfl ?_
    exact⟨⟨_,rfl⟩,.inr ⟨pre,_,⟨_,HX.out⟩,hJx⟩⟩
theorem css_row:SlT Tryz.prog 42 72 (.agg #[.int .i64 0,.string ⟨#[]⟩,.int .i64 0,.string ⟨#[]⟩]) 4 48:=⟨by kernel_rfl,by kernel_rfl,by kernel_rfl,by decide⟩
def Css.cells (x:Css):List Value:=[.int .i64 x.kind,sv x.text,.int .i64 x.num,sv x.unit]
def cssCells (l:List Css):List Value:=l.flatMap Css.cells
theorem scan_few: ∀(f:Nat) (s:Bs),s.length<f->(cssF f s).length<=s.length:=by
 intro f
 induction f with
 |zero=>intro s h;omega
 |succ f ih=>
  intro s h
  simp only[cssF]
  have hl:=blk_len s 0
  cases hb:blkM 0 s with
  |nil=>simp
  |cons c r=>
   have hk:=(piece_kinds (s:=c::r) (by simp) (x:=(pieceC (c::r)).1) (n:=(pieceC (c::r)).2) rfl).1
   rw[hb]at hl
   have he:(c::r).length=r.length+1:=rfl
   have:=ih ((c::r).drop (pieceC (c::r)).2) (by rw[List.length_drop];omega)
   rw[List.length_drop]at this
   simp only[List.length_cons]
   omega
abbrev ScanIQ (w:World):=CollI w w.heap.size (w.heap.size+4) 42 72 4 Css.cells
theorem pieces0_any (s:ByteArray) (w:World):Calls Tryz.prog 99 #[.string s] w fun e w'=>e= .returned (.func (.func 179) #[] #[.pointer (some ⟨w.heap.size,0,none⟩)])/\w.alloc (.cells #[.string s] 9)=w':=by
 go_enter Tryz.func99,Tryz.ntmps99
 go_wp2
 go_ret
 exact⟨rfl,rfl⟩
theorem scanO_any (s:Bs) (w:World) (hw:Mx w) (hm:s.length<=1000000000):Calls Tryz.prog 37 #[.string ⟨s.toArray⟩] w (RetO w (cssL s).length 4 72 (cssCells (cssL s))):=by
 refine(callsIn_wide (n:=0)).1 ?_
 refine callsIn_of_wp_marks (n:=0) Tryz.func37 rfl trivial ?_ rfl
 simp only[Tryz.ntmps37,List.size_toArray,List.length_cons,List.length_nil,Nat.reduceAdd,Nat.reduceSub,Array.replicate_succ,Array.replicate_zero,List.push_toArray,List.append_toArray,List.nil_append,List.cons_append]
 have hfew:=scan_few _ s (Nat.lt_succ_self _)
 change(cssL s).length<=_ at hfew
 have h1:=hw.lt
 have HW:=Lib.hid hw
 gi_wp2_with (gi_at_call 99;refine(callsIn_wide.2 (pieces0_any _ _)).mono ?_;rintro e w' ⟨rfl,rfl⟩)
 refine wp_range (B:=w.heap.size+2) (by simp) rfl (enters_of Tryz.func179 (by kernel_rfl) rfl) (encs:=fun x=> #[Css.agg x]) (fun _=>rfl) (xs:=cssL s) (fun k=>k=w.heap.size+1)
  (fun k=>k=w.heap.size\/w.heap.size+4<=k) (by intro k hk;omega) (by intro k hk;omega) (ScanIQ w) (fun _ _ _=>False) ?hI ?hIx ?h0 ?hiter ?hround ?hdone ?hstop
 case hI=>
  intro pre A C h ht
  exact h.turned ht (by omega) (by intro k hk;omega) (by intro k hk;omega)
 case hIx=>intro c pre A C h _;exact h.elim
 case h0=>exact⟨⟨_,(Boxed.new w 42 (.slice none 0 0)).alloc (.cells #[.string ⟨s.toArray⟩] 9),World.ownsRow_nil _ _ _ _⟩,bel⟩
 case hiter=>
  intro o1 o2
  have b5:=(Boxed.new (w.alloc (.cells #[.slice none 0 0] 42)) 9 (.string ⟨s.toArray⟩)).alloc o1 |>.alloc o2
  simp only[World.size_alloc]at b5
  exact pieces1_iterQ s _ _ _ b5 (by omega) (by omega) (by omega) (Mx.turned (pv:=fun _=>False) HW.out tur (fun h=>h)) hm
 case hround=>
  rintro l pre x A hx ⟨_,hBA⟩ hsz
  have HAx:Hid (#[Css.agg x]= #[.agg #[.int .i64 x.kind,.string ⟨x.text.toArray⟩,.int .i64 x.num,.string ⟨x.unit.toArray⟩]]):=rfl
  rw[HAx.out]
  gi_wp2
  refine⟨(Turned.refl _ _).alloc _,fun A2 ht hI2 hs2=> ?_⟩
  have hx2:A2.heap[A.heap.size]? =some (.cells #[.int .i64 x.kind,.string ⟨x.text.toArray⟩,.int .i64 x.num,.string ⟨x.unit.toArray⟩] 72):=(ht.block _ (by simp) (by omega)).trans (World.alloc_heap_new A _)
  have c0:A2.cell? ⟨A.heap.size,0,none⟩=some (.int .i64 x.kind):=by simp[World.cell?,hx2]
  have c1:A2.cell? ⟨A.heap.size,1,none⟩=some (.string ⟨x.text.toArray⟩):=by simp[World.cell?,hx2]
  have c2:A2.cell? ⟨A.heap.size,2,none⟩=some (.int .i64 x.num):=by simp[World.cell?,hx2]
  have c3:A2.cell? ⟨A.heap.size,3,none⟩=some (.string ⟨x.unit.toArray⟩):=by simp[World.cell?,hx2]
  obtain⟨⟨v,bv,ho⟩,hB⟩:=hI2
  have d4:=bv.cell
  have e4:=bv.frozen
  have HX:=Lib.hid hx
  have HB:=Lib.hid hB
  have hlen2:pre.length+1<=1000000000:=by
   have h1:=hx.length_le
   simp at h1;omega
  have hs3:w.heap.size+4<=A2.heap.size:=by rw[hs2];simp;omega
  clear hx hB hs2 ht hx2
  gi_wp2_with (gi_at_builtin;go_loud(refine appendIn_turn rfl _ _ 42 rfl css_row (w.heap.size+4) rfl (ho.alloc _) (by simp;omega) ⟨_,0,none⟩ 0 1 (Css.cells x) rfl rfl (new_cells (c:= #[.int .i64 x.kind,sv x.text,.int .i64 x.num,sv x.unit]) (by simp[go_sem])) (by simp[Css.cells,sv,Value.oneCell']) (by unfold maxLen;omega) (by omega) ?_);intro g cap W' ho' ht';have bv':=ht'.boxed (bv.alloc _) (by omega);have d5:=bv'.cell;have e5:=bv'.frozen)
  have h3:=CollI.put (x:=x) (HB.out.trans ((Below.refl _ _).alloc HB.out.size _)) (bv.alloc _) ho' rfl ht' (by omega) (Nat.le_refl _)
  exact⟨(((Turned.refl _ _).alloc _).trans h3.1),h3.2⟩
 case hdone=>
  rintro W ⟨⟨v,bv,ho⟩,hB⟩ hK
  have d1:=bv.cell
  gi_wp2
  have hT:Turned (fun k=>k=w.heap.size+2) W (W.putObj (w.heap.size+2) (.deferred none)):=Turned.putObj (pv:=fun k=>k=w.heap.size+2) (Turned.refl _ _) (Or.inr rfl) _
  refine⟨by simp,.inl ⟨_,_,rfl,run_takeDeferred hK, ?_⟩⟩
  refine⟨v,by simp[results,Tryz.results37,go_sem], ?_⟩
  exact RetO.own (hB.trans (hT.below hB.size (fun k hk=>by omega))) (hT.own ho (fun k hk=>by omega)) (by omega)
 case hstop=>intro c pre x W _ h;exact h.elim
theorem scan_anyQ (s:Bs) (w:World) (hw:Mx w) (hm:s.length<=1000000000):Calls Tryz.prog 37 #[.string ⟨s.toArray⟩] w (RetS w (cssL s).length 4 (cssCells (cssL s))):=(scanO_any s w hw hm).mono fun _ _ h=>h.s
abbrev Tb (w:World):Prop:=Lib.TabIs Tryz.prog w "internal/strconv.uint64pow10" .u64 Lib.pow10Tab
theorem Tb.grow {w:World} (h:Tb w) (X:Gr):Tb (w.grow X):=by
 unfold Tb Lib.TabIs World.var? at*
 cases hg:Tryz.prog.globalNamed "internal/strconv.uint64pow10" with
 |none=>rw[hg]at h;simp at h
 |some g=>
  rw[hg]at h
  simp only[Option.bind_some]at h ⊢
  cases hh:w.heap[g]? with
  |none=>rw[hh]at h;simp at h
  |some o=>rw[heap_grow_old w X hh];rw[hh]at h;exact h
theorem fig_dec: ∀(f n:Nat),n<10 ^ (f+1)->figF f n=Lib.decDigits n:=by
 intro f
 induction f with
 |zero=>
  intro n h
  have h1:n<10:=by simpa using h
  rw[Lib.decDigits,dif_pos h1]
  show [fgB (n%10)]=_
  rw[Nat.mod_eq_of_lt h1];rfl
 |succ f ih=>
  intro n h
  rw[Lib.decDigits]
  simp only[figF]
  by_cases h1:n<10
  ·rw[if_pos h1,dif_pos h1];rfl
  ·rw[if_neg h1,dif_neg h1,ih _ (by rw[Nat.pow_succ]at h;omega)];rfl
theorem itoa_fig (n:Nat) (h:n<1000000000000000000000):Lib.itoa (n:Int)=figL n:=by
 rw[Lib.itoa_nonneg];exact(fig_dec 20 n (by omega)).symm
theorem frac_trim (p:Nat) (h0:p≠0) (h:p<1000):46::Lib.trimRightB ((Lib.itoa ((1000+p:Nat):Int)).drop 1) 48=fracL p:=by
 have hd: ∀q:Fin 1000,q.val≠0->46::Lib.trimRightB ((figF 3 (1000+q.val)).drop 1) 48=fracL q.val:=by decide+kernel
 rw[Lib.itoa_nonneg,<-fig_dec 3 _ (by omega)]
 exact hd ⟨p,h⟩ h0
theorem format_any (n:Int) (W:World) (hW:Tb W) (h0: -9223372036854775808<=n) (h1:n<=9223372036854775807):Calls Tryz.prog 273 #[.int .i64 n,.int .i64 10] W (Ret (.string ⟨(Lib.itoa n).toArray⟩) W):=
 (Tryz.strconv_FormatInt_10 n h0 h1 W hW).mono fun _ _ ⟨h1,k,os,h2⟩=>⟨h1,⟨os,W.drawn+k⟩,h2⟩
theorem fig_len (n:Nat) (h:n<1000000000000000000000):(figL n).length<=21:=figF_len 20 n 21 (by omega) (by omega)
theorem figures_any (n:Int) (w:World) (hw:Tb w) (h0: -9223372036854775808<=n) (h1:n<=9223372036854775807):Calls Tryz.prog 238 #[.int .i64 n] w (Ret (.string ⟨(figuresL n).toArray⟩) w):=by
 obtain⟨q,hq⟩: ∃q,n.natAbs/1000=q:=⟨_,rfl⟩
 obtain⟨p,hp⟩: ∃p,n.natAbs%1000=p:=⟨_,rfl⟩
 have hp3:p<1000:=by omega
 have hq3:q<=9223372036854775:=by omega
 have HF:=Lib.hid (fun W (hW:Tb W)=>show Calls Tryz.prog 273 #[.int .i64 q,.int .i64 10] W (Ret (.string ⟨(figL q).toArray⟩) W)from by
  have:=format_any q W hW (by omega) (by omega)
  rwa[itoa_fig q (by omega)]at this)
 have HW:=Lib.hid hw
 obtain⟨F,hF⟩: ∃F:ByteArray,⟨(figL q).toArray⟩=F:=⟨_,rfl⟩
 have hFs:F.size<=21:=by rw[<-hF];exact fig_len q (by omega)
 have HG:Hid (figuresL n=sgL n++(figL q++fracL p)):=by show _=_;rw[fig_split,hq,hp]
 have HFd:Hid (F.data.toList=figL q):=by show _=_;rw[<-hF]
 rw[hF]at HF
 clear hF
 obtain⟨G,hG⟩: ∃G:ByteArray,⟨(Lib.itoa ((1000+p:Nat):Int)).toArray⟩=G:=⟨_,rfl⟩
 have HF2:=Lib.hid (fun W (hW:Tb W)=>show Calls Tryz.prog 273 #[.int .i64 (1000+(p:Int)),.int .i64 10] W (Ret (.string G) W)from by
  have:=format_any ((1000+p:Nat):Int) W hW (by omega) (by omega)
  rw[hG]at this;rwa[show((1000+p:Nat):Int)=1000+(p:Int) by omega]at this)
 have hGl:G.size=4:=by
  rw[<-hG]
  show(Lib.itoa ((1000+p:Nat):Int)).length=4
  have hd: ∀q:Fin 1000,(figF 3 (1000+q.val)).length=4:=by decide+kernel
  rw[Lib.itoa_nonneg,<-fig_dec 3 _ (by omega)]
  exact hd ⟨p,hp3⟩
 have hG1:1<=G.size:=by omega
 obtain⟨H,hH⟩: ∃H:ByteArray,⟨(Lib.trimRightB ((Lib.itoa ((1000+p:Nat):Int)).drop 1) 48).toArray⟩=H:=⟨_,rfl⟩
 have HT:=Lib.hid (fun W=>show Calls Tryz.prog 66 #[.string (G.extract 1 G.size),.string ⟨#[48]⟩] W fun e w'=>e= .returned (.string H)/\w'=W from by
  have:=Tryz.strings_TrimRight_one (G.extract 1 G.size) 48 (by decide) W (by rw[ByteArray.size_extract];omega)
  rw[extract_dropQ,<-hG]at this
  rw[<-hH,<-hG];exact this)
 have hHs:H.size<=4:=by
  rw[<-hH]
  show(Lib.trimRightB _ _).length<=4
  have:(Lib.trimRightB ((Lib.itoa ((1000+p:Nat):Int)).drop 1) 48).length<=((Lib.itoa ((1000+p:Nat):Int)).drop 1).length:=by
   unfold Lib.trimRightB
   rw[List.length_reverse]
   exact Nat.le_trans (List.dropWhile_sublist _).length_le (by rw[List.length_reverse];exact Nat.le_refl _)
  have h4:(Lib.itoa ((1000+p:Nat):Int)).length=4:=by rw[<-hGl,<-hG];rfl
  rw[List.length_drop,h4]at this;omega
 have HHd:Hid (p≠0->46::H.data.toList=fracL p):=fun h=>by rw[<-hH];exact frac_trim p h hp3
 clear hG hH hGl
 have go: ∀sgn:ByteArray,sgn.data.toList=sgL n->sgn.size<=1->True:=fun _ _ _=>trivial
 clear go
 by_cases hn:n<0
 ·have e1:Int.tdiv n 1000= -(q:Int):=by
   rw[show n= -((n.natAbs:Nat):Int) by omega,Int.neg_tdiv,Int.tdiv_eq_ediv_of_nonneg (by omega)];omega
  have e2:Int.tmod n 1000= -(p:Int):=by
   rw[show n= -((n.natAbs:Nat):Int) by omega,Int.neg_tmod,Int.tmod_eq_emod_of_nonneg (by omega)];omega
  have HS:Hid (sgL n=[45]):=by show _=_;unfold sgL;rw[if_pos hn]
  by_cases hp0:p=0
  ·have HN:Hid (figuresL n=45::figL q):=by show _=_;rw[HG.out,HS.out,hp0];simp[fracL]
   have b0:((p:Int)==0)=true:=by simp[hp0]
   have b1:(p:Int)=0:=by omega
   clear hq hp
   go_enter Tryz.func238,Tryz.ntmps238
   go_wp2_with(go_at_call 273;(with_reducible refine(HF.out _ HW.out).mono ?_);rintro e w' ⟨rfl,X1,rfl⟩)
   go_ret
   exact Ret.of (str_eq (by rw[ByteArray.data_append,Array.toList_append,HFd.out,HN.out];rfl)) bel
  ·have HN:Hid (figuresL n=45::(figL q++46::H.data.toList)):=by show _=_;rw[HG.out,HS.out,HHd.out hp0];rfl
   have b0:((p:Int)==0)=false:=by simp[hp0]
   have b1: ¬(p:Int)=0:=by omega
   clear hq hp
   go_enter Tryz.func238,Tryz.ntmps238
   go_wp2_with(first|(go_at_call 273;(with_reducible refine(HF.out _ HW.out).mono ?_);rintro e w' ⟨rfl,X1,rfl⟩)|(go_at_call 273;(with_reducible refine(HF2.out _ (HW.out.grow _)).mono ?_);rintro e w' ⟨rfl,X2,rfl⟩)|(go_at_call 66;(with_reducible refine(HT.out _).mono ?_);rintro e w' ⟨rfl,rfl⟩))
   go_ret
   exact Ret.of (str_eq (by simp only[ByteArray.data_append,Array.toList_append,HFd.out,HN.out];simp)) bel
 ·have e1:Int.tdiv n 1000=(q:Int):=by
   rw[Int.tdiv_eq_ediv_of_nonneg (by omega)];omega
  have e2:Int.tmod n 1000=(p:Int):=by
   rw[Int.tmod_eq_emod_of_nonneg (by omega)];omega
  have HS:Hid (sgL n=[]):=by show _=_;unfold sgL;rw[if_neg hn]
  by_cases hp0:p=0
  ·have HN:Hid (figuresL n=figL q):=by show _=_;rw[HG.out,HS.out,hp0];simp[fracL]
   have b0:((p:Int)==0)=true:=by simp[hp0]
   have b1:(p:Int)=0:=by omega
   clear hq hp
   go_enter Tryz.func238,Tryz.ntmps238
   go_wp2_with(go_at_call 273;(with_reducible refine(HF.out _ HW.out).mono ?_);rintro e w' ⟨rfl,X1,rfl⟩)
   go_ret
   exact Ret.of (str_eq (by first|(rw[ByteArray.data_append,Array.toList_append,HFd.out,HN.out];rfl)|(rw[HFd.out,HN.out]))) bel
  ·have HN:Hid (figuresL n=figL q++46::H.data.toList):=by show _=_;rw[HG.out,HS.out,HHd.out hp0];rfl
   have b0:((p:Int)==0)=false:=by simp[hp0]
   have b1: ¬(p:Int)=0:=by omega
   clear hq hp
   go_enter Tryz.func238,Tryz.ntmps238
   go_wp2_with(first|(go_at_call 273;(with_reducible refine(HF.out _ HW.out).mono ?_);rintro e w' ⟨rfl,X1,rfl⟩)|(go_at_call 273;(with_reducible refine(HF2.out _ (HW.out.grow _)).mono ?_);rintro e w' ⟨rfl,X2,rfl⟩)|(go_at_call 66;(with_reducible refine(HT.out _).mono ?_);rintro e w' ⟨rfl,rfl⟩))
   go_ret
   exact Ret.of (str_eq (by simp only[ByteArray.data_append,Array.toList_append,HFd.out,HN.out];simp)) bel
end Go.Proofs.YtiikamobcmgekaaGreatDoor
