/- Plain laws: pieces of steps are short; values under other names. -/
import Derived.Test.YtiikamobcmgekaaGreatDoorJCssR
import Derived.Lib.SliceRun
import Derived.Test.YtiikamobcmgekaaGreatDoorJDecD
import Derived.Test.YtiikamobcmgekaaGreatDoorJValH
namespace Go.Proofs.YtiikamobcmgekaaGreatDoor
set_option maxRecDepth 100000
set_option maxHeartbeats 4000000
open Go.RowKit Go.Shelf
attribute [local go_sem] Oper.semAt_some
theorem cloneF_anyQ (A:Option Addr) (n c:Nat) (l:List Css) (w:World) (h:Rd w (.slice A n c) l.length 4 (cssCells l)) (hA:A=none->c=0) (hl:l.length<=1000000000):
  Calls Tryz.prog 41 #[.slice A n c] w fun e w'=> ∃A' c',e= .returned (.slice A' l.length c')/\Below w.heap.size w w'/\Nn w' A' c'/\l.length<=c'/\Rd w' (.slice A' l.length c') l.length 4 (cssCells l):=by
 cases A with
 |some ad=>
  refine(cloneO_any ad n c l w h hl).mono ?_
  rintro e w' ⟨v,X,rfl,rfl,ho⟩
  obtain⟨A',c',rfl,hc⟩:=own_cap ho
  exact⟨A',c',rfl,below_grow w X,Nn.own ho,hc,Rd.own ho⟩
 |none=>
  have hn:l.length=n:=by obtain⟨_,_,_,_,he,_⟩:=h;cases he;rfl
  have h0:n=0:=by
   rcases Nat.eq_zero_or_pos n with h0|h0
   ·exact h0
   ·obtain⟨_,_,_,_,he,h4⟩:=h
    cases he
    obtain⟨_,_,h5,_⟩:=h4 (by omega)
    cases h5
  obtain rfl:l=[]:=List.eq_nil_of_length_eq_zero (by omega)
  subst h0
  obtain rfl:=hA rfl
  clear h hA hn
  have hnil: ∀W:World,(binOp .eql 42 (.slice none 0 0) (.slice none 0 0)).run Tryz.prog W= .ok (.bool true) W:=fun W=>Lib.run_eql_slice_nil W _ _ none 0 0 0 0 Tryz.underlying42
  go_enter Tryz.func41,Tryz.ntmps41
  go_wp2_with fail
  go_ret
  exact⟨none,0,rfl,bel,Nn.none _,Nat.le_refl _,Rd.nil _ _⟩
theorem nil_neat:neatOf []=[]/\neatE []=0:=by constructor<;>rfl
theorem moves16_any (A:Option Addr) (n c:Nat) (l:List Css) (w:World) (h:Rd w (.slice A n c) l.length 4 (cssCells l)) (hA:Nn w A c) (hc:l.length<=c) (hp: ∀x∈l,CssOk x) (hl:l.length<=100000000):Calls Tryz.prog 173 #[.slice A n c] w (RetV w (movesT l)):=by
 have hmx:=mxd
 have hn0:n=l.length:=by obtain⟨_,_,_,_,he,_⟩:=h;cases he;rfl
 subst hn0
 have HRd:=Lib.hid (fun W (hB:Below w.heap.size w W)=>show Rd W (.slice A l.length c) l.length 4 (cssCells l)from by obtain⟨X,rfl⟩:=grow_of_below hB;exact h.grow X)
 have HA:=Lib.hid (fun W (hB:Below w.heap.size w W)=>hA.below hB)
 have HSt:=Lib.hid (fun W (hB:Below w.heap.size w W)=>steps_any A l.length c l W (HRd.out W hB) hc hp hl)
 have HCx:Hid (cssCells [noneC]=[.int .i64 1,.string ⟨#[110,111,110,101]⟩,.int .i64 0,.string ⟨#[]⟩]):=rfl
 have HEq:=Lib.hid (fun W (hB:Below w.heap.size w W) A2 n2 c2 (hb:Rd W (.slice A2 n2 c2) 1 4 (cssCells [noneC]))=>equal_any A A2 l.length n2 c c2 l [noneC] W (HRd.out W hB) hb)
 rw[HCx.out]at HEq
 clear h hp
 have EQ: ∀d:Bool,d=d:=fun _=>rfl
 clear EQ
 by_cases hd:l=[noneC]
 ·rw[decide_eq_true hd]at HEq
  have HEq2:=Lib.hid HEq.out
  have HN:Hid (movesT l=some l):=by show _=_;unfold movesT;rw[if_pos hd,hd]
  clear hd HEq
  go_enter Tryz.func173,Tryz.ntmps173
  go_wp2_with(go_at_call 231;(refine(HEq2.out _ bel _ _ _ (lit4_rd (by simp[go_sem]))).mono ?_);rintro e w' ⟨rfl,X3,rfl⟩)
  go_ret2
  rw[HN.out]
  exact RetV.rd bel rfl rfl (HA.out _ bel) hc (HRd.out _ bel)
 rw[decide_eq_false hd]at HEq
 have HEq2:=Lib.hid HEq.out
 clear HEq
 have HM:Hid (movesT l=match stepsT l with
  |none=>none
  |some ss=>if neatE ss=0 then(if neatOf ss=[]then some [noneC]else some (piecesT (neatOf ss)))else none):=by show _=_;unfold movesT;rw[if_neg hd];rfl
 clear hd
 cases hs:stepsT l with
 |none=>
  rw[hs]at HM
  have HSt2:=Lib.hid (fun W (hB:Below w.heap.size w W)=>show Calls Tryz.prog 232 #[.slice A l.length c] W (fun e w'=> ∃v,e= .returned (.tuple #[v,.bool false])/\Below W.heap.size W w'/\Sl w' v [])from by
   have h9:=HSt.out W hB
   rw[hs]at h9
   exact h9.mono fun e w' ⟨v,X,h1,h2,h3⟩=>⟨v,h1,by rw[h2];exact below_grow _ _,by rw[h2];exact h3⟩)
  have HNe:=Lib.hid (fun v W (hv:Sl W v [])=>(neat_anyQ v [] W hv).mono fun e w' h=>RetL.abs h)
  rw[nil_neat.1,nil_neat.2]at HNe
  have HN:Hid (movesT l=none):=HM.out
  clear hs HSt HM HRd
  go_enter Tryz.func173,Tryz.ntmps173
  go_wp2_with(first
   |(go_at_call 231;(refine(HEq2.out _ bel _ _ _ (lit4_rd (by simp[go_sem]))).mono ?_);rintro e w' ⟨rfl,X3,rfl⟩)
   |(go_at_call 232;(refine(HSt2.out _ bel).mono ?_);rintro e W2 ⟨v2,rfl,hb2,hsl2⟩;have HS2:=Lib.hid hsl2;have HB2:=Lib.hid (below_next (show Below w.heap.size w _ from bel) hb2);clear hb2 hsl2)
   |(go_at_call 233;(refine(HNe.out _ _ HS2.out).mono ?_);rintro e W3 ⟨v3,rfl,hb3,hsl3⟩;have HB3:=Lib.hid (below_next HB2.out hb3);clear hb3 hsl3))
  go_ret2
  rw[HN.out]
  exact RetV.no HB3.out rfl
 |some ss=>
  rw[hs]at HM
  have HSt2:=Lib.hid (fun W (hB:Below w.heap.size w W)=>show Calls Tryz.prog 232 #[.slice A l.length c] W (fun e w'=> ∃v,e= .returned (.tuple #[v,.bool true])/\Below W.heap.size W w'/\Sl w' v ss)from by
   have h9:=HSt.out W hB
   rw[hs]at h9
   exact h9.mono fun e w' ⟨v,X,h1,h2,h3⟩=>⟨v,h1,by rw[h2];exact below_grow _ _,by rw[h2];exact h3⟩)
  have HNe:=Lib.hid (fun v W (hv:Sl W v ss)=>(neat_anyQ v ss W hv).mono fun e w' h=>RetL.abs h)
  have HM2:Hid (movesT l=if neatE ss=0 then(if neatOf ss=[]then some [noneC]else some (piecesT (neatOf ss)))else none):=HM.out
  clear hs HSt HM HRd
  by_cases he:neatE ss=0
  ·have hnl:=(neat_law ss he).1
   rw[if_pos he]at HM2
   rw[he]at HNe
   by_cases hn0:neatOf ss=[]
   ·have HN:Hid (movesT l=some [noneC]):=by show _=_;rw[HM2.out,if_pos hn0]
    rw[hn0]at HNe
    clear HM2 hn0 hnl he
    go_enter Tryz.func173,Tryz.ntmps173
    go_upto_region 2 with fail
    refine name_world fun W0 hW0=> ?_
    have HB0:Hid (Below w.heap.size w W0):=by show Below _ _ _;rw[hW0];exact bel
    have hlt0:w.heap.size<W0.heap.size:=by rw[hW0];simp
    have k0:W0.cell? ⟨w.heap.size,0,none⟩=some (.int .i64 1):=by rw[hW0];simp[go_sem]
    have k1:W0.cell? ⟨w.heap.size,1,none⟩=some (.string ⟨#[110,111,110,101]⟩):=by rw[hW0];simp[go_sem]
    have k2:W0.cell? ⟨w.heap.size,2,none⟩=some (.int .i64 0):=by rw[hW0];simp[go_sem]
    have k3:W0.cell? ⟨w.heap.size,3,none⟩=some (.string ⟨#[]⟩):=by rw[hW0];simp[go_sem]
    clear hW0
    go_wp2_with(first
     |(go_at_call 231;(refine(HEq2.out _ (below_next HB0.out bel) _ _ _ (lit4_rd (by simp[go_sem]))).mono ?_);rintro e w' ⟨rfl,X3,rfl⟩)
     |(go_at_call 232;(refine(HSt2.out _ (below_next HB0.out bel)).mono ?_);rintro e W2 ⟨v2,rfl,hb2,hsl2⟩;have HS2:=Lib.hid hsl2;have HB2:=Lib.hid (below_next (show Below W0.heap.size W0 _ from bel) hb2);clear hb2 hsl2)
     |(go_at_call 233;(refine(HNe.out _ _ HS2.out).mono ?_);rintro e W3 ⟨v3,rfl,hb3,hsl3⟩;have HB3:=Lib.hid (below_next HB2.out hb3);obtain⟨a3,cap3,rfl,_,_⟩:=hsl3;have r0:=(HB3.out.cell hlt0).trans k0;have r1:=(HB3.out.cell hlt0).trans k1;have r2:=(HB3.out.cell hlt0).trans k2;have r3:=(HB3.out.cell hlt0).trans k3;clear hb3))
    go_ret2
    rw[HN.out]
    exact RetV.own (n:=1) (below_next HB0.out (below_next HB3.out bel)) rfl rfl (own_lit (c:= #[.int .i64 1,.string ⟨#[110,111,110,101]⟩,.int .i64 0,.string ⟨#[]⟩]) (n:=1) (size:=4) rfl (by decide))
   ·have HN:Hid (movesT l=some (piecesT (neatOf ss))):=by show _=_;rw[HM2.out,if_neg hn0]
    have HPi:=Lib.hid (fun v W (hv:Sl W v (neatOf ss))=>show Calls Tryz.prog 234 #[v] W (RetV W (some (piecesT (neatOf ss))))from by
     have h9:=pieces16_any v (neatOf ss) W hv
     rw[hnl,if_pos rfl]at h9;exact h9)
    have hpos:0<(neatOf ss).length:=List.length_pos_iff.2 hn0
    have bz:(((neatOf ss).length:Int)==0)=false:=by rw[beq_eq_false_iff_ne];omega
    clear HM2 hn0 hnl he
    generalize neatOf ss=ns at*
    go_enter Tryz.func173,Tryz.ntmps173
    go_wp2_with(first
     |(go_at_call 231;(refine(HEq2.out _ bel _ _ _ (lit4_rd (by simp[go_sem]))).mono ?_);rintro e w' ⟨rfl,X3,rfl⟩)
     |(go_at_call 232;(refine(HSt2.out _ bel).mono ?_);rintro e W2 ⟨v2,rfl,hb2,hsl2⟩;have HS2:=Lib.hid hsl2;have HB2:=Lib.hid (below_next (show Below w.heap.size w _ from bel) hb2);clear hb2 hsl2)
     |(go_at_call 233;(refine(HNe.out _ _ HS2.out).mono ?_);rintro e W3 ⟨v3,rfl,hb3,hsl3⟩;have HB3:=Lib.hid (below_next HB2.out hb3);have HS3:=Lib.hid hsl3;obtain⟨a3,cap3,rfl,_,_⟩:=hsl3;clear hb3)
     |(go_at_call 234;(refine(HPi.out _ _ HS3.out).mono ?_);rintro e w' ⟨A4,c4,X4,rfl,rfl,hA4,hc4,hr4⟩;have HA4:=Lib.hid hA4;have HR4:=Lib.hid hr4;clear hA4 hr4))
    go_ret2
    rw[HN.out]
    exact RetV.rd (below_next HB3.out (below_grow _ _)) rfl rfl HA4.out hc4 HR4.out
  ·have HN:Hid (movesT l=none):=by show _=_;rw[HM2.out,if_neg he]
   have bz:(neatE ss !=0)=true:=by simpa using he
   clear HM2 he
   generalize neatE ss=er at*
   generalize neatOf ss=ns at*
   go_enter Tryz.func173,Tryz.ntmps173
   go_wp2_with(first
    |(go_at_call 231;(refine(HEq2.out _ bel _ _ _ (lit4_rd (by simp[go_sem]))).mono ?_);rintro e w' ⟨rfl,X3,rfl⟩)
    |(go_at_call 232;(refine(HSt2.out _ bel).mono ?_);rintro e W2 ⟨v2,rfl,hb2,hsl2⟩;have HS2:=Lib.hid hsl2;have HB2:=Lib.hid (below_next (show Below w.heap.size w _ from bel) hb2);clear hb2 hsl2)
    |(go_at_call 233;(refine(HNe.out _ _ HS2.out).mono ?_);rintro e W3 ⟨v3,rfl,hb3,hsl3⟩;have HB3:=Lib.hid (below_next HB2.out hb3);have HS3:=Lib.hid hsl3;obtain⟨a3,cap3,rfl,_,_⟩:=hsl3;clear hb3))
   go_ret2
   rw[HN.out]
   exact RetV.no HB3.out rfl
theorem val_at (o:Bool) (l:List Css) (k:Nat) (h:k<l.length):valF o (l.drop k)=if plainC l[k]then valF o (l.drop (k+1))else if !o&&colourC l[k]then valF true (l.drop (k+1))else if o&&decide (l[k]=mark1 41)then valF false (l.drop (k+1))else false:=by
 rw[List.drop_eq_getElem_cons h];rfl
theorem value16_any (nm:Bs) (A:Option Addr) (n c:Nat) (l:List Css) (w:World) (hw:Tb w) (hx:Mx w) (h:Rd w (.slice A n c) l.length 4 (cssCells l)) (hA:A=none->c=0) (hs:Short l) (hl:l.length<=100000000):
  Calls Tryz.prog 92 #[.string ⟨nm.toArray⟩,.slice A n c] w (RetV w (valueT nm l)):=by
 have hmx:=mxd
 have hn0:n=l.length:=by obtain⟨_,_,_,_,he,_⟩:=h;cases he;rfl
 subst hn0
 have HCl:=Lib.hid (cloneF_anyQ A l.length c l w h hA (by omega))
 have hp: ∀x∈l,CssOk x:=fun x hx=>(hs x hx).1
 have HP:=Lib.hid hp
 have HSh:=Lib.hid hs
 have HTM:=Lib.hid (fun W (hB:Below w.heap.size w W)=>And.intro (Tb.below hw hB) (Mx.below hx hB))
 clear h hA hs hw hx hp
 have hnz:((⟨nm.toArray⟩:ByteArray).toList==[116,114,97,110,115,102,111,114,109])=decide (nm=transT):=by rw[ByteArray.toList_eq,Bool.eq_iff_iff];exact beq_iff_eq.trans decide_eq_true_iff.symm
 by_cases h0:l=[]
 ·have HN:Hid (valueT nm l=none):=by show _=_;unfold valueT;rw[if_pos h0]
  have hl0:l.length=0:=by rw[h0];rfl
  rw[hl0]at HCl
  generalize(⟨nm.toArray⟩:ByteArray)=S at*
  rw[hl0]
  clear h0 hnz
  go_enter Tryz.func92,Tryz.ntmps92
  go_wp2_with(go_at_call 41;(with_reducible refine HCl.out.mono ?_);rintro e W1 ⟨A1,c1,rfl,hb1,_,_,_⟩;have HB1:=Lib.hid hb1;clear hb1)
  go_ret2
  rw[HN.out]
  exact RetV.no HB1.out rfl
 have hpos:0<l.length:=List.length_pos_iff.2 h0
 have b0:((l.length:Int)==0)=false:=by rw[beq_eq_false_iff_ne];omega
 by_cases ht:nm=transT
 ·have HN:Hid (valueT nm l=movesT l):=by show _=_;unfold valueT;rw[if_neg h0,if_pos ht]
  rw[decide_eq_true ht]at hnz
  have HMo:=Lib.hid (fun W A1 c1 (hr:Rd W (.slice A1 l.length c1) l.length 4 (cssCells l)) (hA:Nn W A1 c1) (hc:l.length<=c1)=>moves16_any A1 l.length c1 l W hr hA hc HP.out hl)
  generalize(⟨nm.toArray⟩:ByteArray)=S at*
  generalize movesT l=R at*
  clear h0 ht
  go_enter Tryz.func92,Tryz.ntmps92
  go_wp2_with(first
   |(go_at_call 41;(with_reducible refine HCl.out.mono ?_);rintro e W1 ⟨A1,c1,rfl,hb1,hA1,hc1,hr1⟩;have HB1:=Lib.hid hb1;have HM1:=Lib.hid (HMo.out W1 A1 c1 hr1 hA1 hc1);clear hb1 hA1 hr1)
   |(go_at_call 173;(with_reducible refine HM1.out.mono ?_);rintro e w' ⟨A2,c2,X2,rfl,rfl,hA2,hc2,hr2⟩;have HR2:=Lib.hid (And.intro hA2 (And.intro hc2 hr2));clear hA2 hc2 hr2))
  go_ret2
  rw[HN.out]
  obtain⟨Y,hY⟩:=grow_of_below (below_next HB1.out (below_grow _ X2))
  exact⟨A2,c2,Y,rfl,hY,by rw[<-hY];exact HR2.out.1,HR2.out.2.1,by rw[<-hY];exact HR2.out.2.2⟩
 have HN:Hid (valueT nm l=if valF false l then some l else none):=by show _=_;unfold valueT;rw[if_neg h0,if_neg ht]
 rw[decide_eq_false ht]at hnz
 obtain⟨D,hD⟩: ∃D,valF false l=D:=⟨_,rfl⟩
 have HD:=Lib.hid hD
 rw[hD]at HN
 generalize(⟨nm.toArray⟩:ByteArray)=S at*
 clear h0 ht hD
 go_enter Tryz.func92,Tryz.ntmps92
 go_wp2_with(go_at_call 41;(with_reducible refine HCl.out.mono ?_);rintro e W1 ⟨A1,c1,rfl,hb1,hA1,hc1,hr1⟩;have HBW:=Lib.hid hb1;have HR1:=Lib.hid hr1;have HA1:=Lib.hid hA1;clear hb1 hA1 hr1)
 go_loopw [6,24] (fun o i wr=> ∃(k:Nat) (ob:Bool),k<=l.length/\o= .bool ob/\i= .int .i64 k/\Hid (Below W1.heap.size W1 wr)/\Hid (D=valF ob (l.drop k))) (fun _ i _=>l.length-(intOf i).toNat)
 case atStart=>exact⟨0,false,by omega,rfl,rfl,Below.refl _ _,by show _=_;rw[List.drop_zero];exact HD.out.symm⟩
 case round=>
  obtain⟨k,ob,hk,rfl,rfl,HB,HV⟩:=hrel
  by_cases hlt:k<l.length
  ·have HRw:Hid (Rd wr (.slice A1 l.length c1) l.length 4 (cssCells l)):=by
    obtain⟨Y,hY⟩:=grow_of_below HB.out
    show Rd _ _ _ _ _
    rw[hY];exact HR1.out.grow Y
   obtain⟨b,off,rfl,hb,y0,y1,y2,y3⟩:=HRw.out.css k hlt
   have HS:=Lib.hid (HV.out.trans (val_at ob l k hlt))
   have hsx:=HSh.out _ (List.getElem_mem hlt)
   generalize l[k]=x at*
   obtain⟨hs1,hs2,hs3⟩:=hsx
   have HPl:=Lib.hid (fun W (hB:Below W1.heap.size W1 W)=>plain16_any x W (HTM.out W (below_next HBW.out hB)).1 (HTM.out W (below_next HBW.out hB)).2 hs1 hs2 hs3)
   have HCo:=Lib.hid (fun W=>colour16_any x W)
   have HMk:=Lib.hid (fun W=>mark16_any [41] W)
   have HMx:Hid (decide (x=mark1 41)=((x.kind==6)&&((⟨x.text.toArray⟩:ByteArray).toList==[41])&&(x.num==0)&&(⟨x.unit.toArray⟩:ByteArray).toList.isEmpty)):=by
    show _=_
    rw[css_eq,ba_emp]
    have z1:((⟨(mark1 41).text.toArray⟩:ByteArray).toList)=[41]:=by rw[ByteArray.toList_eq];rfl
    have z2:((⟨x.unit.toArray⟩:ByteArray).toList==(⟨(mark1 41).unit.toArray⟩:ByteArray).toList)=decide (x.unit=[]):=by rw[ba_bq];rfl
    rw[z1,z2];rfl
   simp only[Css.agg,sv]at HPl HCo HMk y0 y1 y2 y3
   generalize(⟨x.text.toArray⟩:ByteArray)=a1 at*
   generalize(⟨x.unit.toArray⟩:ByteArray)=a2 at*
   generalize x.num=nn at*
   generalize x.kind=kk at*
   have hsz:=HB.out.size
   clear hs1 hs2 hs3
   cases hpl:plainC x
   rotate_left
   ·rw[hpl]at HS HPl
    have HPl:=Lib.hid HPl.out
    clear hpl HCo HMk HMx
    go_wp2_with(go_at_call 174;(refine(HPl.out _ (below_next HB.out bel)).mono ?_);rintro e w' ⟨rfl,X1,rfl⟩)
    have HV2:Hid (D=valF ob (l.drop (k+1))):=by show _=_;rw[HS.out];rfl
    go_roundw
    case rel=>exact⟨k+1,ob,by omega,rfl,by go_num,below_next HB.out bel,HV2⟩
    case measure=>simp[intOf];omega
   rw[hpl]at HS HPl
   have HPl:=Lib.hid HPl.out
   clear hpl
   cases ob
   ·cases hco:colourC x
    ·rw[hco]at HS HCo
     have HCo:=Lib.hid HCo.out
     clear hco HMk HMx
     go_wp2_with(first|(go_at_call 174;(refine(HPl.out _ (below_next HB.out bel)).mono ?_);rintro e w' ⟨rfl,X1,rfl⟩)|(go_at_call 175;(with_reducible refine(HCo.out _).mono ?_);rintro e w' ⟨rfl,X2,rfl⟩))
     refine wp_region_grow (by kernel_rfl) (by kernel_rfl) ?_
     repeat(go_big_quiet_step(fail))
     refine wpQuiet_nil ?_
     intro _ hw';obtain⟨nq,hw''⟩:=hw';subst hw''
     go_wp2_with fail
     have HV2:Hid (D=false):=by show _=_;rw[HS.out];rfl
     go_ret2
     rw[HN.out,HV2.out]
     exact RetV.no (below_next HBW.out (below_next HB.out bel)) rfl
    ·rw[hco]at HS HCo
     have HCo:=Lib.hid HCo.out
     clear hco HMk HMx
     go_wp2_with(first|(go_at_call 174;(refine(HPl.out _ (below_next HB.out bel)).mono ?_);rintro e w' ⟨rfl,X1,rfl⟩)|(go_at_call 175;(with_reducible refine(HCo.out _).mono ?_);rintro e w' ⟨rfl,X2,rfl⟩))
     have HV2:Hid (D=valF true (l.drop (k+1))):=by show _=_;rw[HS.out];rfl
     go_roundw
     case rel=>exact⟨k+1,true,by omega,rfl,by go_num,below_next HB.out bel,HV2⟩
     case measure=>simp[intOf];omega
   ·clear HCo
    go_upto_region 14 with(go_at_call 174;(refine(HPl.out _ (below_next HB.out bel)).mono ?_);rintro e w' ⟨rfl,X1,rfl⟩)
    refine name_world fun W5 hW5=> ?_
    have HB5:Hid (Below wr.heap.size wr W5):=by show Below _ _ _;rw[hW5];exact bel
    have hlt5:wr.heap.size<W5.heap.size:=by rw[hW5];simp[go_sem]<;>omega
    have x0:W5.cell? ⟨wr.heap.size,0,none⟩=some (.int .i64 kk):=by rw[hW5];simp[go_sem]
    have x1:W5.cell? ⟨wr.heap.size,1,none⟩=some (.string a1):=by rw[hW5];simp[go_sem]
    have x2:W5.cell? ⟨wr.heap.size,2,none⟩=some (.int .i64 nn):=by rw[hW5];simp[go_sem]
    have x3:W5.cell? ⟨wr.heap.size,3,none⟩=some (.string a2):=by rw[hW5];simp[go_sem]
    clear hW5
    cases m0:(kk==6)
    ·have HMf:Hid (decide (x=mark1 41)=false):=by show _=_;rw[HMx.out,m0];try simp
     refine wp_region_grow (by kernel_rfl) (by kernel_rfl) ?_
     repeat(go_big_quiet_step(first|(go_at_call 176;with_reducible exact Calls.grow_of (HMk.out _))))
     refine wpQuiet_nil ?_
     intro _ hw';obtain⟨nq,hw''⟩:=hw';subst hw''
     go_wp2_with fail
     have HV2:Hid (D=false):=by show _=_;rw[HS.out,HMf.out];rfl
     go_ret2
     rw[HN.out,HV2.out]
     exact RetV.no (below_next HBW.out (below_next HB.out (below_next HB5.out bel))) rfl
    cases m1:(a1.toList==[41])
    ·have HMf:Hid (decide (x=mark1 41)=false):=by show _=_;rw[HMx.out,m0,m1];try simp
     refine wp_region_grow (by kernel_rfl) (by kernel_rfl) ?_
     repeat(go_big_quiet_step(first|(go_at_call 176;with_reducible exact Calls.grow_of (HMk.out _))))
     refine wpQuiet_nil ?_
     intro _ hw';obtain⟨nq,hw''⟩:=hw';subst hw''
     go_wp2_with fail
     have HV2:Hid (D=false):=by show _=_;rw[HS.out,HMf.out];rfl
     go_ret2
     rw[HN.out,HV2.out]
     exact RetV.no (below_next HBW.out (below_next HB.out (below_next HB5.out bel))) rfl
    cases m2:(nn==0)
    ·have HMf:Hid (decide (x=mark1 41)=false):=by show _=_;rw[HMx.out,m0,m1,m2];try simp
     refine wp_region_grow (by kernel_rfl) (by kernel_rfl) ?_
     repeat(go_big_quiet_step(first|(go_at_call 176;with_reducible exact Calls.grow_of (HMk.out _))))
     refine wpQuiet_nil ?_
     intro _ hw';obtain⟨nq,hw''⟩:=hw';subst hw''
     go_wp2_with fail
     have HV2:Hid (D=false):=by show _=_;rw[HS.out,HMf.out];rfl
     go_ret2
     rw[HN.out,HV2.out]
     exact RetV.no (below_next HBW.out (below_next HB.out (below_next HB5.out bel))) rfl
    cases m3:a2.toList.isEmpty
    ·have HMf:Hid (decide (x=mark1 41)=false):=by show _=_;rw[HMx.out,m0,m1,m2,m3];try simp
     refine wp_region_grow (by kernel_rfl) (by kernel_rfl) ?_
     repeat(go_big_quiet_step(first|(go_at_call 176;with_reducible exact Calls.grow_of (HMk.out _))))
     refine wpQuiet_nil ?_
     intro _ hw';obtain⟨nq,hw''⟩:=hw';subst hw''
     go_wp2_with fail
     have HV2:Hid (D=false):=by show _=_;rw[HS.out,HMf.out];rfl
     go_ret2
     rw[HN.out,HV2.out]
     exact RetV.no (below_next HBW.out (below_next HB.out (below_next HB5.out bel))) rfl
    have HMt:Hid (decide (x=mark1 41)=true):=by show _=_;rw[HMx.out,m0,m1,m2,m3];rfl
    refine wp_region_grow (by kernel_rfl) (by kernel_rfl) ?_
    repeat(go_big_quiet_step(first|(go_at_call 176;with_reducible exact Calls.grow_of (HMk.out _))))
    refine wpQuiet_nil ?_
    intro _ hw';obtain⟨nq,hw''⟩:=hw';subst hw''
    go_wp2_with fail
    have HV2:Hid (D=valF false (l.drop (k+1))):=by show _=_;rw[HS.out,HMt.out];rfl
    go_roundw
    case rel=>exact⟨k+1,false,by omega,rfl,by go_num,below_next HB.out (below_next HB5.out bel),HV2⟩
    case measure=>simp[intOf];omega
  ·have hkl:k=l.length:=by omega
   subst hkl
   have HE:Hid (D= !ob):=by show _=_;rw[HV.out,List.drop_length];rfl
   cases ob
   ·have HD1:Hid (D=true):=HE.out
    go_wp2_with fail
    go_ret2
    rw[HN.out,HD1.out]
    obtain⟨Y,hY⟩:=grow_of_below HB.out
    exact RetV.rd (below_next HBW.out HB.out) rfl rfl (HA1.out.below HB.out) hc1 (by rw[hY];exact HR1.out.grow Y)
   ·have HD1:Hid (D=false):=HE.out
    go_wp2_with fail
    go_ret2
    rw[HN.out,HD1.out]
    exact RetV.no (below_next HBW.out HB.out) rfl
theorem RetV.abs {w:World} {r:Option (List Css)} {e:Ending} {w':World} (h:RetV w r e w'): ∃A c,e= .returned (.tuple #[.slice A (r.getD []).length c,.bool r.isSome])/\Below w.heap.size w w'/\(A=none->c=0)/\(r.getD []).length<=c/\Rd w' (.slice A (r.getD []).length c) (r.getD []).length 4 (cssCells (r.getD [])):=by
 obtain⟨A,c,X,h1,rfl,h3,h4,h5⟩:=h
 exact⟨A,c,h1,below_grow w X,h3.1,h4,h5⟩
theorem RetT.abs {w:World} {r:Option (List St)} {e:Ending} {w':World} (h:RetT w r e w'): ∃a cap,e= .returned (.tuple #[.slice a (r.getD []).length cap,.bool r.isSome])/\Below w.heap.size w w'/\Sl w' (.slice a (r.getD []).length cap) (r.getD []):=by
 obtain⟨v,X,h1,rfl,h3⟩:=h
 have h4:=h3
 obtain⟨a,cap,rfl,_⟩:=h3
 exact⟨a,cap,h1,below_grow w X,h4⟩
theorem Rd.below' {w w':World} {v:Value} {n size:Nat} {xs:List Value} (h:Rd w v n size xs) (hb:Below w.heap.size w w'):Rd w' v n size xs:=by
 obtain⟨X,rfl⟩:=grow_of_below hb
 exact h.grow X
theorem Sl.below' {w w':World} {v:Value} {l:List St} (h:Sl w v l) (hb:Below w.heap.size w w'):Sl w' v l:=by
 obtain⟨X,rfl⟩:=grow_of_below hb
 exact h.grow X
open Go.RowKit
theorem told_short {s:St} (h:mayB s=true): ∀x∈toldT s,CssOk x/\x.text.length<=1000000/\x.unit.length<=1000000:=by
 have f: ∀t:Bs,t.length<=20->CssOk (fnC t)/\(fnC t).text.length<=1000000/\(fnC t).unit.length<=1000000:=fun t ht=>⟨⟨by simp[fnC],by simp[fnC],by simp[fnC],by simp[fnC]⟩,by simp[fnC];omega,by simp[fnC]⟩
 have n: ∀(a:Int) (u:Bs),a.natAbs<=999999->u.length<=20->CssOk (nuC a u)/\(nuC a u).text.length<=1000000/\(nuC a u).unit.length<=1000000:=fun a u ha hu=>⟨⟨by simp[nuC],by simp[nuC],by simp[nuC];omega,by simp[nuC];omega⟩,by simp[nuC],by simp[nuC];omega⟩
 have m: ∀k,CssOk (mark1 k)/\(mark1 k).text.length<=1000000/\(mark1 k).unit.length<=1000000:=fun k=>⟨⟨by simp[mark1],by simp[mark1],by simp[mark1],by simp[mark1]⟩,by simp[mark1],by simp[mark1]⟩
 obtain⟨k,a,b⟩:=s
 unfold mayB at h
 simp only at h
 intro x hx
 unfold toldT at hx
 simp only at hx
 split at h
 ·rename_i h1
  rw[if_pos h1]at hx
  simp only[Bool.and_eq_true]at h
  have ha:=near_abs h.1
  have hb:=near_abs h.2
  simp only[List.mem_cons,List.not_mem_nil,or_false]at hx
  rcases hx with rfl|rfl|rfl|rfl|rfl
  ·exact f _ (by decide)
  ·exact n _ _ (by omega) (by decide)
  ·exact m _
  ·exact n _ _ (by omega) (by decide)
  ·exact m _
 ·rename_i h1
  rw[if_neg h1]at hx
  split at h
  ·rename_i h2
   rw[if_pos h2]at hx
   simp only[Bool.and_eq_true]at h
   have ha:=near_abs h.1
   simp only[List.mem_cons,List.not_mem_nil,or_false]at hx
   rcases hx with rfl|rfl|rfl
   ·exact f _ (by decide)
   ·exact n _ _ (by omega) (by decide)
   ·exact m _
  ·rename_i h2
   rw[if_neg h2]at hx
   split at h
   ·rename_i h3
    rw[if_pos h3]at hx
    simp only[Bool.and_eq_true,decide_eq_true_eq]at h
    simp only[List.mem_cons,List.not_mem_nil,or_false]at hx
    rcases hx with rfl|rfl|rfl
    ·exact f _ (by decide)
    ·exact n _ _ (by omega) (by decide)
    ·exact m _
   ·rename_i h3
    rw[if_neg h3]at hx
    simp only[List.mem_cons,List.not_mem_nil,or_false]at hx
    rcases hx with rfl|rfl|rfl
    ·exact f _ (by decide)
    ·exact n _ _ (by omega) (by decide)
    ·exact m _
theorem pieces_short {ss:List St} (h:rightB ss=true):Short (piecesT ss)/\(piecesT ss).length<=40:=by
 obtain⟨h1,h2⟩:=right_may h
 refine⟨fun x hx=> ?_,by have:=pieces_len ss;omega⟩
 obtain⟨s,hs,hx⟩:=List.mem_flatMap.1 hx
 exact told_short (h1 s hs) x hx
theorem none_short:Short [noneC]:=fun x hx=>by
 rw[List.mem_singleton]at hx
 subst hx
 exact⟨⟨by decide,by decide,by decide,by decide⟩,by decide,by decide⟩
theorem moves_short {l a:List Css} (h:movesT l=some a):Short a/\a.length<=40:=by
 unfold movesT at h
 split at h
 ·cases h;exact⟨none_short,by decide⟩
 ·split at h
  ·cases h
  ·rename_i ss hss
   split at h
   ·rename_i he
    split at h
    ·cases h;exact⟨none_short,by decide⟩
    ·cases h;exact pieces_short (neat_law ss he).1
   ·cases h
end Go.Proofs.YtiikamobcmgekaaGreatDoor
