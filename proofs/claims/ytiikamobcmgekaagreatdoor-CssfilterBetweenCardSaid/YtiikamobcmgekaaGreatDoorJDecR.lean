/- Plain laws: how long the texts of declarations are; small laws of lists in memory. -/
import Derived.Test.YtiikamobcmgekaaGreatDoorJCssR
import Derived.Test.YtiikamobcmgekaaGreatDoorJDecF
import Derived.Test.YtiikamobcmgekaaGreatDoorJDecO
import Derived.Test.YtiikamobcmgekaaGreatDoorLB
import Derived.Test.YtiikamobcmgekaaGreatDoorRowU
import Derived.Test.YtiikamobcmgekaaGreatDoorJCssF
import Derived.Test.YtiikamobcmgekaaGreatDoorJDecG
namespace Go.Proofs.YtiikamobcmgekaaGreatDoor
set_option maxRecDepth 100000
set_option maxHeartbeats 4000000
open Go.RowKit Go.Shelf
attribute [local go_sem] Oper.semAt_some
def ShortD (d:Dcl):Prop:=Short d.value/\d.value.length<=10000/\d.name.length<=1000000
def idC (d:Dcl):Css:=⟨1,d.name,0,[]⟩
theorem right_D (d:Dcl):rightD d=(d.value.all rightC&&mayC d.value&&rightC (idC d)):=rfl
theorem dright_any (d:Dcl) (A:Option Addr) (c:Nat) (w:World) (hw:Tb w) (hx:Mx w) (hv:Rd w (.slice A d.value.length c) d.value.length 4 (cssCells d.value)) (hs:ShortD d):
  Calls Tryz.prog 93 #[.agg #[sv d.name,.slice A d.value.length c,.bool d.imp]] w (Ret (.bool (rightD d)) w):=by
 obtain⟨s1,s2,s3⟩:=hs
 obtain⟨D,hD⟩: ∃D,d.value.all rightC=D:=⟨_,rfl⟩
 obtain⟨M,hM⟩: ∃D,mayC d.value=D:=⟨_,rfl⟩
 obtain⟨R,hR⟩: ∃D,rightC (idC d)=D:=⟨_,rfl⟩
 have HE:Hid (rightD d=(D&&M&&R)):=by show _=_;rw[right_D,hD,hM,hR]
 obtain⟨Z,hZ⟩: ∃Z:ByteArray,⟨(if d.value.all rightC then textC d.value else []).toArray⟩=Z:=⟨_,rfl⟩
 have HT:=Lib.hid (fun W (hB:Below w.heap.size w W)=>show Calls Tryz.prog 94 #[.slice A d.value.length c] W (Ret (.tuple #[.string Z,.bool D]) W)from by
  obtain⟨X,rfl⟩:=grow_of_below hB
  have:=text_anyQ A d.value.length c d.value (w.grow X) (hw.grow X) (hx.grow X) (hv.grow X) s1 (by omega)
  rwa[hZ,hD]at this)
 have HM:=Lib.hid (fun(h1:D=true) W (hB:Below w.heap.size w W)=>show Calls Tryz.prog 40 #[.slice A d.value.length c] W (Ret (.bool M) W)from by
  obtain⟨X,rfl⟩:=grow_of_below hB
  have:=may_any A d.value.length c d.value (w.grow X) (hv.grow X) (fun x hx=>proper_right (List.all_eq_true.1 (hD.trans h1) x hx)) (by omega)
  rwa[hM]at this)
 have HR:=Lib.hid (fun W (hB:Below w.heap.size w W)=>show Calls Tryz.prog 177 #[.agg #[.int .i64 1,sv d.name,.int .i64 0,.string ⟨#[]⟩]] W (Ret (.bool R) W)from by
  have:=right_anyQ (idC d) W (hw.below hB) (hx.below hB) ⟨by simp[idC],by simp[idC],by simp[idC],by simp[idC]⟩ s3 (by simp[idC])
  rwa[hR]at this)
 rw[HE.out]
 generalize d.value.length=n at*
 simp only[sv]at HR ⊢
 generalize(⟨d.name.toArray⟩:ByteArray)=nm at*
 clear hD hM hR hv s1 s2 s3 hw hx hZ HE
 cases D
 ·have HT2:=Lib.hid HT.out
  clear HT
  go_enter Tryz.func93,Tryz.ntmps93
  go_wp2_with(go_at_call 94;(with_reducible refine(HT2.out _ bel).mono ?_);rintro e w' ⟨rfl,X1,rfl⟩)
  go_ret
  exact Ret.of rfl bel
 ·have HM2:=Lib.hid (HM.out rfl)
  have HT2:=Lib.hid HT.out
  clear HT HM
  cases M
  ·have HM3:=Lib.hid HM2.out
   clear HM2
   go_enter Tryz.func93,Tryz.ntmps93
   go_wp2_with(first|(go_at_call 94;(with_reducible refine(HT2.out _ bel).mono ?_);rintro e w' ⟨rfl,X1,rfl⟩)|(go_at_call 40;(with_reducible refine(HM3.out _ bel).mono ?_);rintro e w' ⟨rfl,X2,rfl⟩))
   go_ret
   exact Ret.of rfl bel
  ·have HM3:=Lib.hid HM2.out
   clear HM2
   go_enter Tryz.func93,Tryz.ntmps93
   go_wp2_with(first|(go_at_call 94;(with_reducible refine(HT2.out _ bel).mono ?_);rintro e w' ⟨rfl,X1,rfl⟩)|(go_at_call 40;(with_reducible refine(HM3.out _ bel).mono ?_);rintro e w' ⟨rfl,X2,rfl⟩)|(go_at_call 177;go_loud(with_reducible refine(HR.out _ bel).mono ?_);rintro e w' ⟨rfl,X3,rfl⟩))
   go_ret
   exact Ret.of (by cases R<;>rfl) bel
theorem join_s (us:List Bs):Lib.join us [59,32]=joinS us:=by
 induction us with
 |nil=>rfl
 |cons u us ih=>
  cases us with
  |nil=>simp[Lib.join,List.intercalate,joinS]
  |cons v vs=>
   rw[joinS,<-ih]
   simp[Lib.join,List.intercalate]
theorem strjoin2_any {W:World} {A:Option Addr} {n c:Nat} (us:List Bs) (h:Rd W (.slice A n c) us.length 1 (us.map sv)) (hc:us.length<=c) (hl:(joinS us).length<=140737488355328) (hn:us.length<=140737488355328):
  Calls Tryz.prog 43 #[.slice A n c,.string ⟨#[59,32]⟩] W (Ret (.string ⟨(joinS us).toArray⟩) W):=by
 obtain⟨h1,h2,A',c',he,h4⟩:=h
 cases he
 by_cases h0:us.length=0
 ·obtain rfl:us=[]:=List.eq_nil_of_length_eq_zero h0
  refine(Tryz.strings_Join_none A c _ W).mono ?_
  rintro e w' ⟨rfl,rfl⟩
  exact Ret.same rfl
 ·obtain⟨b,off,rfl,hb,hcell⟩:=h4 (by omega)
  have e1:(us.map fun u=>(⟨u.toArray⟩:ByteArray)).length=us.length:=by simp
  have e2:(us.map fun u=>(⟨u.toArray⟩:ByteArray)).map (·.data.toList)=us:=by
   rw[List.map_map]
   conv=>rhs;rw[<-List.map_id us]
   apply List.map_congr_left
   intro u _
   rfl
  have key:=Tryz.strings_Join b off c (us.map fun u=>(⟨u.toArray⟩:ByteArray)) ⟨#[59,32]⟩ W (fun j x hx=>by
   have hx2:(us.map sv)[j]? =some (.string x):=by
    rw[List.getElem?_map]at hx ⊢
    cases hj:us[j]? with
    |none=>rw[hj]at hx;cases hx
    |some u=>rw[hj]at hx;cases hx;rfl
   exact hcell j _ hx2) hb (by rw[e1];exact hn) (by rw[e1];exact hc) (by rw[e2,show(⟨#[59,32]⟩:ByteArray).data.toList=[59,32]from rfl,join_s];exact hl)
  rw[e1,e2]at key
  refine key.mono ?_
  rintro e w' ⟨rfl,hB⟩
  refine⟨?_,grow_of_below hB⟩
  show Ending.returned (.string ⟨(Lib.join us [59,32]).toArray⟩)=_
  rw[join_s]
theorem joinS_len (m:Nat): ∀(us:List Bs),(∀u∈us,u.length<=m)->(joinS us).length<=us.length*(m+2):=by
 intro us
 induction us with
 |nil=>intro _;simp[joinS]
 |cons u us ih=>
  intro h
  have h1:=h u (List.mem_cons_self ..)
  have h2:=ih (fun v hv=>h v (List.mem_cons_of_mem _ hv))
  cases us with
  |nil=>simp[joinS];omega
  |cons v vs=>
   simp only[joinS,List.length_append,List.length_cons]at h2 ⊢
   rw[Nat.succ_mul];omega
theorem textC_len {l:List Css} (hs:Short l) (hl:l.length<=10000):(textC l).length<=20000410000:=by
 have h1:=join_lenQ 2000040 (l.map toldC) (fun u hu=>by
  rw[List.mem_map]at hu
  obtain⟨x,hx,rfl⟩:=hu
  obtain⟨o1,o2,o3⟩:=hs x hx
  have:=told_len x o1
  omega)
 simp only[List.length_map]at h1
 change(textC l).length<=_ at h1
 omega
theorem toldD_len {d:Dcl} (hs:ShortD d):(toldD d).length<=20002000000:=by
 have:=textC_len hs.1 hs.2.1
 have h3:=hs.2.2
 simp only[toldD,List.length_append]
 have:(if d.imp then impS else []).length<=12:=by split<;>decide
 simp only[List.length_cons,List.length_nil]
 omega
theorem dtext_any (A:Option Addr) (n c:Nat) (l:List Dcl) (w:World) (hw:Tb w) (hx:Mx w) (h:RdD w (.slice A n c) l) (hs: ∀d∈l,ShortD d) (hl:l.length<=2000):
  Calls Tryz.prog 35 #[.slice A n c] w (Ret (.tuple #[.string ⟨(if l.all rightD then textD l else []).toArray⟩,.bool (l.all rightD)]) w):=by
 have HR:=Lib.hid h
 have HS:=Lib.hid hs
 obtain⟨vs0,_,_,hm,A',c',heq,_⟩:=h
 cases heq
 have HW:=Lib.hid hw
 have HX:=Lib.hid hx
 obtain⟨Z,hZ⟩: ∃Z:ByteArray,⟨(if l.all rightD then textD l else []).toArray⟩=Z:=⟨_,rfl⟩
 have HZ:=Lib.hid hZ
 obtain⟨D,hD⟩: ∃D,l.all rightD=D:=⟨_,rfl⟩
 have HD:=Lib.hid hD
 rw[hZ,hD]
 clear hs hw hx hZ hD
 go_enter Tryz.func35,Tryz.ntmps35
 go_wp2_with fail
 go_loopw [4,11] (fun v i wr=> ∃(k:Nat) (X:Gr),k<=l.length/\i= .int .i64 k/\wr=w.grow X/\(w.grow X).ownsRow w.heap.size 9 1 v k (((l.take k).map toldD).map sv)/\Hid ((l.take k).all rightD=true)) (fun _ i _=>l.length-(intOf i).toNat)
 case atStart=>exact⟨0,_,by omega,rfl,(grow_refl w).symm,by rw[grow_refl];exact World.ownsRow_nil _ _ _ _,rfl⟩
 case round=>
  obtain⟨k,X,hk,rfl,rfl,hown,HK⟩:=hrel
  by_cases hlt:k<l.length
  ·obtain⟨b,off,vd,rfl,hb,⟨Av,cv,rfl,_,hcv,hrd⟩,c0,c1,c2⟩:=HR.out.at k hlt
   have HL:=Lib.hid (show((l.take (k+1)).map toldD).map sv=((l.take k).map toldD).map sv++[sv (toldD l[k])] by rw[List.take_succ_eq_append_getElem hlt,List.map_append,List.map_append];rfl)
   have HAl:=Lib.hid (show(l.take (k+1)).all rightD=((l.take k).all rightD&&rightD l[k]) by rw[List.take_succ_eq_append_getElem hlt,List.all_append];simp)
   have HNo:=Lib.hid (show rightD l[k]=false->l.all rightD=false from fun h=>by
    rw[<-Bool.not_eq_true,List.all_eq_true];intro h2;rw[h2 _ (List.getElem_mem hlt)]at h;cases h)
   have hsd:=HS.out _ (List.getElem_mem hlt)
   generalize l[k]=d at*
   have htl:=textC_len hsd.1 hsd.2.1
   have hnl:=hsd.2.2
   have HRt:=Lib.hid (fun W (hB:Below w.heap.size w W)=>show Calls Tryz.prog 93 #[.agg #[sv d.name,.slice Av d.value.length cv,.bool d.imp]] W (Ret (.bool (rightD d)) W)from by
    obtain⟨X,rfl⟩:=grow_of_below hB
    exact dright_any d Av cv (w.grow X) (HW.out.grow X) (HX.out.grow X) (hrd.grow X) hsd)
   have HTo:=Lib.hid (fun(hr:rightD d=true) W (hB:Below w.heap.size w W)=>show Calls Tryz.prog 94 #[.slice Av d.value.length cv] W (Ret (.tuple #[.string ⟨(textC d.value).toArray⟩,.bool true]) W)from by
    obtain⟨X,rfl⟩:=grow_of_below hB
    have:=text_anyQ Av d.value.length cv d.value (w.grow X) (HW.out.grow X) (HX.out.grow X) (hrd.grow X) hsd.1 (by have:=hsd.2.1;omega)
    have h2:d.value.all rightC=true:=by
     rw[right_D,Bool.and_eq_true,Bool.and_eq_true]at hr;exact hr.1.1
    rwa[h2,if_pos rfl]at this)
   have HTl:Hid (sv (toldD d)=sv (d.name++[58,32]++textC d.value++(if d.imp then impS else []))):=rfl
   generalize hdi:d.imp=im at*
   generalize hdt:textC d.value=T0 at*
   generalize hdn:d.name=N0 at*
   generalize d.value.length=m at*
   simp only[sv]at HRt c0
   obtain⟨T,hT⟩: ∃S:ByteArray,⟨T0.toArray⟩=S:=⟨_,rfl⟩
   obtain⟨N,hN⟩: ∃S:ByteArray,⟨N0.toArray⟩=S:=⟨_,rfl⟩
   have hTs:T.size<=20000410000:=by rw[<-hT];exact htl
   have hNs:N.size<=1000000:=by rw[<-hN];exact hnl
   have HTN:Hid (T0=T.data.toList/\N0=N.data.toList):=by rw[<-hT,<-hN];exact⟨rfl,rfl⟩
   rw[hT]at HTo
   rw[hN]at HRt c0
   clear hT hN hsd hrd htl hnl hdi hdt hdn
   cases hr:rightD d
   ·have HN:=Lib.hid (HNo.out hr)
    rw[hr]at HRt
    have HRt2:=Lib.hid HRt.out
    clear HRt hr
    go_wp2_with(go_at_call 93;go_loud(with_reducible refine(HRt2.out _ bel).mono ?_);rintro e w' ⟨rfl,X1,rfl⟩)
    go_ret2
    exact Ret.of (by rw[<-HZ.out,<-HD.out,HN.out];rfl) bel
   ·have HTo2:=Lib.hid (HTo.out hr)
    rw[hr]at HRt HAl
    have HRt2:=Lib.hid HRt.out
    have HK2:Hid ((l.take (k+1)).all rightD=true):=by show _=_;rw[HAl.out,HK.out];rfl
    clear HRt hr HTo
    cases im
    ·go_wp2_with(first|(go_at_call 93;go_loud(with_reducible refine(HRt2.out _ bel).mono ?_);rintro e w' ⟨rfl,X1,rfl⟩)|(go_at_call 94;go_loud(with_reducible refine(HTo2.out _ bel).mono ?_);rintro e w' ⟨rfl,X2,rfl⟩)|(at_builtin;go_loud(refine append_grow rfl _ _ 47 rfl strs_row w rfl (own_below hown bel) bel ⟨_,0,none⟩ 1 1 [.string (N++⟨#[58,32]⟩++T)] rfl rfl (new_cells (c:= #[.string (N++⟨#[58,32]⟩++T)]) (by simp[go_sem])) (by simp[Value.oneCell']) (by unfold maxLen;omega) (by omega) ?_);intro v' Y hown' _))
     go_roundw
     case rel=>exact⟨k+1,Y,by omega,by go_num,rfl,by rw[HL.out,HTl.out,HTN.out.1,HTN.out.2];show World.ownsRow _ _ _ _ _ _ (_++[.string ⟨(_:Bs).toArray⟩]);simp only[Bool.false_eq_true,if_false,List.append_nil];rw[<-cat_bs,<-cat_bs];exact hown',HK2⟩
     case measure=>simp[intOf];omega
    ·go_wp2_with(first|(go_at_call 93;go_loud(with_reducible refine(HRt2.out _ bel).mono ?_);rintro e w' ⟨rfl,X1,rfl⟩)|(go_at_call 94;go_loud(with_reducible refine(HTo2.out _ bel).mono ?_);rintro e w' ⟨rfl,X2,rfl⟩)|(at_builtin;go_loud(refine append_grow rfl _ _ 47 rfl strs_row w rfl (own_below hown bel) bel ⟨_,0,none⟩ 1 1 [.string (N++⟨#[58,32]⟩++T++⟨#[32,33,32,105,109,112,111,114,116,97,110,116]⟩)] rfl rfl (new_cells (c:= #[.string (N++⟨#[58,32]⟩++T++⟨#[32,33,32,105,109,112,111,114,116,97,110,116]⟩)]) (by simp[go_sem])) (by simp[Value.oneCell']) (by unfold maxLen;omega) (by omega) ?_);intro v' Y hown' _))
     go_roundw
     case rel=>exact⟨k+1,Y,by omega,by go_num,rfl,by rw[HL.out,HTl.out,HTN.out.1,HTN.out.2];show World.ownsRow _ _ _ _ _ _ (_++[.string ⟨(_:Bs).toArray⟩]);simp only[if_true];rw[<-cat_bs,<-cat_bs,<-cat_bs];exact hown',HK2⟩
     case measure=>simp[intOf];omega
  ·have hk2:k=l.length:=by omega
   subst hk2
   rw[List.take_length]at HK hown
   have hlen:((l.map toldD)).length=l.length:=by simp
   have hjl:(joinS (l.map toldD)).length<=140737488355328:=by
    have h1:=joinS_len 20002000000 (l.map toldD) (fun u hu=>by
     rw[List.mem_map]at hu
     obtain⟨x,hx,rfl⟩:=hu
     exact toldD_len (HS.out x hx))
    rw[hlen]at h1;omega
   obtain⟨A2,c2,rfl,hc2⟩:=own_cap hown
   have hrd:=Rd.own hown
   rw[<-hlen]at hrd hc2
   have HJ:=Lib.hid (strjoin2_any (l.map toldD) hrd hc2 hjl (by rw[hlen];omega))
   rw[hlen]at HJ
   have HE:Hid (textD l=joinS (l.map toldD)):=rfl
   clear hrd hc2 hjl hown
   go_wp2_with(go_at_call 43;(with_reducible refine HJ.out.mono ?_);rintro e w' ⟨rfl,X1,rfl⟩)
   go_ret2
   exact Ret.of (by rw[<-HZ.out,<-HD.out,HK.out,if_pos rfl,HE.out];rfl) bel
theorem parsed_short {s:Bs} (h:s.length<=1000):(declsL (cssL s)).length<=1001/\ ∀d∈declsL (cssL s),ShortD d/\rightD d=true/\lowL d.name=d.name/\ ∀x∈d.value,Proper x:=by
 obtain⟨h1,h2,h3⟩:=scan_short h
 refine⟨?_,fun d hd=> ?_⟩
 ·have:=List.length_filterMap_le declOf (partsL 0 (cssL s))
  have h4:=(parts_few (cssL s) 0).1
  unfold declsL;omega
 ·obtain⟨p1,p2,p3⟩:=parsed_right hd
  have hr:=p1
  rw[right_D,Bool.and_eq_true,Bool.and_eq_true]at hr
  have hvl:d.value.length<=1000:=by
   unfold declsL at hd
   obtain⟨p,hp,hpd⟩:=List.mem_filterMap.1 hd
   have h5:=(parts_few (cssL s) 0).2 p hp
   by_cases h6:2<=p.length
   ·rw[declOf_at h6]at hpd
    split at hpd
    ·cases hpd
     have:=urgV_le (p.drop 2)
     rw[List.length_drop]at this
     simp only;omega
    ·cases hpd
   ·rw[declOf_few (by omega)]at hpd;cases hpd
  refine⟨⟨fun x hx=>h1 x (p2 x hx),by omega, ?_⟩,p1,((right_form hr.2).1 rfl).2.2,fun x hx=>proper_right (List.all_eq_true.1 hr.1.1 x hx)⟩
  have:=(h3 _ p3).1
  simp only at this;omega
def lenS (us:List Bs):Nat:=(us.map fun u=>u.length+2).sum
theorem joinS_sum: ∀(us:List Bs),(joinS us).length<=lenS us
 |[]=>by simp[joinS,lenS]
 |[u]=>by simp[joinS,lenS]
 |u::v::l=>by
  have:=joinS_sum (v::l)
  simp only[joinS,lenS,List.map_cons,List.sum_cons,List.length_append,List.length_cons]at this ⊢
  omega
theorem told_textC {m:Nat} {l:List Css} (h: ∀x∈l,CssOk x/\x.text.length+x.unit.length<=m):(textC l).length<=l.length*(m+41):=by
 have h1:=join_lenQ (m+40) (l.map toldC) (fun u hu=>by
  rw[List.mem_map]at hu
  obtain⟨x,hx,rfl⟩:=hu
  obtain⟨o1,o2⟩:=h x hx
  have:=told_len x o1
  omega)
 rw[List.length_map]at h1
 exact h1
theorem toldD_by {m k:Nat} {d:Dcl} (h: ∀x∈d.value,CssOk x/\x.text.length+x.unit.length<=m) (hn:d.name.length<=k):(toldD d).length<=d.value.length*(m+41)+(k+14):=by
 have:=told_textC h
 simp only[toldD,List.length_append,List.length_cons,List.length_nil]
 have:(if d.imp then impS else []).length<=12:=by split<;>decide
 omega
theorem textD_by {m k:Nat}: ∀{l:List Dcl},(∀d∈l,(∀x∈d.value,CssOk x/\x.text.length+x.unit.length<=m)/\d.name.length<=k)->lenS (l.map toldD)<=(l.map fun d=>d.value.length).sum*(m+41)+l.length*(k+16)
 |[],_=>by simp[lenS]
 |d::l,h=>by
  have h1:=toldD_by (h d (List.mem_cons_self ..)).1 (h d (List.mem_cons_self ..)).2
  have h2:=textD_by (l:=l) fun e he=>h e (List.mem_cons_of_mem _ he)
  simp only[lenS,List.map_cons,List.sum_cons,List.length_cons]at h2 ⊢
  rw[Nat.add_mul,Nat.succ_mul]
  omega
theorem parts_sum: ∀(l:List Css) (d:Nat),((partsL d l).map List.length).sum<=l.length
 |[],d=>by simp[partsL]
 |x::l,d=>by
  have h1:=parts_sum l 0
  have h2:=parts_sum l (dn d x)
  simp only[partsL]
  split
  ·simp only[List.map_cons,List.sum_cons,List.length_nil,List.length_cons];omega
  ·obtain⟨q,qs,hq⟩:=parts_ne (dn d x) l
   rw[hq]at h2 ⊢
   simp only[List.map_cons,List.sum_cons,List.length_cons]at h2 ⊢
   omega
theorem declOf_le {p:List Css} {d:Dcl} (h:declOf p=some d):d.value.length<=p.length:=by
 match p,h with
 |a::b::r,h=>
  simp only[declOf]at h
  split at h
  ·cases h
   have:=urgV_le r
   simp only[List.length_cons];omega
  ·cases h
theorem decls_sum: ∀(ps:List (List Css)),((ps.filterMap declOf).map fun d=>d.value.length).sum<=(ps.map List.length).sum
 |[]=>by simp
 |p::ps=>by
  have:=decls_sum ps
  cases h:declOf p with
  |none=>rw[List.filterMap_cons_none h,List.map_cons,List.sum_cons];omega
  |some d=>
   have:=declOf_le h
   rw[List.filterMap_cons_some h,List.map_cons,List.map_cons,List.sum_cons,List.sum_cons];omega
theorem RdD.len {W:World} {A:Option Addr} {n c:Nat} {l:List Dcl} (h:RdD W (.slice A n c) l):l.length=n:=by
 obtain⟨_,_,_,_,_,_,he,_⟩:=h
 cases he;rfl
theorem RdD.below {w W:World} {v:Value} {l:List Dcl} (h:RdD w v l) (hb:Below w.heap.size w W):RdD W v l:=by
 obtain⟨X,rfl⟩:=grow_of_below hb
 exact h.grow X
end Go.Proofs.YtiikamobcmgekaaGreatDoor
