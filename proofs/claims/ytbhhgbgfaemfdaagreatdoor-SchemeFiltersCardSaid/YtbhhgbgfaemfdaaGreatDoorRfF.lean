/- The walk of the reference's parser: a statement of one thing: limit. (written by gen_rlimit.py) -/
import Derived.Test.YtbhhgbgfaemfdaaGreatDoorRfE
namespace Go.Proofs.YtbhhgbgfaemfdaaGreatDoor
open Lib renaming hid→z2g
open Nat renaming le_of_lt→z3b
set_option maxRecDepth 100000
set_option maxHeartbeats 8000000
open Go.RowKit
attribute [local go_sem] Oper.semAt_some
theorem zpb {D1 D2 D3:Bool} (h:(!D1&&(!D2&& !D3))=false):D1=true\/(D1=false/\D2=true)\/(D1=false/\D2=false/\D3=true):=by
 revert h
 cases D1<;>cases D2<;>cases D3<;>simp
theorem zzt {l:List Lx} {i k:Nat} {t:Bs} (h:isR l i k t=true) (hi:i<l.length):l[i].kind=k:=by
 rw[z0q hi,Bool.and_eq_true,decide_eq_true_eq]at h
 exact h.1
theorem zur {l:List Lx} (h:zby l [1,2]=none):isR l 2 2 []=true:=by
 unfold zby zb1 zb1 at h
 split at h
 ·split at h
  ·assumption
  ·cases h
 ·cases h
theorem zl7 (en B:Nat) (s:Ps) (W:World) (h:RPar en B s W) (hs:PsSm s) (hnum: ∀x∈s.rest,x.kind=2->x.text.all digB=true/\x.text.length<=9):
  Calls Tryz.prog 95 #[.pointer (some ⟨B,0,none⟩),.string ⟨zbo.toArray⟩] W (zdv en B s W (sgR zbo s.rest s.pol s.told)):=by
 have hmx:Tryz.prog.follows .mixedOrders=true:=by kernel_rfl
 have HP:=z2g h
 have hlt:=h.lt
 have htold:s.told.length<=20000:=by have:=hs.told;omega
 have HTx:Hid (∀i,(zav s.rest i).length<=10000):=fun i=>zly (fun x hx=>(hs.txt x hx).1)
 obtain⟨kd,hkd⟩: ∃kd,(⟨zbo.toArray⟩:ByteArray)=kd:=⟨_,rfl⟩
 have hkl:kd.toList=[108,105,109,105,116]:=by rw[<-hkd,ByteArray.toList_eq];rfl
 obtain⟨R,hR⟩: ∃R,sgR zbo s.rest s.pol s.told=R:=⟨_,rfl⟩
 obtain⟨D1,hD1⟩: ∃D,isR s.rest 1 1 zca=D:=⟨_,rfl⟩
 obtain⟨D2,hD2⟩: ∃D,isR s.rest 1 1 zds=D:=⟨_,rfl⟩
 obtain⟨D3,hD3⟩: ∃D,isR s.rest 1 1 valT=D:=⟨_,rfl⟩
 have HN:Hid (R=if(!D1&&(!D2&& !D3))=true then .error (2,1)
  else match zby s.rest [1,2]with
   |some i=> .error (2,i)
   |none=>if(zbo++[32]++zav s.rest 1)∈s.told then .error (5,0)else if limB (setL (zav s.rest 1) (numT (zav s.rest 2)) s.pol)then .ok (4,setL (zav s.rest 1) (numT (zav s.rest 2)) s.pol,(zbo++[32]++zav s.rest 1)::s.told)else .error (2,2)):=by show _=_;rw[<-hR,<-hD1,<-hD2,<-hD3];rfl
 have HI1:=z2g (show Calls Tryz.prog 157 #[.pointer (some ⟨B,0,none⟩),.int .i64 1,.int .i64 1,.string ⟨#[100,101,112,116,104]⟩] W fun e w'=>e= .returned (.bool D1)/\W=w' from hD1 ▸ zdb en B s W h 1 1 zca)
 have HI2:=z2g (show Calls Tryz.prog 157 #[.pointer (some ⟨B,0,none⟩),.int .i64 1,.int .i64 1,.string ⟨#[110,97,109,101]⟩] W fun e w'=>e= .returned (.bool D2)/\W=w' from hD2 ▸ zdb en B s W h 1 1 zds)
 have HI3:=z2g (show Calls Tryz.prog 157 #[.pointer (some ⟨B,0,none⟩),.int .i64 1,.int .i64 1,.string ⟨#[118,97,108,117,101]⟩] W fun e w'=>e= .returned (.bool D3)/\W=w' from hD3 ▸ zdb en B s W h 1 1 valT)
 have HW:=z2g (fun W' (hb:Below W.heap.size W W') v (hv:Rd W' v [1,2].length 1 ([1,2].map ivN))=>show Calls Tryz.prog 159 #[.pointer (some ⟨B,0,none⟩),v] W' _ from zhm en B s W' (h.grown hb) v [1,2] hv (by simp))
 have hwl:zby s.rest [1,2]=none->3<s.rest.length:=fun hw=>by have:=(zcp [] [1,2] 1 hw).1;simpa using this
 have hnb:zby s.rest [1,2]=none->(zav s.rest 2).all digB=true/\(zav s.rest 2).length<=9:=fun hw=>by
  have h2:2<s.rest.length:=by have:=hwl hw;omega
  have hk:=zzt (zur hw) h2
  rw[<-zq8 h2]
  exact hnum _ (List.getElem_mem h2) hk
 rw[hkd,hR]
 clear hR hkd hD1 hD2 hD3 h hs hnum
 cases hh:(!D1&&(!D2&& !D3))with
 |true=>
  have HR:Hid (R= .error (2,1)):=by show _=_;rw[HN.out,hh];rfl
  have hD:D1=false/\D2=false/\D3=false:=by revert hh;cases D1<;>cases D2<;>cases D3<;>simp
  obtain⟨rfl,rfl,rfl⟩:=hD
  clear HN hh HW hwl HTx hnb
  go_enter Tryz.func95,Tryz.ntmps95
  go_wp2_with(first|(go_at_call 157;(with_reducible refine HI1.out.mono ?_);rintro e w' ⟨rfl,rfl⟩)|(go_at_call 157;(with_reducible refine HI2.out.mono ?_);rintro e w' ⟨rfl,rfl⟩)|(go_at_call 157;(with_reducible refine HI3.out.mono ?_);rintro e w' ⟨rfl,rfl⟩))
  go_ret3
  rw[HR.out]
  exact⟨rfl,⟨s,rfl,HP.out⟩,Below.refl _ _⟩
 |false=>
  have HN2:Hid (R=match zby s.rest [1,2]with
   |some i=> .error (2,i)
   |none=>if(zbo++[32]++zav s.rest 1)∈s.told then .error (5,0)else if limB (setL (zav s.rest 1) (numT (zav s.rest 2)) s.pol)then .ok (4,setL (zav s.rest 1) (numT (zav s.rest 2)) s.pol,(zbo++[32]++zav s.rest 1)::s.told)else .error (2,2)):=by show _=_;rw[HN.out,hh];rfl
  have hD:=zpb hh
  clear HN hh
  obtain⟨X,hX⟩: ∃X,zby s.rest [1,2]=X:=⟨_,rfl⟩
  rw[hX]at HN2 HW hwl hnb
  clear hX
  cases X with
  |some i=>
   have HR:Hid (R= .error (2,i)):=HN2.out
   have HW2:=z2g (fun W' hb v hv=>show Calls Tryz.prog 159 #[.pointer (some ⟨B,0,none⟩),v] W' fun e w'=>e= .returned (.int .i64 (i:Int))/\W'=w' from HW.out W' hb v hv)
   have hi0:(0:Int)<=(i:Int):=by omega
   clear HN2 HW hwl HTx hnb
   rcases hD with rfl|⟨rfl,rfl⟩|⟨rfl,rfl,rfl⟩
   all_goals
    go_enter Tryz.func95,Tryz.ntmps95
    go_wp2_with(first|(go_at_call 157;(with_reducible refine HI1.out.mono ?_);rintro e w' ⟨rfl,rfl⟩)|(go_at_call 157;(with_reducible refine HI2.out.mono ?_);rintro e w' ⟨rfl,rfl⟩)|(go_at_call 157;(with_reducible refine HI3.out.mono ?_);rintro e w' ⟨rfl,rfl⟩)|(go_at_call 159;(refine(HW2.out _ bel _ (zgj (ts:=[1,2]) (by simp) rfl rfl (by simp))).mono ?_);rintro e w' ⟨rfl,rfl⟩))
    go_ret3
    rw[HR.out]
    exact⟨rfl,⟨s,rfl,HP.out.grown bel⟩,bel⟩
  |none=>
   have hlen:=hwl rfl
   obtain⟨hdg,hd9⟩:=hnb rfl
   have HW2:=z2g (fun W' hb v hv=>show Calls Tryz.prog 159 #[.pointer (some ⟨B,0,none⟩),v] W' fun e w'=>e= .returned (.int .i64 (-1))/\W'=w' from HW.out W' hb v hv)
   have HN3:Hid (R=if(zbo++[32]++zav s.rest 1)∈s.told then .error (5,0)else if limB (setL (zav s.rest 1) (numT (zav s.rest 2)) s.pol)then .ok (4,setL (zav s.rest 1) (numT (zav s.rest 2)) s.pol,(zbo++[32]++zav s.rest 1)::s.told)else .error (2,2)):=HN2.out
   have HNu:=z2g (fun W=>zpr (zav s.rest 2) W hdg hd9)
   clear HN2 HW hwl hnb hdg hd9
   rcases hD with rfl|⟨rfl,rfl⟩|⟨rfl,rfl,rfl⟩
   all_goals
    go_enter Tryz.func95,Tryz.ntmps95
    go_upto_region 26 with(first|(go_at_call 157;(with_reducible refine HI1.out.mono ?_);rintro e w' ⟨rfl,rfl⟩)|(go_at_call 157;(with_reducible refine HI2.out.mono ?_);rintro e w' ⟨rfl,rfl⟩)|(go_at_call 157;(with_reducible refine HI3.out.mono ?_);rintro e w' ⟨rfl,rfl⟩)|(go_at_call 159;(refine(HW2.out _ bel _ (zgj (ts:=[1,2]) (by simp) rfl rfl (by simp))).mono ?_);rintro e w' ⟨rfl,rfl⟩))
    refine zaf fun W1 hW1=> ?_
    have hb1:Below W.heap.size W W1:=by rw[hW1];exact bel
    have HB1:=z2g hb1
    have HP1:=z2g (HP.out.grown hb1)
    clear hW1 hb1 HW2 HP HI1 HI2 HI3
    obtain⟨A,c,b1,o1,hc,rfl,hbl,hx⟩:=zis HP1.out (i:=1) (by omega)
    have hx1:W1.cell? ⟨b1,o1+3+2,none⟩=some (.string ⟨(zav s.rest 1).toArray⟩):=hx 1 (by omega)
    obtain⟨tx,htx⟩: ∃t,zav s.rest 1=t:=⟨_,rfl⟩
    obtain⟨ty,hty⟩: ∃t,zav s.rest 2=t:=⟨_,rfl⟩
    have l1:tx.length<=10000:=by rw[<-htx];exact HTx.out 1
    have HTX1:=z2g htx
    have HTX2:=z2g hty
    rw[htx]at hx1 HN3
    rw[hty]at HN3 HNu
    obtain⟨what,hwh⟩: ∃t,zbo++[32]++tx=t:=⟨_,rfl⟩
    have hwe:(⟨what.toArray⟩:ByteArray)=⟨#[108,105,109,105,116,32]⟩++⟨tx.toArray⟩:=by
     refine zb7 ?_
     rw[<-hwh]
     simp[zbo]
    rw[hwh]at HN3
    have HO:=z2g (fun W' (hb:Below W1.heap.size W1 W')=>show Calls Tryz.prog 160 #[.pointer (some ⟨B,0,none⟩),.string (⟨#[108,105,109,105,116,32]⟩++⟨tx.toArray⟩)] W' _ from hwe ▸ zjk en B what s W' (HP1.out.grown hb) htold)
    have s1:(⟨tx.toArray⟩:ByteArray).size<=10000:=by show tx.toArray.size<=_;simpa using l1
    have htl:(⟨tx.toArray⟩:ByteArray).toList=tx:=by rw[ByteArray.toList_eq]
    obtain⟨bx,hbx⟩: ∃b:ByteArray,⟨tx.toArray⟩=b:=⟨_,rfl⟩
    obtain⟨bY,hbY⟩: ∃b:ByteArray,⟨ty.toArray⟩=b:=⟨_,rfl⟩
    have HBx:=z2g hbx
    have HBY:=z2g hbY
    rw[hbx]at hx1 s1 HO htl
    rw[hbY]at HNu
    clear hx htx hty hwh hwe HTx l1 hbx hbY
    have hl1:=HP1.out.lt
    have hnl1:(1:Int)<(s.rest.length:Int):=by omega
    by_cases hm:what∈s.told
    ·have HR:Hid (R= .error (5,0)):=by show _=_;rw[HN3.out,if_pos hm]
     rw[decide_eq_true hm,if_pos hm]at HO
     clear HN3 hm
     go_wp2_with(go_at_call 160;(with_reducible refine(HO.out _ bel).mono ?_);rintro e W2 ⟨rfl,hp2,hb2,hq2⟩;clear hq2)
     go_ret3
     rw[HR.out]
     exact⟨rfl,⟨s,rfl,hp2⟩,(HB1.out.mono (z3b hlt)).trans hb2⟩
    ·have HN4:Hid (R=if limB (setL tx (numT ty) s.pol)then .ok (4,setL tx (numT ty) s.pol,what::s.told)else .error (2,2)):=by show _=_;rw[HN3.out,if_neg hm]
     rw[decide_eq_false hm,if_neg hm]at HO
     clear HN3 hm
     go_upto_region 28 with(go_at_call 160;(with_reducible refine(HO.out _ bel).mono ?_);rintro e W2 ⟨rfl,hp2,hb2,hq2⟩;clear hq2;have HP2:=z2g hp2;have HB2:=z2g ((HB1.out.mono (z3b hlt)).trans hb2);clear hp2 hb2)
     clear hc hx1 hbl HO
     obtain⟨A2,c2,b2,o2,hc2,rfl,hbl2,hx2⟩:=zis HP2.out (i:=1) (by show 1<s.rest.length;omega)
     have y1:W2.cell? ⟨b2,o2+3+2,none⟩=some (.string bx):=by have:=hx2 1 (by show 1<s.rest.length;omega);rw[show zav (zfe s what).rest 1=tx from HTX1.out,HBx.out]at this;exact this
     have y2:W2.cell? ⟨b2,o2+6+2,none⟩=some (.string bY):=by have:=hx2 2 (by show 2<s.rest.length;omega);rw[show zav (zfe s what).rest 2=ty from HTX2.out,HBY.out]at this;exact this
     have hc2':W2.cell? ⟨B,11,none⟩=some (.slice (some ⟨b2,o2,none⟩) s.rest.length c2):=hc2
     have hnl2:(2:Int)<(s.rest.length:Int):=by omega
     clear hx2 hc2
     have hl2:=HP2.out.lt
     have z7:=HP2.out.fz 7
     have z8:=HP2.out.fz 8
     have z9:=HP2.out.fz 9
     have k7:W2.cell? ⟨B,7,none⟩=some (.int .i64 s.pol.depth):=HP2.out.c7
     have k8:W2.cell? ⟨B,8,none⟩=some (.int .i64 s.pol.name):=HP2.out.c8
     have k9:W2.cell? ⟨B,9,none⟩=some (.int .i64 s.pol.value):=HP2.out.c9
     generalize hnv:numT ty=nv at*
     generalize hnlg:s.rest.length=nl at*
     have Q:Hid ((tx=zca/\setL tx nv s.pol={s.pol with depth:=nv})\/(¬tx=zca/\tx=zds/\setL tx nv s.pol={s.pol with name:=nv})\/(¬tx=zca/\ ¬tx=zds/\setL tx nv s.pol={s.pol with value:=nv})):=by
      show _\/_
      unfold setL
      by_cases h1:tx=zca
      ·exact .inl ⟨h1,by rw[if_pos h1]⟩
      ·by_cases h2:tx=zds
       ·exact .inr (.inl ⟨h1,h2,by rw[if_neg h1,if_pos h2]⟩)
       ·exact .inr (.inr ⟨h1,h2,by rw[if_neg h1,if_neg h2]⟩)
     rcases Q.out with⟨q1,q2⟩|⟨q0,q1,q2⟩|⟨q0,q1,q2⟩
     ·have t1:bx.toList=[100,101,112,116,104]:=htl.trans q1
      rw[q2]at HN4
      clear q1 q2 Q htl
      have h9:=fun(X:World) (hb:Below W2.heap.size W2 X)=>(HP2.out.grown hb).setOne (i:=7) (s':=⟨s.rest,{s.pol with depth:=nv},what::s.told⟩) (v:= .int .i64 nv) (.inl ⟨by omega,by omega⟩) ((hb.cell (p:=⟨B,7,none⟩) hl2).trans k7) (fun j _=>psj (s:=zfe s what) (q:={s.pol with depth:=nv}) (by rcases j with _|_|_|_|_|j<;>exact⟨rfl,rfl⟩)) rfl rfl rfl rfl rfl
      go_upto_region 35 with(go_at_call 161;(with_reducible refine(HNu.out _).mono ?_);rintro e w' ⟨bb,rfl,rfl⟩)
      refine zaf fun W3 hW3=> ?_
      have h8:=h9 W2 (Below.refl _ _)
      rw[<-hW3]at h8
      obtain⟨h8,hb8⟩:=h8
      have HP3:=z2g h8
      have HB3:=z2g (HB2.out.trans hb8)
      obtain⟨v0,e0,o0⟩:=h8.row 0 (by omega)
      obtain⟨A0,cc0,rfl,_⟩:=zam o0
      have e0:W3.cell? ⟨B,0,none⟩=_:=e0
      obtain⟨v1,e1,o1⟩:=h8.row 1 (by omega)
      obtain⟨A1,cc1,rfl,_⟩:=zam o1
      have e1:W3.cell? ⟨B,1,none⟩=_:=e1
      obtain⟨v2,e2,o2⟩:=h8.row 2 (by omega)
      obtain⟨A2,cc2,rfl,_⟩:=zam o2
      have e2:W3.cell? ⟨B,2,none⟩=_:=e2
      obtain⟨v3,e3,o3⟩:=h8.row 3 (by omega)
      obtain⟨A3,cc3,rfl,_⟩:=zam o3
      have e3:W3.cell? ⟨B,3,none⟩=_:=e3
      obtain⟨v4,e4,o4⟩:=h8.row 4 (by omega)
      obtain⟨A4,cc4,rfl,_⟩:=zam o4
      have e4:W3.cell? ⟨B,4,none⟩=_:=e4
      obtain⟨v5,e5,o5⟩:=h8.row 5 (by omega)
      obtain⟨A5,cc5,rfl,_⟩:=zam o5
      have e5:W3.cell? ⟨B,5,none⟩=_:=e5
      have e6:=h8.c6
      have e7:=h8.c7
      have e8:=h8.c8
      have e9:=h8.c9
      have HLm:=z2g (fun v0 v1 v2 v3 v4 v5 W=>ze2 v0 v1 v2 v3 v4 v5 {s.pol with depth:=nv} W)
      clear hW3 h9 hb8 h8 y1 y2 hc2' k7 k8 k9 z7 z8 z9 HB2 HP2 o0 o1 o2 o3 o4 o5 HNu
      cases hlm:limB {s.pol with depth:=nv}with
      |true=>
       rw[hlm]at HN4 HLm
       have HR:Hid (R= .ok (4,{s.pol with depth:=nv},what::s.told)):=HN4.out
       go_wp2_with(go_at_call 110;(with_reducible refine(HLm.out _ _ _ _ _ _ _).mono ?_);rintro e W4 ⟨rfl,X4,hX4⟩;have hb4:Below W3.heap.size W3 W4:=(by rw[hX4];exact bel);clear hX4)
       go_ret3
       rw[HR.out]
       exact⟨rfl,HP3.out.grown hb4,HB3.out.trans (hb4.mono (z3b HP3.out.lt))⟩
      |false=>
       rw[hlm]at HN4 HLm
       have HR:Hid (R= .error (2,2)):=HN4.out
       go_wp2_with(go_at_call 110;(with_reducible refine(HLm.out _ _ _ _ _ _ _).mono ?_);rintro e W4 ⟨rfl,X4,hX4⟩;have hb4:Below W3.heap.size W3 W4:=(by rw[hX4];exact bel);clear hX4)
       go_ret3
       rw[HR.out]
       exact⟨rfl,⟨_,(by first|exact hnlg ▸ rfl|rfl),HP3.out.grown hb4⟩,HB3.out.trans (hb4.mono (z3b HP3.out.lt))⟩
     ·have t1:bx.toList=[110,97,109,101]:=htl.trans q1
      rw[q2]at HN4
      clear q1 q2 Q htl q0
      have h9:=fun(X:World) (hb:Below W2.heap.size W2 X)=>(HP2.out.grown hb).setOne (i:=8) (s':=⟨s.rest,{s.pol with name:=nv},what::s.told⟩) (v:= .int .i64 nv) (.inl ⟨by omega,by omega⟩) ((hb.cell (p:=⟨B,8,none⟩) hl2).trans k8) (fun j _=>psj (s:=zfe s what) (q:={s.pol with name:=nv}) (by rcases j with _|_|_|_|_|j<;>exact⟨rfl,rfl⟩)) rfl rfl rfl rfl rfl
      go_upto_region 35 with(go_at_call 161;(with_reducible refine(HNu.out _).mono ?_);rintro e w' ⟨bb,rfl,rfl⟩)
      refine zaf fun W3 hW3=> ?_
      have h8:=h9 W2 (Below.refl _ _)
      rw[<-hW3]at h8
      obtain⟨h8,hb8⟩:=h8
      have HP3:=z2g h8
      have HB3:=z2g (HB2.out.trans hb8)
      obtain⟨v0,e0,o0⟩:=h8.row 0 (by omega)
      obtain⟨A0,cc0,rfl,_⟩:=zam o0
      have e0:W3.cell? ⟨B,0,none⟩=_:=e0
      obtain⟨v1,e1,o1⟩:=h8.row 1 (by omega)
      obtain⟨A1,cc1,rfl,_⟩:=zam o1
      have e1:W3.cell? ⟨B,1,none⟩=_:=e1
      obtain⟨v2,e2,o2⟩:=h8.row 2 (by omega)
      obtain⟨A2,cc2,rfl,_⟩:=zam o2
      have e2:W3.cell? ⟨B,2,none⟩=_:=e2
      obtain⟨v3,e3,o3⟩:=h8.row 3 (by omega)
      obtain⟨A3,cc3,rfl,_⟩:=zam o3
      have e3:W3.cell? ⟨B,3,none⟩=_:=e3
      obtain⟨v4,e4,o4⟩:=h8.row 4 (by omega)
      obtain⟨A4,cc4,rfl,_⟩:=zam o4
      have e4:W3.cell? ⟨B,4,none⟩=_:=e4
      obtain⟨v5,e5,o5⟩:=h8.row 5 (by omega)
      obtain⟨A5,cc5,rfl,_⟩:=zam o5
      have e5:W3.cell? ⟨B,5,none⟩=_:=e5
      have e6:=h8.c6
      have e7:=h8.c7
      have e8:=h8.c8
      have e9:=h8.c9
      have HLm:=z2g (fun v0 v1 v2 v3 v4 v5 W=>ze2 v0 v1 v2 v3 v4 v5 {s.pol with name:=nv} W)
      clear hW3 h9 hb8 h8 y1 y2 hc2' k7 k8 k9 z7 z8 z9 HB2 HP2 o0 o1 o2 o3 o4 o5 HNu
      cases hlm:limB {s.pol with name:=nv}with
      |true=>
       rw[hlm]at HN4 HLm
       have HR:Hid (R= .ok (4,{s.pol with name:=nv},what::s.told)):=HN4.out
       go_wp2_with(go_at_call 110;(with_reducible refine(HLm.out _ _ _ _ _ _ _).mono ?_);rintro e W4 ⟨rfl,X4,hX4⟩;have hb4:Below W3.heap.size W3 W4:=(by rw[hX4];exact bel);clear hX4)
       go_ret3
       rw[HR.out]
       exact⟨rfl,HP3.out.grown hb4,HB3.out.trans (hb4.mono (z3b HP3.out.lt))⟩
      |false=>
       rw[hlm]at HN4 HLm
       have HR:Hid (R= .error (2,2)):=HN4.out
       go_wp2_with(go_at_call 110;(with_reducible refine(HLm.out _ _ _ _ _ _ _).mono ?_);rintro e W4 ⟨rfl,X4,hX4⟩;have hb4:Below W3.heap.size W3 W4:=(by rw[hX4];exact bel);clear hX4)
       go_ret3
       rw[HR.out]
       exact⟨rfl,⟨_,(by first|exact hnlg ▸ rfl|rfl),HP3.out.grown hb4⟩,HB3.out.trans (hb4.mono (z3b HP3.out.lt))⟩
     ·have t1:(bx.toList==[100,101,112,116,104])=false:=by rw[beq_eq_false_iff_ne];exact fun e=>q0 (htl.symm.trans e)
      have t2:(bx.toList==[110,97,109,101])=false:=by rw[beq_eq_false_iff_ne];exact fun e=>q1 (htl.symm.trans e)
      rw[q2]at HN4
      clear q1 q2 Q htl q0
      have h9:=fun(X:World) (hb:Below W2.heap.size W2 X)=>(HP2.out.grown hb).setOne (i:=9) (s':=⟨s.rest,{s.pol with value:=nv},what::s.told⟩) (v:= .int .i64 nv) (.inl ⟨by omega,by omega⟩) ((hb.cell (p:=⟨B,9,none⟩) hl2).trans k9) (fun j _=>psj (s:=zfe s what) (q:={s.pol with value:=nv}) (by rcases j with _|_|_|_|_|j<;>exact⟨rfl,rfl⟩)) rfl rfl rfl rfl rfl
      go_upto_region 35 with(go_at_call 161;(with_reducible refine(HNu.out _).mono ?_);rintro e w' ⟨bb,rfl,rfl⟩)
      refine zaf fun W3 hW3=> ?_
      have h8:=h9 W2 (Below.refl _ _)
      rw[<-hW3]at h8
      obtain⟨h8,hb8⟩:=h8
      have HP3:=z2g h8
      have HB3:=z2g (HB2.out.trans hb8)
      obtain⟨v0,e0,o0⟩:=h8.row 0 (by omega)
      obtain⟨A0,cc0,rfl,_⟩:=zam o0
      have e0:W3.cell? ⟨B,0,none⟩=_:=e0
      obtain⟨v1,e1,o1⟩:=h8.row 1 (by omega)
      obtain⟨A1,cc1,rfl,_⟩:=zam o1
      have e1:W3.cell? ⟨B,1,none⟩=_:=e1
      obtain⟨v2,e2,o2⟩:=h8.row 2 (by omega)
      obtain⟨A2,cc2,rfl,_⟩:=zam o2
      have e2:W3.cell? ⟨B,2,none⟩=_:=e2
      obtain⟨v3,e3,o3⟩:=h8.row 3 (by omega)
      obtain⟨A3,cc3,rfl,_⟩:=zam o3
      have e3:W3.cell? ⟨B,3,none⟩=_:=e3
      obtain⟨v4,e4,o4⟩:=h8.row 4 (by omega)
      obtain⟨A4,cc4,rfl,_⟩:=zam o4
      have e4:W3.cell? ⟨B,4,none⟩=_:=e4
      obtain⟨v5,e5,o5⟩:=h8.row 5 (by omega)
      obtain⟨A5,cc5,rfl,_⟩:=zam o5
      have e5:W3.cell? ⟨B,5,none⟩=_:=e5
      have e6:=h8.c6
      have e7:=h8.c7
      have e8:=h8.c8
      have e9:=h8.c9
      have HLm:=z2g (fun v0 v1 v2 v3 v4 v5 W=>ze2 v0 v1 v2 v3 v4 v5 {s.pol with value:=nv} W)
      clear hW3 h9 hb8 h8 y1 y2 hc2' k7 k8 k9 z7 z8 z9 HB2 HP2 o0 o1 o2 o3 o4 o5 HNu
      cases hlm:limB {s.pol with value:=nv}with
      |true=>
       rw[hlm]at HN4 HLm
       have HR:Hid (R= .ok (4,{s.pol with value:=nv},what::s.told)):=HN4.out
       go_wp2_with(go_at_call 110;(with_reducible refine(HLm.out _ _ _ _ _ _ _).mono ?_);rintro e W4 ⟨rfl,X4,hX4⟩;have hb4:Below W3.heap.size W3 W4:=(by rw[hX4];exact bel);clear hX4)
       go_ret3
       rw[HR.out]
       exact⟨rfl,HP3.out.grown hb4,HB3.out.trans (hb4.mono (z3b HP3.out.lt))⟩
      |false=>
       rw[hlm]at HN4 HLm
       have HR:Hid (R= .error (2,2)):=HN4.out
       go_wp2_with(go_at_call 110;(with_reducible refine(HLm.out _ _ _ _ _ _ _).mono ?_);rintro e W4 ⟨rfl,X4,hX4⟩;have hb4:Below W3.heap.size W3 W4:=(by rw[hX4];exact bel);clear hX4)
       go_ret3
       rw[HR.out]
       exact⟨rfl,⟨_,(by first|exact hnlg ▸ rfl|rfl),HP3.out.grown hb4⟩,HB3.out.trans (hb4.mono (z3b HP3.out.lt))⟩
end Go.Proofs.YtbhhgbgfaemfdaaGreatDoor

