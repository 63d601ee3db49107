/- The walk of policy.Right. (written by gen_right.py) -/
import Derived.BigRegion
import Derived.Test.YtiikamobcmgekaaGreatDoorRA
import Derived.Test.YtiikamobcmgekaaGreatDoorWN
import Derived.Test.YtiikamobcmgekaaGreatDoorLC
namespace Go.Proofs.YtiikamobcmgekaaGreatDoor
set_option maxRecDepth 100000
set_option maxHeartbeats 8000000
open Go.RowKit
attribute [local go_sem] Oper.semAt_some
def okS (l:List Bs):Bool:=l.all wordB&&decide (l=neatL ltB l)
def l4 (p:Pol):Nat->List Bs
 |0=>p.tags
 |1=>p.schemes
 |2=>p.css
 |_=>p.drops
def r4 (p:Pol):Bool:=p.attrs.all alwB&&p.forces.all frcB&&(limB p&&fitB p&&decide (p.attrs=neatL ltA p.attrs)&&decide (p.forces=neatL ltF p.forces))
theorem rightP_eq (p:Pol):rightP p=(okS p.tags&&(okS p.schemes&&(okS p.css&&(okS p.drops&&r4 p)))):=by
 have hn:decide (neatP p=p)=(decide (p.tags=neatL ltB p.tags)&&decide (p.schemes=neatL ltB p.schemes)&&decide (p.css=neatL ltB p.css)&&decide (p.drops=neatL ltB p.drops)&&decide (p.attrs=neatL ltA p.attrs)&&decide (p.forces=neatL ltF p.forces)):=by
  rw[Bool.eq_iff_iff]
  simp only[Bool.and_eq_true,decide_eq_true_eq]
  constructor
  ·intro h
   exact⟨⟨⟨⟨⟨(congrArg Pol.tags h).symm,(congrArg Pol.schemes h).symm⟩,(congrArg Pol.css h).symm⟩,(congrArg Pol.drops h).symm⟩,(congrArg Pol.attrs h).symm⟩,(congrArg Pol.forces h).symm⟩
  ·rintro⟨⟨⟨⟨⟨h1,h2⟩,h3⟩,h4⟩,h5⟩,h6⟩
   cases p
   simp only at h1 h2 h3 h4 h5 h6
   simp only[neatP,<-h1,<-h2,<-h3,<-h4,<-h5,<-h6]
 unfold rightP okS r4
 rw[hn,Bool.eq_iff_iff]
 simp only[Bool.and_eq_true]
 constructor
 ·rintro⟨⟨⟨⟨⟨⟨⟨⟨a0,a1⟩,a2⟩,a3⟩,a4⟩,a5⟩,a6⟩,a7⟩,⟨⟨⟨⟨b0,b1⟩,b2⟩,b3⟩,b4⟩,b5⟩
  exact⟨⟨a0,b0⟩,⟨a1,b1⟩,⟨a2,b2⟩,⟨a3,b3⟩,⟨a4,a5⟩,⟨⟨a6,a7⟩,b4⟩,b5⟩
 ·rintro⟨⟨a0,b0⟩,⟨a1,b1⟩,⟨a2,b2⟩,⟨a3,b3⟩,⟨a4,a5⟩,⟨⟨a6,a7⟩,b4⟩,b5⟩
  exact⟨⟨⟨⟨⟨⟨⟨⟨a0,a1⟩,a2⟩,a3⟩,a4⟩,a5⟩,a6⟩,a7⟩,⟨⟨⟨⟨b0,b1⟩,b2⟩,b3⟩,b4⟩,b5⟩
def okFrom (p:Pol) (k:Nat):Bool:=match k with
 |0=>okS p.tags&&(okS p.schemes&&(okS p.css&&(okS p.drops&&r4 p)))
 |1=>okS p.schemes&&(okS p.css&&(okS p.drops&&r4 p))
 |2=>okS p.css&&(okS p.drops&&r4 p)
 |3=>okS p.drops&&r4 p
 |_=>r4 p
theorem okFrom_step (p:Pol) (k:Nat) (hk:k<4):okFrom p k=(okS (l4 p k)&&okFrom p (k+1)):=by
 rcases(by omega:k=0\/k=1\/k=2\/k=3)with rfl|rfl|rfl|rfl<;>rfl
theorem Rd.belowW {w W:World} {v:Value} {n size:Nat} {xs:List Value} (h:Rd w v n size xs) (hb:Below w.heap.size w W):Rd W v n size xs:=by
 obtain⟨X,rfl⟩:=grow_of_below hb
 exact h.grow X
section
variable {P:Program} {ops:Array Oper} {Q:Exit->Act->World->Prop} {S:World->Prop}
theorem wpRow_readD {L:Act->World->Prop} {is:List (Nat × Bool)} {i:Nat} {a:Act} {w:World} {o:Oper} {v:Value} (d:Nat) (ho:ops[i]? =some o) (hd:o.dst=some d) (hw:Region.wanted o (yielded ops a.tmps)=true)
  (hv: ∀W,S W->(execOp a.eval o).run P W= .ok (.value v) W) (h:wpRow P ops Q S L is (a.put (some d) v) w):wpRow P ops Q S L ((i,true)::is) a w:=wpRow_read ho hw hv (hd ▸ h)
theorem wpRow_skip {L:Act->World->Prop} {is:List (Nat × Bool)} {i:Nat} {a:Act} {w:World} {o:Oper} (d:Nat) (ho:ops[i]? =some o) (hd:o.dst=some d) (hw:Region.wanted o (yielded ops a.tmps)=false) (h:wpRow P ops Q S L is (a.put (some d) undef) w):wpRow P ops Q S L ((i,true)::is) a w:=⟨o,undef,ho,.inr ⟨hw,rfl⟩,hd ▸ h⟩
theorem wpRow_opskip {L:Act->World->Prop} {is:List (Nat × Bool)} {i:Nat} {a:Act} {w:World} {o:Oper} (d:Nat) (ho:ops[i]? =some o) (hd:o.dst=some d) (hw:Region.wanted o (yielded ops a.tmps)=false) (hS:S w) (h:wpRow P ops Q S L is (a.put (some d) undef) w):wpRow P ops Q S L ((i,false)::is) a w:=by
 show wpOp P ops Q i _ a w
 unfold wpOp
 simp only[ho,hw,Bool.false_eq_true,if_false]
 exact⟨hS,hd ▸ h⟩
end
structure PolTx (p:Pol):Prop where
 lists: ∀k,k<4-> ∀t∈l4 p k,t.length<=9223372036854775807
 attrs: ∀a∈p.attrs,a.tag.length<=9223372036854775807/\a.name.length<=9223372036854775807
 forces: ∀f∈p.forces,f.tag.length<=9223372036854775807/\f.name.length<=9223372036854775807/\f.value.length<=35184372088832
theorem right_any (v:Value) (p:Pol) (w:World) (h:PolV w (fun _=>False) v p) (hs:PolSm p) (ht:PolTx p):Calls Tryz.prog 51 #[v] w (Ret (.bool (rightP p)) w):=by
 have hmx:=mxd
 have heg: ∀args w,(callFunc 123 args).run Tryz.prog w= .ok (.enter 123 args) w:=enters_of Tryz.func123 (by kernel_rfl) rfl
 have HV:=Lib.hid h
 have HE:Hid (rightP p=okFrom p 0):=rightP_eq p
 have HSm:=Lib.hid hs
 have HTx:=Lib.hid ht
 obtain⟨v0,v1,v2,v3,v4,v5,rfl,⟨A0,k0,rfl,_,h0,_⟩,⟨A1,k1,rfl,_,h1,_⟩,⟨A2,k2,rfl,_,h2,_⟩,⟨A3,k3,rfl,_,h3,_⟩,⟨A4,k4,rfl,_,h4,_⟩,⟨A5,k5,rfl,_,h5,_⟩⟩:=h
 have H0:=Lib.hid h0
 have H1:=Lib.hid h1
 have H2:=Lib.hid h2
 have H3:=Lib.hid h3
 have H4:=Lib.hid h4
 have H5:=Lib.hid h5
 have H4':=Lib.hid h4
 have H5':=Lib.hid h5
 obtain⟨R,hR⟩: ∃R,rightP p=R:=⟨_,rfl⟩
 rw[hR]at HE ⊢
 clear hR hs ht h0 h1 h2 h3 h4 h5
 go_enter Tryz.func51,Tryz.ntmps51
 go_upto_region 1 with fail
 refine name_world fun W0 hW0=> ?_
 obtain⟨B,hB⟩: ∃B,w.heap.size=B:=⟨_,rfl⟩
 rw[hB]
 have hb0:Below w.heap.size w W0:=by rw[hW0];exact bel
 have c0:W0.cell? ⟨B,0,none⟩=some (.slice A0 (fN p 0) k0):=by rw[hW0,<-hB];simp[go_sem]
 have c1:W0.cell? ⟨B,1,none⟩=some (.slice A1 (fN p 1) k1):=by rw[hW0,<-hB];simp[go_sem]
 have c2:W0.cell? ⟨B,2,none⟩=some (.slice A2 (fN p 2) k2):=by rw[hW0,<-hB];simp[go_sem]
 have c3:W0.cell? ⟨B,3,none⟩=some (.slice A3 (fN p 3) k3):=by rw[hW0,<-hB];simp[go_sem]
 have c4:W0.cell? ⟨B,4,none⟩=some (.slice A4 (fN p 4) k4):=by rw[hW0,<-hB];simp[go_sem]
 have c5:W0.cell? ⟨B,5,none⟩=some (.slice A5 (fN p 5) k5):=by rw[hW0,<-hB];simp[go_sem]
 have c6:W0.cell? ⟨B,6,none⟩=some (.bool p.rel):=by rw[hW0,<-hB];simp[go_sem]
 have c7:W0.cell? ⟨B,7,none⟩=some (.int .i64 p.depth):=by rw[hW0,<-hB];simp[go_sem]
 have c8:W0.cell? ⟨B,8,none⟩=some (.int .i64 p.name):=by rw[hW0,<-hB];simp[go_sem]
 have c9:W0.cell? ⟨B,9,none⟩=some (.int .i64 p.value):=by rw[hW0,<-hB];simp[go_sem]
 have hBl:B<W0.heap.size:=by rw[hW0,<-hB];simp
 have HB0:=Lib.hid hb0
 clear hW0 hb0
 go_wp2_with fail
 go_loopw [21] (fun i wr=> ∃k:Nat,k<=4/\i= .int .i64 k/\Hid (R=okFrom p k)/\Hid (Below W0.heap.size W0 wr)) (fun i _=>4-(intOf i).toNat)
 case atStart=>exact⟨0,by omega,rfl,HE.out,by show Below _ _ _;exact bel⟩
 case round=>
  clear HE
  obtain⟨k,hk,rfl,HK,HB⟩:=hrel
  have HBw:=Lib.hid (HB0.out.trans (HB.out.mono (HB0.out.size)))
  by_cases hlt:k<4
  ·obtain⟨A,c,hA⟩: ∃A c,(k=0/\A=A0/\c=k0)\/(k=1/\A=A1/\c=k1)\/(k=2/\A=A2/\c=k2)\/(k=3/\A=A3/\c=k3):=by
    rcases(by omega:k=0\/k=1\/k=2\/k=3)with rfl|rfl|rfl|rfl
    ·exact⟨A0,k0,.inl ⟨rfl,rfl,rfl⟩⟩
    ·exact⟨A1,k1,.inr (.inl ⟨rfl,rfl,rfl⟩)⟩
    ·exact⟨A2,k2,.inr (.inr (.inl ⟨rfl,rfl,rfl⟩))⟩
    ·exact⟨A3,k3,.inr (.inr (.inr ⟨rfl,rfl,rfl⟩))⟩
   have HRd:Hid (Rd w (.slice A (l4 p k).length c) (l4 p k).length 1 ((l4 p k).map sv)/\(l4 p k).length<=100000000):=by
    rcases hA with⟨rfl,rfl,rfl⟩|⟨rfl,rfl,rfl⟩|⟨rfl,rfl,rfl⟩|⟨rfl,rfl,rfl⟩
    ·exact⟨H0.out,HSm.out.tags⟩
    ·exact⟨H1.out,HSm.out.schemes⟩
    ·exact⟨H2.out,HSm.out.css⟩
    ·exact⟨H3.out,HSm.out.drops⟩
   have HStep:=Lib.hid (okFrom_step p k hlt)
   have htx:=HTx.out.lists k hlt
   obtain⟨L,hL⟩: ∃L,l4 p k=L:=⟨_,rfl⟩
   have HL:=Lib.hid hL
   rw[hL]at HRd htx HStep
   have HCf:=Lib.hid (fun W (hb:Below w.heap.size w W)=>containsS_any _ L _ _ W (HRd.out.1.belowW hb) (right1_pred L htx))
   have HNt:=Lib.hid (fun W (hb:Below w.heap.size w W)=>neatS_any A c L W (HRd.out.1.belowW hb) (by have:=HRd.out.2;omega))
   have HEq:=Lib.hid (fun W u (hb:Below w.heap.size w W) (hu:Rd W u (neatL ltB L).length 1 ((neatL ltB L).map sv))=>equalS_any _ u L (neatL ltB L) W (HRd.out.1.belowW hb) hu)
   have HAny:Hid (okS L=(!(L.any fun t=> !wordB t)&&decide (L=neatL ltB L))):=by
    show _=_
    unfold okS
    rw[List.all_eq_not_any_not]
   obtain⟨U,hU⟩: ∃U,(L.any fun t=> !wordB t)=U:=⟨_,rfl⟩
   obtain⟨E,hE⟩: ∃E,decide (L=neatL ltB L)=E:=⟨_,rfl⟩
   rw[hU]at HCf HAny
   rw[hE]at HEq HAny
   clear hU hE htx
   have hidx: ∀W,(Instr.index 177 (.agg #[.slice A0 (fN p 0) k0,.slice A1 (fN p 1) k1,.slice A2 (fN p 2) k2,.slice A3 (fN p 3) k3]) (.int .i64 k)).run Tryz.prog W= .ok (.slice A L.length c) W:=by
    intro W
    rcases hA with⟨rfl,rfl,rfl⟩|⟨rfl,rfl,rfl⟩|⟨rfl,rfl,rfl⟩|⟨rfl,rfl,rfl⟩<;>(rw[<-hL];rfl)
   clear hA hL
   go_upto_region 5 with fail
   have hs1:=HBw.out.size
   cases U with
   |true=>
    have HR:Hid (R=false):=by show _=_;rw[HK.out,HStep.out,HAny.out];rfl
    clear HK HStep HAny HNt HEq
    go_wp2_with(go_at_call 125;(with_reducible refine(HCf.out _ HBw.out).mono ?_);rintro e W1 ⟨rfl,X1,rfl⟩)
    go_ret
    exact Ret.of (by rw[HR.out];rfl) (HBw.out.trans ((bel:Below wr.heap.size wr (wr.grow X1)).mono hs1))
   |false=>
    have HNx:Hid (R=(E&&okFrom p (k+1))):=by show _=_;rw[HK.out,HStep.out,HAny.out];rfl
    clear HK HStep HAny
    cases E with
    |false=>
     have HR:Hid (R=false):=HNx.out
     go_wp2_with(first
      |(go_at_call 125;(with_reducible refine(HCf.out _ HBw.out).mono ?_);rintro e W1 ⟨rfl,X1,hX1⟩;have HB1:=Lib.hid (HBw.out.trans ((show Below wr.heap.size wr W1 by rw[hX1];exact bel).mono hs1));clear hX1)
      |(go_at_call 117;(with_reducible refine(HNt.out _ HB1.out).mono ?_);rintro e W2 ⟨A2,c2,rfl,hb2,_,hr2,_⟩;have HB2:=Lib.hid (HB1.out.trans (hb2.mono HB1.out.size));have HR2:=Lib.hid hr2;clear hb2 hr2)
      |(go_at_call 126;(with_reducible refine(HEq.out _ _ HB2.out HR2.out).mono ?_);rintro e W3 ⟨rfl,X3,hX3⟩;have HB3:=Lib.hid (HB2.out.trans ((show Below W2.heap.size W2 W3 by rw[hX3];exact bel).mono HB2.out.size));clear hX3))
     go_ret
     exact Ret.of (by rw[HR.out];rfl) HB3.out
    |true=>
     have HR:Hid (R=okFrom p (k+1)):=HNx.out
     have HBo:=Lib.hid (fun W (hb:Below wr.heap.size wr W)=>show Below W0.heap.size W0 W from HB.out.trans (hb.mono HB.out.size))
     go_wp2_with(first
      |(go_at_call 125;(with_reducible refine(HCf.out _ HBw.out).mono ?_);rintro e W1 ⟨rfl,X1,hX1⟩;have HD1:=Lib.hid (show Below wr.heap.size wr W1 by rw[hX1];exact bel);have HB1:=Lib.hid (HBw.out.trans (HD1.out.mono hs1));clear hX1)
      |(go_at_call 117;(with_reducible refine(HNt.out _ HB1.out).mono ?_);rintro e W2 ⟨A2,c2,rfl,hb2,_,hr2,_⟩;have HB2:=Lib.hid (HB1.out.trans (hb2.mono HB1.out.size));have HD2:=Lib.hid (HD1.out.trans (hb2.mono HD1.out.size));have HR2:=Lib.hid hr2;clear hb2 hr2)
      |(go_at_call 126;(with_reducible refine(HEq.out _ _ HB2.out HR2.out).mono ?_);rintro e W3 ⟨rfl,X3,hX3⟩;have HD3:=Lib.hid (HD2.out.trans ((show Below W2.heap.size W2 W3 by rw[hX3];exact bel).mono HD2.out.size));clear hX3))
     go_roundw
     case rel=>exact⟨k+1,by omega,by go_num,HR.out,HBo.out _ HD3.out⟩
     case measure=>simp[intOf];omega
  ·have hk4:k=4:=by omega
   have HK2:Hid (R=((p.attrs.drop 0).all alwB&&(p.forces.all frcB&&(limB p&&fitB p&&decide (p.attrs=neatL ltA p.attrs)&&decide (p.forces=neatL ltF p.forces))))):=by show _=_;rw[HK.out,hk4,List.drop_zero,<-Bool.and_assoc];rfl
   clear hk4
   obtain⟨T,hT⟩: ∃T,(limB p&&fitB p&&decide (p.attrs=neatL ltA p.attrs)&&decide (p.forces=neatL ltF p.forces))=T:=⟨_,rfl⟩
   rw[hT]at HK2
   have HT:=Lib.hid hT
   have hm4:fN p 4<=100000000:=HSm.out.attrs
   have hm5:fN p 5<=100000000:=HSm.out.forces
   have c4r:=(HB.out.cell (p:=⟨B,4,none⟩) hBl).trans c4
   have hBr:B<wr.heap.size:=Nat.lt_of_lt_of_le hBl HB.out.size
   clear HK hT H0 H1 H2 H3
   go_upto_region 9 with fail
   go_loopw [38] (fun i wr=> ∃k:Nat,k<=fN p 4/\i= .int .i64 k/\Hid (R=((p.attrs.drop k).all alwB&&(p.forces.all frcB&&T)))/\Hid (Below W0.heap.size W0 wr)) (fun i _=>fN p 4-(intOf i).toNat)
   case atStart=>exact⟨0,by omega,rfl,HK2.out,HB.out⟩
   case round=>
    clear HK2 HB HBw
    clear hlt hk
    obtain⟨k,hk,rfl,HK,HB⟩:=hrel
    have HBw:=Lib.hid (HB0.out.trans (HB.out.mono (HB0.out.size)))
    have hs1:=HBw.out.size
    by_cases hlt:k<fN p 4
    ·have hkl:k<p.attrs.length:=hlt
     obtain⟨b,off,hAd,hb,hc⟩: ∃b off,A4=some ⟨b,off,none⟩/\b<w.heap.size/\ ∀j u,(fC p 4)[j]? =some u->w.cell? ⟨b,off+j,none⟩=some u:=by
      obtain⟨_,_,A',c',e,h4⟩:=H4.out
      cases e
      exact h4 (by omega)
     subst hAd
     obtain⟨x,hx⟩: ∃x,p.attrs[k]=x:=⟨_,rfl⟩
     have htx:=HTx.out.attrs x (by rw[<-hx];exact List.getElem_mem hkl)
     have x0:wr.cell? ⟨b,off+k*2,none⟩=some (.string ⟨x.tag.toArray⟩):=(HBw.out.cell (p:=⟨b,off+k*2,none⟩) hb).trans (hc (k*2+0) (sv x.tag) (by show(p.attrs.flatMap Alw.cells)[k*2+0]? =_;rw[flat_at2 Alw.cells 2 alw_len p.attrs k 0 hkl (by omega),hx];rfl))
     have x1:wr.cell? ⟨b,off+k*2+1,none⟩=some (.string ⟨x.name.toArray⟩):=(HBw.out.cell (p:=⟨b,off+k*2+1,none⟩) hb).trans ((congrArg (fun i=>w.cell? ⟨b,i,none⟩) (by omega)).trans (hc (k*2+1) (sv x.name) (by show(p.attrs.flatMap Alw.cells)[k*2+1]? =_;rw[flat_at2 Alw.cells 2 alw_len p.attrs k 1 hkl (by omega),hx];rfl)))
     have hbr:b<wr.heap.size:=Nat.lt_of_lt_of_le hb HBw.out.size
     have HN:Hid (R=(alwB x&&((p.attrs.drop (k+1)).all alwB&&(p.forces.all frcB&&T)))):=by show _=_;rw[HK.out,List.drop_eq_getElem_cons hkl,hx,List.all_cons,Bool.and_assoc]
     have HW1:=Lib.hid (fun W=>show Calls Tryz.prog 123 #[.string ⟨x.tag.toArray⟩] W _ from right1_any x.tag W htx.1)
     have HW2:=Lib.hid (fun W=>show Calls Tryz.prog 123 #[.string ⟨x.name.toArray⟩] W _ from right1_any x.name W htx.2)
     have hal:alwB x=((decide (x.tag=[42])||wordB x.tag)&&wordB x.name):=rfl
     have hstar:(⟨x.tag.toArray⟩:ByteArray).toList=x.tag:=by rw[ByteArray.toList_eq]
     have hsb:Below wr.heap.size wr (wr.alloc (.cells #[.string ⟨x.tag.toArray⟩,.string ⟨x.name.toArray⟩] 101)):=bel
     have HSb:=Lib.hid hsb
     have HBo:=Lib.hid (fun W (hb:Below wr.heap.size wr W)=>show Below W0.heap.size W0 W from HB.out.trans (hb.mono HB.out.size))
     have HBz:=Lib.hid (fun W (hb:Below wr.heap.size wr W)=>show Below w.heap.size w W from HBw.out.trans (hb.mono HBw.out.size))
     generalize(⟨x.tag.toArray⟩:ByteArray)=s1 at*
     generalize(⟨x.name.toArray⟩:ByteArray)=s2 at*
     generalize wordB x.tag=B2 at*
     generalize wordB x.name=B3 at*
     rw[hal]at HN
     clear hal hx hc htx HK hsb HB HBw
     by_cases hB1:x.tag=[42]
     ·rw[decide_eq_true hB1]at HN
      rw[hB1]at hstar
      clear hB1
      cases B3 with
      |true=>
       have HR:Hid (R=((p.attrs.drop (k+1)).all alwB&&(p.forces.all frcB&&T))):=HN.out
       go_wp2_with(go_at_call 123;(with_reducible refine(HW2.out _).mono ?_);rintro e W2 ⟨rfl,X2,hX2⟩;have HD2:=Lib.hid (HSb.out.trans ((show Below (wr.alloc (.cells #[.string s1,.string s2] 101)).heap.size (wr.alloc (.cells #[.string s1,.string s2] 101)) W2 by rw[hX2];exact bel).mono HSb.out.size));clear hX2)
       go_roundw
       case rel=>exact⟨k+1,by omega,by go_num,HR.out,HBo.out _ HD2.out⟩
       case measure=>simp[intOf];omega
      |false=>
       have HR:Hid (R=false):=HN.out
       go_wp2_with(go_at_call 123;(with_reducible refine(HW2.out _).mono ?_);rintro e W2 ⟨rfl,X2,hX2⟩;have HD2:=Lib.hid (HSb.out.trans ((show Below (wr.alloc (.cells #[.string s1,.string s2] 101)).heap.size (wr.alloc (.cells #[.string s1,.string s2] 101)) W2 by rw[hX2];exact bel).mono HSb.out.size));clear hX2)
       go_ret
       exact Ret.of (by rw[HR.out];rfl) (HBz.out _ HD2.out)
     ·rw[decide_eq_false hB1]at HN
      have hst2: ¬s1.toList=[42]:=by rw[hstar];exact hB1
      clear hB1 hstar
      cases B2 with
      |true=>
       cases B3 with
       |true=>
        have HR:Hid (R=((p.attrs.drop (k+1)).all alwB&&(p.forces.all frcB&&T))):=HN.out
        go_wp2_with(first|(go_at_call 123;(with_reducible refine(HW1.out _).mono ?_);rintro e W1 ⟨rfl,X1,hX1⟩;have HD1:=Lib.hid (HSb.out.trans ((show Below (wr.alloc (.cells #[.string s1,.string s2] 101)).heap.size (wr.alloc (.cells #[.string s1,.string s2] 101)) W1 by rw[hX1];exact bel).mono HSb.out.size));have hz0:=(show W1.cell? ⟨wr.heap.size,0,none⟩=some (.string s1) by rw[hX1];simp[go_sem]);have hz1:=(show W1.cell? ⟨wr.heap.size,1,none⟩=some (.string s2) by rw[hX1];simp[go_sem]);have hzl:wr.heap.size<W1.heap.size:=(by rw[hX1];simp[size_grow];omega);clear hX1)|(go_at_call 123;(with_reducible refine(HW2.out _).mono ?_);rintro e W2 ⟨rfl,X2,hX2⟩;have HD2:=Lib.hid (HD1.out.trans ((show Below W1.heap.size W1 W2 by rw[hX2];exact bel).mono HD1.out.size));clear hX2))
        go_roundw
        case rel=>exact⟨k+1,by omega,by go_num,HR.out,HBo.out _ HD2.out⟩
        case measure=>simp[intOf];omega
       |false=>
        have HR:Hid (R=false):=HN.out
        go_wp2_with(first|(go_at_call 123;(with_reducible refine(HW1.out _).mono ?_);rintro e W1 ⟨rfl,X1,hX1⟩;have HD1:=Lib.hid (HSb.out.trans ((show Below (wr.alloc (.cells #[.string s1,.string s2] 101)).heap.size (wr.alloc (.cells #[.string s1,.string s2] 101)) W1 by rw[hX1];exact bel).mono HSb.out.size));have hz0:=(show W1.cell? ⟨wr.heap.size,0,none⟩=some (.string s1) by rw[hX1];simp[go_sem]);have hz1:=(show W1.cell? ⟨wr.heap.size,1,none⟩=some (.string s2) by rw[hX1];simp[go_sem]);have hzl:wr.heap.size<W1.heap.size:=(by rw[hX1];simp[size_grow];omega);clear hX1)|(go_at_call 123;(with_reducible refine(HW2.out _).mono ?_);rintro e W2 ⟨rfl,X2,hX2⟩;have HD2:=Lib.hid (HD1.out.trans ((show Below W1.heap.size W1 W2 by rw[hX2];exact bel).mono HD1.out.size));clear hX2))
        go_ret
        exact Ret.of (by rw[HR.out];rfl) (HBz.out _ HD2.out)
      |false=>
       have HR:Hid (R=false):=HN.out
       go_wp2_with(go_at_call 123;(with_reducible refine(HW1.out _).mono ?_);rintro e W1 ⟨rfl,X1,hX1⟩;have HD1:=Lib.hid (HSb.out.trans ((show Below (wr.alloc (.cells #[.string s1,.string s2] 101)).heap.size (wr.alloc (.cells #[.string s1,.string s2] 101)) W1 by rw[hX1];exact bel).mono HSb.out.size));have hz0:=(show W1.cell? ⟨wr.heap.size,0,none⟩=some (.string s1) by rw[hX1];simp[go_sem]);have hz1:=(show W1.cell? ⟨wr.heap.size,1,none⟩=some (.string s2) by rw[hX1];simp[go_sem]);have hzl:wr.heap.size<W1.heap.size:=(by rw[hX1];simp[size_grow];omega);clear hX1)
       go_ret
       exact Ret.of (by rw[HR.out];rfl) (HBz.out _ HD1.out)
    ·have HK3:Hid (R=((p.forces.drop 0).all frcB&&T)):=by
      show _=_
      rw[HK.out,List.drop_zero,List.drop_eq_nil_of_le (by show fN p 4<=k;omega)];rfl
     have c5r:=(HB.out.cell (p:=⟨B,5,none⟩) hBl).trans c5
     have hBr:B<wr.heap.size:=Nat.lt_of_lt_of_le hBl HB.out.size
     clear HK H4
     go_upto_region 15 with fail
     go_loopw [61] (fun i wr=> ∃k:Nat,k<=fN p 5/\i= .int .i64 k/\Hid (R=((p.forces.drop k).all frcB&&T))/\Hid (Below W0.heap.size W0 wr)) (fun i _=>fN p 5-(intOf i).toNat)
     case atStart=>exact⟨0,by omega,rfl,HK3.out,HB.out⟩
     case round=>
      clear HK3 HB HBw hlt hk c5r
      obtain⟨k,hk,rfl,HK,HB⟩:=hrel
      have HBw:=Lib.hid (HB0.out.trans (HB.out.mono (HB0.out.size)))
      have hs1:=HBw.out.size
      by_cases hlt:k<fN p 5
      ·have hkl:k<p.forces.length:=hlt
       obtain⟨b,off,hAd,hb,hc⟩: ∃b off,A5=some ⟨b,off,none⟩/\b<w.heap.size/\ ∀j u,(fC p 5)[j]? =some u->w.cell? ⟨b,off+j,none⟩=some u:=by
        obtain⟨_,_,A',c',e,h4⟩:=H5.out
        cases e
        exact h4 (by omega)
       subst hAd
       obtain⟨x,hx⟩: ∃x,p.forces[k]=x:=⟨_,rfl⟩
       have htx:=HTx.out.forces x (by rw[<-hx];exact List.getElem_mem hkl)
       have x0:wr.cell? ⟨b,off+k*3,none⟩=some (.string ⟨x.tag.toArray⟩):=(HBw.out.cell (p:=⟨b,off+k*3,none⟩) hb).trans (hc (k*3+0) (sv x.tag) (by show(p.forces.flatMap Frc.cells)[k*3+0]? =_;rw[flat_at2 Frc.cells 3 frc_len p.forces k 0 hkl (by omega),hx];rfl))
       have x1:wr.cell? ⟨b,off+k*3+1,none⟩=some (.string ⟨x.name.toArray⟩):=(HBw.out.cell (p:=⟨b,off+k*3+1,none⟩) hb).trans ((congrArg (fun i=>w.cell? ⟨b,i,none⟩) (by omega)).trans (hc (k*3+1) (sv x.name) (by show(p.forces.flatMap Frc.cells)[k*3+1]? =_;rw[flat_at2 Frc.cells 3 frc_len p.forces k 1 hkl (by omega),hx];rfl)))
       have x2:wr.cell? ⟨b,off+k*3+2,none⟩=some (.string ⟨x.value.toArray⟩):=(HBw.out.cell (p:=⟨b,off+k*3+2,none⟩) hb).trans ((congrArg (fun i=>w.cell? ⟨b,i,none⟩) (by omega)).trans (hc (k*3+2) (sv x.value) (by show(p.forces.flatMap Frc.cells)[k*3+2]? =_;rw[flat_at2 Frc.cells 3 frc_len p.forces k 2 hkl (by omega),hx];rfl)))
       have hbr:b<wr.heap.size:=Nat.lt_of_lt_of_le hb HBw.out.size
       have HN:Hid (R=(frcB x&&((p.forces.drop (k+1)).all frcB&&T))):=by show _=_;rw[HK.out,List.drop_eq_getElem_cons hkl,hx,List.all_cons,Bool.and_assoc]
       have HW1:=Lib.hid (fun W=>show Calls Tryz.prog 123 #[.string ⟨x.tag.toArray⟩] W _ from right1_any x.tag W htx.1)
       have HW2:=Lib.hid (fun W=>show Calls Tryz.prog 123 #[.string ⟨x.name.toArray⟩] W _ from right1_any x.name W htx.2.1)
       have HQ:=Lib.hid (fun W=>show Calls Tryz.prog 127 #[.string ⟨x.value.toArray⟩] W (Ret (quoteV (quoteL x.value)) W)from quote_any ⟨x.value.toArray⟩ W (by show x.value.toArray.size<=_;simpa using htx.2.2))
       have hal:frcB x=(!x.value.any oddB&&wordB x.tag&&wordB x.name):=rfl
       have HSb:Hid (Below wr.heap.size wr (wr.alloc (.cells #[.string ⟨x.tag.toArray⟩,.string ⟨x.name.toArray⟩,.string ⟨x.value.toArray⟩] 103))):=by show Below _ _ _;exact bel
       have HBo:=Lib.hid (fun W (hb:Below wr.heap.size wr W)=>show Below W0.heap.size W0 W from HB.out.trans (hb.mono HB.out.size))
       have HBz:=Lib.hid (fun W (hb:Below wr.heap.size wr W)=>show Below w.heap.size w W from HBw.out.trans (hb.mono HBw.out.size))
       generalize(⟨x.tag.toArray⟩:ByteArray)=s1 at*
       generalize(⟨x.name.toArray⟩:ByteArray)=s2 at*
       generalize(⟨x.value.toArray⟩:ByteArray)=s3 at*
       generalize wordB x.tag=B2 at*
       generalize wordB x.name=B3 at*
       rw[hal]at HN
       have hqv:quoteV (quoteL x.value)=if x.value.any oddB then .tuple #[.string ⟨#[]⟩,.bool false]else .tuple #[.string ⟨(34::esc x.value++[34]).toArray⟩,.bool true]:=by
        unfold quoteL
        split<;>rfl
       rw[hqv]at HQ
       generalize(⟨(34::esc x.value++[34]).toArray⟩:ByteArray)=sq at*
       generalize x.value.any oddB=B1 at*
       clear hal hx hc htx HK HB HBw hqv
       cases B1 with
       |true=>
        have HR:Hid (R=false):=HN.out
        have HQ:=Lib.hid (fun W=>show Calls Tryz.prog 127 #[.string s3] W (Ret (.tuple #[.string ⟨#[]⟩,.bool false]) W)from HQ.out W)
        go_wp2_with(go_at_call 127;(with_reducible refine(HQ.out _).mono ?_);rintro e W0q ⟨rfl,Xq,hXq⟩;have HD0:=Lib.hid (HSb.out.trans ((show Below (wr.alloc (.cells #[.string s1,.string s2,.string s3] 103)).heap.size (wr.alloc (.cells #[.string s1,.string s2,.string s3] 103)) W0q by rw[hXq];exact bel).mono HSb.out.size));have hz0:=(show W0q.cell? ⟨wr.heap.size,0,none⟩=some (.string s1) by rw[hXq];simp[go_sem]);have hz1:=(show W0q.cell? ⟨wr.heap.size,1,none⟩=some (.string s2) by rw[hXq];simp[go_sem]);have hzl:wr.heap.size<W0q.heap.size:=(by rw[hXq];simp[size_grow];omega);clear hXq)
        go_ret
        exact Ret.of (by rw[HR.out];rfl) (HBz.out _ HD0.out)
       |false=>
        have HQ:=Lib.hid (fun W=>show Calls Tryz.prog 127 #[.string s3] W (Ret (.tuple #[.string sq,.bool true]) W)from HQ.out W)
        cases B2 with
        |true=>
         cases B3 with
         |true=>
          have HR:Hid (R=((p.forces.drop (k+1)).all frcB&&T)):=HN.out
          go_wp2_with(first|(go_at_call 127;(with_reducible refine(HQ.out _).mono ?_);rintro e W0q ⟨rfl,Xq,hXq⟩;have HD0:=Lib.hid (HSb.out.trans ((show Below (wr.alloc (.cells #[.string s1,.string s2,.string s3] 103)).heap.size (wr.alloc (.cells #[.string s1,.string s2,.string s3] 103)) W0q by rw[hXq];exact bel).mono HSb.out.size));have hz0:=(show W0q.cell? ⟨wr.heap.size,0,none⟩=some (.string s1) by rw[hXq];simp[go_sem]);have hz1:=(show W0q.cell? ⟨wr.heap.size,1,none⟩=some (.string s2) by rw[hXq];simp[go_sem]);have hzl:wr.heap.size<W0q.heap.size:=(by rw[hXq];simp[size_grow];omega);clear hXq)|(go_at_call 123;(with_reducible refine(HW1.out _).mono ?_);rintro e W1 ⟨rfl,X1,hX1⟩;have hd1:Below W0q.heap.size W0q W1:=(by rw[hX1];exact bel);have HD1:=Lib.hid (HD0.out.trans (hd1.mono HD0.out.size));have hy1:=(hd1.cell (p:=⟨wr.heap.size,1,none⟩) hzl).trans hz1;have hyl:wr.heap.size<W1.heap.size:=Nat.lt_of_lt_of_le hzl hd1.size;clear hX1 hd1)|(go_at_call 123;(with_reducible refine(HW2.out _).mono ?_);rintro e W2 ⟨rfl,X2,hX2⟩;have HD2:=Lib.hid (HD1.out.trans ((show Below W1.heap.size W1 W2 by rw[hX2];exact bel).mono HD1.out.size));clear hX2))
          go_roundw
          case rel=>exact⟨k+1,by omega,by go_num,HR.out,HBo.out _ HD2.out⟩
          case measure=>simp[intOf];omega
         |false=>
          have HR:Hid (R=false):=HN.out
          go_wp2_with(first|(go_at_call 127;(with_reducible refine(HQ.out _).mono ?_);rintro e W0q ⟨rfl,Xq,hXq⟩;have HD0:=Lib.hid (HSb.out.trans ((show Below (wr.alloc (.cells #[.string s1,.string s2,.string s3] 103)).heap.size (wr.alloc (.cells #[.string s1,.string s2,.string s3] 103)) W0q by rw[hXq];exact bel).mono HSb.out.size));have hz0:=(show W0q.cell? ⟨wr.heap.size,0,none⟩=some (.string s1) by rw[hXq];simp[go_sem]);have hz1:=(show W0q.cell? ⟨wr.heap.size,1,none⟩=some (.string s2) by rw[hXq];simp[go_sem]);have hzl:wr.heap.size<W0q.heap.size:=(by rw[hXq];simp[size_grow];omega);clear hXq)|(go_at_call 123;(with_reducible refine(HW1.out _).mono ?_);rintro e W1 ⟨rfl,X1,hX1⟩;have hd1:Below W0q.heap.size W0q W1:=(by rw[hX1];exact bel);have HD1:=Lib.hid (HD0.out.trans (hd1.mono HD0.out.size));have hy1:=(hd1.cell (p:=⟨wr.heap.size,1,none⟩) hzl).trans hz1;have hyl:wr.heap.size<W1.heap.size:=Nat.lt_of_lt_of_le hzl hd1.size;clear hX1 hd1)|(go_at_call 123;(with_reducible refine(HW2.out _).mono ?_);rintro e W2 ⟨rfl,X2,hX2⟩;have HD2:=Lib.hid (HD1.out.trans ((show Below W1.heap.size W1 W2 by rw[hX2];exact bel).mono HD1.out.size));clear hX2))
          go_ret
          exact Ret.of (by rw[HR.out];rfl) (HBz.out _ HD2.out)
        |false=>
         have HR:Hid (R=false):=HN.out
         go_wp2_with(first|(go_at_call 127;(with_reducible refine(HQ.out _).mono ?_);rintro e W0q ⟨rfl,Xq,hXq⟩;have HD0:=Lib.hid (HSb.out.trans ((show Below (wr.alloc (.cells #[.string s1,.string s2,.string s3] 103)).heap.size (wr.alloc (.cells #[.string s1,.string s2,.string s3] 103)) W0q by rw[hXq];exact bel).mono HSb.out.size));have hz0:=(show W0q.cell? ⟨wr.heap.size,0,none⟩=some (.string s1) by rw[hXq];simp[go_sem]);have hz1:=(show W0q.cell? ⟨wr.heap.size,1,none⟩=some (.string s2) by rw[hXq];simp[go_sem]);have hzl:wr.heap.size<W0q.heap.size:=(by rw[hXq];simp[size_grow];omega);clear hXq)|(go_at_call 123;(with_reducible refine(HW1.out _).mono ?_);rintro e W1 ⟨rfl,X1,hX1⟩;have hd1:Below W0q.heap.size W0q W1:=(by rw[hX1];exact bel);have HD1:=Lib.hid (HD0.out.trans (hd1.mono HD0.out.size));have hy1:=(hd1.cell (p:=⟨wr.heap.size,1,none⟩) hzl).trans hz1;have hyl:wr.heap.size<W1.heap.size:=Nat.lt_of_lt_of_le hzl hd1.size;clear hX1 hd1))
         go_ret
         exact Ret.of (by rw[HR.out];rfl) (HBz.out _ HD1.out)
      ·have HRT:Hid (R=T):=by
        show _=_
        rw[HK.out,List.drop_eq_nil_of_le (by show fN p 5<=k;omega)];rfl
       clear HK
       go_upto_region 21 with fail
       have hS0:Below W0.heap.size W0 wr.drew:=HB.out.drew
       try clear c4r
       have HL:=Lib.hid (fun W=>limits_any (.slice A0 (fN p 0) k0) (.slice A1 (fN p 1) k1) (.slice A2 (fN p 2) k2) (.slice A3 (fN p 3) k3) (.slice A4 (fN p 4) k4) (.slice A5 (fN p 5) k5) p W)
       have HF:=Lib.hid (fun W (hb:Below w.heap.size w W)=>fits_any (.agg #[.slice A0 (fN p 0) k0,.slice A1 (fN p 1) k1,.slice A2 (fN p 2) k2,.slice A3 (fN p 3) k3,.slice A4 (fN p 4) k4,.slice A5 (fN p 5) k5,.bool p.rel,.int .i64 p.depth,.int .i64 p.name,.int .i64 p.value]) (fun _=>False) p W (HV.out.below hb))
       have HNA:=Lib.hid (fun W (hb:Below w.heap.size w W)=>show Calls _ _ #[.slice A4 (fN p 4) k4,_] W _ from neatA_any A4 k4 p.attrs W (H4'.out.belowW hb) (by have:=HSm.out.attrs;omega))
       have HEA:=Lib.hid (fun W u (hb:Below w.heap.size w W) (hu:Rd W u (neatL ltA p.attrs).length 2 ((neatL ltA p.attrs).flatMap Alw.cells))=>equalA_any (.slice A4 (fN p 4) k4) u p.attrs (neatL ltA p.attrs) W (H4'.out.belowW hb) hu)
       have HNF:=Lib.hid (fun W (hb:Below w.heap.size w W)=>show Calls _ _ #[.slice A5 (fN p 5) k5,_] W _ from neatF_any A5 k5 p.forces W (H5'.out.belowW hb) (by have:=HSm.out.forces;omega))
       have HEF:=Lib.hid (fun W u (hb:Below w.heap.size w W) (hu:Rd W u (neatL ltF p.forces).length 3 ((neatL ltF p.forces).flatMap Frc.cells))=>equalF_any (.slice A5 (fN p 5) k5) u p.forces (neatL ltF p.forces) W (H5'.out.belowW hb) hu)
       have HT2:=HT.out
       generalize decide (p.attrs=neatL ltA p.attrs)=EA at*
       generalize decide (p.forces=neatL ltF p.forces)=EF at*
       generalize limB p=LB at*
       generalize fitB p=FB at*
       clear HT2
       cases LB with
       |false=>
        refine wp_region_row 22 [(0,true),(1,false),(2,true),(3,true),(4,false),(5,true),(6,true),(7,true),(8,true),(9,true),(10,true),(11,false),(12,false),(13,true),(14,true),(15,true),(16,true),(17,true),(18,true),(19,false),(20,false),(21,true)] (fun V=>Below W0.heap.size W0 V) hmx (by kernel_rfl) (by kernel_rfl) (by kernel_rfl) (by decide) rfl (fun c a d v w h=>by obtain⟨x,y⟩:=(h:_/\_);cases d<;>exact⟨x,y⟩) (by kernel_rfl) (by exact hS0) ?_
        refine wpRow_readD (v:=(.agg #[.slice A0 (fN p 0) k0,.slice A1 (fN p 1) k1,.slice A2 (fN p 2) k2,.slice A3 (fN p 3) k3,.slice A4 (fN p 4) k4,.slice A5 (fN p 5) k5,.bool p.rel,.int .i64 p.depth,.int .i64 p.name,.int .i64 p.value])) 86 rfl rfl rfl (fun W hW=>by have d0:=(hW.cell (p:=⟨B,0,none⟩) hBl).trans c0;have d1:=(hW.cell (p:=⟨B,1,none⟩) hBl).trans c1;have d2:=(hW.cell (p:=⟨B,2,none⟩) hBl).trans c2;have d3:=(hW.cell (p:=⟨B,3,none⟩) hBl).trans c3;have d4:=(hW.cell (p:=⟨B,4,none⟩) hBl).trans c4;have d5:=(hW.cell (p:=⟨B,5,none⟩) hBl).trans c5;have d6:=(hW.cell (p:=⟨B,6,none⟩) hBl).trans c6;have d7:=(hW.cell (p:=⟨B,7,none⟩) hBl).trans c7;have d8:=(hW.cell (p:=⟨B,8,none⟩) hBl).trans c8;have d9:=(hW.cell (p:=⟨B,9,none⟩) hBl).trans c9;simp[execOp,go_sem,d0,d1,d2,d3,d4,d5,d6,d7,d8,d9]) ?_
        simp only[Act.put,List.setIfInBounds_toArray,List.set_cons_succ,List.set_cons_zero]
        refine wpRow_op rfl rfl fun Kc hKc=> ?_
        unfold Oper.wp
        simp[execOp,go_sem]
        refine(HL.out _).mono ?_
        rintro e Wk1 ⟨rfl,Xk1,hXk1⟩
        have hk1:Below W0.heap.size W0 Wk1:=hS0.trans ((show Below (wr.drew).heap.size (wr.drew) Wk1 by rw[hXk1];exact bel).mono hS0.size)
        clear hXk1
        show Kc _ _
        apply hKc
        refine⟨hk1, ?_⟩
        refine wpRow_readD (v:=(.bool false)) 88 rfl rfl rfl (fun W hW=>by simp[execOp,go_sem]) ?_
        simp only[Act.put,List.setIfInBounds_toArray,List.set_cons_succ,List.set_cons_zero]
        refine wpRow_skip 89 rfl rfl rfl ?_
        simp only[Act.put,List.setIfInBounds_toArray,List.set_cons_succ,List.set_cons_zero]
        refine wpRow_opskip 90 rfl rfl rfl hk1 ?_
        simp only[Act.put,List.setIfInBounds_toArray,List.set_cons_succ,List.set_cons_zero]
        refine wpRow_readD (v:=(.bool false)) 91 rfl rfl rfl (fun W hW=>by simp[execOp,go_sem]) ?_
        simp only[Act.put,List.setIfInBounds_toArray,List.set_cons_succ,List.set_cons_zero]
        refine wpRow_readD (v:=(.bool false)) 92 rfl rfl rfl (fun W hW=>by simp[execOp,go_sem]) ?_
        simp only[Act.put,List.setIfInBounds_toArray,List.set_cons_succ,List.set_cons_zero]
        refine wpRow_skip 93 rfl rfl rfl ?_
        simp only[Act.put,List.setIfInBounds_toArray,List.set_cons_succ,List.set_cons_zero]
        refine wpRow_skip 94 rfl rfl rfl ?_
        simp only[Act.put,List.setIfInBounds_toArray,List.set_cons_succ,List.set_cons_zero]
        refine wpRow_skip 95 rfl rfl rfl ?_
        simp only[Act.put,List.setIfInBounds_toArray,List.set_cons_succ,List.set_cons_zero]
        refine wpRow_skip 96 rfl rfl rfl ?_
        simp only[Act.put,List.setIfInBounds_toArray,List.set_cons_succ,List.set_cons_zero]
        refine wpRow_opskip 97 rfl rfl rfl hk1 ?_
        simp only[Act.put,List.setIfInBounds_toArray,List.set_cons_succ,List.set_cons_zero]
        refine wpRow_opskip 98 rfl rfl rfl hk1 ?_
        simp only[Act.put,List.setIfInBounds_toArray,List.set_cons_succ,List.set_cons_zero]
        refine wpRow_readD (v:=(.bool false)) 99 rfl rfl rfl (fun W hW=>by simp[execOp,go_sem]) ?_
        simp only[Act.put,List.setIfInBounds_toArray,List.set_cons_succ,List.set_cons_zero]
        refine wpRow_readD (v:=(.bool false)) 100 rfl rfl rfl (fun W hW=>by simp[execOp,go_sem]) ?_
        simp only[Act.put,List.setIfInBounds_toArray,List.set_cons_succ,List.set_cons_zero]
        refine wpRow_skip 101 rfl rfl rfl ?_
        simp only[Act.put,List.setIfInBounds_toArray,List.set_cons_succ,List.set_cons_zero]
        refine wpRow_skip 102 rfl rfl rfl ?_
        simp only[Act.put,List.setIfInBounds_toArray,List.set_cons_succ,List.set_cons_zero]
        refine wpRow_skip 103 rfl rfl rfl ?_
        simp only[Act.put,List.setIfInBounds_toArray,List.set_cons_succ,List.set_cons_zero]
        refine wpRow_skip 104 rfl rfl rfl ?_
        simp only[Act.put,List.setIfInBounds_toArray,List.set_cons_succ,List.set_cons_zero]
        refine wpRow_opskip 105 rfl rfl rfl hk1 ?_
        simp only[Act.put,List.setIfInBounds_toArray,List.set_cons_succ,List.set_cons_zero]
        refine wpRow_opskip 106 rfl rfl rfl hk1 ?_
        simp only[Act.put,List.setIfInBounds_toArray,List.set_cons_succ,List.set_cons_zero]
        refine wpRow_readD (v:=(.bool false)) 107 rfl rfl rfl (fun W hW=>by simp[execOp,go_sem]) ?_
        simp only[Act.put,List.setIfInBounds_toArray,List.set_cons_succ,List.set_cons_zero]
        dsimp only[wpRow,List.drop]
        go_wp2_with fail
        go_ret
        exact Ret.of (by rw[HRT.out,<-HT.out];rfl) (HB0.out.trans (hk1.mono HB0.out.size))
       |true=>
        cases FB with
        |false=>
         refine wp_region_row 22 [(0,true),(1,false),(2,true),(3,true),(4,false),(5,true),(6,true),(7,true),(8,true),(9,true),(10,true),(11,false),(12,false),(13,true),(14,true),(15,true),(16,true),(17,true),(18,true),(19,false),(20,false),(21,true)] (fun V=>Below W0.heap.size W0 V) hmx (by kernel_rfl) (by kernel_rfl) (by kernel_rfl) (by decide) rfl (fun c a d v w h=>by obtain⟨x,y⟩:=(h:_/\_);cases d<;>exact⟨x,y⟩) (by kernel_rfl) (by exact hS0) ?_
         refine wpRow_readD (v:=(.agg #[.slice A0 (fN p 0) k0,.slice A1 (fN p 1) k1,.slice A2 (fN p 2) k2,.slice A3 (fN p 3) k3,.slice A4 (fN p 4) k4,.slice A5 (fN p 5) k5,.bool p.rel,.int .i64 p.depth,.int .i64 p.name,.int .i64 p.value])) 86 rfl rfl rfl (fun W hW=>by have d0:=(hW.cell (p:=⟨B,0,none⟩) hBl).trans c0;have d1:=(hW.cell (p:=⟨B,1,none⟩) hBl).trans c1;have d2:=(hW.cell (p:=⟨B,2,none⟩) hBl).trans c2;have d3:=(hW.cell (p:=⟨B,3,none⟩) hBl).trans c3;have d4:=(hW.cell (p:=⟨B,4,none⟩) hBl).trans c4;have d5:=(hW.cell (p:=⟨B,5,none⟩) hBl).trans c5;have d6:=(hW.cell (p:=⟨B,6,none⟩) hBl).trans c6;have d7:=(hW.cell (p:=⟨B,7,none⟩) hBl).trans c7;have d8:=(hW.cell (p:=⟨B,8,none⟩) hBl).trans c8;have d9:=(hW.cell (p:=⟨B,9,none⟩) hBl).trans c9;simp[execOp,go_sem,d0,d1,d2,d3,d4,d5,d6,d7,d8,d9]) ?_
         simp only[Act.put,List.setIfInBounds_toArray,List.set_cons_succ,List.set_cons_zero]
         refine wpRow_op rfl rfl fun Kc hKc=> ?_
         unfold Oper.wp
         simp[execOp,go_sem]
         refine(HL.out _).mono ?_
         rintro e Wk1 ⟨rfl,Xk1,hXk1⟩
         have hk1:Below W0.heap.size W0 Wk1:=hS0.trans ((show Below (wr.drew).heap.size (wr.drew) Wk1 by rw[hXk1];exact bel).mono hS0.size)
         clear hXk1
         show Kc _ _
         apply hKc
         refine⟨hk1, ?_⟩
         refine wpRow_readD (v:=(.bool true)) 88 rfl rfl rfl (fun W hW=>by simp[execOp,go_sem]) ?_
         simp only[Act.put,List.setIfInBounds_toArray,List.set_cons_succ,List.set_cons_zero]
         refine wpRow_readD (v:=(.agg #[.slice A0 (fN p 0) k0,.slice A1 (fN p 1) k1,.slice A2 (fN p 2) k2,.slice A3 (fN p 3) k3,.slice A4 (fN p 4) k4,.slice A5 (fN p 5) k5,.bool p.rel,.int .i64 p.depth,.int .i64 p.name,.int .i64 p.value])) 89 rfl rfl rfl (fun W hW=>by have d0:=(hW.cell (p:=⟨B,0,none⟩) hBl).trans c0;have d1:=(hW.cell (p:=⟨B,1,none⟩) hBl).trans c1;have d2:=(hW.cell (p:=⟨B,2,none⟩) hBl).trans c2;have d3:=(hW.cell (p:=⟨B,3,none⟩) hBl).trans c3;have d4:=(hW.cell (p:=⟨B,4,none⟩) hBl).trans c4;have d5:=(hW.cell (p:=⟨B,5,none⟩) hBl).trans c5;have d6:=(hW.cell (p:=⟨B,6,none⟩) hBl).trans c6;have d7:=(hW.cell (p:=⟨B,7,none⟩) hBl).trans c7;have d8:=(hW.cell (p:=⟨B,8,none⟩) hBl).trans c8;have d9:=(hW.cell (p:=⟨B,9,none⟩) hBl).trans c9;simp[execOp,go_sem,d0,d1,d2,d3,d4,d5,d6,d7,d8,d9]) ?_
         simp only[Act.put,List.setIfInBounds_toArray,List.set_cons_succ,List.set_cons_zero]
         refine wpRow_op rfl rfl fun Kc hKc=> ?_
         unfold Oper.wp
         simp[execOp,go_sem]
         refine(HF.out _ (HB0.out.trans (hk1.mono HB0.out.size))).mono ?_
         rintro e Wk2 ⟨rfl,Xk2,hXk2⟩
         have hk2:Below W0.heap.size W0 Wk2:=hk1.trans ((show Below (Wk1).heap.size (Wk1) Wk2 by rw[hXk2];exact bel).mono hk1.size)
         clear hXk2
         show Kc _ _
         apply hKc
         refine⟨hk2, ?_⟩
         refine wpRow_readD (v:=(.bool false)) 91 rfl rfl rfl (fun W hW=>by simp[execOp,go_sem]) ?_
         simp only[Act.put,List.setIfInBounds_toArray,List.set_cons_succ,List.set_cons_zero]
         refine wpRow_readD (v:=(.bool false)) 92 rfl rfl rfl (fun W hW=>by simp[execOp,go_sem]) ?_
         simp only[Act.put,List.setIfInBounds_toArray,List.set_cons_succ,List.set_cons_zero]
         refine wpRow_skip 93 rfl rfl rfl ?_
         simp only[Act.put,List.setIfInBounds_toArray,List.set_cons_succ,List.set_cons_zero]
         refine wpRow_skip 94 rfl rfl rfl ?_
         simp only[Act.put,List.setIfInBounds_toArray,List.set_cons_succ,List.set_cons_zero]
         refine wpRow_skip 95 rfl rfl rfl ?_
         simp only[Act.put,List.setIfInBounds_toArray,List.set_cons_succ,List.set_cons_zero]
         refine wpRow_skip 96 rfl rfl rfl ?_
         simp only[Act.put,List.setIfInBounds_toArray,List.set_cons_succ,List.set_cons_zero]
         refine wpRow_opskip 97 rfl rfl rfl hk2 ?_
         simp only[Act.put,List.setIfInBounds_toArray,List.set_cons_succ,List.set_cons_zero]
         refine wpRow_opskip 98 rfl rfl rfl hk2 ?_
         simp only[Act.put,List.setIfInBounds_toArray,List.set_cons_succ,List.set_cons_zero]
         refine wpRow_readD (v:=(.bool false)) 99 rfl rfl rfl (fun W hW=>by simp[execOp,go_sem]) ?_
         simp only[Act.put,List.setIfInBounds_toArray,List.set_cons_succ,List.set_cons_zero]
         refine wpRow_readD (v:=(.bool false)) 100 rfl rfl rfl (fun W hW=>by simp[execOp,go_sem]) ?_
         simp only[Act.put,List.setIfInBounds_toArray,List.set_cons_succ,List.set_cons_zero]
         refine wpRow_skip 101 rfl rfl rfl ?_
         simp only[Act.put,List.setIfInBounds_toArray,List.set_cons_succ,List.set_cons_zero]
         refine wpRow_skip 102 rfl rfl rfl ?_
         simp only[Act.put,List.setIfInBounds_toArray,List.set_cons_succ,List.set_cons_zero]
         refine wpRow_skip 103 rfl rfl rfl ?_
         simp only[Act.put,List.setIfInBounds_toArray,List.set_cons_succ,List.set_cons_zero]
         refine wpRow_skip 104 rfl rfl rfl ?_
         simp only[Act.put,List.setIfInBounds_toArray,List.set_cons_succ,List.set_cons_zero]
         refine wpRow_opskip 105 rfl rfl rfl hk2 ?_
         simp only[Act.put,List.setIfInBounds_toArray,List.set_cons_succ,List.set_cons_zero]
         refine wpRow_opskip 106 rfl rfl rfl hk2 ?_
         simp only[Act.put,List.setIfInBounds_toArray,List.set_cons_succ,List.set_cons_zero]
         refine wpRow_readD (v:=(.bool false)) 107 rfl rfl rfl (fun W hW=>by simp[execOp,go_sem]) ?_
         simp only[Act.put,List.setIfInBounds_toArray,List.set_cons_succ,List.set_cons_zero]
         dsimp only[wpRow,List.drop]
         go_wp2_with fail
         go_ret
         exact Ret.of (by rw[HRT.out,<-HT.out];rfl) (HB0.out.trans (hk2.mono HB0.out.size))
        |true=>
         cases EA with
         |false=>
          refine wp_region_row 22 [(0,true),(1,false),(2,true),(3,true),(4,false),(5,true),(6,true),(7,true),(8,true),(9,true),(10,true),(11,false),(12,false),(13,true),(14,true),(15,true),(16,true),(17,true),(18,true),(19,false),(20,false),(21,true)] (fun V=>Below W0.heap.size W0 V) hmx (by kernel_rfl) (by kernel_rfl) (by kernel_rfl) (by decide) rfl (fun c a d v w h=>by obtain⟨x,y⟩:=(h:_/\_);cases d<;>exact⟨x,y⟩) (by kernel_rfl) (by exact hS0) ?_
          refine wpRow_readD (v:=(.agg #[.slice A0 (fN p 0) k0,.slice A1 (fN p 1) k1,.slice A2 (fN p 2) k2,.slice A3 (fN p 3) k3,.slice A4 (fN p 4) k4,.slice A5 (fN p 5) k5,.bool p.rel,.int .i64 p.depth,.int .i64 p.name,.int .i64 p.value])) 86 rfl rfl rfl (fun W hW=>by have d0:=(hW.cell (p:=⟨B,0,none⟩) hBl).trans c0;have d1:=(hW.cell (p:=⟨B,1,none⟩) hBl).trans c1;have d2:=(hW.cell (p:=⟨B,2,none⟩) hBl).trans c2;have d3:=(hW.cell (p:=⟨B,3,none⟩) hBl).trans c3;have d4:=(hW.cell (p:=⟨B,4,none⟩) hBl).trans c4;have d5:=(hW.cell (p:=⟨B,5,none⟩) hBl).trans c5;have d6:=(hW.cell (p:=⟨B,6,none⟩) hBl).trans c6;have d7:=(hW.cell (p:=⟨B,7,none⟩) hBl).trans c7;have d8:=(hW.cell (p:=⟨B,8,none⟩) hBl).trans c8;have d9:=(hW.cell (p:=⟨B,9,none⟩) hBl).trans c9;simp[execOp,go_sem,d0,d1,d2,d3,d4,d5,d6,d7,d8,d9]) ?_
          simp only[Act.put,List.setIfInBounds_toArray,List.set_cons_succ,List.set_cons_zero]
          refine wpRow_op rfl rfl fun Kc hKc=> ?_
          unfold Oper.wp
          simp[execOp,go_sem]
          refine(HL.out _).mono ?_
          rintro e Wk1 ⟨rfl,Xk1,hXk1⟩
          have hk1:Below W0.heap.size W0 Wk1:=hS0.trans ((show Below (wr.drew).heap.size (wr.drew) Wk1 by rw[hXk1];exact bel).mono hS0.size)
          clear hXk1
          show Kc _ _
          apply hKc
          refine⟨hk1, ?_⟩
          refine wpRow_readD (v:=(.bool true)) 88 rfl rfl rfl (fun W hW=>by simp[execOp,go_sem]) ?_
          simp only[Act.put,List.setIfInBounds_toArray,List.set_cons_succ,List.set_cons_zero]
          refine wpRow_readD (v:=(.agg #[.slice A0 (fN p 0) k0,.slice A1 (fN p 1) k1,.slice A2 (fN p 2) k2,.slice A3 (fN p 3) k3,.slice A4 (fN p 4) k4,.slice A5 (fN p 5) k5,.bool p.rel,.int .i64 p.depth,.int .i64 p.name,.int .i64 p.value])) 89 rfl rfl rfl (fun W hW=>by have d0:=(hW.cell (p:=⟨B,0,none⟩) hBl).trans c0;have d1:=(hW.cell (p:=⟨B,1,none⟩) hBl).trans c1;have d2:=(hW.cell (p:=⟨B,2,none⟩) hBl).trans c2;have d3:=(hW.cell (p:=⟨B,3,none⟩) hBl).trans c3;have d4:=(hW.cell (p:=⟨B,4,none⟩) hBl).trans c4;have d5:=(hW.cell (p:=⟨B,5,none⟩) hBl).trans c5;have d6:=(hW.cell (p:=⟨B,6,none⟩) hBl).trans c6;have d7:=(hW.cell (p:=⟨B,7,none⟩) hBl).trans c7;have d8:=(hW.cell (p:=⟨B,8,none⟩) hBl).trans c8;have d9:=(hW.cell (p:=⟨B,9,none⟩) hBl).trans c9;simp[execOp,go_sem,d0,d1,d2,d3,d4,d5,d6,d7,d8,d9]) ?_
          simp only[Act.put,List.setIfInBounds_toArray,List.set_cons_succ,List.set_cons_zero]
          refine wpRow_op rfl rfl fun Kc hKc=> ?_
          unfold Oper.wp
          simp[execOp,go_sem]
          refine(HF.out _ (HB0.out.trans (hk1.mono HB0.out.size))).mono ?_
          rintro e Wk2 ⟨rfl,Xk2,hXk2⟩
          have hk2:Below W0.heap.size W0 Wk2:=hk1.trans ((show Below (Wk1).heap.size (Wk1) Wk2 by rw[hXk2];exact bel).mono hk1.size)
          clear hXk2
          show Kc _ _
          apply hKc
          refine⟨hk2, ?_⟩
          refine wpRow_readD (v:=(.bool true)) 91 rfl rfl rfl (fun W hW=>by simp[execOp,go_sem]) ?_
          simp only[Act.put,List.setIfInBounds_toArray,List.set_cons_succ,List.set_cons_zero]
          refine wpRow_readD (v:=(.bool true)) 92 rfl rfl rfl (fun W hW=>by simp[execOp,go_sem]) ?_
          simp only[Act.put,List.setIfInBounds_toArray,List.set_cons_succ,List.set_cons_zero]
          refine wpRow_readD (v:=(.pointer (some ⟨B,4,none⟩))) 93 rfl rfl rfl (fun W hW=>by simp[execOp,go_sem]) ?_
          simp only[Act.put,List.setIfInBounds_toArray,List.set_cons_succ,List.set_cons_zero]
          refine wpRow_readD (v:=(.slice A4 (fN p 4) k4)) 94 rfl rfl rfl (fun W hW=>by have d4:=(hW.cell (p:=⟨B,4,none⟩) hBl).trans c4;simp[execOp,go_sem,d4]) ?_
          simp only[Act.put,List.setIfInBounds_toArray,List.set_cons_succ,List.set_cons_zero]
          refine wpRow_readD (v:=(.pointer (some ⟨B,4,none⟩))) 95 rfl rfl rfl (fun W hW=>by simp[execOp,go_sem]) ?_
          simp only[Act.put,List.setIfInBounds_toArray,List.set_cons_succ,List.set_cons_zero]
          refine wpRow_readD (v:=(.slice A4 (fN p 4) k4)) 96 rfl rfl rfl (fun W hW=>by have d4:=(hW.cell (p:=⟨B,4,none⟩) hBl).trans c4;simp[execOp,go_sem,d4]) ?_
          simp only[Act.put,List.setIfInBounds_toArray,List.set_cons_succ,List.set_cons_zero]
          refine wpRow_op rfl rfl fun Kc hKc=> ?_
          unfold Oper.wp
          simp[execOp,go_sem]
          refine(HNA.out _ (HB0.out.trans (hk2.mono HB0.out.size))).mono ?_
          rintro e Wk3 ⟨An3,cn3,rfl,hbn3,_,hrN3,_⟩
          have hk3:Below W0.heap.size W0 Wk3:=hk2.trans (hbn3.mono hk2.size)
          show Kc _ _
          apply hKc
          refine⟨hk3, ?_⟩
          refine wpRow_op rfl rfl fun Kc hKc=> ?_
          unfold Oper.wp
          simp[execOp,go_sem]
          refine(HEA.out _ _ (HB0.out.trans (hk3.mono HB0.out.size)) hrN3).mono ?_
          rintro e Wk4 ⟨rfl,Xk4,hXk4⟩
          have hk4:Below W0.heap.size W0 Wk4:=hk3.trans ((show Below (Wk3).heap.size (Wk3) Wk4 by rw[hXk4];exact bel).mono hk3.size)
          clear hXk4
          show Kc _ _
          apply hKc
          refine⟨hk4, ?_⟩
          refine wpRow_readD (v:=(.bool false)) 99 rfl rfl rfl (fun W hW=>by simp[execOp,go_sem]) ?_
          simp only[Act.put,List.setIfInBounds_toArray,List.set_cons_succ,List.set_cons_zero]
          refine wpRow_readD (v:=(.bool false)) 100 rfl rfl rfl (fun W hW=>by simp[execOp,go_sem]) ?_
          simp only[Act.put,List.setIfInBounds_toArray,List.set_cons_succ,List.set_cons_zero]
          refine wpRow_skip 101 rfl rfl rfl ?_
          simp only[Act.put,List.setIfInBounds_toArray,List.set_cons_succ,List.set_cons_zero]
          refine wpRow_skip 102 rfl rfl rfl ?_
          simp only[Act.put,List.setIfInBounds_toArray,List.set_cons_succ,List.set_cons_zero]
          refine wpRow_skip 103 rfl rfl rfl ?_
          simp only[Act.put,List.setIfInBounds_toArray,List.set_cons_succ,List.set_cons_zero]
          refine wpRow_skip 104 rfl rfl rfl ?_
          simp only[Act.put,List.setIfInBounds_toArray,List.set_cons_succ,List.set_cons_zero]
          refine wpRow_opskip 105 rfl rfl rfl hk4 ?_
          simp only[Act.put,List.setIfInBounds_toArray,List.set_cons_succ,List.set_cons_zero]
          refine wpRow_opskip 106 rfl rfl rfl hk4 ?_
          simp only[Act.put,List.setIfInBounds_toArray,List.set_cons_succ,List.set_cons_zero]
          refine wpRow_readD (v:=(.bool false)) 107 rfl rfl rfl (fun W hW=>by simp[execOp,go_sem]) ?_
          simp only[Act.put,List.setIfInBounds_toArray,List.set_cons_succ,List.set_cons_zero]
          dsimp only[wpRow,List.drop]
          go_wp2_with fail
          go_ret
          exact Ret.of (by rw[HRT.out,<-HT.out];rfl) (HB0.out.trans (hk4.mono HB0.out.size))
         |true=>
          refine wp_region_row 22 [(0,true),(1,false),(2,true),(3,true),(4,false),(5,true),(6,true),(7,true),(8,true),(9,true),(10,true),(11,false),(12,false),(13,true),(14,true),(15,true),(16,true),(17,true),(18,true),(19,false),(20,false),(21,true)] (fun V=>Below W0.heap.size W0 V) hmx (by kernel_rfl) (by kernel_rfl) (by kernel_rfl) (by decide) rfl (fun c a d v w h=>by obtain⟨x,y⟩:=(h:_/\_);cases d<;>exact⟨x,y⟩) (by kernel_rfl) (by exact hS0) ?_
          refine wpRow_readD (v:=(.agg #[.slice A0 (fN p 0) k0,.slice A1 (fN p 1) k1,.slice A2 (fN p 2) k2,.slice A3 (fN p 3) k3,.slice A4 (fN p 4) k4,.slice A5 (fN p 5) k5,.bool p.rel,.int .i64 p.depth,.int .i64 p.name,.int .i64 p.value])) 86 rfl rfl rfl (fun W hW=>by have d0:=(hW.cell (p:=⟨B,0,none⟩) hBl).trans c0;have d1:=(hW.cell (p:=⟨B,1,none⟩) hBl).trans c1;have d2:=(hW.cell (p:=⟨B,2,none⟩) hBl).trans c2;have d3:=(hW.cell (p:=⟨B,3,none⟩) hBl).trans c3;have d4:=(hW.cell (p:=⟨B,4,none⟩) hBl).trans c4;have d5:=(hW.cell (p:=⟨B,5,none⟩) hBl).trans c5;have d6:=(hW.cell (p:=⟨B,6,none⟩) hBl).trans c6;have d7:=(hW.cell (p:=⟨B,7,none⟩) hBl).trans c7;have d8:=(hW.cell (p:=⟨B,8,none⟩) hBl).trans c8;have d9:=(hW.cell (p:=⟨B,9,none⟩) hBl).trans c9;simp[execOp,go_sem,d0,d1,d2,d3,d4,d5,d6,d7,d8,d9]) ?_
          simp only[Act.put,List.setIfInBounds_toArray,List.set_cons_succ,List.set_cons_zero]
          refine wpRow_op rfl rfl fun Kc hKc=> ?_
          unfold Oper.wp
          simp[execOp,go_sem]
          refine(HL.out _).mono ?_
          rintro e Wk1 ⟨rfl,Xk1,hXk1⟩
          have hk1:Below W0.heap.size W0 Wk1:=hS0.trans ((show Below (wr.drew).heap.size (wr.drew) Wk1 by rw[hXk1];exact bel).mono hS0.size)
          clear hXk1
          show Kc _ _
          apply hKc
          refine⟨hk1, ?_⟩
          refine wpRow_readD (v:=(.bool true)) 88 rfl rfl rfl (fun W hW=>by simp[execOp,go_sem]) ?_
          simp only[Act.put,List.setIfInBounds_toArray,List.set_cons_succ,List.set_cons_zero]
          refine wpRow_readD (v:=(.agg #[.slice A0 (fN p 0) k0,.slice A1 (fN p 1) k1,.slice A2 (fN p 2) k2,.slice A3 (fN p 3) k3,.slice A4 (fN p 4) k4,.slice A5 (fN p 5) k5,.bool p.rel,.int .i64 p.depth,.int .i64 p.name,.int .i64 p.value])) 89 rfl rfl rfl (fun W hW=>by have d0:=(hW.cell (p:=⟨B,0,none⟩) hBl).trans c0;have d1:=(hW.cell (p:=⟨B,1,none⟩) hBl).trans c1;have d2:=(hW.cell (p:=⟨B,2,none⟩) hBl).trans c2;have d3:=(hW.cell (p:=⟨B,3,none⟩) hBl).trans c3;have d4:=(hW.cell (p:=⟨B,4,none⟩) hBl).trans c4;have d5:=(hW.cell (p:=⟨B,5,none⟩) hBl).trans c5;have d6:=(hW.cell (p:=⟨B,6,none⟩) hBl).trans c6;have d7:=(hW.cell (p:=⟨B,7,none⟩) hBl).trans c7;have d8:=(hW.cell (p:=⟨B,8,none⟩) hBl).trans c8;have d9:=(hW.cell (p:=⟨B,9,none⟩) hBl).trans c9;simp[execOp,go_sem,d0,d1,d2,d3,d4,d5,d6,d7,d8,d9]) ?_
          simp only[Act.put,List.setIfInBounds_toArray,List.set_cons_succ,List.set_cons_zero]
          refine wpRow_op rfl rfl fun Kc hKc=> ?_
          unfold Oper.wp
          simp[execOp,go_sem]
          refine(HF.out _ (HB0.out.trans (hk1.mono HB0.out.size))).mono ?_
          rintro e Wk2 ⟨rfl,Xk2,hXk2⟩
          have hk2:Below W0.heap.size W0 Wk2:=hk1.trans ((show Below (Wk1).heap.size (Wk1) Wk2 by rw[hXk2];exact bel).mono hk1.size)
          clear hXk2
          show Kc _ _
          apply hKc
          refine⟨hk2, ?_⟩
          refine wpRow_readD (v:=(.bool true)) 91 rfl rfl rfl (fun W hW=>by simp[execOp,go_sem]) ?_
          simp only[Act.put,List.setIfInBounds_toArray,List.set_cons_succ,List.set_cons_zero]
          refine wpRow_readD (v:=(.bool true)) 92 rfl rfl rfl (fun W hW=>by simp[execOp,go_sem]) ?_
          simp only[Act.put,List.setIfInBounds_toArray,List.set_cons_succ,List.set_cons_zero]
          refine wpRow_readD (v:=(.pointer (some ⟨B,4,none⟩))) 93 rfl rfl rfl (fun W hW=>by simp[execOp,go_sem]) ?_
          simp only[Act.put,List.setIfInBounds_toArray,List.set_cons_succ,List.set_cons_zero]
          refine wpRow_readD (v:=(.slice A4 (fN p 4) k4)) 94 rfl rfl rfl (fun W hW=>by have d4:=(hW.cell (p:=⟨B,4,none⟩) hBl).trans c4;simp[execOp,go_sem,d4]) ?_
          simp only[Act.put,List.setIfInBounds_toArray,List.set_cons_succ,List.set_cons_zero]
          refine wpRow_readD (v:=(.pointer (some ⟨B,4,none⟩))) 95 rfl rfl rfl (fun W hW=>by simp[execOp,go_sem]) ?_
          simp only[Act.put,List.setIfInBounds_toArray,List.set_cons_succ,List.set_cons_zero]
          refine wpRow_readD (v:=(.slice A4 (fN p 4) k4)) 96 rfl rfl rfl (fun W hW=>by have d4:=(hW.cell (p:=⟨B,4,none⟩) hBl).trans c4;simp[execOp,go_sem,d4]) ?_
          simp only[Act.put,List.setIfInBounds_toArray,List.set_cons_succ,List.set_cons_zero]
          refine wpRow_op rfl rfl fun Kc hKc=> ?_
          unfold Oper.wp
          simp[execOp,go_sem]
          refine(HNA.out _ (HB0.out.trans (hk2.mono HB0.out.size))).mono ?_
          rintro e Wk3 ⟨An3,cn3,rfl,hbn3,_,hrN3,_⟩
          have hk3:Below W0.heap.size W0 Wk3:=hk2.trans (hbn3.mono hk2.size)
          show Kc _ _
          apply hKc
          refine⟨hk3, ?_⟩
          refine wpRow_op rfl rfl fun Kc hKc=> ?_
          unfold Oper.wp
          simp[execOp,go_sem]
          refine(HEA.out _ _ (HB0.out.trans (hk3.mono HB0.out.size)) hrN3).mono ?_
          rintro e Wk4 ⟨rfl,Xk4,hXk4⟩
          have hk4:Below W0.heap.size W0 Wk4:=hk3.trans ((show Below (Wk3).heap.size (Wk3) Wk4 by rw[hXk4];exact bel).mono hk3.size)
          clear hXk4
          show Kc _ _
          apply hKc
          refine⟨hk4, ?_⟩
          refine wpRow_readD (v:=(.bool true)) 99 rfl rfl rfl (fun W hW=>by simp[execOp,go_sem]) ?_
          simp only[Act.put,List.setIfInBounds_toArray,List.set_cons_succ,List.set_cons_zero]
          refine wpRow_readD (v:=(.bool true)) 100 rfl rfl rfl (fun W hW=>by simp[execOp,go_sem]) ?_
          simp only[Act.put,List.setIfInBounds_toArray,List.set_cons_succ,List.set_cons_zero]
          refine wpRow_readD (v:=(.pointer (some ⟨B,5,none⟩))) 101 rfl rfl rfl (fun W hW=>by simp[execOp,go_sem]) ?_
          simp only[Act.put,List.setIfInBounds_toArray,List.set_cons_succ,List.set_cons_zero]
          refine wpRow_readD (v:=(.slice A5 (fN p 5) k5)) 102 rfl rfl rfl (fun W hW=>by have d5:=(hW.cell (p:=⟨B,5,none⟩) hBl).trans c5;simp[execOp,go_sem,d5]) ?_
          simp only[Act.put,List.setIfInBounds_toArray,List.set_cons_succ,List.set_cons_zero]
          refine wpRow_readD (v:=(.pointer (some ⟨B,5,none⟩))) 103 rfl rfl rfl (fun W hW=>by simp[execOp,go_sem]) ?_
          simp only[Act.put,List.setIfInBounds_toArray,List.set_cons_succ,List.set_cons_zero]
          refine wpRow_readD (v:=(.slice A5 (fN p 5) k5)) 104 rfl rfl rfl (fun W hW=>by have d5:=(hW.cell (p:=⟨B,5,none⟩) hBl).trans c5;simp[execOp,go_sem,d5]) ?_
          simp only[Act.put,List.setIfInBounds_toArray,List.set_cons_succ,List.set_cons_zero]
          refine wpRow_op rfl rfl fun Kc hKc=> ?_
          unfold Oper.wp
          simp[execOp,go_sem]
          refine(HNF.out _ (HB0.out.trans (hk4.mono HB0.out.size))).mono ?_
          rintro e Wk5 ⟨An5,cn5,rfl,hbn5,_,hrN5,_⟩
          have hk5:Below W0.heap.size W0 Wk5:=hk4.trans (hbn5.mono hk4.size)
          show Kc _ _
          apply hKc
          refine⟨hk5, ?_⟩
          refine wpRow_op rfl rfl fun Kc hKc=> ?_
          unfold Oper.wp
          simp[execOp,go_sem]
          refine(HEF.out _ _ (HB0.out.trans (hk5.mono HB0.out.size)) hrN5).mono ?_
          rintro e Wk6 ⟨rfl,Xk6,hXk6⟩
          have hk6:Below W0.heap.size W0 Wk6:=hk5.trans ((show Below (Wk5).heap.size (Wk5) Wk6 by rw[hXk6];exact bel).mono hk5.size)
          clear hXk6
          show Kc _ _
          apply hKc
          refine⟨hk6, ?_⟩
          refine wpRow_readD (v:=(.bool EF)) 107 rfl rfl rfl (fun W hW=>by simp[execOp,go_sem]) ?_
          simp only[Act.put,List.setIfInBounds_toArray,List.set_cons_succ,List.set_cons_zero]
          dsimp only[wpRow,List.drop]
          go_wp2_with fail
          go_ret
          exact Ret.of (by rw[HRT.out,<-HT.out];cases EF<;>rfl) (HB0.out.trans (hk6.mono HB0.out.size))
end Go.Proofs.YtiikamobcmgekaaGreatDoor

