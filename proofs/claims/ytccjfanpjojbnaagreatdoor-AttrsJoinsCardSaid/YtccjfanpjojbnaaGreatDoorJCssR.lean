import Derived.Test.YtccjfanpjojbnaaGreatDoorJCssL
namespace Go.Proofs.YtccjfanpjojbnaaGreatDoor
open Go.IntKind renaming i64→aC
open Lib renaming hid→aA
open List renaming drop_eq_getElem_cons→iK,drop_eq_nil_of_le→iG,length_append→aZ,length_take→bZ,take_succ_eq_append_getElem→jG
open Nat renaming zero_le→lT
open Tryz renaming func182→Yp,ntmps182→Yf,prog→aE
open Go.Value renaming agg→aR,bool→aI,int→aB,slice→aF,string→aD
set_option maxRecDepth 100000
set_option maxHeartbeats 8000000
open Go.RowKit Go.Shelf
theorem XV (n:Int) (h:n.natAbs<=9223372036854775808):(gA n).length<=30:=by
 have h1:=XW (n.natAbs/1000) om;have h2:=FV (n.natAbs%1000) (Nat.mod_lt _ om);rw[zY,FU,aZ,aZ];have h3:(mR n).length<=1:=by unfold mR;split<;>simp
 split
 .simp only[List.length_nil];omega
 .simp only[List.length_cons];omega
structure jY (x:aK):Prop where
 klo: -9223372036854775808<=x.kind
 khi:x.kind<=9223372036854775807
 nlo: -9223372036854775808<=x.num
 nhi:x.num<=9223372036854775807
theorem DN (x:aK) (h:jY x):(cE x).length<=x.text.length+x.unit.length+40:=by
 have:=XV x.num (by have:=h.nlo;have:=h.nhi;omega);unfold cE;repeat' split
 all_goals simp
 all_goals omega
theorem QM (x:aK) (w:World) (hw:Tb w) (ho:jY x) (h1:x.text.length<=1000000) (h2:x.unit.length<=1000000):Calls aE 182 #[aK.agg x] w (aH (aD ⟨(cE x).toArray⟩) w):=by
 have hmx:=bX;have HF:=aA (λW (hW:Tb W)=>Mf x.num W hW ho.nlo ho.nhi);have HT:Hid (cE x=if x.kind=1\/x.kind=6 then x.text else if x.kind=2 then x.text++[40]else if x.kind=3 then gA x.num++x.unit
  else if x.kind=4 then 35::x.text else if x.kind=5 then 34::x.text++[34]else []):=rfl
 have hfl:=XV x.num (by have:=ho.nlo;have:=ho.nhi;omega);obtain⟨k,t,m,u⟩:=x;simp only[aK.agg,sv]at*;obtain⟨T,hT⟩: ∃S:ByteArray,⟨t.toArray⟩=S:=⟨_,rfl⟩;obtain⟨U,hU⟩: ∃S:ByteArray,⟨u.toArray⟩=S:=⟨_,rfl⟩;obtain⟨F,hF⟩: ∃S:ByteArray,⟨(gA m).toArray⟩=S:=⟨_,rfl⟩;have hTs:T.size<=1000000:=by rw[<-hT];exact h1
 have hUs:U.size<=1000000:=by rw[<-hU];exact h2
 have hFs:F.size<=30:=by rw[<-hF];exact hfl
 have HTd:Hid (T.data.toList=t):=by show _=_;rw[<-hT]
 have HUd:Hid (U.data.toList=u):=by show _=_;rw[<-hU]
 have HFd:Hid (F.data.toList=gA m):=by show _=_;rw[<-hF]
 have HW:=aA hw;rw[hT,hU];rw[hF]at HF;clear hT hU hF h1 h2 hfl;by_cases k1:k=1
 .subst k1;rw[if_pos (.inl rfl)]at HT;go_enter Yp,Yf;go_wp2_with fail
  go_ret;exact aH.of (qZ (by rw[HTd.out,HT.out])) aG
 by_cases k6:k=6
 .subst k6;rw[if_pos (.inr rfl)]at HT;go_enter Yp,Yf;go_wp2_with fail
  go_ret;exact aH.of (qZ (by rw[HTd.out,HT.out])) aG
 rw[if_neg om]at HT;by_cases k2:k=2
 .subst k2;rw[if_pos rfl]at HT;go_enter Yp,Yf;go_wp2_with fail
  go_ret;exact aH.of (qZ (by simp only[ByteArray.data_append,Array.toList_append,HTd.out,HT.out])) aG
 rw[if_neg k2]at HT;by_cases k3:k=3
 .subst k3;rw[if_pos rfl]at HT;go_enter Yp,Yf;go_wp2_with fail
  refine dV kr kr  ?_;repeat(go_big_quiet_step(first|(go_at_call 220;with_reducible exact Calls.grow_of (HF.out _ (Tb.grow (by rw[qG];exact Tb.grow HW.out _) _)))))
  refine wpQuiet_nil ?_;rintro _ ⟨nq,rfl⟩;go_wp2
  go_ret;exact aH.of (qZ (by simp only[ByteArray.data_append,Array.toList_append,HFd.out,HUd.out,HT.out])) aG
 rw[if_neg k3]at HT;by_cases k4:k=4
 .subst k4;rw[if_pos rfl]at HT;go_enter Yp,Yf;go_wp2_with fail
  go_ret;exact aH.of (qZ (by simp only[ByteArray.data_append,Array.toList_append,HTd.out,HT.out];rfl)) aG
 rw[if_neg k4]at HT;by_cases k5:k=5
 .subst k5;rw[if_pos rfl]at HT;go_enter Yp,Yf;go_wp2_with fail
  go_ret;exact aH.of (qZ (by simp only[ByteArray.data_append,Array.toList_append,HTd.out,HT.out];rfl)) aG
 rw[if_neg k5]at HT;have b1:(k==1)=false:=by simpa using k1
 have b2:(k==2)=false:=by simpa using k2
 have b3:(k==3)=false:=by simpa using k3
 have b4:(k==4)=false:=by simpa using k4
 have b5:(k==5)=false:=by simpa using k5
 have b6:(k==6)=false:=by simpa using k6
 go_enter Yp,Yf;go_wp2_with fail
 go_ret;exact aH.of (by rw[HT.out];rfl) aG
open Go.RowKit Go.Shelf
theorem YA (a:Int) (b:ByteArray) (c:Int) (d:ByteArray) (a2:Int) (b2:ByteArray) (c2:Int) (d2:ByteArray) (w:World):(Op.equalIn 10000 209 (aR #[aB aC a,aD b,aB aC c,aD d]) (aR #[aB aC a2,aD b2,aB aC c2,aD d2])).run aE w= .ok ((a==a2)&&(b.toList==b2.toList)&&(c==c2)&&(d.toList==d2.toList)) w:=by
 have h2:aE.underlying 209=some (.struct (aE.fieldsOf 209)):=by kernel_rfl
 have h3:aE.stoodInHeld 209=false:=by kernel_rfl
 rw[run_equalIn_agg _ _ _ _ _ h2 h3];simp only[Program.fieldsOf,Tryz.underlying209];cases e1:(a==a2)<;>cases e2:(b.toList==b2.toList)<;>cases e3:(c==c2)<;>cases e4:(d.toList==d2.toList)<;>simp[go_sem,Tryz.underlying9,Tryz.underlying3,e1,e2,e3,e4]<;>simp_all
@[go_sem high] theorem Vz (a:Int) (b:ByteArray) (c:Int) (d:ByteArray) (a2:Int) (b2:ByteArray) (c2:Int) (d2:ByteArray) (w:World):(binOp .eql 209 (aR #[aB aC a,aD b,aB aC c,aD d]) (aR #[aB aC a2,aD b2,aB aC c2,aD d2])).run aE w= .ok (aI ((a==a2)&&(b.toList==b2.toList)&&(c==c2)&&(d.toList==d2.toList))) w:=by
 rw[run_eql_struct,YA];rfl
@[go_sem high] theorem Uo (a:Int) (b:ByteArray) (c:Int) (d:ByteArray) (a2:Int) (b2:ByteArray) (c2:Int) (d2:ByteArray) (w:World):(binOp .neq 209 (aR #[aB aC a,aD b,aB aC c,aD d]) (aR #[aB aC a2,aD b2,aB aC c2,aD d2])).run aE w= .ok (aI (!((a==a2)&&(b.toList==b2.toList)&&(c==c2)&&(d.toList==d2.toList)))) w:=by
 rw[run_neq_struct,YA];rfl
@[go_sem] theorem Vu:aE.eqGuardType aE.depth 209=false:=by kernel_rfl
theorem YT (p q:aK):decide (p=q)=((p.kind==q.kind)&&((⟨p.text.toArray⟩:ByteArray).toList==(⟨q.text.toArray⟩:ByteArray).toList)&&(p.num==q.num)&&((⟨p.unit.toArray⟩:ByteArray).toList==(⟨q.unit.toArray⟩:ByteArray).toList)):=by
 rw[nD,nD];obtain⟨a,b,c,d⟩:=p;obtain⟨a2,b2,c2,d2⟩:=q;rw[Bool.eq_iff_iff];simp[and_assoc]
theorem Rd.css {w:World} {A:Option Addr} {m c:Nat} {l:List aK} (h:Rd w (aF A m c) l.length 4 (bC l)) (k:Nat) (hk:k<l.length):
  ∃b off,A=some ⟨b,off,none⟩/\b<w.heap.size/\w.cell? ⟨b,off+k*4,none⟩=some (aB aC l[k].kind)/\w.cell? ⟨b,off+k*4+1,none⟩=some (sv l[k].text)/\w.cell? ⟨b,off+k*4+2,none⟩=some (aB aC l[k].num)/\w.cell? ⟨b,off+k*4+3,none⟩=some (sv l[k].unit):=by
 obtain⟨b,off,rfl,hb,hc⟩:=Rd.flat (n:=4) (cells:=aK.cells) (λ_=>rfl) h k hk;exact⟨b,off,rfl,hb,hc 0 _ om rfl,hc 1 _ om rfl,hc 2 _ om rfl,hc 3 _ om rfl⟩
theorem Ac {l m:List aK} {k:Nat} (h1:k<l.length) (h2:k<m.length):decide (l.drop k=m.drop k)=(decide (l[k]=m[k])&&decide (l.drop (k+1)=m.drop (k+1))):=by
 rw[iK h1,iK h2,Bool.eq_iff_iff];simp only[List.cons.injEq,decide_eq_true_eq,Bool.and_eq_true]
theorem zZ (A A2:Option Addr) (n n2 c c2:Nat) (l m:List aK) (w:World) (h:Rd w (aF A n c) l.length 4 (bC l)) (h2:Rd w (aF A2 n2 c2) m.length 4 (bC m)):
  Calls aE 213 #[aF A n c,aF A2 n2 c2] w (aH (aI (decide (l=m))) w):=by
 have HR:=aA h;have HR2:=aA h2;obtain⟨_,hm,A',c',heq,_⟩:=h;cases heq;obtain⟨_,hm2,A2',c2',heq,_⟩:=h2;cases heq;have hmx:=bX;obtain⟨D,hD⟩: ∃D,decide (l=m)=D:=⟨_,rfl⟩;have HD:=aA hD;rw[hD];clear hD;by_cases hlen:l.length=m.length
 .have HL:=aA hlen;rw[hlen]at hm ⊢;have b0:((m.length:Int) !=(m.length:Int))=false:=by simp
  go_enter Tryz.func213,Tryz.ntmps213;go_wp2_with fail
  go_loopw [13] (λi wr=> ∃(k:Nat) (X:Gr),k<=m.length/\i=aB aC k/\wr=w.grow X/\Hid (D=decide (l.drop k=m.drop k))) (λi _=>m.length-(intOf i).toNat)
  case atStart=>exact⟨0,_,by omega,rfl,(kW w).symm,by show _=_;rw[<-HD.out];rfl⟩
  case round=>
   obtain⟨k,X,hk,rfl,rfl,HK⟩:=hrel;by_cases hlt:k<m.length
   .have hlt':k<l.length:=by rw[HL.out];exact hlt
    obtain⟨b,off,rfl,hb,c0,c1,c2,c3⟩:=HR.out.css k hlt';obtain⟨b2,off2,rfl,hb2,d0,d1,d2,d3⟩:=HR2.out.css k hlt;have HS:=aA (HK.out.trans (Ac hlt' hlt));have HP:=aA (YT l[k] m[k]);generalize l[k]=p at*;generalize m[k]=q at*;obtain⟨p1,p2,p3,p4⟩:=p;obtain⟨q1,q2,q3,q4⟩:=q;simp only[sv]at c0 c1 c2 c3 d0 d1 d2 d3 HP;generalize(⟨p2.toArray⟩:ByteArray)=a1 at*;generalize(⟨p4.toArray⟩:ByteArray)=a2 at*;generalize(⟨q2.toArray⟩:ByteArray)=a3 at*;generalize(⟨q4.toArray⟩:ByteArray)=a4 at*;cases e1:(p1==q1)
    .have HN:=aA (show D=false by rw[HS.out,HP.out,e1];simp);go_wp2_with fail
     refine dV kr kr  ?_;repeat(go_big_quiet_step(fail))
     refine wpQuiet_nil ?_;rintro _ ⟨nq,rfl⟩;go_wp2
     go_ret;exact aH.of (by rw[HN.out];rfl) aG
    cases e2:(a1.toList==a3.toList)
    .have HN:=aA (show D=false by rw[HS.out,HP.out,e1,e2];simp);go_wp2_with fail
     refine dV kr kr  ?_;repeat(go_big_quiet_step(fail))
     refine wpQuiet_nil ?_;rintro _ ⟨nq,rfl⟩;go_wp2
     go_ret;exact aH.of (by rw[HN.out];rfl) aG
    cases e3:(p3==q3)
    .have HN:=aA (show D=false by rw[HS.out,HP.out,e1,e2,e3];simp);go_wp2_with fail
     refine dV kr kr  ?_;repeat(go_big_quiet_step(fail))
     refine wpQuiet_nil ?_;rintro _ ⟨nq,rfl⟩;go_wp2
     go_ret;exact aH.of (by rw[HN.out];rfl) aG
    cases e4:(a2.toList==a4.toList)
    .have HN:=aA (show D=false by rw[HS.out,HP.out,e1,e2,e3,e4];simp);go_wp2_with fail
     refine dV kr kr  ?_;repeat(go_big_quiet_step(fail))
     refine wpQuiet_nil ?_;rintro _ ⟨nq,rfl⟩;go_wp2
     go_ret;exact aH.of (by rw[HN.out];rfl) aG
    have HN:=aA (show D=decide (l.drop (k+1)=m.drop (k+1)) by rw[HS.out,HP.out,e1,e2,e3,e4];rfl);go_wp2_with fail
    refine dV kr kr  ?_;repeat(go_big_quiet_step(fail))
    refine wpQuiet_nil ?_;rintro _ ⟨nq,rfl⟩;go_wp2
    go_roundw
    case rel=>exact⟨k+1,_,by omega,by go_num,jV w X nq,HN⟩
    case measure=>simp[intOf];omega
   .have HN:=aA (show D=true by rw[HK.out,iG (by rw[HL.out];omega),iG om];rfl);go_wp2
    go_ret;exact aH.of (by rw[HN.out];rfl) aG
 .have HN:=aA (show D=false by rw[<-HD.out];simp;intro h;exact hlen (by rw[h]));have b0:((l.length:Int) !=(m.length:Int))=true:=by simp;omega
  have b1: ¬((l.length:Int)=m.length):=by omega
  clear hlen;go_enter Tryz.func213,Tryz.ntmps213;go_wp2
  go_ret;exact aH.of (by rw[HN.out];rfl) aG
open Go.RowKit Go.Shelf
theorem vZ {W:World} {a b c d:Value} {e:TypeId} {B:Nat} (hB:B=W.heap.size):Rd (W.alloc (.cells #[a,b,c,d] e)) (aF (some ⟨B,0,none⟩) 1 1) 1 4 [a,b,c,d]:=by
 subst hB;exact Rd.own (lW (c:= #[a,b,c,d]) (n:=1) (size:=4) rfl dc)
theorem Mx.below {w W:World} (h:Mx w) (hb:Below w.heap.size w W):Mx W:=by
 obtain⟨X,rfl⟩:=cV hb;exact h.grow X
theorem Tb.below {w W:World} (h:Tb w) (hb:Below w.heap.size w W):Tb W:=by
 obtain⟨X,rfl⟩:=cV hb;exact h.grow X
theorem KX (x:aK) (w:World) (hw:Tb w) (hx:Mx w) (ho:jY x) (h1:x.text.length<=1000000) (h2:x.unit.length<=1000000):Calls aE 181 #[aK.agg x] w (aH (aI (cR x)) w):=by
 have hmx:=bX;have htl:=DN x ho;obtain⟨L,hL⟩: ∃L,bU (cE x)=L:=⟨_,rfl⟩;have HTo:=aA (λW (hW:Tb W)=>QM x W hW ho h1 h2);have HSc:=aA (λW (hW:Mx W)=>hL ▸ t7 (cE x) W hW om);have HR:Hid (cR x=(decide (x.kind≠7)&&decide (L=[x]))):=by show _=_;rw[<-hL];rfl
 obtain⟨T,hT⟩: ∃S:ByteArray,⟨(cE x).toArray⟩=S:=⟨_,rfl⟩;rw[hT]at HTo HSc;have HCx:Hid (bC [x]=[aB aC x.kind,aD ⟨x.text.toArray⟩,aB aC x.num,aD ⟨x.unit.toArray⟩]):=rfl;have HEq:=aA (λW A n c A2 n2 c2 (ha:Rd W (aF A n c) L.length 4 (bC L)) (hb:Rd W (aF A2 n2 c2) 1 4 (bC [x]))=>zZ A A2 n n2 c c2 L [x] W ha hb);simp only[aK.agg,sv]at HTo ⊢;rw[HCx.out]at HEq;generalize(⟨x.text.toArray⟩:ByteArray)=a1 at*;generalize(⟨x.unit.toArray⟩:ByteArray)=a2 at*;by_cases k7:x.kind=7
 .have b7:(x.kind !=7)=false:=by simp[k7]
  have HN:Hid (cR x=false):=by show _=_;rw[HR.out,k7];simp
  generalize x.kind=k at*;subst k7;go_enter Tryz.func181,Tryz.ntmps181;go_wp2_with fail
  refine dV kr kr  ?_;repeat(go_big_quiet_step(fail))
  refine wpQuiet_nil ?_;rintro _ ⟨nq,rfl⟩;go_wp2
  go_ret;exact aH.of (by rw[HN.out];rfl) aG
 .have b7:(x.kind !=7)=true:=by simp[k7]
  have HN:Hid (cR x=decide (L=[x])):=by show _=_;rw[HR.out,show decide (x.kind≠7)=true by simp[k7]];simp
  generalize x.kind=k at*;generalize x.num=m at*;clear hL hT htl HR HCx;go_enter Tryz.func181,Tryz.ntmps181;go_wp2_with fail
  obtain⟨W0,hW0⟩: ∃W0,w.alloc (.cells #[aB aC k,aD a1,aB aC m,aD a2] 209)=W0:=⟨_,rfl⟩;have HBW:Hid (Below w.heap.size w W0):=by show Below _ _ _;rw[<-hW0];exact aG
  have hlt0:w.heap.size<W0.heap.size:=by rw[<-hW0];simp
  have c0:W0.cell? ⟨w.heap.size,0,none⟩=some (aB aC k):=by rw[<-hW0];simp[go_sem]
  have c1:W0.cell? ⟨w.heap.size,1,none⟩=some (aD a1):=by rw[<-hW0];simp[go_sem]
  have c2:W0.cell? ⟨w.heap.size,2,none⟩=some (aB aC m):=by rw[<-hW0];simp[go_sem]
  have c3:W0.cell? ⟨w.heap.size,3,none⟩=some (aD a2):=by rw[<-hW0];simp[go_sem]
  have HK2:Hid (∀W,Below W0.heap.size W0 W->W.cell? ⟨w.heap.size,0,none⟩=some (aB aC k)/\W.cell? ⟨w.heap.size,1,none⟩=some (aD a1)/\W.cell? ⟨w.heap.size,2,none⟩=some (aB aC m)/\W.cell? ⟨w.heap.size,3,none⟩=some (aD a2)):=
   λW hW=>⟨(hW.cell hlt0).trans c0,(hW.cell hlt0).trans c1,(hW.cell hlt0).trans c2,(hW.cell hlt0).trans c3⟩
  have HTb:Hid (∀W,Below W0.heap.size W0 W->Tb W):=λW hW=>Tb.below (Tb.below hw HBW.out) hW;have HMx:Hid (∀W,Below W0.heap.size W0 W->Mx W):=λW hW=>Mx.below (Mx.below hx HBW.out) hW;rw[hW0];clear hW0 c0 c1 c2 c3 hw hx;go_region_held3 (λW=>W.cell? ⟨w.heap.size,0,none⟩=some (aB aC k)/\W.cell? ⟨w.heap.size,1,none⟩=some (aD a1)/\W.cell? ⟨w.heap.size,2,none⟩=some (aB aC m)/\W.cell? ⟨w.heap.size,3,none⟩=some (aD a2))
   (exact HK2.out _ aG)
   (first
    |(go_at_call 182;(with_reducible refine zG (HTo.out _ (HTb.out _ aG)) λX1=>?_))
    |(go_at_call 172;(with_reducible refine(HSc.out _ (HMx.out _ aG)).mono ?_);rintro e w' ⟨A1,c1,X2,rfl,rfl,hc1,hr1⟩;have HS:=aA hr1;clear hr1)
    |(go_at_call 213;(refine(HEq.out _ _ _ _ _ _ _ (by first|exact HS.out|exact HS.out.alloc _) (by first|exact vZ (by simp[go_sem])|exact(vZ (by simp[go_sem])).grow _|exact((vZ (by simp[go_sem])).grow _).grow _)).mono ?_);rintro e w' ⟨rfl,X3,rfl⟩))
  all_goals(go_wp2;go_ret;exact aH.of (by rw[HN.out];rfl) (aP HBW.out aG))
open Go.RowKit Go.Shelf
theorem WK (us:List Bs):Lib.join us [32]=oX us:=by
 induction us with
 |nil=>rfl
 |cons u us ih=>
  cases us with
  |nil=>simp[Lib.join,List.intercalate,oX]
  |cons v vs=>
   rw[oX,<-ih];simp[Lib.join,List.intercalate]
theorem R0 {W:World} {A:Option Addr} {n c:Nat} (us:List Bs) (h:Rd W (aF A n c) us.length 1 (us.map sv)) (hc:us.length<=c) (hl:(oX us).length<=140737488355328) (hn:us.length<=140737488355328):
  Calls aE 133 #[aF A n c,aD ⟨#[32]⟩] W (aH (aD ⟨(oX us).toArray⟩) W):=by
 obtain⟨h1,h2,A',c',he,h4⟩:=h;cases he;by_cases h0:us.length=0
 .obtain rfl:us=[]:=List.eq_nil_of_length_eq_zero h0;refine(Tryz.strings_Join_none A c _ W).mono ?_;rintro e w' ⟨rfl,rfl⟩;exact aH.same rfl
 .obtain⟨b,off,rfl,hb,hcell⟩:=h4 om;have e1:(us.map λu=>(⟨u.toArray⟩:ByteArray)).length=us.length:=by simp
  have e2:(us.map λu=>(⟨u.toArray⟩:ByteArray)).map (·.data.toList)=us:=by
   rw[List.map_map];conv=>rhs;rw[<-List.map_id us]
   apply List.map_congr_left;intro u _;rfl
  have key:=Tryz.strings_Join b off c (us.map λu=>(⟨u.toArray⟩:ByteArray)) ⟨#[32]⟩ W (λj x hx=>by
   have hx2:(us.map sv)[j]? =some (aD x):=by
    rw[List.getElem?_map]at hx ⊢;cases hj:us[j]? with
    |none=>rw[hj]at hx;cases hx
    |some u=>rw[hj]at hx;cases hx;rfl
   exact hcell j _ hx2) hb (by rw[e1];exact hn) (by rw[e1];exact hc) (by rw[e2,show(⟨#[32]⟩:ByteArray).data.toList=[32]from rfl,WK];exact hl)
  rw[e1,e2]at key;refine key.mono ?_;rintro e w' ⟨rfl,hB⟩;refine⟨?_,cV hB⟩;show Ending.returned (aD ⟨(Lib.join us [32]).toArray⟩)=_;rw[WK]
theorem WJ (m:Nat): ∀(us:List Bs),(∀u∈us,u.length<=m)->(oX us).length<=us.length*(m+1):=by
 intro us;induction us with
 |nil=>intro _;simp[oX]
 |cons u us ih=>
  intro h;have h1:=h u (List.mem_cons_self ..);have h2:=ih (λv hv=>h v (List.mem_cons_of_mem _ hv));cases us with
  |nil=>simp[oX];omega
  |cons v vs=>
   simp only[oX,aZ,List.length_cons]at h2 ⊢;rw[Nat.succ_mul];omega
theorem JY:jX aE 44 9 (aD ⟨#[]⟩) 1 16:=⟨by kernel_rfl,by kernel_rfl,by kernel_rfl,by decide⟩
def wR (l:List aK):Prop:= ∀x∈l,jY x/\x.text.length<=1000000/\x.unit.length<=1000000
theorem QP (A:Option Addr) (n c:Nat) (l:List aK) (w:World) (hw:Tb w) (hx:Mx w) (h:Rd w (aF A n c) l.length 4 (bC l)) (hs:wR l) (hl:l.length<=1000000):
  Calls aE 141 #[aF A n c] w (aH (Value.tuple #[aD ⟨(if l.all cR then oL l else []).toArray⟩,aI (l.all cR)]) w):=by
 have HR:=aA h;have HS:=aA hs;obtain⟨_,hm,A',c',heq,_⟩:=h;cases heq;have HW:=aA hw;have HX:=aA hx;obtain⟨Z,hZ⟩: ∃Z:ByteArray,⟨(if l.all cR then oL l else []).toArray⟩=Z:=⟨_,rfl⟩;have HZ:=aA hZ;obtain⟨D,hD⟩: ∃D,l.all cR=D:=⟨_,rfl⟩;have HD:=aA hD;rw[hZ,hD];clear hs hw hx hZ hD;go_enter Tryz.func141,Tryz.ntmps141;go_wp2_with fail
 go_loopw [4,9] (λv i wr=> ∃(k:Nat) (X:Gr),k<=l.length/\i=aB aC k/\wr=w.grow X/\(w.grow X).ownsRow w.heap.size 9 1 v k (((l.take k).map cE).map sv)/\Hid ((l.take k).all cR=true)) (λ_ i _=>l.length-(intOf i).toNat)
 case atStart=>exact⟨0,_,by omega,rfl,(kW w).symm,by rw[kW];exact World.ownsRow_nil _ _ _ _,rfl⟩
 case round=>
  obtain⟨k,X,hk,rfl,rfl,hown,HK⟩:=hrel;by_cases hlt:k<l.length
  .obtain⟨b,off,rfl,hb,c0,c1,c2,c3⟩:=HR.out.css k hlt;have HL:=aA (show((l.take (k+1)).map cE).map sv=((l.take k).map cE).map sv++[sv (cE l[k])] by rw[jG hlt,List.map_append,List.map_append];rfl);have HAl:=aA (show(l.take (k+1)).all cR=((l.take k).all cR&&cR l[k]) by rw[jG hlt,List.all_append];simp);have HNo:=aA (show cR l[k]=false->l.all cR=false from λh=>by
    rw[<-Bool.not_eq_true,List.all_eq_true];intro h2;rw[h2 _ (List.getElem_mem hlt)]at h;cases h)
   obtain⟨o1,o2,o3⟩:=HS.out _ (List.getElem_mem hlt);generalize l[k]=x at*;have HRt:=aA (λW (hW:Tb W) (hX:Mx W)=>KX x W hW hX o1 o2 o3);have HTo:=aA (λW (hW:Tb W)=>QM x W hW o1 o2 o3);simp only[aK.agg,sv]at HRt HTo c1 c3;have HTs:=aA (DN x o1);have HTb:Hid (∀o Y,Tb (((w.grow X).alloc o).grow Y)):=λo Y=>Tb.grow (by rw[qG];exact(HW.out.grow X).grow _) Y;have HMx:Hid (∀o Y,Mx (((w.grow X).alloc o).grow Y)):=λo Y=>Mx.grow (by rw[qG];exact(HX.out.grow X).grow _) Y;have HTb0:Hid (∀o,Tb ((w.grow X).alloc o)):=λo=>by rw[qG];exact(HW.out.grow X).grow _
   have HMx0:Hid (∀o,Mx ((w.grow X).alloc o)):=λo=>by rw[qG];exact(HX.out.grow X).grow _
   obtain⟨T,hT⟩: ∃S:ByteArray,⟨(cE x).toArray⟩=S:=⟨_,rfl⟩;have HTT:=aA hT;rw[hT]at HTo;clear hT o1 o2 o3;cases hr:cR x
   .have HN:=aA (HNo.out hr);rw[hr]at HRt;have HRt2:=aA HRt.out;clear HRt hr;go_wp2_with(go_at_call 181;(with_reducible refine zG (HRt2.out _ (HTb0.out _) (HMx0.out _)) λX1=>?_))
    go_ret2;exact aH.of (by rw[<-HZ.out,<-HD.out,HN.out];rfl) aG
   .rw[hr]at HRt HAl;have HRt2:=aA HRt.out;have HV:Hid (sv (cE x)=aD T):=by show _=_;rw[sv,HTT.out]
    have HK2:Hid ((l.take (k+1)).all cR=true):=by show _=_;rw[HAl.out,HK.out];rfl
    clear HRt hr;go_wp2_with(first|(go_at_call 181;(with_reducible refine zG (HRt2.out _ (HTb0.out _) (HMx0.out _)) λX1=>?_))|(go_at_call 182;(with_reducible refine zG (HTo.out _ (HTb.out _ _)) λX2=>?_))|(at_builtin;go_loud(refine rK rfl _ _ 44 rfl JY w rfl (UG (jT (jT (UG hown _) _) _) _) aG ⟨_,0,none⟩ 1 1 [aD T] rfl rfl (eR (c:= #[aD T]) (by simp[go_sem])) (by simp[Value.oneCell']) (by unfold maxLen;omega) om ?_);intro v' Y hown' _))
    go_roundw
    case rel=>exact⟨k+1,Y,by omega,by go_num,rfl,by rw[HL.out,HV.out];exact hown',HK2⟩
    case measure=>simp[intOf];omega
  .have hk2:k=l.length:=by omega
   subst hk2;rw[List.take_length]at HK hown;have hlen:((l.map cE)).length=l.length:=by simp
   have hjl:(oX (l.map cE)).length<=140737488355328:=by
    have h1:=WJ 2000040 (l.map cE) (λu hu=>by
     rw[List.mem_map]at hu;obtain⟨x,hx,rfl⟩:=hu;obtain⟨o1,o2,o3⟩:=HS.out x hx;have:=DN x o1;omega)
    rw[hlen]at h1;omega
   obtain⟨A2,c2,rfl,hc2⟩:=dF hown;have hrd:=Rd.own hown;rw[<-hlen]at hrd hc2;have HJ:=aA (R0 (l.map cE) hrd hc2 hjl (by rw[hlen];omega));rw[hlen]at HJ;have HE:Hid (oL l=oX (l.map cE)):=rfl;clear hrd hc2 hjl hown;go_wp2_with(go_at_call 133;(with_reducible refine HJ.out.mono ?_);rintro e w' ⟨rfl,X1,rfl⟩)
   go_ret2;exact aH.of (by rw[<-HZ.out,<-HD.out,HK.out,if_pos rfl,HE.out];rfl) aG
open Go.ChangeShapes Go.WideShapes Go.Deep
instance:Inhabited aK:=⟨⟨0,[],0,[]⟩⟩
section
variable {H:Type} {enc:TypeId × Value->H} {w:World} {base:Nat} {spare:Nat->Bool} {held:Bool}
end
theorem JR {l:List (String × DataW Unit)} {W:World} (h:laidMetH aE l W) (hf:(l.filter λx=>x.1== "internal/strconv.uint64pow10")=[("internal/strconv.uint64pow10",Lib.tabData .u64 Lib.pow10Tab)]):Tb W:=by
 have h1:=h.filter (λx=>x.1== "internal/strconv.uint64pow10");rw[hf,MakeChecks.laidMetH_plain _ _ _ kr]at h1;exact Lib.tabIs_of_head (g:=3) (t:=291) (e:=283) (n:=20) kr kr kr kr kr kr  h1
theorem LX {W:World} (h:W.ShapedOpen aE):Mx W:=
 cell_of_shapedOpen_int (g:=0) (t:=3) (zero:= #[aB aC 0]) h (of_decide_eq_true kr) kr kr kr kr kr
section
variable {H:Type} {enc:TypeId × Value->H}
end
open Go.RowKit in
theorem pA.flat {P:Program} {f:FuncId} {args:Array Value} {w1:World} {X:Gr} {n size:Nat} {cells:List Value} (h:Calls P f args (w1.grow X) (pA (w1.grow X) n size cells)):Calls P f args (w1.grow X) (pA w1 n size cells):=
 h.mono λ_ _ hh=>by
  obtain⟨A,c,Y,h1,rfl,h2,h3⟩:=hh;rw[jV]at h3;exact⟨A,c,_,h1,jV w1 X Y,h2,h3⟩
theorem Fa (s:Bs):((cQ s).whole++(cQ s).part++List.replicate (3-(cQ s).part.length) 48).all aQ=true:=by
 simp only[List.all_append,Bool.and_eq_true];refine⟨⟨sP aQ _, ?_⟩, ?_⟩
 .unfold cQ;simp only;generalize((s.drop (gY s)).drop (aX aQ (s.drop (gY s))))=v;cases v with
  |nil=>rfl
  |cons c v=>
   simp only[fV,List.drop_succ_cons,List.drop_zero];split
   .exact sP aQ _
   .rfl
 .rw[List.all_eq_true];intro c hc;rw[List.eq_of_mem_replicate hc];decide
def AJ (m:Nat) (x:aK):Prop:=jY x/\x.text.length<=m/\x.unit.length<=64
theorem CV (m:Nat):AJ m iT:=⟨⟨by decide,by decide,by decide,by decide⟩,lT _,lT _⟩
theorem BU {m k:Nat} {t:Bs} (hk:k<=7) (h:t.length<=m):AJ m ⟨k,t,0,[]⟩:=⟨⟨by show-9223372036854775808<=(k:Int);omega,by show(k:Int)<=9223372036854775807;omega,by simp,by simp⟩,h,lT _⟩
theorem Cw {s:Bs} {x:aK} {n:Nat} (h:cJ s=(x,n)):AJ s.length x:=by
 unfold cJ at h;cases hn:dW s
 .rw[hn]at h;simp only[Bool.false_eq_true,if_false]at h;cases hm:gH s with
  |some y=>
   rw[hm]at h;simp only at h;subst h;obtain⟨_,_,h3⟩:=zN hm;rcases h3 with rfl|⟨l1,l2,l3,rfl⟩
   .exact CV _
   .have hv:=IN _ (Fa s) (by simp only[aZ,List.length_replicate];omega);refine⟨⟨by simp,by simp, ?_, ?_⟩,lT _,by rw[oU];exact l3⟩<;>(simp only;split<;>omega)
  |none=>
   rw[hm]at h;simp only at h;cases hq:gS s with
   |some y=>
    rw[hq]at h;simp only at h;subst h;obtain⟨c,r,rfl,h1,h2,rfl⟩:=BI hq;exact BU (k:=5) om (by rw[bZ];simp;omega)
   |none=>
    rw[hq]at h;simp only at h;cases s with
    |nil=>
     simp only[Prod.mk.injEq]at h;obtain⟨rfl,_⟩:=h;exact CV _
    |cons c r=>
     simp only at h;split at h
     .simp only[Prod.mk.injEq]at h;obtain⟨rfl,_⟩:=h;unfold mH;split
      .exact CV _
      .exact BU (k:=4) om (by rw[oU,bZ];simp;omega)
     .split at h
      .simp only[Prod.mk.injEq]at h;obtain⟨rfl,_⟩:=h;exact BU (k:=6) om (by simp)
      .simp only[Prod.mk.injEq]at h;obtain⟨rfl,_⟩:=h;exact CV _
 .rw[hn]at h;simp only[if_true]at h;unfold lY at h;split at h
  .simp only[Prod.mk.injEq]at h;obtain⟨rfl,_⟩:=h;exact CV _
  .split at h
   .simp only[Prod.mk.injEq]at h;obtain⟨rfl,_⟩:=h;exact BU (k:=2) om (by rw[oU,bZ];omega)
   .simp only[Prod.mk.injEq]at h;obtain⟨rfl,_⟩:=h;exact BU (k:=1) om (by rw[oU,bZ];omega)
theorem SA: ∀(f:Nat) (s:Bs),∀x∈oE f s,AJ s.length x:=by
 intro f;induction f with
 |zero=>intro s x hx;simp[oE]at hx
 |succ f ih=>
  intro s x hx;simp only[oE]at hx;have hl:=xY s 0;cases hb:dC 0 s with
  |nil=>rw[hb]at hx;simp at hx
  |cons c r=>
   rw[hb]at hx hl;have up: ∀{m:Nat} {y:aK},m<=s.length->AJ m y->AJ s.length y:=λhm h=>⟨h.1,Nat.le_trans h.2.1 hm,h.2.2⟩;simp only[List.mem_cons]at hx;rcases hx with rfl|hx
   .exact up hl (Cw (s:=c::r) (n:=(cJ (c::r)).2) rfl)
   .exact up (by rw[List.length_drop];omega) (ih _ x hx)
