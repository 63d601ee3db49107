/- Plain laws: what is scanned is short. No program in sight. -/
import Derived.Lib.SmallJoins
import Derived.Lib.LaidTab
import Derived.LaidSub
import Derived.Shelf.Vars
import Derived.Handed
import Derived.MakeChecks
import Derived.Test.YtiikamobcmgekaaGreatDoorKA
import Derived.Lib.Join
import Derived.Test.YtiikamobcmgekaaGreatDoorKB
import Derived.Test.YtiikamobcmgekaaGreatDoorJCssL
namespace Go.Proofs.YtiikamobcmgekaaGreatDoor
set_option maxRecDepth 100000
set_option maxHeartbeats 8000000
open Go.RowKit Go.Shelf
attribute [local go_sem] Oper.semAt_some
theorem figures_len (n:Int) (h:n.natAbs<=9223372036854775808):(figuresL n).length<=30:=by
 have h1:=fig_len (n.natAbs/1000) (by omega)
 have h2:=frac_dig (n.natAbs%1000) (Nat.mod_lt _ (by omega))
 rw[fig_split,frac_is,List.length_append,List.length_append]
 have h3:(sgL n).length<=1:=by unfold sgL;split<;>simp
 split
 ·simp only[List.length_nil];omega
 ·simp only[List.length_cons];omega
structure CssOk (x:Css):Prop where
 klo: -9223372036854775808<=x.kind
 khi:x.kind<=9223372036854775807
 nlo: -9223372036854775808<=x.num
 nhi:x.num<=9223372036854775807
theorem told_len (x:Css) (h:CssOk x):(toldC x).length<=x.text.length+x.unit.length+40:=by
 have:=figures_len x.num (by have:=h.nlo;have:=h.nhi;omega)
 unfold toldC
 repeat' split
 all_goals simp
 all_goals omega
theorem told_any (x:Css) (w:World) (hw:Tb w) (ho:CssOk x) (h1:x.text.length<=1000000) (h2:x.unit.length<=1000000):Calls Tryz.prog 178 #[Css.agg x] w (Ret (.string ⟨(toldC x).toArray⟩) w):=by
 have hmx:=mxd
 have HF:=Lib.hid (fun W (hW:Tb W)=>figures_any x.num W hW ho.nlo ho.nhi)
 have HT:Hid (toldC x=if x.kind=1\/x.kind=6 then x.text else if x.kind=2 then x.text++[40]else if x.kind=3 then figuresL x.num++x.unit
  else if x.kind=4 then 35::x.text else if x.kind=5 then 34::x.text++[34]else []):=rfl
 have hfl:=figures_len x.num (by have:=ho.nlo;have:=ho.nhi;omega)
 obtain⟨k,t,m,u⟩:=x
 simp only[Css.agg,sv]at*
 obtain⟨T,hT⟩: ∃S:ByteArray,⟨t.toArray⟩=S:=⟨_,rfl⟩
 obtain⟨U,hU⟩: ∃S:ByteArray,⟨u.toArray⟩=S:=⟨_,rfl⟩
 obtain⟨F,hF⟩: ∃S:ByteArray,⟨(figuresL m).toArray⟩=S:=⟨_,rfl⟩
 have hTs:T.size<=1000000:=by rw[<-hT];exact h1
 have hUs:U.size<=1000000:=by rw[<-hU];exact h2
 have hFs:F.size<=30:=by rw[<-hF];exact hfl
 have HTd:Hid (T.data.toList=t):=by show _=_;rw[<-hT]
 have HUd:Hid (U.data.toList=u):=by show _=_;rw[<-hU]
 have HFd:Hid (F.data.toList=figuresL m):=by show _=_;rw[<-hF]
 have HW:=Lib.hid hw
 rw[hT,hU]
 rw[hF]at HF
 clear hT hU hF h1 h2 hfl
 by_cases k1:k=1
 ·subst k1
  rw[if_pos (.inl rfl)]at HT
  go_enter Tryz.func178,Tryz.ntmps178
  go_wp2_with fail
  go_ret
  exact Ret.of (str_eq (by rw[HTd.out,HT.out])) bel
 by_cases k6:k=6
 ·subst k6
  rw[if_pos (.inr rfl)]at HT
  go_enter Tryz.func178,Tryz.ntmps178
  go_wp2_with fail
  go_ret
  exact Ret.of (str_eq (by rw[HTd.out,HT.out])) bel
 rw[if_neg (by omega)]at HT
 by_cases k2:k=2
 ·subst k2
  rw[if_pos rfl]at HT
  go_enter Tryz.func178,Tryz.ntmps178
  go_wp2_with fail
  go_ret
  exact Ret.of (str_eq (by simp only[ByteArray.data_append,Array.toList_append,HTd.out,HT.out])) bel
 rw[if_neg k2]at HT
 by_cases k3:k=3
 ·subst k3
  rw[if_pos rfl]at HT
  go_enter Tryz.func178,Tryz.ntmps178
  go_wp2_with fail
  refine wp_region_grow (by kernel_rfl) (by kernel_rfl) ?_
  repeat(go_big_quiet_step(first|(go_at_call 238;with_reducible exact Calls.grow_of (HF.out _ (Tb.grow (by rw[alloc_grow];exact Tb.grow HW.out _) _)))))
  refine wpQuiet_nil ?_
  intro _ hw';obtain⟨nq,hw''⟩:=hw';subst hw''
  go_wp2
  go_ret
  exact Ret.of (str_eq (by simp only[ByteArray.data_append,Array.toList_append,HFd.out,HUd.out,HT.out])) bel
 rw[if_neg k3]at HT
 by_cases k4:k=4
 ·subst k4
  rw[if_pos rfl]at HT
  go_enter Tryz.func178,Tryz.ntmps178
  go_wp2_with fail
  go_ret
  exact Ret.of (str_eq (by simp only[ByteArray.data_append,Array.toList_append,HTd.out,HT.out];rfl)) bel
 rw[if_neg k4]at HT
 by_cases k5:k=5
 ·subst k5
  rw[if_pos rfl]at HT
  go_enter Tryz.func178,Tryz.ntmps178
  go_wp2_with fail
  go_ret
  exact Ret.of (str_eq (by simp only[ByteArray.data_append,Array.toList_append,HTd.out,HT.out];rfl)) bel
 rw[if_neg k5]at HT
 have b1:(k==1)=false:=by simpa using k1
 have b2:(k==2)=false:=by simpa using k2
 have b3:(k==3)=false:=by simpa using k3
 have b4:(k==4)=false:=by simpa using k4
 have b5:(k==5)=false:=by simpa using k5
 have b6:(k==6)=false:=by simpa using k6
 go_enter Tryz.func178,Tryz.ntmps178
 go_wp2_with fail
 go_ret
 exact Ret.of (by rw[HT.out];rfl) bel
open Go.RowKit Go.Shelf
attribute [local go_sem] Oper.semAt_some
theorem eq_css (a:Int) (b:ByteArray) (c:Int) (d:ByteArray) (a2:Int) (b2:ByteArray) (c2:Int) (d2:ByteArray) (w:World):(Op.equalIn 10000 72 (.agg #[.int .i64 a,.string b,.int .i64 c,.string d]) (.agg #[.int .i64 a2,.string b2,.int .i64 c2,.string d2])).run Tryz.prog w= .ok ((a==a2)&&(b.toList==b2.toList)&&(c==c2)&&(d.toList==d2.toList)) w:=by
 have h2:Tryz.prog.underlying 72=some (.struct (Tryz.prog.fieldsOf 72)):=by kernel_rfl
 have h3:Tryz.prog.stoodInHeld 72=false:=by kernel_rfl
 rw[run_equalIn_agg _ _ _ _ _ h2 h3]
 simp only[Program.fieldsOf,Tryz.underlying72]
 cases e1:(a==a2)<;>cases e2:(b.toList==b2.toList)<;>cases e3:(c==c2)<;>cases e4:(d.toList==d2.toList)<;>simp[go_sem,Tryz.underlying9,Tryz.underlying3,e1,e2,e3,e4]<;>simp_all
@[go_sem high] theorem eql_css (a:Int) (b:ByteArray) (c:Int) (d:ByteArray) (a2:Int) (b2:ByteArray) (c2:Int) (d2:ByteArray) (w:World):(binOp .eql 72 (.agg #[.int .i64 a,.string b,.int .i64 c,.string d]) (.agg #[.int .i64 a2,.string b2,.int .i64 c2,.string d2])).run Tryz.prog w= .ok (.bool ((a==a2)&&(b.toList==b2.toList)&&(c==c2)&&(d.toList==d2.toList))) w:=by
 rw[run_eql_struct,eq_css];rfl
@[go_sem high] theorem neq_css (a:Int) (b:ByteArray) (c:Int) (d:ByteArray) (a2:Int) (b2:ByteArray) (c2:Int) (d2:ByteArray) (w:World):(binOp .neq 72 (.agg #[.int .i64 a,.string b,.int .i64 c,.string d]) (.agg #[.int .i64 a2,.string b2,.int .i64 c2,.string d2])).run Tryz.prog w= .ok (.bool (!((a==a2)&&(b.toList==b2.toList)&&(c==c2)&&(d.toList==d2.toList)))) w:=by
 rw[run_neq_struct,eq_css];rfl
@[go_sem] theorem guard_css:Tryz.prog.eqGuardType Tryz.prog.depth 72=false:=by kernel_rfl
theorem css_eq (p q:Css):decide (p=q)=((p.kind==q.kind)&&((⟨p.text.toArray⟩:ByteArray).toList==(⟨q.text.toArray⟩:ByteArray).toList)&&(p.num==q.num)&&((⟨p.unit.toArray⟩:ByteArray).toList==(⟨q.unit.toArray⟩:ByteArray).toList)):=by
 rw[ba_bq,ba_bq]
 obtain⟨a,b,c,d⟩:=p
 obtain⟨a2,b2,c2,d2⟩:=q
 rw[Bool.eq_iff_iff];simp[and_assoc]
theorem Rd.css {w:World} {A:Option Addr} {m c:Nat} {l:List Css} (h:Rd w (.slice A m c) l.length 4 (cssCells l)) (k:Nat) (hk:k<l.length):
  ∃b off,A=some ⟨b,off,none⟩/\b<w.heap.size/\w.cell? ⟨b,off+k*4,none⟩=some (.int .i64 l[k].kind)/\w.cell? ⟨b,off+k*4+1,none⟩=some (sv l[k].text)/\w.cell? ⟨b,off+k*4+2,none⟩=some (.int .i64 l[k].num)/\w.cell? ⟨b,off+k*4+3,none⟩=some (sv l[k].unit):=by
 obtain⟨b,off,rfl,hb,hc⟩:=Rd.flat (n:=4) (cells:=Css.cells) (fun _=>rfl) h k hk
 exact⟨b,off,rfl,hb,hc 0 _ (by omega) rfl,hc 1 _ (by omega) rfl,hc 2 _ (by omega) rfl,hc 3 _ (by omega) rfl⟩
theorem same_from {l m:List Css} {k:Nat} (h1:k<l.length) (h2:k<m.length):decide (l.drop k=m.drop k)=(decide (l[k]=m[k])&&decide (l.drop (k+1)=m.drop (k+1))):=by
 rw[List.drop_eq_getElem_cons h1,List.drop_eq_getElem_cons h2,Bool.eq_iff_iff];simp only[List.cons.injEq,decide_eq_true_eq,Bool.and_eq_true]
theorem equal_any (A A2:Option Addr) (n n2 c c2:Nat) (l m:List Css) (w:World) (h:Rd w (.slice A n c) l.length 4 (cssCells l)) (h2:Rd w (.slice A2 n2 c2) m.length 4 (cssCells m)):
  Calls Tryz.prog 231 #[.slice A n c,.slice A2 n2 c2] w (Ret (.bool (decide (l=m))) w):=by
 have HR:=Lib.hid h
 have HR2:=Lib.hid h2
 obtain⟨_,hm,A',c',heq,_⟩:=h
 cases heq
 obtain⟨_,hm2,A2',c2',heq,_⟩:=h2
 cases heq
 have hmx:=mxd
 obtain⟨D,hD⟩: ∃D,decide (l=m)=D:=⟨_,rfl⟩
 have HD:=Lib.hid hD
 rw[hD]
 clear hD
 by_cases hlen:l.length=m.length
 ·have HL:=Lib.hid hlen
  rw[hlen]at hm ⊢
  have b0:((m.length:Int) !=(m.length:Int))=false:=by simp
  go_enter Tryz.func231,Tryz.ntmps231
  go_wp2_with fail
  go_loopw [13] (fun i wr=> ∃(k:Nat) (X:Gr),k<=m.length/\i= .int .i64 k/\wr=w.grow X/\Hid (D=decide (l.drop k=m.drop k))) (fun i _=>m.length-(intOf i).toNat)
  case atStart=>exact⟨0,_,by omega,rfl,(grow_refl w).symm,by show _=_;rw[<-HD.out];rfl⟩
  case round=>
   obtain⟨k,X,hk,rfl,rfl,HK⟩:=hrel
   by_cases hlt:k<m.length
   ·have hlt':k<l.length:=by rw[HL.out];exact hlt
    obtain⟨b,off,rfl,hb,c0,c1,c2,c3⟩:=HR.out.css k hlt'
    obtain⟨b2,off2,rfl,hb2,d0,d1,d2,d3⟩:=HR2.out.css k hlt
    have HS:=Lib.hid (HK.out.trans (same_from hlt' hlt))
    have HP:=Lib.hid (css_eq l[k] m[k])
    generalize l[k]=p at*
    generalize m[k]=q at*
    obtain⟨p1,p2,p3,p4⟩:=p
    obtain⟨q1,q2,q3,q4⟩:=q
    simp only[sv]at c0 c1 c2 c3 d0 d1 d2 d3 HP
    generalize(⟨p2.toArray⟩:ByteArray)=a1 at*
    generalize(⟨p4.toArray⟩:ByteArray)=a2 at*
    generalize(⟨q2.toArray⟩:ByteArray)=a3 at*
    generalize(⟨q4.toArray⟩:ByteArray)=a4 at*
    cases e1:(p1==q1)
    ·have HN:=Lib.hid (show D=false by rw[HS.out,HP.out,e1];simp)
     go_wp2_with fail
     refine wp_region_grow (by kernel_rfl) (by kernel_rfl) ?_
     repeat(go_big_quiet_step(fail))
     refine wpQuiet_nil ?_
     intro _ hw';obtain⟨nq,hw''⟩:=hw';subst hw''
     go_wp2
     go_ret
     exact Ret.of (by rw[HN.out];rfl) bel
    cases e2:(a1.toList==a3.toList)
    ·have HN:=Lib.hid (show D=false by rw[HS.out,HP.out,e1,e2];simp)
     go_wp2_with fail
     refine wp_region_grow (by kernel_rfl) (by kernel_rfl) ?_
     repeat(go_big_quiet_step(fail))
     refine wpQuiet_nil ?_
     intro _ hw';obtain⟨nq,hw''⟩:=hw';subst hw''
     go_wp2
     go_ret
     exact Ret.of (by rw[HN.out];rfl) bel
    cases e3:(p3==q3)
    ·have HN:=Lib.hid (show D=false by rw[HS.out,HP.out,e1,e2,e3];simp)
     go_wp2_with fail
     refine wp_region_grow (by kernel_rfl) (by kernel_rfl) ?_
     repeat(go_big_quiet_step(fail))
     refine wpQuiet_nil ?_
     intro _ hw';obtain⟨nq,hw''⟩:=hw';subst hw''
     go_wp2
     go_ret
     exact Ret.of (by rw[HN.out];rfl) bel
    cases e4:(a2.toList==a4.toList)
    ·have HN:=Lib.hid (show D=false by rw[HS.out,HP.out,e1,e2,e3,e4];simp)
     go_wp2_with fail
     refine wp_region_grow (by kernel_rfl) (by kernel_rfl) ?_
     repeat(go_big_quiet_step(fail))
     refine wpQuiet_nil ?_
     intro _ hw';obtain⟨nq,hw''⟩:=hw';subst hw''
     go_wp2
     go_ret
     exact Ret.of (by rw[HN.out];rfl) bel
    have HN:=Lib.hid (show D=decide (l.drop (k+1)=m.drop (k+1)) by rw[HS.out,HP.out,e1,e2,e3,e4];rfl)
    go_wp2_with fail
    refine wp_region_grow (by kernel_rfl) (by kernel_rfl) ?_
    repeat(go_big_quiet_step(fail))
    refine wpQuiet_nil ?_
    intro _ hw';obtain⟨nq,hw''⟩:=hw';subst hw''
    go_wp2
    go_roundw
    case rel=>exact⟨k+1,_,by omega,by go_num,grow_grow w X nq,HN⟩
    case measure=>simp[intOf];omega
   ·have HN:=Lib.hid (show D=true by rw[HK.out,List.drop_eq_nil_of_le (by rw[HL.out];omega),List.drop_eq_nil_of_le (by omega)];rfl)
    go_wp2
    go_ret
    exact Ret.of (by rw[HN.out];rfl) bel
 ·have HN:=Lib.hid (show D=false by rw[<-HD.out];simp;intro h;exact hlen (by rw[h]))
  have b0:((l.length:Int) !=(m.length:Int))=true:=by simp;omega
  have b1: ¬((l.length:Int)=m.length):=by omega
  clear hlen
  go_enter Tryz.func231,Tryz.ntmps231
  go_wp2
  go_ret
  exact Ret.of (by rw[HN.out];rfl) bel
open Go.RowKit Go.Shelf
attribute [local go_sem] Oper.semAt_some
theorem lit4_rd {W:World} {a b c d:Value} {e:TypeId} {B:Nat} (hB:B=W.heap.size):Rd (W.alloc (.cells #[a,b,c,d] e)) (.slice (some ⟨B,0,none⟩) 1 1) 1 4 [a,b,c,d]:=by
 subst hB
 exact Rd.own (own_lit (c:= #[a,b,c,d]) (n:=1) (size:=4) rfl (by decide))
theorem Mx.below {w W:World} (h:Mx w) (hb:Below w.heap.size w W):Mx W:=by
 obtain⟨X,rfl⟩:=grow_of_below hb
 exact h.grow X
theorem Tb.below {w W:World} (h:Tb w) (hb:Below w.heap.size w W):Tb W:=by
 obtain⟨X,rfl⟩:=grow_of_below hb
 exact h.grow X
theorem right_anyQ (x:Css) (w:World) (hw:Tb w) (hx:Mx w) (ho:CssOk x) (h1:x.text.length<=1000000) (h2:x.unit.length<=1000000):Calls Tryz.prog 177 #[Css.agg x] w (Ret (.bool (rightC x)) w):=by
 have hmx:=mxd
 have htl:=told_len x ho
 obtain⟨L,hL⟩: ∃L,cssL (toldC x)=L:=⟨_,rfl⟩
 have HTo:=Lib.hid (fun W (hW:Tb W)=>told_any x W hW ho h1 h2)
 have HSc:=Lib.hid (fun W (hW:Mx W)=>hL ▸ scan_anyQ (toldC x) W hW (by omega))
 have HR:Hid (rightC x=(decide (x.kind≠7)&&decide (L=[x]))):=by show _=_;rw[<-hL];rfl
 obtain⟨T,hT⟩: ∃S:ByteArray,⟨(toldC x).toArray⟩=S:=⟨_,rfl⟩
 rw[hT]at HTo HSc
 have HCx:Hid (cssCells [x]=[.int .i64 x.kind,.string ⟨x.text.toArray⟩,.int .i64 x.num,.string ⟨x.unit.toArray⟩]):=rfl
 have HEq:=Lib.hid (fun W A n c A2 n2 c2 (ha:Rd W (.slice A n c) L.length 4 (cssCells L)) (hb:Rd W (.slice A2 n2 c2) 1 4 (cssCells [x]))=>equal_any A A2 n n2 c c2 L [x] W ha hb)
 simp only[Css.agg,sv]at HTo ⊢
 rw[HCx.out]at HEq
 generalize(⟨x.text.toArray⟩:ByteArray)=a1 at*
 generalize(⟨x.unit.toArray⟩:ByteArray)=a2 at*
 by_cases k7:x.kind=7
 ·have b7:(x.kind !=7)=false:=by simp[k7]
  have HN:Hid (rightC x=false):=by show _=_;rw[HR.out,k7];simp
  generalize x.kind=k at*
  subst k7
  go_enter Tryz.func177,Tryz.ntmps177
  go_wp2_with fail
  refine wp_region_grow (by kernel_rfl) (by kernel_rfl) ?_
  repeat(go_big_quiet_step(fail))
  refine wpQuiet_nil ?_
  intro _ hw';obtain⟨nq,hw''⟩:=hw';subst hw''
  go_wp2
  go_ret
  exact Ret.of (by rw[HN.out];rfl) bel
 ·have b7:(x.kind !=7)=true:=by simp[k7]
  have HN:Hid (rightC x=decide (L=[x])):=by show _=_;rw[HR.out,show decide (x.kind≠7)=true by simp[k7]];simp
  generalize x.kind=k at*
  generalize x.num=m at*
  clear hL hT htl HR HCx
  go_enter Tryz.func177,Tryz.ntmps177
  go_wp2_with fail
  obtain⟨W0,hW0⟩: ∃W0,w.alloc (.cells #[.int .i64 k,.string a1,.int .i64 m,.string a2] 72)=W0:=⟨_,rfl⟩
  have HBW:Hid (Below w.heap.size w W0):=by show Below _ _ _;rw[<-hW0];exact bel
  have hlt0:w.heap.size<W0.heap.size:=by rw[<-hW0];simp
  have c0:W0.cell? ⟨w.heap.size,0,none⟩=some (.int .i64 k):=by rw[<-hW0];simp[go_sem]
  have c1:W0.cell? ⟨w.heap.size,1,none⟩=some (.string a1):=by rw[<-hW0];simp[go_sem]
  have c2:W0.cell? ⟨w.heap.size,2,none⟩=some (.int .i64 m):=by rw[<-hW0];simp[go_sem]
  have c3:W0.cell? ⟨w.heap.size,3,none⟩=some (.string a2):=by rw[<-hW0];simp[go_sem]
  have HK2:Hid (∀W,Below W0.heap.size W0 W->W.cell? ⟨w.heap.size,0,none⟩=some (.int .i64 k)/\W.cell? ⟨w.heap.size,1,none⟩=some (.string a1)/\W.cell? ⟨w.heap.size,2,none⟩=some (.int .i64 m)/\W.cell? ⟨w.heap.size,3,none⟩=some (.string a2)):=
   fun W hW=>⟨(hW.cell hlt0).trans c0,(hW.cell hlt0).trans c1,(hW.cell hlt0).trans c2,(hW.cell hlt0).trans c3⟩
  have HTb:Hid (∀W,Below W0.heap.size W0 W->Tb W):=fun W hW=>Tb.below (Tb.below hw HBW.out) hW
  have HMx:Hid (∀W,Below W0.heap.size W0 W->Mx W):=fun W hW=>Mx.below (Mx.below hx HBW.out) hW
  rw[hW0]
  clear hW0 c0 c1 c2 c3 hw hx
  go_region_held3 (fun W=>W.cell? ⟨w.heap.size,0,none⟩=some (.int .i64 k)/\W.cell? ⟨w.heap.size,1,none⟩=some (.string a1)/\W.cell? ⟨w.heap.size,2,none⟩=some (.int .i64 m)/\W.cell? ⟨w.heap.size,3,none⟩=some (.string a2))
   (exact HK2.out _ bel)
   (first
    |(go_at_call 178;(with_reducible refine(HTo.out _ (HTb.out _ bel)).mono ?_);rintro e w' ⟨rfl,X1,rfl⟩)
    |(go_at_call 37;(with_reducible refine(HSc.out _ (HMx.out _ bel)).mono ?_);rintro e w' ⟨A1,c1,X2,rfl,rfl,hc1,hr1⟩;have HS:=Lib.hid hr1;clear hr1)
    |(go_at_call 231;(refine(HEq.out _ _ _ _ _ _ _ (by first|exact HS.out|exact HS.out.alloc _) (by first|exact lit4_rd (by simp[go_sem])|exact(lit4_rd (by simp[go_sem])).grow _|exact((lit4_rd (by simp[go_sem])).grow _).grow _)).mono ?_);rintro e w' ⟨rfl,X3,rfl⟩))
  all_goals(go_wp2;go_ret;exact Ret.of (by rw[HN.out];rfl) (below_next HBW.out bel))
open Go.RowKit Go.Shelf
attribute [local go_sem] Oper.semAt_some
theorem join_c (us:List Bs):Lib.join us [32]=joinC us:=by
 induction us with
 |nil=>rfl
 |cons u us ih=>
  cases us with
  |nil=>simp[Lib.join,List.intercalate,joinC]
  |cons v vs=>
   rw[joinC,<-ih]
   simp[Lib.join,List.intercalate]
theorem strjoin_any {W:World} {A:Option Addr} {n c:Nat} (us:List Bs) (h:Rd W (.slice A n c) us.length 1 (us.map sv)) (hc:us.length<=c) (hl:(joinC us).length<=140737488355328) (hn:us.length<=140737488355328):
  Calls Tryz.prog 43 #[.slice A n c,.string ⟨#[32]⟩] W (Ret (.string ⟨(joinC us).toArray⟩) W):=by
 obtain⟨h1,h2,A',c',he,h4⟩:=h
 cases he
 by_cases h0:us.length=0
 ·obtain rfl:us=[]:=List.eq_nil_of_length_eq_zero h0
  refine(Tryz.strings_Join_none A c _ W).mono ?_
  rintro e w' ⟨rfl,rfl⟩
  exact Ret.same rfl
 ·obtain⟨b,off,rfl,hb,hcell⟩:=h4 (by omega)
  have e1:(us.map fun u=>(⟨u.toArray⟩:ByteArray)).length=us.length:=by simp
  have e2:(us.map fun u=>(⟨u.toArray⟩:ByteArray)).map (·.data.toList)=us:=by
   rw[List.map_map]
   conv=>rhs;rw[<-List.map_id us]
   apply List.map_congr_left
   intro u _
   rfl
  have key:=Tryz.strings_Join b off c (us.map fun u=>(⟨u.toArray⟩:ByteArray)) ⟨#[32]⟩ W (fun j x hx=>by
   have hx2:(us.map sv)[j]? =some (.string x):=by
    rw[List.getElem?_map]at hx ⊢
    cases hj:us[j]? with
    |none=>rw[hj]at hx;cases hx
    |some u=>rw[hj]at hx;cases hx;rfl
   exact hcell j _ hx2) hb (by rw[e1];exact hn) (by rw[e1];exact hc) (by rw[e2,show(⟨#[32]⟩:ByteArray).data.toList=[32]from rfl,join_c];exact hl)
  rw[e1,e2]at key
  refine key.mono ?_
  rintro e w' ⟨rfl,hB⟩
  refine⟨?_,grow_of_below hB⟩
  show Ending.returned (.string ⟨(Lib.join us [32]).toArray⟩)=_
  rw[join_c]
theorem join_lenQ (m:Nat): ∀(us:List Bs),(∀u∈us,u.length<=m)->(joinC us).length<=us.length*(m+1):=by
 intro us
 induction us with
 |nil=>intro _;simp[joinC]
 |cons u us ih=>
  intro h
  have h1:=h u (List.mem_cons_self ..)
  have h2:=ih (fun v hv=>h v (List.mem_cons_of_mem _ hv))
  cases us with
  |nil=>simp[joinC];omega
  |cons v vs=>
   simp only[joinC,List.length_append,List.length_cons]at h2 ⊢
   rw[Nat.succ_mul];omega
theorem strs_row:SlT Tryz.prog 47 9 (.string ⟨#[]⟩) 1 16:=⟨by kernel_rfl,by kernel_rfl,by kernel_rfl,by decide⟩
def Short (l:List Css):Prop:= ∀x∈l,CssOk x/\x.text.length<=1000000/\x.unit.length<=1000000
theorem text_anyQ (A:Option Addr) (n c:Nat) (l:List Css) (w:World) (hw:Tb w) (hx:Mx w) (h:Rd w (.slice A n c) l.length 4 (cssCells l)) (hs:Short l) (hl:l.length<=1000000):
  Calls Tryz.prog 94 #[.slice A n c] w (Ret (.tuple #[.string ⟨(if l.all rightC then textC l else []).toArray⟩,.bool (l.all rightC)]) w):=by
 have HR:=Lib.hid h
 have HS:=Lib.hid hs
 obtain⟨_,hm,A',c',heq,_⟩:=h
 cases heq
 have HW:=Lib.hid hw
 have HX:=Lib.hid hx
 obtain⟨Z,hZ⟩: ∃Z:ByteArray,⟨(if l.all rightC then textC l else []).toArray⟩=Z:=⟨_,rfl⟩
 have HZ:=Lib.hid hZ
 obtain⟨D,hD⟩: ∃D,l.all rightC=D:=⟨_,rfl⟩
 have HD:=Lib.hid hD
 rw[hZ,hD]
 clear hs hw hx hZ hD
 go_enter Tryz.func94,Tryz.ntmps94
 go_wp2_with fail
 go_loopw [4,9] (fun v i wr=> ∃(k:Nat) (X:Gr),k<=l.length/\i= .int .i64 k/\wr=w.grow X/\(w.grow X).ownsRow w.heap.size 9 1 v k (((l.take k).map toldC).map sv)/\Hid ((l.take k).all rightC=true)) (fun _ i _=>l.length-(intOf i).toNat)
 case atStart=>exact⟨0,_,by omega,rfl,(grow_refl w).symm,by rw[grow_refl];exact World.ownsRow_nil _ _ _ _,rfl⟩
 case round=>
  obtain⟨k,X,hk,rfl,rfl,hown,HK⟩:=hrel
  by_cases hlt:k<l.length
  ·obtain⟨b,off,rfl,hb,c0,c1,c2,c3⟩:=HR.out.css k hlt
   have HL:=Lib.hid (show((l.take (k+1)).map toldC).map sv=((l.take k).map toldC).map sv++[sv (toldC l[k])] by rw[List.take_succ_eq_append_getElem hlt,List.map_append,List.map_append];rfl)
   have HAl:=Lib.hid (show(l.take (k+1)).all rightC=((l.take k).all rightC&&rightC l[k]) by rw[List.take_succ_eq_append_getElem hlt,List.all_append];simp)
   have HNo:=Lib.hid (show rightC l[k]=false->l.all rightC=false from fun h=>by
    rw[<-Bool.not_eq_true,List.all_eq_true];intro h2;rw[h2 _ (List.getElem_mem hlt)]at h;cases h)
   obtain⟨o1,o2,o3⟩:=HS.out _ (List.getElem_mem hlt)
   generalize l[k]=x at*
   have HRt:=Lib.hid (fun W (hW:Tb W) (hX:Mx W)=>right_anyQ x W hW hX o1 o2 o3)
   have HTo:=Lib.hid (fun W (hW:Tb W)=>told_any x W hW o1 o2 o3)
   simp only[Css.agg,sv]at HRt HTo c1 c3
   have HTs:=Lib.hid (told_len x o1)
   have HTb:Hid (∀o Y,Tb (((w.grow X).alloc o).grow Y)):=fun o Y=>Tb.grow (by rw[alloc_grow];exact(HW.out.grow X).grow _) Y
   have HMx:Hid (∀o Y,Mx (((w.grow X).alloc o).grow Y)):=fun o Y=>Mx.grow (by rw[alloc_grow];exact(HX.out.grow X).grow _) Y
   have HTb0:Hid (∀o,Tb ((w.grow X).alloc o)):=fun o=>by rw[alloc_grow];exact(HW.out.grow X).grow _
   have HMx0:Hid (∀o,Mx ((w.grow X).alloc o)):=fun o=>by rw[alloc_grow];exact(HX.out.grow X).grow _
   obtain⟨T,hT⟩: ∃S:ByteArray,⟨(toldC x).toArray⟩=S:=⟨_,rfl⟩
   have HTT:=Lib.hid hT
   rw[hT]at HTo
   clear hT o1 o2 o3
   cases hr:rightC x
   ·have HN:=Lib.hid (HNo.out hr)
    rw[hr]at HRt
    have HRt2:=Lib.hid HRt.out
    clear HRt hr
    go_wp2_with(go_at_call 177;(with_reducible refine(HRt2.out _ (HTb0.out _) (HMx0.out _)).mono ?_);rintro e w' ⟨rfl,X1,rfl⟩)
    go_ret2
    exact Ret.of (by rw[<-HZ.out,<-HD.out,HN.out];rfl) bel
   ·rw[hr]at HRt HAl
    have HRt2:=Lib.hid HRt.out
    have HV:Hid (sv (toldC x)= .string T):=by show _=_;rw[sv,HTT.out]
    have HK2:Hid ((l.take (k+1)).all rightC=true):=by show _=_;rw[HAl.out,HK.out];rfl
    clear HRt hr
    go_wp2_with(first|(go_at_call 177;(with_reducible refine(HRt2.out _ (HTb0.out _) (HMx0.out _)).mono ?_);rintro e w' ⟨rfl,X1,rfl⟩)|(go_at_call 178;(with_reducible refine(HTo.out _ (HTb.out _ _)).mono ?_);rintro e w' ⟨rfl,X2,rfl⟩)|(at_builtin;go_loud(refine append_grow rfl _ _ 47 rfl strs_row w rfl (own_alloc (own_grow (own_grow (own_alloc hown _) _) _) _) bel ⟨_,0,none⟩ 1 1 [.string T] rfl rfl (new_cells (c:= #[.string T]) (by simp[go_sem])) (by simp[Value.oneCell']) (by unfold maxLen;omega) (by omega) ?_);intro v' Y hown' _))
    go_roundw
    case rel=>exact⟨k+1,Y,by omega,by go_num,rfl,by rw[HL.out,HV.out];exact hown',HK2⟩
    case measure=>simp[intOf];omega
  ·have hk2:k=l.length:=by omega
   subst hk2
   rw[List.take_length]at HK hown
   have hlen:((l.map toldC)).length=l.length:=by simp
   have hjl:(joinC (l.map toldC)).length<=140737488355328:=by
    have h1:=join_lenQ 2000040 (l.map toldC) (fun u hu=>by
     rw[List.mem_map]at hu
     obtain⟨x,hx,rfl⟩:=hu
     obtain⟨o1,o2,o3⟩:=HS.out x hx
     have:=told_len x o1
     omega)
    rw[hlen]at h1;omega
   obtain⟨A2,c2,rfl,hc2⟩:=own_cap hown
   have hrd:=Rd.own hown
   rw[<-hlen]at hrd hc2
   have HJ:=Lib.hid (strjoin_any (l.map toldC) hrd hc2 hjl (by rw[hlen];omega))
   rw[hlen]at HJ
   have HE:Hid (textC l=joinC (l.map toldC)):=rfl
   clear hrd hc2 hjl hown
   go_wp2_with(go_at_call 43;(with_reducible refine HJ.out.mono ?_);rintro e w' ⟨rfl,X1,rfl⟩)
   go_ret2
   exact Ret.of (by rw[<-HZ.out,<-HD.out,HK.out,if_pos rfl,HE.out];rfl) bel
open Go.ChangeShapes Go.WideShapes Go.Deep
instance:Inhabited Css:=⟨⟨0,[],0,[]⟩⟩
section
variable {H:Type} {enc:TypeId × Value->H} {w:World} {base:Nat} {spare:Nat->Bool} {held:Bool}
end
theorem tb_laid {l:List (String × DataW Unit)} {W:World} (h:laidMetH Tryz.prog l W) (hf:(l.filter fun x=>x.1== "internal/strconv.uint64pow10")=[("internal/strconv.uint64pow10",Lib.tabData .u64 Lib.pow10Tab)]):Tb W:=by
 have h1:=h.filter (fun x=>x.1== "internal/strconv.uint64pow10")
 rw[hf,MakeChecks.laidMetH_plain _ _ _ (by kernel_rfl)]at h1
 exact Lib.tabIs_of_head (g:=3) (t:=309) (e:=235) (n:=20) (by kernel_rfl) (by kernel_rfl) (by kernel_rfl) (by kernel_rfl) (by kernel_rfl) (by kernel_rfl) h1
theorem mx_shape {W:World} (h:W.ShapedOpen Tryz.prog):Mx W:=
 cell_of_shapedOpen_int (g:=2) (t:=3) (zero:= #[.int .i64 0]) h (of_decide_eq_true (by kernel_rfl)) (by kernel_rfl) (by kernel_rfl) (by kernel_rfl) (by kernel_rfl) (by kernel_rfl)
section
variable {H:Type} {enc:TypeId × Value->H}
end
open Go.RowKit in
theorem RetS.flat {P:Program} {f:FuncId} {args:Array Value} {w1:World} {X:Gr} {n size:Nat} {cells:List Value} (h:Calls P f args (w1.grow X) (RetS (w1.grow X) n size cells)):Calls P f args (w1.grow X) (RetS w1 n size cells):=
 h.mono fun _ _ hh=>by
  obtain⟨A,c,Y,h1,rfl,h2,h3⟩:=hh
  rw[grow_grow]at h3
  exact⟨A,c,_,h1,grow_grow w1 X Y,h2,h3⟩
theorem num_digs (s:Bs):((numP s).whole++(numP s).part++List.replicate (3-(numP s).part.length) 48).all digB=true:=by
 simp only[List.all_append,Bool.and_eq_true]
 refine⟨⟨all_take digB _, ?_⟩, ?_⟩
 ·unfold numP
  simp only
  generalize((s.drop (sgN s)).drop (twc digB (s.drop (sgN s))))=v
  cases v with
  |nil=>rfl
  |cons c v=>
   simp only[dotN,List.drop_succ_cons,List.drop_zero]
   split
   ·exact all_take digB _
   ·rfl
 ·rw[List.all_eq_true]
  intro c hc
  rw[List.eq_of_mem_replicate hc];decide
def Small (m:Nat) (x:Css):Prop:=CssOk x/\x.text.length<=m/\x.unit.length<=64
theorem bad_small (m:Nat):Small m badC:=⟨⟨by decide,by decide,by decide,by decide⟩,Nat.zero_le _,Nat.zero_le _⟩
theorem name_small {m k:Nat} {t:Bs} (hk:k<=7) (h:t.length<=m):Small m ⟨k,t,0,[]⟩:=⟨⟨by show-9223372036854775808<=(k:Int);omega,by show(k:Int)<=9223372036854775807;omega,by simp,by simp⟩,h,Nat.zero_le _⟩
theorem piece_small {s:Bs} {x:Css} {n:Nat} (h:pieceC s=(x,n)):Small s.length x:=by
 unfold pieceC at h
 cases hn:nameB s
 ·rw[hn]at h
  simp only[Bool.false_eq_true,if_false]at h
  cases hm:numC s with
  |some y=>
   rw[hm]at h
   simp only at h
   subst h
   obtain⟨_,_,h3⟩:=numC_some hm
   rcases h3 with rfl|⟨l1,l2,l3,rfl⟩
   ·exact bad_small _
   ·have hv:=valL_small _ (num_digs s) (by simp only[List.length_append,List.length_replicate];omega)
    refine⟨⟨by simp,by simp, ?_, ?_⟩,Nat.zero_le _,by rw[lowL_len];exact l3⟩<;>(simp only;split<;>omega)
  |none=>
   rw[hm]at h
   simp only at h
   cases hq:quotC s with
   |some y=>
    rw[hq]at h
    simp only at h
    subst h
    obtain⟨c,r,rfl,h1,h2,rfl⟩:=quotC_some hq
    exact name_small (k:=5) (by omega) (by rw[List.length_take];simp;omega)
   |none=>
    rw[hq]at h
    simp only at h
    cases s with
    |nil=>
     simp only[Prod.mk.injEq]at h
     obtain⟨rfl,_⟩:=h
     exact bad_small _
    |cons c r=>
     simp only at h
     split at h
     ·simp only[Prod.mk.injEq]at h
      obtain⟨rfl,_⟩:=h
      unfold namedC
      split
      ·exact bad_small _
      ·exact name_small (k:=4) (by omega) (by rw[lowL_len,List.length_take];simp;omega)
     ·split at h
      ·simp only[Prod.mk.injEq]at h
       obtain⟨rfl,_⟩:=h
       exact name_small (k:=6) (by omega) (by simp)
      ·simp only[Prod.mk.injEq]at h
       obtain⟨rfl,_⟩:=h
       exact bad_small _
 ·rw[hn]at h
  simp only[if_true]at h
  unfold nameC at h
  split at h
  ·simp only[Prod.mk.injEq]at h
   obtain⟨rfl,_⟩:=h
   exact bad_small _
  ·split at h
   ·simp only[Prod.mk.injEq]at h
    obtain⟨rfl,_⟩:=h
    exact name_small (k:=2) (by omega) (by rw[lowL_len,List.length_take];omega)
   ·simp only[Prod.mk.injEq]at h
    obtain⟨rfl,_⟩:=h
    exact name_small (k:=1) (by omega) (by rw[lowL_len,List.length_take];omega)
theorem scan_small: ∀(f:Nat) (s:Bs),∀x∈cssF f s,Small s.length x:=by
 intro f
 induction f with
 |zero=>intro s x hx;simp[cssF]at hx
 |succ f ih=>
  intro s x hx
  simp only[cssF]at hx
  have hl:=blk_len s 0
  cases hb:blkM 0 s with
  |nil=>rw[hb]at hx;simp at hx
  |cons c r=>
   rw[hb]at hx hl
   have up: ∀{m:Nat} {y:Css},m<=s.length->Small m y->Small s.length y:=fun hm h=>⟨h.1,Nat.le_trans h.2.1 hm,h.2.2⟩
   simp only[List.mem_cons]at hx
   rcases hx with rfl|hx
   ·exact up hl (piece_small (s:=c::r) (n:=(pieceC (c::r)).2) rfl)
   ·exact up (by rw[List.length_drop];omega) (ih _ x hx)
theorem scan_short {s:Bs} (h:s.length<=1000):Short (cssL s)/\(cssL s).length<=1000/\ ∀p∈cssL s,p.text.length<=3000/\p.unit.length<=3000:=by
 have h1:=scan_few _ s (Nat.lt_succ_self _)
 refine⟨fun x hx=> ?_,Nat.le_trans h1 h,fun x hx=> ?_⟩
 ·have:=scan_small _ s x hx
  exact⟨this.1,by have:=this.2.1;omega,by have:=this.2.2;omega⟩
 ·have:=scan_small _ s x hx
  exact⟨by have:=this.2.1;omega,by have:=this.2.2;omega⟩
end Go.Proofs.YtiikamobcmgekaaGreatDoor
