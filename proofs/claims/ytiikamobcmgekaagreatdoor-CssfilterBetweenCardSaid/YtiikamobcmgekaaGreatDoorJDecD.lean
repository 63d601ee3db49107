/- The walks of declarations: parts, one behind the other. -/
import Derived.Test.YtiikamobcmgekaaGreatDoorJCssL
import Derived.Lib.SliceRun
import Derived.Test.YtiikamobcmgekaaGreatDoorKB
import Derived.Shelf.Abstract
import Derived.Test.YtiikamobcmgekaaGreatDoorKA
import Derived.Test.YtiikamobcmgekaaGreatDoorJCssR
import Derived.Test.YtiikamobcmgekaaGreatDoorJDecPlain
namespace Go.Proofs.YtiikamobcmgekaaGreatDoor
set_option maxRecDepth 100000
set_option maxHeartbeats 1600000
open Go.RowKit Go.Shelf
attribute [local go_sem] Oper.semAt_some
theorem css_one (l:List Css): ∀u∈cssCells l,u.oneCell'=true:=by
 intro u hu
 rw[cssCells,List.mem_flatMap]at hu
 obtain⟨p,_,hp⟩:=hu
 simp[Css.cells,sv]at hp
 rcases hp with rfl|rfl|rfl|rfl<;>rfl
theorem Rd.turned {pv:Nat->Prop} {W W':World} {A:Option Addr} {n c size:Nat} {xs:List Value} (h:Rd W (.slice A n c) n size xs) (ht:Turned pv W W') (hA: ∀b off s,A=some ⟨b,off,s⟩-> ¬pv b):Rd W' (.slice A n c) n size xs:=by
 obtain⟨h1,h2,A',c',he,h4⟩:=h
 cases he
 refine⟨h1,h2,A,c,rfl,fun hn=> ?_⟩
 obtain⟨b,off,rfl,hb,hc⟩:=h4 hn
 refine⟨b,off,rfl,Nat.lt_of_lt_of_le hb ht.size,fun j u hu=> ?_⟩
 have:=hc j u hu
 unfold World.cell? at this ⊢
 rw[ht.block b hb (hA _ _ _ rfl)];exact this
def adv (A:Option Addr) (c k:Nat):Option Addr:=if c=k then A else A.map fun a=>⟨a.block,a.off+k*4,none⟩
def lenSl (w:World) (b:Nat):Nat:=match w.cell? ⟨b,0,none⟩with
 |some (.slice _ n _)=>n
 |_=>0
theorem lenSl_boxed {w:World} {b:Nat} {t:TypeId} {A:Option Addr} {n c:Nat} (h:Boxed w b t (.slice A n c)):lenSl w b=n:=by
 unfold lenSl;rw[h.cell]
theorem Rd.drop4 {w:World} {b off n c:Nat} {l:List Css} (h:Rd w (.slice (some ⟨b,off,none⟩) n c) l.length 4 (cssCells l)) (k:Nat) (hk:k<=l.length):Rd w (.slice (some ⟨b,off+k*4,none⟩) (l.drop k).length (c-k)) (l.drop k).length 4 (cssCells (l.drop k)):=by
 have hm:=h.2.1
 refine⟨flat_len Css.cells 4 (fun _=>rfl) _,by rw[List.length_drop];omega,_,_,rfl,fun hn=> ?_⟩
 rw[List.length_drop]at hn
 obtain⟨b',off',he,hb,_⟩:=h.css k (by omega)
 cases he
 refine⟨b,_,rfl,hb,fun j u hu=> ?_⟩
 have hj:j<(l.drop k).length*4:=by rw[<-flat_len Css.cells 4 (fun _=>rfl) (l.drop k)];exact(List.getElem?_eq_some_iff.1 hu).1
 obtain⟨i,r,hr,rfl⟩: ∃i r,r<4/\j=i*4+r:=⟨j/4,j%4,by omega,by omega⟩
 have hi:i<(l.drop k).length:=by omega
 rw[cssCells,flat_at Css.cells 4 (fun _=>rfl) (l.drop k) i hi r hr]at hu
 obtain⟨_,_,_,_,he,h4⟩:=h
 cases he
 rw[List.length_drop]at hi
 obtain⟨b2,off2,he2,_,hc⟩:=h4 (by omega)
 cases he2
 have:=hc ((k+i)*4+r) u (by rw[cssCells,flat_at Css.cells 4 (fun _=>rfl) l (k+i) (by omega) r hr];simpa using hu)
 rw[show off+((k+i)*4+r)=off+k*4+(i*4+r) by omega]at this
 exact this
theorem Rd.take4 {w:World} {A:Option Addr} {n c:Nat} {l:List Css} (h:Rd w (.slice A n c) l.length 4 (cssCells l)) (k:Nat) (hk:k<=l.length):Rd w (.slice A (l.take k).length c) (l.take k).length 4 (cssCells (l.take k)):=by
 obtain⟨h1,h2,A',c',he,h4⟩:=h
 cases he
 have hlen:(l.take k).length=k:=by rw[List.length_take];omega
 refine⟨flat_len Css.cells 4 (fun _=>rfl) _,by omega,_,_,rfl,fun hn=> ?_⟩
 obtain⟨b,off,h5,h6,h7⟩:=h4 (by omega)
 refine⟨b,off,h5,h6,fun j u hu=> ?_⟩
 have hj:j<(l.take k).length*4:=by rw[<-flat_len Css.cells 4 (fun _=>rfl) (l.take k)];exact(List.getElem?_eq_some_iff.1 hu).1
 obtain⟨i,r,hr,rfl⟩: ∃i r,r<4/\j=i*4+r:=⟨j/4,j%4,by omega,by omega⟩
 have hi:i<(l.take k).length:=by omega
 rw[cssCells,flat_at Css.cells 4 (fun _=>rfl) (l.take k) i hi r hr]at hu
 exact h7 _ u (by rw[cssCells,flat_at Css.cells 4 (fun _=>rfl) l i (by omega) r hr];simpa using hu)
theorem cloneO_any (ad:Addr) (n c:Nat) (l:List Css) (w:World) (h:Rd w (.slice (some ad) n c) l.length 4 (cssCells l)) (hl:l.length<=1000000000):
  Calls Tryz.prog 41 #[.slice (some ad) n c] w (RetO w l.length 4 72 (cssCells l)):=by
 have HR:=Lib.hid h
 have hn:l.length=n:=by obtain⟨_,_,_,_,he,_⟩:=h;cases he;rfl
 have HN:=Lib.hid hn
 have hn9:n<=1000000000:=by omega
 clear h
 have hnil: ∀W:World,(binOp .eql 42 (.slice (some ad) n c) (.slice none 0 0)).run Tryz.prog W= .ok (.bool false) W:=fun W=>Lib.run_eql_slice_nil W _ _ (some ad) n c 0 0 Tryz.underlying42
 go_enter Tryz.func41,Tryz.ntmps41
 go_wp2_with(at_builtin;go_loud(refine append_src rfl _ _ 42 rfl css_row w rfl (own_emp (by simp[go_sem]) (by simp[go_sem]<;>omega)) bel n (cssCells l) (news_rd (HN.out ▸ HR.out) (fun h=>by cases h) bel) (by have:=HR.out.1;rw[HN.out]at this;exact this) (css_one l) (by unfold maxLen;omega) (by omega) ?_);intro v3 X3 hown3)
 go_ret
 rw[HN.out]
 rw[Nat.zero_add,List.nil_append]at hown3
 exact⟨v3,X3,rfl,rfl,hown3⟩
theorem index_mem (M:Bs) (c:UInt8):decide ((0:Int)<=Lib.indexByte M c)=M.contains c:=by
 induction M with
 |nil=>rfl
 |cons b l ih=>
  have hge: -1<=Lib.indexByte l c:=by
   clear ih
   induction l with
   |nil=>simp[Lib.indexByte]
   |cons b l ih2=>unfold Lib.indexByte;split;decide;split;decide;omega
  rw[List.contains_cons,<-ih,show Lib.indexByte (b::l) c=if b==c then 0 else if Lib.indexByte l c== -1 then-1 else Lib.indexByte l c+1 from rfl]
  by_cases h:b=c
  ·subst h;simp
  ·have h2: ¬c=b:=fun h3=>h h3.symm
   have hcb:(c==b)=false:=by simpa using h2
   rw[if_neg (by simpa using h),hcb,Bool.false_or]
   clear ih
   generalize Lib.indexByte l c=z at*
   by_cases h1:z= -1
   ·subst h1;rfl
   ·rw[if_neg (by simpa using h1),Bool.eq_iff_iff];simp;omega
def mkM (M:Bs) (x:Css):Bool:=M.any fun k=>mk1 k x
theorem mkM_mark (M:Bs) (c:UInt8):mkM M (mark1 c)=M.contains c:=by
 unfold mkM
 induction M with
 |nil=>rfl
 |cons k l ih=>
  rw[List.any_cons,List.contains_cons,ih]
  congr 1
  rw[Bool.eq_iff_iff];simp[mk1,mark1]
theorem mkM_no {M:Bs} {x:Css} (h:x.kind≠6):mkM M x=false:=by
 unfold mkM
 rw[List.any_eq_false]
 intro k _
 simp[mk1,h]
theorem mkM_one (k:UInt8) (x:Css):mkM [k] x=mk1 k x:=by simp[mkM]
theorem mark_any (x:Css) (M:Bs) (w:World) (hx:Proper x):Calls Tryz.prog 38 #[Css.agg x,.string ⟨M.toArray⟩] w (Ret (.bool (mkM M x)) w):=by
 have hx6:=hx.2
 have HT:=Lib.hid (fun W c=>show Calls Tryz.prog 100 #[.string ⟨M.toArray⟩,.string ⟨#[c]⟩] W fun e w'=>e= .returned (.bool (mkM M (mark1 c)))/\w'=W from by
  have:=Tryz.strings_Contains_one ⟨M.toArray⟩ c W
  rw[show(⟨M.toArray⟩:ByteArray).data.toList=M from rfl,index_mem,<-mkM_mark]at this;exact this)
 obtain⟨S,hS⟩: ∃S:ByteArray,⟨M.toArray⟩=S:=⟨_,rfl⟩
 rw[hS]at HT ⊢
 clear hS hx
 by_cases h6:x.kind=6
 ·obtain⟨c,rfl⟩:=hx6 h6
  have HT2:=Lib.hid (fun W=>HT.out W c)
  obtain⟨D,hD⟩: ∃D,mkM M (mark1 c)=D:=⟨_,rfl⟩
  rw[hD]at HT2 ⊢
  clear hD HT h6 hx6
  simp only[Css.agg,mark1,sv]
  go_enter Tryz.func38,Tryz.ntmps38
  go_wp2_with(go_at_call 100;(with_reducible refine(HT2.out _).mono ?_);rintro e w' ⟨rfl,rfl⟩)
  go_ret
  exact Ret.of rfl bel
 ·have HN:=Lib.hid (mkM_no (M:=M) h6)
  rw[HN.out]
  have b6:(x.kind==6)=false:=by simpa using h6
  clear HT HN h6 hx6
  simp only[Css.agg,sv]
  generalize x.kind=k at*
  generalize(⟨x.text.toArray⟩:ByteArray)=a1 at*
  generalize(⟨x.unit.toArray⟩:ByteArray)=a2 at*
  go_enter Tryz.func38,Tryz.ntmps38
  go_wp2_with fail
  go_ret
  exact Ret.of rfl bel
def deepI (x:Css):Int:=if opC x then 1 else if mk1 41 x then-1 else 0
theorem deeper_any (x:Css) (w:World) (hx:Proper x):Calls Tryz.prog 96 #[Css.agg x] w (Ret (.int .i64 (deepI x)) w):=by
 have HM1:=Lib.hid (fun W=>mkM_one 40 x ▸ mark_any x [40] W hx)
 have HM2:=Lib.hid (fun W=>mkM_one 41 x ▸ mark_any x [41] W hx)
 have HD:Hid (deepI x=if decide (x.kind=2)||mk1 40 x then 1 else if mk1 41 x then-1 else 0):=rfl
 obtain⟨D,hD⟩: ∃D,deepI x=D:=⟨_,rfl⟩
 rw[hD]at HD ⊢
 clear hD hx
 simp only[Css.agg,sv]at HM1 HM2 ⊢
 generalize mk1 40 x=m1 at*
 generalize mk1 41 x=m2 at*
 by_cases h2:x.kind=2
 ·rw[decide_eq_true h2]at HD
  have b2:(x.kind==2)=true:=by simp[h2]
  clear h2
  generalize x.kind=k at*
  generalize(⟨x.text.toArray⟩:ByteArray)=a1 at*
  generalize(⟨x.unit.toArray⟩:ByteArray)=a2 at*
  go_enter Tryz.func96,Tryz.ntmps96
  go_wp2_with fail
  go_ret
  exact Ret.of (int_eq (by rw[HD.out];simp)) bel
 ·rw[decide_eq_false h2]at HD
  have b2:(x.kind==2)=false:=by simpa using h2
  clear h2
  generalize x.kind=k at*
  generalize(⟨x.text.toArray⟩:ByteArray)=a1 at*
  generalize(⟨x.unit.toArray⟩:ByteArray)=a2 at*
  cases m1
  ·cases m2
   all_goals
    have HM1':=Lib.hid HM1.out
    have HM2':=Lib.hid HM2.out
    go_enter Tryz.func96,Tryz.ntmps96
    go_wp2_with(go_at_call 38;first|((with_reducible refine(Ret.flatA (X:=⟨#[],w.drawn⟩) (HM1'.out _)).mono ?_);rintro e w' ⟨rfl,X1,rfl⟩)|((with_reducible refine(HM1'.out _).mono ?_);rintro e w' ⟨rfl,X1,rfl⟩)|((with_reducible refine(HM2'.out _).mono ?_);rintro e w' ⟨rfl,X2,rfl⟩))
    go_ret
    exact Ret.of (int_eq (by rw[HD.out];simp)) bel
  ·have HM1':=Lib.hid HM1.out
   go_enter Tryz.func96,Tryz.ntmps96
   go_wp2_with(go_at_call 38;(with_reducible refine(HM1'.out _).mono ?_);rintro e w' ⟨rfl,X1,rfl⟩)
   go_ret
   exact Ret.of (int_eq (by rw[HD.out];simp)) bel
theorem dn_int (d:Nat) (x:Css):max ((d:Int)+deepI x) 0=(dn d x:Int):=by
 unfold deepI dn
 split
 ·omega
 ·split
  ·have:max ((d:Int)+ -1) 0=((d-1:Nat):Int):=by omega
   exact this
  ·omega
theorem op_cl (x:Css):opC x=true->mk1 41 x=false:=by
 unfold opC mk1
 intro h
 simp only[Bool.or_eq_true,Bool.and_eq_true,decide_eq_true_eq]at h
 rw[Bool.and_eq_false_iff,decide_eq_false_iff_not,decide_eq_false_iff_not]
 rcases h with h|h
 ·exact .inl (by omega)
 ·exact .inr (by rw[h.2];decide)
theorem even_neg {d:Nat} {x:Css} (l:List Css) (h:(d:Int)+deepI x<0):evenF d (x::l)=false:=by
 unfold deepI at h
 split at h
 ·omega
 ·split at h
  ·rename_i h2
   simp only[evenF,h2,Bool.true_and]
   rw[if_pos (by simp;omega)]
  ·omega
theorem even_step {d:Nat} {x:Css} (l:List Css) (h: ¬(d:Int)+deepI x<0):evenF d (x::l)=evenF (dn d x) l/\(d:Int)+deepI x=(dn d x:Int):=by
 have h2:=dn_int d x
 refine⟨?_,by omega⟩
 simp only[evenF]
 rw[if_neg]
 intro h3
 simp only[Bool.and_eq_true,decide_eq_true_eq]at h3
 apply h
 unfold deepI
 cases ho:opC x
 ·simp[h3.1,h3.2]
 ·have:=op_cl x ho
  rw[h3.1]at this;cases this
theorem deepI_le (x:Css): -1<=deepI x/\deepI x<=1:=by unfold deepI;split;omega;split<;>omega
theorem dn_le (d:Nat) (x:Css):dn d x<=d+1:=by unfold dn;split;omega;split<;>omega
theorem even_any (A:Option Addr) (n c:Nat) (l:List Css) (w:World) (h:Rd w (.slice A n c) l.length 4 (cssCells l)) (hp: ∀x∈l,Proper x) (hl:l.length<=1000000000):
  Calls Tryz.prog 102 #[.slice A n c] w (Ret (.bool (evenF 0 l)) w):=by
 have HR:=Lib.hid h
 have HPr:=Lib.hid hp
 obtain⟨_,hm,A',c',heq,_⟩:=h
 cases heq
 obtain⟨D,hD⟩: ∃D,evenF 0 l=D:=⟨_,rfl⟩
 have HD:=Lib.hid hD
 rw[hD]
 clear hp hD
 go_enter Tryz.func102,Tryz.ntmps102
 go_wp2_with fail
 go_loopw [3,8] (fun d i wr=> ∃(k e:Nat) (X:Gr),k<=l.length/\e<=k/\i= .int .i64 k/\d= .int .i64 e/\wr=w.grow X/\Hid (D=evenF e (l.drop k))) (fun _ i _=>l.length-(intOf i).toNat)
 case atStart=>exact⟨0,0,_,by omega,by omega,rfl,rfl,(grow_refl w).symm,by show _=_;rw[<-HD.out];rfl⟩
 case round=>
  obtain⟨k,e,X,hk,hek,rfl,rfl,rfl,HK⟩:=hrel
  by_cases hlt:k<l.length
  ·obtain⟨b,off,rfl,hb,c0,c1,c2,c3⟩:=HR.out.css k hlt
   have HS:=Lib.hid (HK.out.trans (by rw[List.drop_eq_getElem_cons hlt]))
   have hpx:=HPr.out _ (List.getElem_mem hlt)
   generalize l[k]=x at*
   have HDp:=Lib.hid (fun W=>deeper_any x W hpx)
   have hdl:=deepI_le x
   have hdn:=dn_le e x
   simp only[Css.agg,sv]at HDp c1 c3
   have HE1:=Lib.hid (fun h=>even_neg (d:=e) (x:=x) (l.drop (k+1)) h)
   have HE2:=Lib.hid (fun h=>even_step (d:=e) (x:=x) (l.drop (k+1)) h)
   generalize deepI x=dp at*
   generalize dn e x=en at*
   generalize(⟨x.text.toArray⟩:ByteArray)=a1 at*
   generalize(⟨x.unit.toArray⟩:ByteArray)=a2 at*
   by_cases hneg:(e:Int)+dp<0
   ·have HN:Hid (D=false):=by show _=_;rw[HS.out,HE1.out hneg]
    go_wp2_with(go_at_call 96;(with_reducible refine(HDp.out _).mono ?_);rintro e w' ⟨rfl,X1,rfl⟩)
    go_ret
    exact Ret.of (by rw[HN.out];rfl) bel
   ·obtain⟨h1,h2⟩:=HE2.out hneg
    have HN:Hid (D=evenF en (l.drop (k+1))):=by show _=_;rw[HS.out,h1]
    have hnn: ¬(en:Int)<0:=by omega
    clear h1
    go_wp2_with(go_at_call 96;(with_reducible refine(HDp.out _).mono ?_);rintro e w' ⟨rfl,X1,rfl⟩)
    go_roundw
    case rel=>exact⟨k+1,en,_,by omega,by omega,by go_num,by first|rfl|(rw[h2])|(go_num),by rw[alloc_grow,grow_grow,grow_grow],HN⟩
    case measure=>simp[intOf];omega
  ·have HN:Hid (D=decide (e=0)):=by show _=_;rw[HK.out,List.drop_eq_nil_of_le (by omega)];rfl
   go_wp2_with fail
   go_ret
   exact Ret.of (by rw[HN.out];first|rfl|(show Value.bool ((e:Int)==0)=_;congr 1;rw[Bool.eq_iff_iff];simp)) bel
theorem okC_eq (x:Css):(!okC x)=(decide (x.kind=7)||mkM [59,33] x):=by
 unfold okC mkM
 simp only[List.any_cons,List.any_nil]
 cases mk1 59 x<;>cases mk1 33 x<;>by_cases h7:x.kind=7<;>simp[h7]
theorem modd_any (x:Css) (w:World) (hx:Proper x):Calls Tryz.prog 101 #[Css.agg x] w (Ret (.bool (!okC x)) w):=by
 have HM:=Lib.hid (fun W=>mark_any x [59,33] W hx)
 have HD:=Lib.hid (okC_eq x)
 obtain⟨D,hD⟩: ∃D,(!okC x)=D:=⟨_,rfl⟩
 rw[hD]at HD ⊢
 clear hD hx
 simp only[Css.agg,sv]at HM ⊢
 generalize mkM [59,33] x=m at*
 by_cases h7:x.kind=7
 ·rw[decide_eq_true h7]at HD
  have b7:(x.kind==7)=true:=by simp[h7]
  clear h7
  generalize x.kind=k at*
  generalize(⟨x.text.toArray⟩:ByteArray)=a1 at*
  generalize(⟨x.unit.toArray⟩:ByteArray)=a2 at*
  go_enter Tryz.func101,Tryz.ntmps101
  go_wp2_with fail
  go_ret
  exact Ret.of (by rw[HD.out];rfl) bel
 ·rw[decide_eq_false h7]at HD
  have b7:(x.kind==7)=false:=by simpa using h7
  clear h7
  generalize x.kind=k at*
  generalize(⟨x.text.toArray⟩:ByteArray)=a1 at*
  generalize(⟨x.unit.toArray⟩:ByteArray)=a2 at*
  go_enter Tryz.func101,Tryz.ntmps101
  go_wp2_with(go_at_call 38;(with_reducible refine(HM.out _).mono ?_);rintro e w' ⟨rfl,X1,rfl⟩)
  go_ret
  exact Ret.of (by rw[HD.out];rfl) bel
theorem indexF0_any (A:Option Addr) (n c:Nat) (l:List Css) (g:Nat) (P:Nat->Bool) (J:Nat->World->Prop) (w:World) (hl:l.length=n) (hm:n<=9223372036854775807)
  (hr: ∀k W,J k W->Rd W (.slice A n c) l.length 4 (cssCells l)) (h0:J 0 w) (eg: ∀args W,(callFunc g args).run Tryz.prog W= .ok (.enter g args) W)
  (hc: ∀k (hk:k<l.length) W,J k W->(∀j,j<k->P j=false)->Calls Tryz.prog g #[Css.agg l[k]] W fun e W'=>e= .returned (.bool (P k))/\J (k+1) W'):
  Calls Tryz.prog 98 #[.slice A n c,.func (.func g) #[] #[]] w fun e W'=> ∃i:Int,e= .returned (.int .i64 i)/\
   ((∃k:Nat,k<n/\i=k/\P k=true/\(∀j,j<k->P j=false)/\J (k+1) W')\/(i= -1/\(∀j,j<n->P j=false)/\J n W')):=by
 have HR:=Lib.hid hr
 have HC:=Lib.hid hc
 have HL:=Lib.hid hl
 clear hr hc hl
 go_enter Tryz.func98,Tryz.ntmps98
 go_wp2_with fail
 go_loopw [8] (fun i wr=> ∃k:Nat,k<=n/\i= .int .i64 k/\Hid (∀j,j<k->P j=false)/\Hid (J k wr)) (fun i _=>n-(intOf i).toNat)
 case atStart=>exact⟨0,by omega,rfl,fun j hj=>absurd hj (by omega),h0⟩
 case round=>
  obtain⟨k,hk,rfl,HK,HJ⟩:=hrel
  clear h0
  by_cases hlt:k<n
  ·have hlt2:k<l.length:=by rw[HL.out];exact hlt
   obtain⟨b,off,rfl,hb,c0,c1,c2,c3⟩:=(HR.out k wr HJ.out).css k hlt2
   have HC2:=Lib.hid (HC.out k hlt2 wr HJ.out HK.out)
   simp only[Css.agg,sv]at HC2 c1 c3
   generalize l[k].kind=x1 at*
   generalize l[k].num=x3 at*
   generalize(⟨l[k].text.toArray⟩:ByteArray)=a1 at*
   generalize(⟨l[k].unit.toArray⟩:ByteArray)=a2 at*
   cases hp:P k
   ·have HK2:Hid (∀j,j<k+1->P j=false):=fun j hj=>by
     rcases Nat.lt_or_ge j k with h|h
     ·exact HK.out j h
     ·rw[show j=k by omega];exact hp
    rw[hp]at HC2
    have HC3:=Lib.hid HC2.out
    clear HC2
    go_wp2_with((with_reducible refine HC3.out.mono ?_);rintro e W2 ⟨rfl,hj2⟩;have HJ2:=Lib.hid hj2;clear hj2)
    go_roundw
    case rel=>exact⟨k+1,by omega,by go_num,HK2,HJ2⟩
    case measure=>simp[intOf];omega
   ·rw[hp]at HC2
    have HC3:=Lib.hid HC2.out
    have HP:=Lib.hid hp
    clear HC2 hp
    go_wp2_with((with_reducible refine HC3.out.mono ?_);rintro e W2 ⟨rfl,hj2⟩;have HJ2:=Lib.hid hj2;clear hj2)
    go_ret
    exact⟨_,rfl,.inl ⟨k,hlt,rfl,HP.out,HK.out,HJ2.out⟩⟩
  ·obtain rfl:k=n:=by omega
   go_wp2_with fail
   go_ret
   exact⟨_,rfl,.inr ⟨rfl,HK.out,HJ.out⟩⟩
theorem indexF1_any (A:Option Addr) (n c:Nat) (l:List Css) (g:Nat) (db:Nat) (P:Nat->Bool) (J:Nat->World->Prop) (w:World) (hl:l.length=n) (hm:n<=9223372036854775807)
  (hr: ∀k W,J k W->Rd W (.slice A n c) l.length 4 (cssCells l)) (h0:J 0 w) (eg: ∀args W,(callFunc g args).run Tryz.prog W= .ok (.enter g args) W)
  (hc: ∀k (hk:k<l.length) W,J k W->(∀j,j<k->P j=false)->Calls Tryz.prog g #[Css.agg l[k],.pointer (some ⟨db,0,none⟩)] W fun e W'=>e= .returned (.bool (P k))/\J (k+1) W'):
  Calls Tryz.prog 98 #[.slice A n c,.func (.func g) #[] #[.pointer (some ⟨db,0,none⟩)]] w fun e W'=> ∃i:Int,e= .returned (.int .i64 i)/\
   ((∃k:Nat,k<n/\i=k/\P k=true/\(∀j,j<k->P j=false)/\J (k+1) W')\/(i= -1/\(∀j,j<n->P j=false)/\J n W')):=by
 have HR:=Lib.hid hr
 have HC:=Lib.hid hc
 have HL:=Lib.hid hl
 clear hr hc hl
 go_enter Tryz.func98,Tryz.ntmps98
 go_wp2_with fail
 go_loopw [8] (fun i wr=> ∃k:Nat,k<=n/\i= .int .i64 k/\Hid (∀j,j<k->P j=false)/\Hid (J k wr)) (fun i _=>n-(intOf i).toNat)
 case atStart=>exact⟨0,by omega,rfl,fun j hj=>absurd hj (by omega),h0⟩
 case round=>
  obtain⟨k,hk,rfl,HK,HJ⟩:=hrel
  clear h0
  by_cases hlt:k<n
  ·have hlt2:k<l.length:=by rw[HL.out];exact hlt
   obtain⟨b,off,rfl,hb,c0,c1,c2,c3⟩:=(HR.out k wr HJ.out).css k hlt2
   have HC2:=Lib.hid (HC.out k hlt2 wr HJ.out HK.out)
   simp only[Css.agg,sv]at HC2 c1 c3
   generalize l[k].kind=x1 at*
   generalize l[k].num=x3 at*
   generalize(⟨l[k].text.toArray⟩:ByteArray)=a1 at*
   generalize(⟨l[k].unit.toArray⟩:ByteArray)=a2 at*
   cases hp:P k
   ·have HK2:Hid (∀j,j<k+1->P j=false):=fun j hj=>by
     rcases Nat.lt_or_ge j k with h|h
     ·exact HK.out j h
     ·rw[show j=k by omega];exact hp
    rw[hp]at HC2
    have HC3:=Lib.hid HC2.out
    clear HC2
    go_wp2_with((with_reducible refine HC3.out.mono ?_);rintro e W2 ⟨rfl,hj2⟩;have HJ2:=Lib.hid hj2;clear hj2)
    go_roundw
    case rel=>exact⟨k+1,by omega,by go_num,HK2,HJ2⟩
    case measure=>simp[intOf];omega
   ·rw[hp]at HC2
    have HC3:=Lib.hid HC2.out
    have HP:=Lib.hid hp
    clear HC2 hp
    go_wp2_with((with_reducible refine HC3.out.mono ?_);rintro e W2 ⟨rfl,hj2⟩;have HJ2:=Lib.hid hj2;clear hj2)
    go_ret
    exact⟨_,rfl,.inl ⟨k,hlt,rfl,HP.out,HK.out,HJ2.out⟩⟩
  ·obtain rfl:k=n:=by omega
   go_wp2_with fail
   go_ret
   exact⟨_,rfl,.inr ⟨rfl,HK.out,HJ.out⟩⟩
theorem contains_anyQ (A:Option Addr) (n c:Nat) (l:List Css) (w:World) (h:Rd w (.slice A n c) l.length 4 (cssCells l)) (hp: ∀x∈l,Proper x):
  Calls Tryz.prog 103 #[.slice A n c,.func (.func 101) #[] #[]] w (Ret (.bool (l.any fun x=> !okC x)) w):=by
 have hl:l.length=n:=by obtain⟨_,_,_,_,he,_⟩:=h;cases he;rfl
 have hm:=h.2.1
 rw[hl]at hm
 have HI:=Lib.hid (indexF0_any A n c l 101 (fun k=>if h:k<l.length then !okC l[k]else false) (fun _ W=> ∃X,W=w.grow X) w hl hm (fun k W ⟨X,hX⟩=>by rw[hX];exact h.grow X) ⟨_,(grow_refl w).symm⟩
  (enters_of Tryz.func101 (by kernel_rfl) rfl) (fun k hk W ⟨X,hX⟩ _=>by
   rw[hX,dif_pos hk]
   refine(modd_any l[k] (w.grow X) (hp _ (List.getElem_mem hk))).mono ?_
   rintro e W' ⟨h1,Y,rfl⟩
   exact⟨h1,_,grow_grow w X Y⟩))
 obtain⟨D,hD⟩: ∃D,(l.any fun x=> !okC x)=D:=⟨_,rfl⟩
 have HT:Hid (∀k,k<n->(if h:k<l.length then !okC l[k]else false)=true->D=true):=fun k hk h=>by
  rw[dif_pos (by omega)]at h
  rw[<-hD,List.any_eq_true];exact⟨_,List.getElem_mem (by omega),h⟩
 have HF:Hid ((∀j,j<n->(if h:j<l.length then !okC l[j]else false)=false)->D=false):=fun h=>by
  rw[<-hD,List.any_eq_false]
  intro x hx
  obtain⟨j,hj,rfl⟩:=List.mem_iff_getElem.1 hx
  have:=h j (by omega)
  rw[dif_pos hj]at this;simpa using this
 rw[hD]
 clear hD hp h hl
 go_enter Tryz.func103,Tryz.ntmps103
 go_wp2_with(go_at_call 98;(with_reducible refine HI.out.mono ?_);rintro e W2 ⟨i,rfl,hi⟩;have HI2:=Lib.hid hi;clear hi)
 go_ret
 rcases HI2.out with⟨k,h1,rfl,h3,_,X,rfl⟩|⟨rfl,h2,X,rfl⟩
 ·exact Ret.of (by rw[HT.out k h1 h3];simp) bel
 ·exact Ret.of (by rw[HF.out h2];rfl) bel
theorem may_eq (l:List Css):mayC l=(decide (l≠[])&&evenF 0 l&& !(l.any fun x=> !okC x)):=by
 unfold mayC
 congr 1
 ·congr 1
  cases l<;>simp
 ·rw[Bool.eq_iff_iff];simp
theorem may_any (A:Option Addr) (n c:Nat) (l:List Css) (w:World) (h:Rd w (.slice A n c) l.length 4 (cssCells l)) (hp: ∀x∈l,Proper x) (hl:l.length<=1000000000):
  Calls Tryz.prog 40 #[.slice A n c] w (Ret (.bool (mayC l)) w):=by
 have HE:=Lib.hid (fun X=>even_any A n c l (w.grow X) (h.grow X) hp hl)
 have HC:=Lib.hid (fun X=>contains_anyQ A n c l (w.grow X) (h.grow X) hp)
 have HM:=Lib.hid (may_eq l)
 have hn:l.length=n:=by obtain⟨_,_,_,_,he,_⟩:=h;cases he;rfl
 have HE0:=Lib.hid (even_any A n c l w h hp hl)
 obtain⟨D,hD⟩: ∃D,mayC l=D:=⟨_,rfl⟩
 rw[hD]at HM ⊢
 by_cases h0:l=[]
 ·subst h0
  obtain rfl:n=0:=hn.symm
  have HN:Hid (D=false):=by show _=_;rw[HM.out];rfl
  clear HE HC HE0 h hp hD HM
  go_enter Tryz.func40,Tryz.ntmps40
  go_wp2_with fail
  go_ret
  exact Ret.of (by rw[HN.out];rfl) bel
 have hpos:0<n:=by have:=List.length_pos_iff.2 h0;omega
 have HM2:Hid (D=(evenF 0 l&& !(l.any fun x=> !okC x))):=by show _=_;rw[HM.out,decide_eq_true h0,Bool.true_and]
 clear hD HM h0 hn hp h HE
 generalize(l.any fun x=> !okC x)=o at*
 generalize evenF 0 l=ev at*
 cases ev
 ·have HE1:=Lib.hid HE0.out
  go_enter Tryz.func40,Tryz.ntmps40
  go_wp2_with(first|(go_at_call 102;(with_reducible refine HE1.out.mono ?_);rintro e w' ⟨rfl,X1,rfl⟩)|(go_at_call 103;(with_reducible refine(HC.out _).mono ?_);rintro e w' ⟨rfl,X2,rfl⟩))
  go_ret
  exact Ret.of (by rw[HM2.out];rfl) bel
 ·have HE1:=Lib.hid HE0.out
  go_enter Tryz.func40,Tryz.ntmps40
  go_wp2_with(first|(go_at_call 102;(with_reducible refine HE1.out.mono ?_);rintro e w' ⟨rfl,X1,rfl⟩)|(go_at_call 103;(with_reducible refine(HC.out _).mono ?_);rintro e w' ⟨rfl,X2,rfl⟩))
  go_ret
  exact Ret.of (by rw[HM2.out];rfl) bel
theorem ends_any (x:Css) (db e:Nat) (W:World) (hx:Proper x) (hb:Boxed W db 3 (.int .i64 e)) (he:e<=2000000000):
  Calls Tryz.prog 95 #[Css.agg x,.pointer (some ⟨db,0,none⟩)] W fun en W'=>en= .returned (.bool (mk1 59 x&&decide (e=0)))/\Turned (fun k=>k=db) W W'/\ ∃e':Nat,Boxed W' db 3 (.int .i64 e')/\(e'<=e+1)/\((mk1 59 x&&decide (e=0))=false->e'=dn e x):=by
 have hmx:=mxd
 have HM:=Lib.hid (fun V=>mkM_one 59 x ▸ mark_any x [59] V hx)
 have HDp:=Lib.hid (fun V=>deeper_any x V hx)
 have hmax:=dn_int e x
 have hdl:=deepI_le x
 have hdn:=dn_le e x
 have hc:=hb.cell
 have hf:=hb.frozen
 have hlt:=hb.lt
 simp only[Css.agg,sv]at HM HDp ⊢
 generalize mk1 59 x=m at*
 generalize deepI x=dp at*
 generalize hen:dn e x=en at*
 have HEn:=Lib.hid hen
 clear hen hx
 generalize x.kind=x1 at*
 generalize x.num=x3 at*
 generalize(⟨x.text.toArray⟩:ByteArray)=a1 at*
 generalize(⟨x.unit.toArray⟩:ByteArray)=a2 at*
 by_cases hend:(m&&decide (e=0))=true
 ·rw[hend]
  rw[Bool.and_eq_true,decide_eq_true_eq]at hend
  obtain⟨rfl,rfl⟩:=hend
  have HM2:=Lib.hid HM.out
  clear HM
  go_enter Tryz.func95,Tryz.ntmps95
  go_wp2_with(go_at_call 38;(with_reducible refine(HM2.out _).mono ?_);rintro e w' ⟨rfl,X1,rfl⟩)
  go_ret
  exact⟨rfl,tur,0,(by repeat(first|with_reducible assumption|(with_reducible refine @Boxed.set _ _ _ ?_ _ ?_;rotate_left)|(with_reducible refine Boxed.oth ?_ (by first|omega|(simp[go_sem]<;>omega)) _)|with_reducible refine Boxed.grow' ?_ _|with_reducible refine Boxed.alloc ?_ _|with_reducible refine Boxed.drew' ?_)),by omega,fun h=>by cases h⟩
 ·have hend2:(m&&decide (e=0))=false:=by simpa using hend
  rw[hend2]
  cases m
  ·have HM2:=Lib.hid HM.out
   clear HM hend hend2
   go_enter Tryz.func95,Tryz.ntmps95
   go_wp2_with(go_at_call 38;(with_reducible refine(HM2.out _).mono ?_);rintro e w' ⟨rfl,X1,rfl⟩)
   refine wp_region_grow_tail 5 (by kernel_rfl) (by kernel_rfl) ?_
   dsimp only[List.take,List.drop]
   repeat(go_big_quiet_step((first|(go_at_call 96;with_reducible exact Calls.grow_of (HDp.out _)))))
   refine wpQuiet_nil ?_
   intro _ hw';obtain⟨nq,hw''⟩:=hw';subst hw''
   go_wp2_with fail
   go_ret
   exact⟨rfl,tur,en,(by repeat(first|with_reducible assumption|(with_reducible refine @Boxed.set _ _ _ ?_ _ ?_;rotate_left)|(with_reducible refine Boxed.oth ?_ (by first|omega|(simp[go_sem]<;>omega)) _)|with_reducible refine Boxed.grow' ?_ _|with_reducible refine Boxed.alloc ?_ _|with_reducible refine Boxed.drew' ?_)),hdn,fun _=>rfl⟩
  ·have he0: ¬e=0:=by simpa using hend
   have he1:((e:Int)==0)=false:=by simpa using he0
   have HM2:=Lib.hid HM.out
   clear HM hend hend2
   go_enter Tryz.func95,Tryz.ntmps95
   go_wp2_with(go_at_call 38;(with_reducible refine(HM2.out _).mono ?_);rintro e w' ⟨rfl,X1,rfl⟩)
   refine wp_region_grow_tail 5 (by kernel_rfl) (by kernel_rfl) ?_
   dsimp only[List.take,List.drop]
   repeat(go_big_quiet_step((first|(go_at_call 96;with_reducible exact Calls.grow_of (HDp.out _)))))
   refine wpQuiet_nil ?_
   intro _ hw';obtain⟨nq,hw''⟩:=hw';subst hw''
   go_wp2_with fail
   go_ret
   exact⟨rfl,tur,en,(by repeat(first|with_reducible assumption|(with_reducible refine @Boxed.set _ _ _ ?_ _ ?_;rotate_left)|(with_reducible refine Boxed.oth ?_ (by first|omega|(simp[go_sem]<;>omega)) _)|with_reducible refine Boxed.grow' ?_ _|with_reducible refine Boxed.alloc ?_ _|with_reducible refine Boxed.drew' ?_)),hdn,fun _=>rfl⟩
theorem parts0_any (A:Option Addr) (n c:Nat) (w:World):Calls Tryz.prog 36 #[.slice A n c] w fun e w'=>e= .returned (.func (.func 97) #[] #[.pointer (some ⟨w.heap.size+1,0,none⟩),.pointer (some ⟨w.heap.size,0,none⟩),.pointer (some ⟨w.heap.size+1+1,0,none⟩)])/\
  ((w.alloc (.cells #[.slice A n c] 42)).alloc (.cells #[.int .i64 0] 3)).alloc (.cells #[.func (.func 95) #[] #[.pointer (some ⟨w.heap.size+1,0,none⟩)]] 144)=w':=by
 go_enter Tryz.func36,Tryz.ntmps36
 go_wp2
 go_ret
 exact⟨rfl,rfl⟩
theorem urg_at {l:List Css} (h:2<=l.length):urg l=(mk1 33 l[l.length-2]&&impC l[l.length-1]):=by
 unfold urg
 rw[List.getElem?_eq_getElem (by omega),List.getElem?_eq_getElem (by omega)]
 simp[h]
theorem urg_few {l:List Css} (h:l.length<2):urg l=false:=by
 unfold urg
 split
 ·rw[decide_eq_false (by omega)];rfl
 ·rfl
theorem imp_cmp {b:Css} (h:Proper b):((b.kind==1)&&((⟨b.text.toArray⟩:ByteArray).toList==(⟨#[105,109,112,111,114,116,97,110,116]⟩:ByteArray).toList)&&(b.num==0)&&((⟨b.unit.toArray⟩:ByteArray).toList==(⟨#[]⟩:ByteArray).toList))=impC b:=by
 rw[ba_bq,ba_bq]
 unfold impC
 by_cases h1:b.kind=1
 ·obtain⟨h2,h3⟩:=h.1 h1
  rw[h1,h2,h3,Bool.eq_iff_iff]
  simp only[impT]
  simp
  exact decide_eq_true_iff.symm
 ·have:(b.kind==1)=false:=by simpa using h1
  rw[this,decide_eq_false h1];simp
theorem urgent_any (A:Option Addr) (n c:Nat) (l:List Css) (w:World) (h:Rd w (.slice A n c) l.length 4 (cssCells l)) (hp: ∀x∈l,Proper x) (hcap:n<=c):
  Calls Tryz.prog 39 #[.slice A n c] w (Ret (.tuple #[.slice A (urgV l).length c,.bool (urg l)]) w):=by
 have HR:=Lib.hid h
 have hn:l.length=n:=by obtain⟨_,_,_,_,he,_⟩:=h;cases he;rfl
 have hm:=h.2.1
 rw[hn]at hm
 have HV:Hid (urgV l=if urg l then l.take (n-2)else l):=by show _=_;rw[<-hn];rfl
 clear h
 by_cases h2:n<2
 ·have HU:=Lib.hid (urg_few (l:=l) (by omega))
  have HV2:Hid ((urgV l).length=n):=by show _=_;rw[HV.out,HU.out];exact hn
  rw[HU.out,HV2.out]
  have b2:decide ((n:Int)-2<0)=true:=by simp;omega
  have b2':(n:Int)-2<0:=by omega
  have b3: ¬(2<=n):=by omega
  go_enter Tryz.func39,Tryz.ntmps39
  go_wp2_with fail
  go_ret2
  exact Ret.of rfl bel
 obtain⟨k,hk⟩: ∃k,n=k+2:=⟨n-2,by omega⟩
 have HK:=Lib.hid hk
 have hsub:(n:Int)-2=(k:Int):=by omega
 have hkl:k<l.length:=by omega
 have hkl2:k+1<l.length:=by omega
 obtain⟨b,off,rfl,hb,c0,c1,c2,c3⟩:=HR.out.css k hkl
 obtain⟨b',off',he,_,d0,d1,d2,d3⟩:=HR.out.css (k+1) hkl2
 cases he
 have HU:Hid (urg l=(mk1 33 l[k]&&impC l[k+1])):=by
  show _=_
  rw[urg_at (by omega)]
  congr 2<;>congr 1<;>omega
 have HM:=Lib.hid (fun W:World=>mkM_one 33 l[k] ▸ mark_any l[k] [33] W (hp _ (List.getElem_mem hkl)))
 have hI:=imp_cmp (hp _ (List.getElem_mem hkl2))
 have hlt1:k<n:=by omega
 have hlt2:k+1<n:=by omega
 have hkc:k<=c:=by omega
 have hkn:k<=n:=by omega
 have HVt:Hid ((l.take (n-2)).length=k):=by show _=_;rw[List.length_take];omega
 clear hk hn h2 hp HK
 simp only[Css.agg,sv]at HM c1 c3 d1 d3
 generalize mk1 33 l[k]=m at*
 generalize impC l[k+1]=ic at*
 generalize l[k].kind=x1 at*
 generalize l[k].num=x3 at*
 generalize(⟨l[k].text.toArray⟩:ByteArray)=a1 at*
 generalize(⟨l[k].unit.toArray⟩:ByteArray)=a2 at*
 generalize l[k+1].kind=y1 at*
 generalize l[k+1].num=y3 at*
 generalize(⟨l[k+1].text.toArray⟩:ByteArray)=e1 at*
 generalize(⟨l[k+1].unit.toArray⟩:ByteArray)=e2 at*
 have hix:((k:Int)+1).toNat=k+1:=by omega
 have hI2:(!y1==1|| !e1.toList==[105,109,112,111,114,116,97,110,116]|| !y3==0|| !e2.toList.isEmpty)= !ic:=by
  rw[<-hI]
  have z1:(⟨#[105,109,112,111,114,116,97,110,116]⟩:ByteArray).toList=[105,109,112,111,114,116,97,110,116]:=by rw[ByteArray.toList_eq]
  have z2:(⟨#[]⟩:ByteArray).toList=[]:=by rw[ByteArray.toList_eq]
  rw[z1,z2]
  cases e2.toList<;>simp
 have hk0: ¬((k:Int)<0):=by omega
 clear hI
 cases m
 ·have HM2:=Lib.hid HM.out
  have HU2:Hid (urg l=false):=by show _=_;rw[HU.out];rfl
  have HV2:Hid ((urgV l).length=n):=by
   show _=_;rw[HV.out,HU2.out]
   have:=HR.out.1;obtain⟨_,_,_,_,he,_⟩:=HR.out;cases he;rfl
  rw[HU2.out,HV2.out]
  clear HM HR HV HU HVt
  go_enter Tryz.func39,Tryz.ntmps39
  go_wp2_with(go_at_call 38;(with_reducible refine(HM2.out _).mono ?_);rintro e w' ⟨rfl,X1,rfl⟩)
  go_ret2
  exact Ret.of rfl bel
 ·have HM2:=Lib.hid HM.out
  cases ic
  ·have HU2:Hid (urg l=false):=by show _=_;rw[HU.out];rfl
   have HV2:Hid ((urgV l).length=n):=by
    show _=_;rw[HV.out,HU2.out]
    have:=HR.out.1;obtain⟨_,_,_,_,he,_⟩:=HR.out;cases he;rfl
   rw[HU2.out,HV2.out]
   clear HM HR HV HU HVt
   go_enter Tryz.func39,Tryz.ntmps39
   go_wp2_with(go_at_call 38;(with_reducible refine(HM2.out _).mono ?_);rintro e w' ⟨rfl,X1,rfl⟩)
   go_ret2
   exact Ret.of rfl bel
  ·have HU2:Hid (urg l=true):=by show _=_;rw[HU.out];rfl
   have HV2:Hid ((urgV l).length=k):=by show _=_;rw[HV.out,HU2.out,if_pos rfl,HVt.out]
   rw[HU2.out,HV2.out]
   clear HM HR HV HU HVt
   go_enter Tryz.func39,Tryz.ntmps39
   go_wp2_with(go_at_call 38;(with_reducible refine(HM2.out _).mono ?_);rintro e w' ⟨rfl,X1,rfl⟩)
   go_ret2
   exact Ret.of rfl bel
def cutN:Nat->List Css->Option Nat
 |_,[]=>none
 |d,x::l=>if mk1 59 x&&decide (d=0)then some 0 else(cutN (dn d x) l).map (· +1)
theorem cut_parts: ∀(l:List Css) (d:Nat),match cutN d l with
  |some k=>k<l.length/\partsL d l=l.take k::partsL 0 (l.drop (k+1))
  |none=>partsL d l=[l]:=by
 intro l
 induction l with
 |nil=>intro d;rfl
 |cons x l ih=>
  intro d
  simp only[cutN,partsL]
  split
  ·rename_i h
   split at h
   ·rename_i h2
    cases h
    rw[if_pos h2]
    exact⟨by simp,rfl⟩
   ·rename_i h2
    rw[if_neg h2]
    rw[Option.map_eq_some_iff]at h
    obtain⟨k,hk,rfl⟩:=h
    have:=ih (dn d x)
    rw[hk]at this
    rw[this.2]
    exact⟨by simp;exact this.1,rfl⟩
  ·rename_i h
   split at h
   ·cases h
   ·rename_i h2
    rw[if_neg h2]
    rw[Option.map_eq_none_iff]at h
    have:=ih (dn d x)
    rw[h]at this
    rw[this]
def endP (l:List Css) (d k:Nat):Bool:=match l[k]? with
 |some x=>mk1 59 x&&decide (dnF d (l.take k)=0)
 |none=>false
theorem cut_spec: ∀(l:List Css) (d:Nat),match cutN d l with
  |some k=>endP l d k=true/\ ∀j,j<k->endP l d j=false
  |none=> ∀j,j<l.length->endP l d j=false:=by
 intro l
 induction l with
 |nil=>intro d;simp[cutN]
 |cons x l ih=>
  intro d
  have h0:endP (x::l) d 0=(mk1 59 x&&decide (d=0)):=rfl
  have hs: ∀j,endP (x::l) d (j+1)=endP l (dn d x) j:=fun j=>by
   unfold endP;simp only[List.getElem?_cons_succ,List.take_succ_cons];rfl
  simp only[cutN]
  split
  ·rename_i h
   split at h
   ·rename_i h2
    cases h
    exact⟨h0.trans h2,fun j hj=>absurd hj (by omega)⟩
   ·rename_i h2
    rw[Option.map_eq_some_iff]at h
    obtain⟨k,hk,rfl⟩:=h
    have:=ih (dn d x)
    rw[hk]at this
    refine⟨(hs k).trans this.1,fun j hj=> ?_⟩
    cases j with
    |zero=>rw[h0];simpa using h2
    |succ j=>rw[hs];exact this.2 j (by omega)
  ·rename_i h
   split at h
   ·cases h
   ·rename_i h2
    rw[Option.map_eq_none_iff]at h
    have:=ih (dn d x)
    rw[h]at this
    intro j hj
    cases j with
    |zero=>rw[h0];simpa using h2
    |succ j=>rw[hs];exact this j (by simpa using hj)
def cutI (l:List Css):Int:=match cutN 0 l with
 |some k=>k
 |none=> -1
theorem index_parts (A:Option Addr) (n c:Nat) (l:List Css) (db:Nat) (V:World) (hb:Boxed V db 3 (.int .i64 0)) (hr:Rd V (.slice A n c) l.length 4 (cssCells l)) (hA: ∀b off s,A=some ⟨b,off,s⟩->b≠db) (hp: ∀x∈l,Proper x) (hn9:l.length<=1000000000):
  Calls Tryz.prog 98 #[.slice A n c,.func (.func 95) #[] #[.pointer (some ⟨db,0,none⟩)]] V fun e W'=>e= .returned (.int .i64 (cutI l))/\Turned (fun k=>k=db) V W'/\ ∃e':Nat,Boxed W' db 3 (.int .i64 e'):=by
 have hn:l.length=n:=by obtain⟨_,_,_,_,he,_⟩:=hr;cases he;rfl
 subst hn
 have hm:=hr.2.1
 have key:=indexF1_any A l.length c l 95 db (endP l 0) (fun k W=>Turned (fun k=>k=db) V W/\ ∃e':Nat,Boxed W db 3 (.int .i64 e')/\e'<=k/\((∀j,j<k->endP l 0 j=false)->e'=dnF 0 (l.take k))) V rfl hm
  (fun k W h=>hr.turned h.1 hA) ⟨Turned.refl _ _,0,hb,Nat.le_refl _,fun _=>rfl⟩ (enters_of Tryz.func95 (by kernel_rfl) rfl)
  (fun k hk W h hbef=>by
   obtain⟨ht,e',hb',he',hd⟩:=h
   have hd:=hd hbef
   have hE:endP l 0 k=(mk1 59 l[k]&&decide (e'=0)):=by
    unfold endP
    rw[List.getElem?_eq_getElem hk,hd]
   refine(ends_any l[k] db e' W (hp _ (List.getElem_mem hk)) hb' (by omega)).mono ?_
   rintro e W' ⟨h1,h2,e2,h3,h4,h5⟩
   rw[hE]
   refine⟨h1,ht.trans h2,e2,h3,by omega,fun hall=> ?_⟩
   have h6:=hall k (by omega)
   rw[hE]at h6
   rw[h5 h6,hd,List.take_succ_eq_append_getElem hk,dnF,dnF,List.foldl_append];rfl)
 refine key.mono ?_
 rintro e W' ⟨i,rfl,h⟩
 have hs:=cut_spec l 0
 rcases h with⟨k,h1,rfl,h3,h4,ht,e',hb',_⟩|⟨rfl,h2,ht,e',hb',_⟩
 ·refine⟨?_,ht,e',hb'⟩
  unfold cutI
  split at hs
  ·rename_i k2 hk2
   have:k=k2:=by
    rcases Nat.lt_trichotomy k k2 with h|h|h
    ·have:=hs.2 k h;rw[h3]at this;cases this
    ·exact h
    ·have:=h4 k2 h;rw[hs.1]at this;cases this
   rw[this]
  ·have:=hs k h1;rw[h3]at this;cases this
 ·refine⟨?_,ht,e',hb'⟩
  unfold cutI
  split at hs
  ·rename_i k2 hk2
   have hlt:k2<l.length:=by
    have:=cut_parts l 0
    rw[hk2]at this;exact this.1
   have:=h2 k2 hlt;rw[hs.1]at this;cases this
  ·rfl
def partsV:Option Addr->Nat->List (List Css)->List (Value × List Css)
 |_,_,[]=>[]
 |A,c,p::ps=>(.slice A p.length c,p)::partsV (adv A c (p.length+1)) (c-(p.length+1)) ps
end Go.Proofs.YtiikamobcmgekaaGreatDoor
