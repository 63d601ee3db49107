/- The walks of values of styles: what begins a colour; steps that pieces tell, one behind the other. -/
import Derived.Lib.SmallJoins
import Derived.Test.YtiikamobcmgekaaGreatDoorLB
import Derived.Shelf.Abstract
import Derived.Lib.Strings
import Derived.Test.YtiikamobcmgekaaGreatDoorJCssR
import Derived.Test.YtiikamobcmgekaaGreatDoorKB
import Derived.Test.YtiikamobcmgekaaGreatDoorJTB
import Derived.Test.YtiikamobcmgekaaGreatDoorFltPlainB
namespace Go.Proofs.YtiikamobcmgekaaGreatDoor
set_option maxRecDepth 100000
set_option maxHeartbeats 4000000
open Go.RowKit Go.Shelf
attribute [local go_sem] Oper.semAt_some
theorem cssc_one (l:List Css): ∀u∈cssCells l,u.oneCell'=true:=by
 intro u hu
 rw[cssCells,List.mem_flatMap]at hu
 obtain⟨p,_,hp⟩:=hu
 simp[Css.cells,sv]at hp
 rcases hp with rfl|rfl|rfl|rfl<;>rfl
theorem css_app (l m:List Css):cssCells (l++m)=cssCells l++cssCells m:=by rw[cssCells,cssCells,cssCells,List.flatMap_append]
theorem number16_any (n:Int) (u:Bs) (w:World) (h0: -9223372036854775<=n) (h1:n<=9223372036854775):Calls Tryz.prog 293 #[.int .i64 n,.string ⟨u.toArray⟩] w (Ret (Css.agg (nuC n u)) w):=by
 simp only[Css.agg,nuC,sv]
 generalize(⟨u.toArray⟩:ByteArray)=U at*
 go_enter Tryz.func293,Tryz.ntmps293
 go_wp2_with fail
 ((try simp only[Exit.inBlock,Exit.then]);refine bodyPost_ret (v:= .agg #[.int .i64 3,.string ⟨#[]⟩,.int .i64 (n*1000),.string U]) (by(first|rw[results_cell_tmp rfl]|rw[results_cell1 rfl]);go_simp) rfl ?_)
 exact Ret.of rfl bel
theorem mark16_any (t:Bs) (w:World):Calls Tryz.prog 176 #[.string ⟨t.toArray⟩] w (Ret (Css.agg ⟨6,t,0,[]⟩) w):=by
 simp only[Css.agg,sv]
 generalize(⟨t.toArray⟩:ByteArray)=U at*
 go_enter Tryz.func176,Tryz.ntmps176
 go_wp2_with fail
 ((try simp only[Exit.inBlock,Exit.then]);refine bodyPost_ret (v:= .agg #[.int .i64 6,.string U,.int .i64 0,.string ⟨#[]⟩]) (by(first|rw[results_cell_tmp rfl]|rw[results_cell1 rfl]);go_simp) rfl ?_)
 exact Ret.of rfl bel
theorem call16_any (nm:Bs) (A:Option Addr) (n c:Nat) (l:List Css) (w:World) (h:Rd w (.slice A n c) l.length 4 (cssCells l)) (hn:A=none->c=0) (hl:l.length<=1000000000):
  Calls Tryz.prog 237 #[.string ⟨nm.toArray⟩,.slice A n c] w (RetO w (l.length+2) 4 72 (cssCells (fnC nm::l++[mark1 41]))):=by
 have HR:=Lib.hid h
 have HN:=Lib.hid hn
 obtain⟨_,hm,A',c',heq,_⟩:=h
 cases heq
 have HM:=Lib.hid (fun W=>mark16_any [41] W)
 have HC:Hid (cssCells (fnC nm::(l++[mark1 41]))=[.int .i64 2,.string ⟨nm.toArray⟩,.int .i64 0,.string ⟨#[]⟩]++cssCells l++[.int .i64 6,.string ⟨#[41]⟩,.int .i64 0,.string ⟨#[]⟩]):=by
  show _=_
  rw[<-List.cons_append,css_app,cssCells,List.flatMap_cons];rfl
 simp only[Css.agg,sv]at HM
 generalize(⟨nm.toArray⟩:ByteArray)=U at*
 clear hn
 have HNw:Hid (∀W,Below w.heap.size w W->_):=fun W hB=>news_rd HR.out HN.out hB
 obtain⟨x0,hx0⟩: ∃x,Value.slice A l.length c=x:=⟨_,rfl⟩
 rw[hx0]at HNw ⊢
 have HR1:=Lib.hid HR.out.1
 clear HR HN hx0
 go_enter Tryz.func237,Tryz.ntmps237
 go_wp2_with(first
  |(go_at_call 176;(with_reducible refine(HM.out _).mono ?_);rintro e w' ⟨rfl,Y1,rfl⟩)
  |(at_builtin;(refine append_abs rfl _ _ 42 rfl css_row w.heap.size rfl ((own_grow HO3.out _).alloc _) (by have:=HB3.out.size;simp[size_grow];omega) ⟨_,0,none⟩ 1 1 [.int .i64 6,.string ⟨#[41]⟩,.int .i64 0,.string ⟨#[]⟩] rfl rfl (new_cells (c:= #[.int .i64 6,.string ⟨#[41]⟩,.int .i64 0,.string ⟨#[]⟩]) (by simp[go_sem])) (by simp[Value.oneCell']) (by unfold maxLen;omega) (by omega) ?_);intro v4 W4 ho4 hg4;(have HB4:=own_step hg4 ((own_grow HO3.out _).alloc _) (Below.alloc (Below.grow HB3.out HB3.out.size _) (by have:=HB3.out.size;simp[size_grow];omega) _));have HO4:=Lib.hid ho4;clear ho4 hg4)
  |(at_builtin;(refine append_any rfl _ _ 42 rfl css_row w.heap.size rfl (own_lit (c:= #[.int .i64 2,.string U,.int .i64 0,.string ⟨#[]⟩]) (n:=1) rfl (by decide)) (by simp) l.length (cssCells l) (HNw.out _ bel) HR1.out (cssc_one l) (by unfold maxLen;omega) (by omega) ?_);intro v3 W3 ho3 hg3;(have HB3:=own_step hg3 (own_lit (c:= #[.int .i64 2,.string U,.int .i64 0,.string ⟨#[]⟩]) (n:=1) (size:=4) rfl (by decide)) (show Below w.heap.size w _ from bel));have HO3:=Lib.hid ho3;clear ho3 hg3))
 go_ret
 rw[HC.out]
 have ho:=HO4.out
 rw[show 1+l.length+1=l.length+2 by omega]at ho
 exact RetO.own HB4.out ho (Nat.le_refl _)
structure StOk (s:St):Prop where
 xlo: -9223372036854775<=s.x
 xhi:s.x<=9223372036854775
 ylo: -9223372036854775<=s.y
 yhi:s.y<=9223372036854775
 klo: -9223372036854775808<=s.k
 khi:s.k<=9223372036854775807
 deg:s.k=2-> -9223372036854775<=90*s.x/\90*s.x<=9223372036854775
theorem lit_rd {W:World} {c:Array Value} {e:TypeId} {n size B:Nat} {cells:List Value} (hc:c.size=n*size) (hn:n<=maxLen) (hB:B=W.heap.size) (he:c.toList=cells):Rd (W.alloc (.cells c e)) (.slice (some ⟨B,0,none⟩) n n) n size cells:=by
 subst hB he
 exact Rd.own (own_lit hc hn)
theorem call16_lit (nm:Bs) (b n:Nat) (l:List Css) (W:World) (h:Rd W (.slice (some ⟨b,0,none⟩) n n) n 4 (cssCells l)) (hn:l.length=n) (hl:n<=1000000000):
  Calls Tryz.prog 237 #[.string ⟨nm.toArray⟩,.slice (some ⟨b,0,none⟩) n n] W (RetO W (n+2) 4 72 (cssCells (fnC nm::l++[mark1 41]))):=by
 subst hn
 exact call16_any nm _ _ _ l W h (fun h=>by cases h) hl
theorem told16_any (s:St) (w:World) (hs:StOk s):Calls Tryz.prog 271 #[s.val] w (RetO w (toldT s).length 4 72 (cssCells (toldT s))):=by
 have hmx:=mxd
 obtain⟨xlo,xhi,ylo,yhi,klo,khi,deg⟩:=hs
 obtain⟨k,x,y⟩:=s
 simp only at xlo xhi ylo yhi klo khi deg
 unfold St.val
 simp only
 by_cases k1:k=1
 ·subst k1
  have HN1:=Lib.hid (fun W=>number16_any x pxT W xlo xhi)
  have HN2:=Lib.hid (fun W=>number16_any y pxT W ylo yhi)
  have HMk:=Lib.hid (fun W=>mark16_any [44] W)
  have HC:=Lib.hid (fun b W (h:Rd W (.slice (some ⟨b,0,none⟩) 3 3) 3 4 (cssCells [nuC x pxT,mark1 44,nuC y pxT]))=>call16_lit moveT b 3 [nuC x pxT,mark1 44,nuC y pxT] W h rfl (by omega))
  simp only[Css.agg,sv,nuC]at HN1 HN2 HMk
  simp only[pxT,moveT]at HN1 HN2 HC
  go_enter Tryz.func271,Tryz.ntmps271
  go_wp2_with fail
  obtain⟨W0,hW0⟩: ∃W0,w.alloc (.cells #[.int .i64 1,.int .i64 x,.int .i64 y] 271)=W0:=⟨_,rfl⟩
  have HBW:Hid (Below w.heap.size w W0):=by show Below _ _ _;rw[<-hW0];exact bel
  have hlt0:w.heap.size<W0.heap.size:=by rw[<-hW0];simp
  have c1:W0.cell? ⟨w.heap.size,1,none⟩=some (.int .i64 x):=by rw[<-hW0];simp[go_sem]
  have c2:W0.cell? ⟨w.heap.size,2,none⟩=some (.int .i64 y):=by rw[<-hW0];simp[go_sem]
  have HK2:Hid (∀W,Below W0.heap.size W0 W->W.cell? ⟨w.heap.size,1,none⟩=some (.int .i64 x)/\W.cell? ⟨w.heap.size,2,none⟩=some (.int .i64 y)):=fun W hW=>⟨(hW.cell hlt0).trans c1,(hW.cell hlt0).trans c2⟩
  rw[hW0]
  clear hW0 c1 c2
  go_region_held3 (fun W=>W.cell? ⟨w.heap.size,1,none⟩=some (.int .i64 x)/\W.cell? ⟨w.heap.size,2,none⟩=some (.int .i64 y))
   (exact HK2.out _ bel)
   (first
    |(go_at_call 293;(with_reducible refine(HN1.out _).mono ?_);rintro e w' ⟨rfl,X1,rfl⟩)
    |(go_at_call 293;(with_reducible refine(HN2.out _).mono ?_);rintro e w' ⟨rfl,X3,rfl⟩)
    |(go_at_call 176;(with_reducible refine(HMk.out _).mono ?_);rintro e w' ⟨rfl,X2,rfl⟩)
    |(go_at_call 237;(refine(HC.out _ _ (by first|exact lit_rd (n:=3) (size:=4) rfl (by decide) rfl rfl|exact lit_rd (n:=3) (size:=4) rfl (by decide) (by simp[go_sem]) rfl)).mono ?_);rintro e w' ⟨v4,X4,rfl,rfl,ho4⟩))
  all_goals(go_wp2;go_ret;exact RetO.own (below_next HBW.out bel) ho4 (by have:=HBW.out.size;simp[size_grow]<;>omega))
 have b1:(k==1)=false:=by simpa using k1
 by_cases k2:k=2
 ·subst k2
  have HN1:=Lib.hid (fun W=>number16_any (90*x) degT W (deg rfl).1 (deg rfl).2)
  have HC:=Lib.hid (fun b W (h:Rd W (.slice (some ⟨b,0,none⟩) 1 1) 1 4 (cssCells [nuC (90*x) degT]))=>call16_lit turnT b 1 [nuC (90*x) degT] W h rfl (by omega))
  have hd1:=(deg rfl).1
  have hd2:=(deg rfl).2
  simp only[Css.agg,sv,nuC]at HN1
  simp only[degT,turnT]at HN1 HC
  go_enter Tryz.func271,Tryz.ntmps271
  go_wp2_with(first
   |(go_at_call 293;(with_reducible refine(HN1.out _).mono ?_);rintro e w' ⟨rfl,X1,rfl⟩)
   |(go_at_call 237;(refine(HC.out _ _ (by first|exact lit_rd (n:=1) (size:=4) rfl (by decide) rfl rfl|exact lit_rd (n:=1) (size:=4) rfl (by decide) (by simp[go_sem]) rfl)).mono ?_);rintro e w' ⟨v4,X4,rfl,rfl,ho4⟩))
  go_ret
  exact RetO.own bel ho4 (by simp[size_grow]<;>omega)
 have b2:(k==2)=false:=by simpa using k2
 by_cases k3:k=3
 ·subst k3
  have HN1:=Lib.hid (fun W=>number16_any x [] W xlo xhi)
  have HC:=Lib.hid (fun b W (h:Rd W (.slice (some ⟨b,0,none⟩) 1 1) 1 4 (cssCells [nuC x []]))=>call16_lit scaleT b 1 [nuC x []] W h rfl (by omega))
  simp only[Css.agg,sv,nuC]at HN1
  simp only[scaleT]at HN1 HC
  go_enter Tryz.func271,Tryz.ntmps271
  go_wp2_with(first
   |(go_at_call 293;(with_reducible refine(HN1.out _).mono ?_);rintro e w' ⟨rfl,X1,rfl⟩)
   |(go_at_call 237;(refine(HC.out _ _ (by first|exact lit_rd (n:=1) (size:=4) rfl (by decide) rfl rfl|exact lit_rd (n:=1) (size:=4) rfl (by decide) (by simp[go_sem]) rfl)).mono ?_);rintro e w' ⟨v4,X4,rfl,rfl,ho4⟩))
  go_ret
  exact RetO.own bel ho4 (by simp[size_grow]<;>omega)
 have b3:(k==3)=false:=by simpa using k3
 have HT:Hid (toldT ⟨k,x,y⟩=fnC flipT::[nuC (-1) []]++[mark1 41]):=by
  show _=_;unfold toldT;rw[if_neg k1,if_neg k2,if_neg k3];rfl
 rw[HT.out]
 have HN1:=Lib.hid (fun W=>number16_any (-1) [] W (by omega) (by omega))
 have HC:=Lib.hid (fun b W (h:Rd W (.slice (some ⟨b,0,none⟩) 1 1) 1 4 (cssCells [nuC (-1) []]))=>call16_lit flipT b 1 [nuC (-1) []] W h rfl (by omega))
 simp only[Css.agg,sv,nuC]at HN1
 simp only[flipT]at HN1 HC
 go_enter Tryz.func271,Tryz.ntmps271
 go_wp2_with(first
  |(go_at_call 293;(with_reducible refine(HN1.out _).mono ?_);rintro e w' ⟨rfl,X1,rfl⟩)
  |(go_at_call 237;(refine(HC.out _ _ (by first|exact lit_rd (n:=1) (size:=4) rfl (by decide) rfl rfl|exact lit_rd (n:=1) (size:=4) rfl (by decide) (by simp[go_sem]) rfl)).mono ?_);rintro e w' ⟨v4,X4,rfl,rfl,ho4⟩))
 go_ret
 exact RetO.own bel ho4 (by simp[size_grow]<;>omega)
theorem tdiv_abs (n:Int):(n.tdiv 1000).natAbs=n.natAbs/1000:=by rw[Int.natAbs_tdiv];rfl
theorem at16_any (A:Option Addr) (n c:Nat) (l:List Css) (i:Nat) (w:World) (h:Rd w (.slice A n c) l.length 4 (cssCells l)) (_:l.length<=1000000000) (hok: ∀x∈l,CssOk x):
  Calls Tryz.prog 290 #[.slice A n c,.int .i64 i] w (Ret (.int .i64 (atI l i)) w):=by
 have HR:=Lib.hid h
 obtain⟨_,hm,A',c',heq,_⟩:=h
 cases heq
 by_cases hlt:i<l.length
 ·obtain⟨b,off,rfl,hb,c0,c1,c2,c3⟩:=HR.out.css i hlt
  have HN:Hid (atI l i=l[i].num.tdiv 1000):=by show _=_;unfold atI;rw[List.getElem?_eq_getElem hlt]
  have bi: ¬((l.length:Int)<=i):=by omega
  have hbd:=hok _ (List.getElem_mem hlt)
  have q1:=hbd.nlo
  have q2:=hbd.nhi
  have hq:wrap64 (l[i].num.tdiv 1000)=l[i].num.tdiv 1000:=IntWalk.wrap64_in _ (by have e:=tdiv_abs l[i].num;omega)
  clear hbd hok
  generalize l[i]=x at*
  simp only[sv]at c1 c3
  generalize x.num=nn at*
  generalize x.kind=kk at*
  generalize(⟨x.text.toArray⟩:ByteArray)=a1 at*
  generalize(⟨x.unit.toArray⟩:ByteArray)=a2 at*
  go_enter Tryz.func290,Tryz.ntmps290
  go_wp2_with fail
  go_ret
  exact Ret.of (by rw[HN.out];first|rfl|simp) bel
 ·have HN:Hid (atI l i=0):=by show _=_;unfold atI;rw[List.getElem?_eq_none (by omega)]
  have bi:(l.length:Int)<=i:=by omega
  go_enter Tryz.func290,Tryz.ntmps290
  go_wp2_with fail
  go_ret
  exact Ret.of (by rw[HN.out];rfl) bel
theorem hex_bits (c:UInt8):btwB (bits .or .u8 c.toNat 32) 97 102=decide (65<=c.toNat/\c.toNat<=70\/97<=c.toNat/\c.toNat<=102):=by
 have h: ∀n:Fin 256,btwB (bits .or .u8 ((n.val:Nat):Int) 32) 97 102=decide (65<=n.val/\n.val<=70\/97<=n.val/\n.val<=102):=by decide+kernel
 exact h ⟨c.toNat,c.toNat_lt⟩
theorem hex_any (c:UInt8) (w:World):Calls Tryz.prog 256 #[.int .u8 c.toNat] w fun e w'=>e= .returned (.bool (hexB c))/\w=w':=by
 have HB:Hid (hexB c=(digB c||decide (65<=c.toNat/\c.toNat<=70\/97<=c.toNat/\c.toNat<=102))):=rfl
 have HBt:=Lib.hid (hex_bits c)
 cases hd0:digB c
 all_goals
  have HD:Hid (∀W,Calls Tryz.prog 108 #[.int .u8 c.toNat] W fun e w'=>e= .returned (.bool _)/\W=w'):=fun W=>hd0 ▸ digit_any c W
  go_enter Tryz.func256,Tryz.ntmps256
  go_wp2_with(first|(go_at_call 108;(with_reducible refine(HD.out _).mono ?_);rintro e w' ⟨rfl,rfl⟩)|(go_at_call 91;refine(between_any _ _ _ _).mono ?_;rintro e w' ⟨rfl,rfl⟩))
  all_goals go_ret
  all_goals exact⟨ret_bool (by rw[HB.out,hd0];first|rfl|(rw[Bool.false_or];exact HBt.out)|simp),rfl⟩
theorem hodd_any (c:UInt8) (w:World):Calls Tryz.prog 272 #[.int .u8 c.toNat] w fun e w'=>e= .returned (.bool (!hexB c))/\w=w':=by
 go_enter Tryz.func272,Tryz.ntmps272
 go_wp2_with(go_at_call 256;refine(hex_any _ _).mono ?_;rintro e w' ⟨rfl,rfl⟩)
 go_ret
 exact⟨rfl,rfl⟩
theorem hodd_pred:PredU 272 (fun c=> !hexB c):=⟨enters_of Tryz.func272 (by kernel_rfl) rfl,hodd_any⟩
theorem unit_any (s:ByteArray) (w:World):Calls Tryz.prog 235 #[.string s] w (Ret (.bool (unitB s.data.toList)) w):=by
 obtain⟨D,hD⟩: ∃D,unitB s.data.toList=D:=⟨_,rfl⟩
 have HU:Hid (D=(s.toList.isEmpty||(s.toList==[37])||(s.toList==[112,120])||(s.toList==[101,109])||(s.toList==[114,101,109])||(s.toList==[112,116])||(s.toList==[118,104])||(s.toList==[118,119])||(s.toList==[100,101,103])||(s.toList==[115])||(s.toList==[109,115]))):=by
  show _=_
  rw[<-hD]
  unfold unitB pxT degT
  rw[ByteArray.toList_eq,Bool.eq_iff_iff]
  simp[or_assoc]
 rw[hD]
 clear hD
 go_enter Tryz.func235,Tryz.ntmps235
 go_wp2_with fail
 all_goals go_ret
 all_goals exact Ret.of (by rw[HU.out];simp_all) bel
theorem hash_any (s:ByteArray) (w:World) (hm:s.size<=9223372036854775807):Calls Tryz.prog 236 #[.string s] w (Ret (.bool (hashB s.data.toList)) w):=by
 have HB:=Lib.hid (fun W=>len_data s ▸ bytes_rd W 5 s (grownCap W s.size 0 5) hm)
 have hcv: ∀W:World,(convert 9 135 (.string s)).run Tryz.prog W= .ok (.slice (some ⟨W.heap.size,0,none⟩) s.size (grownCap W s.size 0 5)) (W.grow (bytesGr W 5 s)):=fun W=>bytes_run W _ _ _ s Tryz.underlying9 Tryz.underlying135 Tryz.underlying5
 have HU:Hid (hashB s.data.toList=(decide (s.size=3\/s.size=4\/s.size=6\/s.size=8)&& !s.data.toList.any (fun c=> !hexB c))):=by
  show _=_
  unfold hashB
  rw[len_data]
  congr 1
  rw[List.any_eq_not_all_not];simp
 have HC:=Lib.hid (fun W h=>containsFunc_any (.slice (some ⟨W.heap.size,0,none⟩) s.size (grownCap W s.size 0 5)) s.data.toList _ _ (W.grow (bytesGr W 5 s)) h hodd_pred)
 by_cases h:s.size=3\/s.size=4\/s.size=6\/s.size=8
 ·rw[decide_eq_true h]at HU
  generalize s.data.toList.any (fun c=> !hexB c)=an at*
  generalize hashB s.data.toList=D at*
  rcases h with h|h|h|h
  all_goals
   have e3:((s.size:Int)==3)=decide (s.size=3):=by rw[Bool.eq_iff_iff];simp;omega
   have e4:((s.size:Int)==4)=decide (s.size=4):=by rw[Bool.eq_iff_iff];simp;omega
   have e6:((s.size:Int)==6)=decide (s.size=6):=by rw[Bool.eq_iff_iff];simp;omega
   have e8:((s.size:Int)==8)=decide (s.size=8):=by rw[Bool.eq_iff_iff];simp;omega
   have d3:decide (s.size=3)=_:=congrArg (fun n:Nat=>decide (n=3)) h
   have d4:decide (s.size=4)=_:=congrArg (fun n:Nat=>decide (n=4)) h
   have d6:decide (s.size=6)=_:=congrArg (fun n:Nat=>decide (n=6)) h
   have d8:decide (s.size=8)=_:=congrArg (fun n:Nat=>decide (n=8)) h
   rw[d3]at e3
   rw[d4]at e4
   rw[d6]at e6
   rw[d8]at e8
   simp only[decide_true,Nat.reduceEqDiff,decide_false]at e3 e4 e6 e8
   clear h d3 d4 d6 d8
   go_enter Tryz.func236,Tryz.ntmps236
   go_wp2_with(go_at_call 206;(refine(HC.out _ (HB.out _)).mono ?_);rintro e w' ⟨rfl,rfl⟩)
   go_ret
   exact Ret.of (by rw[HU.out];rfl) bel
 ·rw[decide_eq_false h]at HU
  generalize s.data.toList.any (fun c=> !hexB c)=an at*
  generalize hashB s.data.toList=D at*
  have e3:((s.size:Int)==3)=false:=by rw[beq_eq_false_iff_ne];omega
  have e4:((s.size:Int)==4)=false:=by rw[beq_eq_false_iff_ne];omega
  have e6:((s.size:Int)==6)=false:=by rw[beq_eq_false_iff_ne];omega
  have e8:((s.size:Int)==8)=false:=by rw[beq_eq_false_iff_ne];omega
  clear h HC HB hcv
  go_enter Tryz.func236,Tryz.ntmps236
  go_wp2_with fail
  go_ret
  exact Ret.of (by rw[HU.out];rfl) bel
theorem plain0_by (x:Css):plain0 x=if x.kind=1 then true else if x.kind=5 then true else if x.kind=3 then unitB x.unit else if x.kind=4 then hashB x.text else if x.kind=6 then(decide (x.text=[44])||decide (x.text=[47]))else false:=by
 unfold plain0
 by_cases h1:x.kind=1
 ·simp[h1]
 by_cases h5:x.kind=5
 ·simp[h5]
 rw[if_neg (by omega),if_neg h1,if_neg h5]
 congr 2
 rw[Bool.decide_or]
theorem plain16_any (x:Css) (w:World) (hw:Tb w) (hx:Mx w) (ho:CssOk x) (h1:x.text.length<=1000000) (h2:x.unit.length<=1000000):Calls Tryz.prog 174 #[Css.agg x] w (Ret (.bool (plainC x)) w):=by
 have hmx:=mxd
 have HB:=Lib.hid (fun W (hB:Below w.heap.size w W)=>And.intro (Tb.below hw hB) (Mx.below hx hB))
 obtain⟨R,hR⟩: ∃R,rightC x=R:=⟨_,rfl⟩
 obtain⟨U,hU⟩: ∃U,unitB x.unit=U:=⟨_,rfl⟩
 obtain⟨H,hH⟩: ∃H,hashB x.text=H:=⟨_,rfl⟩
 have HRt:=Lib.hid (fun W (hW:Tb W) (hX:Mx W)=>hR ▸ right_anyQ x W hW hX ho h1 h2)
 have HU:=Lib.hid (fun W=>show Calls Tryz.prog 235 #[.string ⟨x.unit.toArray⟩] W (Ret (.bool U) W)from hU ▸ unit_any ⟨x.unit.toArray⟩ W)
 have HH:=Lib.hid (fun W=>show Calls Tryz.prog 236 #[.string ⟨x.text.toArray⟩] W (Ret (.bool H) W)from hH ▸ hash_any ⟨x.text.toArray⟩ W (by show x.text.length<=_;omega))
 have HN:Hid (plainC x=((if x.kind=1 then true else if x.kind=5 then true else if x.kind=3 then U else if x.kind=4 then H else if x.kind=6 then(((⟨x.text.toArray⟩:ByteArray).toList==[44])||((⟨x.text.toArray⟩:ByteArray).toList==[47]))else false)&&R)):=by
  show _=_
  have z1:((⟨x.text.toArray⟩:ByteArray).toList==[44])=decide (x.text=[44]):=by rw[ByteArray.toList_eq,Bool.eq_iff_iff];simp
  have z2:((⟨x.text.toArray⟩:ByteArray).toList==[47])=decide (x.text=[47]):=by rw[ByteArray.toList_eq,Bool.eq_iff_iff];simp
  rw[plainC,plain0_by,hR,hU,hH,z1,z2]
 obtain⟨D,hD⟩: ∃D,plainC x=D:=⟨_,rfl⟩
 rw[hD]at HN ⊢
 clear hD hR hU hH hw hx ho h1 h2
 simp only[Css.agg,sv]at HRt ⊢
 generalize(⟨x.text.toArray⟩:ByteArray)=a1 at*
 generalize(⟨x.unit.toArray⟩:ByteArray)=a2 at*
 generalize x.num=nn at*
 by_cases k1:x.kind=1
 ·rw[k1]at HN HRt ⊢
  go_enter Tryz.func174,Tryz.ntmps174
  go_wp2_with(go_at_call 177;(refine(HRt.out _ (HB.out _ bel).1 (HB.out _ bel).2).mono ?_);rintro e w' ⟨rfl,X1,rfl⟩)
  go_ret
  exact Ret.of (by rw[HN.out];rfl) bel
 by_cases k5:x.kind=5
 ·rw[k5]at HN HRt ⊢
  go_enter Tryz.func174,Tryz.ntmps174
  go_wp2_with(go_at_call 177;(refine(HRt.out _ (HB.out _ bel).1 (HB.out _ bel).2).mono ?_);rintro e w' ⟨rfl,X1,rfl⟩)
  go_ret
  exact Ret.of (by rw[HN.out];rfl) bel
 by_cases k3:x.kind=3
 ·rw[k3]at HN HRt ⊢
  cases U
  all_goals
   have HU2:=Lib.hid HU.out
   go_enter Tryz.func174,Tryz.ntmps174
   go_wp2_with(first|(go_at_call 235;(with_reducible refine(HU2.out _).mono ?_);rintro e w' ⟨rfl,X2,rfl⟩)|(go_at_call 177;(refine(HRt.out _ (HB.out _ bel).1 (HB.out _ bel).2).mono ?_);rintro e w' ⟨rfl,X1,rfl⟩))
   go_ret
   exact Ret.of (by rw[HN.out];first|rfl|simp) bel
 by_cases k4:x.kind=4
 ·rw[k4]at HN HRt ⊢
  cases H
  all_goals
   have HH2:=Lib.hid HH.out
   go_enter Tryz.func174,Tryz.ntmps174
   go_wp2_with(first|(go_at_call 236;(with_reducible refine(HH2.out _).mono ?_);rintro e w' ⟨rfl,X2,rfl⟩)|(go_at_call 177;(refine(HRt.out _ (HB.out _ bel).1 (HB.out _ bel).2).mono ?_);rintro e w' ⟨rfl,X1,rfl⟩))
   go_ret
   exact Ret.of (by rw[HN.out];first|rfl|simp) bel
 by_cases k6:x.kind=6
 ·rw[k6]at HN HRt ⊢
  cases m1:(a1.toList==[44])<;>cases m2:(a1.toList==[47])
  all_goals
   go_enter Tryz.func174,Tryz.ntmps174
   go_wp2_with(go_at_call 177;(refine(HRt.out _ (HB.out _ bel).1 (HB.out _ bel).2).mono ?_);rintro e w' ⟨rfl,X1,rfl⟩)
   go_ret
   exact Ret.of (by rw[HN.out,m1,m2];first|rfl|simp) bel
 ·have b1:(x.kind==1)=false:=by simpa using k1
  have b5:(x.kind==5)=false:=by simpa using k5
  have b3:(x.kind==3)=false:=by simpa using k3
  have b4:(x.kind==4)=false:=by simpa using k4
  have b6:(x.kind==6)=false:=by simpa using k6
  have HN2:Hid (D=false):=by show _=_;rw[HN.out,if_neg k1,if_neg k5,if_neg k3,if_neg k4,if_neg k6];rfl
  generalize x.kind=kk at*
  go_enter Tryz.func174,Tryz.ntmps174
  go_wp2_with fail
  go_ret
  exact Ret.of (by rw[HN2.out];rfl) bel
theorem call0_any (nm:Bs) (W:World):Calls Tryz.prog 237 #[.string ⟨nm.toArray⟩,.slice none 0 0] W fun e w'=> ∃g cap,e= .returned (.slice (some ⟨g,0,none⟩) 2 cap)/\Below W.heap.size W w'/\W.heap.size<=g/\g<w'.heap.size/\
  w'.cell? ⟨g,0,none⟩=some (.int .i64 2)/\w'.cell? ⟨g,1,none⟩=some (.string ⟨nm.toArray⟩)/\w'.cell? ⟨g,2,none⟩=some (.int .i64 0)/\w'.cell? ⟨g,3,none⟩=some (.string ⟨#[]⟩):=by
 refine(call16_any nm none 0 0 [] W (Rd.nil W 4) (fun _=>rfl) (by simp)).mono ?_
 rintro e w' ⟨v,X,rfl,rfl,ho⟩
 obtain⟨g,cap,rfl⟩:=Go.Joins.ownsRow_form ho (by simp)
 obtain⟨_,a,cap',hv,_,hc⟩:=own_cells ho
 cases hv
 rcases hc with hc|⟨b,hb,h1,h2,h3⟩
 ·simp at hc
 ·cases hb
  exact⟨g,cap,rfl,below_grow W X,h1,h2,h3 0 _ rfl,h3 1 _ rfl,h3 2 _ rfl,h3 3 _ rfl⟩
theorem colour_by (x:Css):colourC x=(decide (x.kind=2)&&decide (x.num=0)&&decide (x.unit=[])&&(decide (x.text=rgbT)||decide (x.text=rgbaT)||decide (x.text=hslT)||decide (x.text=hslaT))):=by
 unfold colourC
 obtain⟨k,t,n,u⟩:=x
 rw[Bool.eq_iff_iff]
 simp only[fnC,Css.mk.injEq,decide_eq_true_eq,Bool.and_eq_true,Bool.or_eq_true]
 constructor
 ·rintro(⟨h1,h2,h3,h4⟩|⟨h1,h2,h3,h4⟩|⟨h1,h2,h3,h4⟩|⟨h1,h2,h3,h4⟩)<;>simp[h1,h2,h3,h4]
 ·rintro⟨⟨⟨h1,h3⟩,h4⟩,((h2|h2)|h2)|h2⟩<;>simp[h1,h2,h3,h4]
theorem colour16_any (x:Css) (w:World):Calls Tryz.prog 175 #[Css.agg x] w (Ret (.bool (colourC x)) w):=by
 have HC:=Lib.hid (fun nm W=>call0_any nm W)
 have HN:Hid (colourC x=((x.kind==2)&&(x.num==0)&&(⟨x.unit.toArray⟩:ByteArray).toList.isEmpty&&(((⟨x.text.toArray⟩:ByteArray).toList==[114,103,98])||((⟨x.text.toArray⟩:ByteArray).toList==[114,103,98,97])||((⟨x.text.toArray⟩:ByteArray).toList==[104,115,108])||((⟨x.text.toArray⟩:ByteArray).toList==[104,115,108,97])))):=by
  show _=_
  have z: ∀t:Bs,((⟨x.text.toArray⟩:ByteArray).toList==t)=decide (x.text=t):=fun t=>by rw[ByteArray.toList_eq,Bool.eq_iff_iff];simp
  rw[colour_by,z,z,z,z,ba_emp]
  simp only[rgbT,rgbaT,hslT,hslaT]
  congr 1
 obtain⟨D,hD⟩: ∃D,colourC x=D:=⟨_,rfl⟩
 rw[hD]at HN ⊢
 clear hD
 simp only[Css.agg,sv]
 have H1:=Lib.hid (fun W=>HC.out [114,103,98] W)
 have H2:=Lib.hid (fun W=>HC.out [114,103,98,97] W)
 have H3:=Lib.hid (fun W=>HC.out [104,115,108] W)
 have H4:=Lib.hid (fun W=>HC.out [104,115,108,97] W)
 clear HC
 generalize(⟨x.text.toArray⟩:ByteArray)=a1 at*
 generalize(⟨x.unit.toArray⟩:ByteArray)=a2 at*
 generalize x.num=nn at*
 generalize x.kind=kk at*
 have HBw:Hid (Below w.heap.size w (w.alloc (.cells #[.int .i64 kk,.string a1,.int .i64 nn,.string a2] 72))):=by show Below _ _ _;exact bel
 cases k2:(kk==2)
 ·have HD:Hid (D=false):=by show _=_;rw[HN.out,k2];rfl
  go_enter Tryz.func175,Tryz.ntmps175
  go_wp2_with(first|(go_at_call 237;(with_reducible refine(H1.out _).mono ?_);rintro e W1 ⟨g1,cap1,rfl,hb1,hg1,hl1,p1,q1,r1,s1⟩;have HB1:=Lib.hid (below_next HBw.out hb1);clear hb1)|(go_at_call 237;(with_reducible refine(H2.out _).mono ?_);rintro e W2 ⟨g2,cap2,rfl,hb2,hg2,hl2,p2,q2,r2,s2⟩;have HB2:=Lib.hid (below_next HB1.out hb2);clear hb2)|(go_at_call 237;(with_reducible refine(H3.out _).mono ?_);rintro e W3 ⟨g3,cap3,rfl,hb3,hg3,hl3,p3,q3,r3,s3⟩;have HB3:=Lib.hid (below_next HB2.out hb3);clear hb3)|(go_at_call 237;(with_reducible refine(H4.out _).mono ?_);rintro e W4 ⟨g4,cap4,rfl,hb4,hg4,hl4,p4,q4,r4,s4⟩;have HB4:=Lib.hid (below_next HB3.out hb4);clear hb4))
  go_ret
  exact Ret.of (by rw[HD.out];rfl) HB4.out
 cases k0:(nn==0)
 ·have HD:Hid (D=false):=by show _=_;rw[HN.out,k2,k0];rfl
  go_enter Tryz.func175,Tryz.ntmps175
  go_wp2_with(first|(go_at_call 237;(with_reducible refine(H1.out _).mono ?_);rintro e W1 ⟨g1,cap1,rfl,hb1,hg1,hl1,p1,q1,r1,s1⟩;have HB1:=Lib.hid (below_next HBw.out hb1);clear hb1)|(go_at_call 237;(with_reducible refine(H2.out _).mono ?_);rintro e W2 ⟨g2,cap2,rfl,hb2,hg2,hl2,p2,q2,r2,s2⟩;have HB2:=Lib.hid (below_next HB1.out hb2);clear hb2)|(go_at_call 237;(with_reducible refine(H3.out _).mono ?_);rintro e W3 ⟨g3,cap3,rfl,hb3,hg3,hl3,p3,q3,r3,s3⟩;have HB3:=Lib.hid (below_next HB2.out hb3);clear hb3)|(go_at_call 237;(with_reducible refine(H4.out _).mono ?_);rintro e W4 ⟨g4,cap4,rfl,hb4,hg4,hl4,p4,q4,r4,s4⟩;have HB4:=Lib.hid (below_next HB3.out hb4);clear hb4))
  go_ret
  exact Ret.of (by rw[HD.out];rfl) HB4.out
 cases ke:a2.toList.isEmpty
 ·have HD:Hid (D=false):=by show _=_;rw[HN.out,k2,k0,ke];rfl
  go_enter Tryz.func175,Tryz.ntmps175
  go_wp2_with(first|(go_at_call 237;(with_reducible refine(H1.out _).mono ?_);rintro e W1 ⟨g1,cap1,rfl,hb1,hg1,hl1,p1,q1,r1,s1⟩;have HB1:=Lib.hid (below_next HBw.out hb1);clear hb1)|(go_at_call 237;(with_reducible refine(H2.out _).mono ?_);rintro e W2 ⟨g2,cap2,rfl,hb2,hg2,hl2,p2,q2,r2,s2⟩;have HB2:=Lib.hid (below_next HB1.out hb2);clear hb2)|(go_at_call 237;(with_reducible refine(H3.out _).mono ?_);rintro e W3 ⟨g3,cap3,rfl,hb3,hg3,hl3,p3,q3,r3,s3⟩;have HB3:=Lib.hid (below_next HB2.out hb3);clear hb3)|(go_at_call 237;(with_reducible refine(H4.out _).mono ?_);rintro e W4 ⟨g4,cap4,rfl,hb4,hg4,hl4,p4,q4,r4,s4⟩;have HB4:=Lib.hid (below_next HB3.out hb4);clear hb4))
  go_ret
  exact Ret.of (by rw[HD.out];rfl) HB4.out
 cases t1:(a1.toList==[114,103,98])
 rotate_left
 ·have HD:Hid (D=true):=by show _=_;rw[HN.out,k2,k0,ke,t1];first|rfl|simp
  go_enter Tryz.func175,Tryz.ntmps175
  go_wp2_with(first|(go_at_call 237;(with_reducible refine(H1.out _).mono ?_);rintro e W1 ⟨g1,cap1,rfl,hb1,hg1,hl1,p1,q1,r1,s1⟩;have HB1:=Lib.hid (below_next HBw.out hb1);clear hb1))
  go_ret
  exact Ret.of (by rw[HD.out];rfl) HB1.out
 cases t2:(a1.toList==[114,103,98,97])
 rotate_left
 ·have HD:Hid (D=true):=by show _=_;rw[HN.out,k2,k0,ke,t1,t2];first|rfl|simp
  go_enter Tryz.func175,Tryz.ntmps175
  go_wp2_with(first|(go_at_call 237;(with_reducible refine(H1.out _).mono ?_);rintro e W1 ⟨g1,cap1,rfl,hb1,hg1,hl1,p1,q1,r1,s1⟩;have HB1:=Lib.hid (below_next HBw.out hb1);clear hb1)|(go_at_call 237;(with_reducible refine(H2.out _).mono ?_);rintro e W2 ⟨g2,cap2,rfl,hb2,hg2,hl2,p2,q2,r2,s2⟩;have HB2:=Lib.hid (below_next HB1.out hb2);clear hb2))
  go_ret
  exact Ret.of (by rw[HD.out];rfl) HB2.out
 cases t3:(a1.toList==[104,115,108])
 rotate_left
 ·have HD:Hid (D=true):=by show _=_;rw[HN.out,k2,k0,ke,t1,t2,t3];first|rfl|simp
  go_enter Tryz.func175,Tryz.ntmps175
  go_wp2_with(first|(go_at_call 237;(with_reducible refine(H1.out _).mono ?_);rintro e W1 ⟨g1,cap1,rfl,hb1,hg1,hl1,p1,q1,r1,s1⟩;have HB1:=Lib.hid (below_next HBw.out hb1);clear hb1)|(go_at_call 237;(with_reducible refine(H2.out _).mono ?_);rintro e W2 ⟨g2,cap2,rfl,hb2,hg2,hl2,p2,q2,r2,s2⟩;have HB2:=Lib.hid (below_next HB1.out hb2);clear hb2)|(go_at_call 237;(with_reducible refine(H3.out _).mono ?_);rintro e W3 ⟨g3,cap3,rfl,hb3,hg3,hl3,p3,q3,r3,s3⟩;have HB3:=Lib.hid (below_next HB2.out hb3);clear hb3))
  go_ret
  exact Ret.of (by rw[HD.out];rfl) HB3.out
 cases t4:(a1.toList==[104,115,108,97])
 rotate_left
 ·have HD:Hid (D=true):=by show _=_;rw[HN.out,k2,k0,ke,t1,t2,t3,t4];first|rfl|simp
  go_enter Tryz.func175,Tryz.ntmps175
  go_wp2_with(first|(go_at_call 237;(with_reducible refine(H1.out _).mono ?_);rintro e W1 ⟨g1,cap1,rfl,hb1,hg1,hl1,p1,q1,r1,s1⟩;have HB1:=Lib.hid (below_next HBw.out hb1);clear hb1)|(go_at_call 237;(with_reducible refine(H2.out _).mono ?_);rintro e W2 ⟨g2,cap2,rfl,hb2,hg2,hl2,p2,q2,r2,s2⟩;have HB2:=Lib.hid (below_next HB1.out hb2);clear hb2)|(go_at_call 237;(with_reducible refine(H3.out _).mono ?_);rintro e W3 ⟨g3,cap3,rfl,hb3,hg3,hl3,p3,q3,r3,s3⟩;have HB3:=Lib.hid (below_next HB2.out hb3);clear hb3)|(go_at_call 237;(with_reducible refine(H4.out _).mono ?_);rintro e W4 ⟨g4,cap4,rfl,hb4,hg4,hl4,p4,q4,r4,s4⟩;have HB4:=Lib.hid (below_next HB3.out hb4);clear hb4))
  go_ret
  exact Ret.of (by rw[HD.out];rfl) HB4.out
 have HD:Hid (D=false):=by show _=_;rw[HN.out,k2,k0,ke,t1,t2,t3,t4];rfl
 go_enter Tryz.func175,Tryz.ntmps175
 go_wp2_with(first|(go_at_call 237;(with_reducible refine(H1.out _).mono ?_);rintro e W1 ⟨g1,cap1,rfl,hb1,hg1,hl1,p1,q1,r1,s1⟩;have HB1:=Lib.hid (below_next HBw.out hb1);clear hb1)|(go_at_call 237;(with_reducible refine(H2.out _).mono ?_);rintro e W2 ⟨g2,cap2,rfl,hb2,hg2,hl2,p2,q2,r2,s2⟩;have HB2:=Lib.hid (below_next HB1.out hb2);clear hb2)|(go_at_call 237;(with_reducible refine(H3.out _).mono ?_);rintro e W3 ⟨g3,cap3,rfl,hb3,hg3,hl3,p3,q3,r3,s3⟩;have HB3:=Lib.hid (below_next HB2.out hb3);clear hb3)|(go_at_call 237;(with_reducible refine(H4.out _).mono ?_);rintro e W4 ⟨g4,cap4,rfl,hb4,hg4,hl4,p4,q4,r4,s4⟩;have HB4:=Lib.hid (below_next HB3.out hb4);clear hb4))
 go_ret
 exact Ret.of (by rw[HD.out];rfl) HB4.out
end Go.Proofs.YtiikamobcmgekaaGreatDoor
