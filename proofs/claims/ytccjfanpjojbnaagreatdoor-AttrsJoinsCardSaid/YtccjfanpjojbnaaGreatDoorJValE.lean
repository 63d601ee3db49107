import Derived.Test.YtccjfanpjojbnaaGreatDoorJCssR
import Derived.Test.YtccjfanpjojbnaaGreatDoorFltPlainC
namespace Go.Proofs.YtccjfanpjojbnaaGreatDoor
open Bool renaming eq_iff_iff→bK
open Go.Ending renaming returned→aL
open Go.IntKind renaming i64→aC
open Lib renaming hid→aA
open Tryz renaming func178→ji,func179→Ya,func237→zo,ntmps178→jb,ntmps179→Xs,ntmps237→yj,prog→aE
open Go.Value renaming bool→aI,int→aB,slice→aF,string→aD
set_option maxRecDepth 100000
set_option maxHeartbeats 4000000
open Go.RowKit Go.Shelf
theorem YS (l:List aK): ∀u∈bC l,u.oneCell'=true:=by
 intro u hu;rw[bC,List.mem_flatMap]at hu;obtain⟨p,_,hp⟩:=hu;simp[aK.cells,sv]at hp;rcases hp with rfl|rfl|rfl|rfl<;>rfl
theorem YU (l m:List aK):bC (l++m)=bC l++bC m:=by rw[bC,bC,bC,List.flatMap_append]
theorem BN (n:Int) (u:Bs) (w:World) (h0: -9223372036854775<=n) (h1:n<=9223372036854775):Calls aE 256 #[aB aC n,aD ⟨u.toArray⟩] w (aH (aK.agg (cT n u)) w):=by
 simp only[aK.agg,cT,sv];generalize(⟨u.toArray⟩:ByteArray)=U at*;go_enter Tryz.func256,Tryz.ntmps256;go_wp2_with fail
 ((try simp only[Exit.inBlock,Exit.then]);refine bodyPost_ret (v:= Value.agg #[aB aC 3,aD ⟨#[]⟩,aB aC (n*1000),aD U]) (by(first|rw[results_cell_tmp rfl]|rw[fB rfl]);go_simp) rfl ?_);exact aH.of rfl aG
theorem LY (t:Bs) (w:World):Calls aE 180 #[aD ⟨t.toArray⟩] w (aH (aK.agg ⟨6,t,0,[]⟩) w):=by
 simp only[aK.agg,sv];generalize(⟨t.toArray⟩:ByteArray)=U at*;go_enter Tryz.func180,Tryz.ntmps180;go_wp2_with fail
 ((try simp only[Exit.inBlock,Exit.then]);refine bodyPost_ret (v:= Value.agg #[aB aC 6,aD U,aB aC 0,aD ⟨#[]⟩]) (by(first|rw[results_cell_tmp rfl]|rw[fB rfl]);go_simp) rfl ?_);exact aH.of rfl aG
theorem ZF (nm:Bs) (A:Option Addr) (n c:Nat) (l:List aK) (w:World) (h:Rd w (aF A n c) l.length 4 (bC l)) (hn:A=none->c=0) (hl:l.length<=1000000000):
  Calls aE 219 #[aD ⟨nm.toArray⟩,aF A n c] w (lQ w (l.length+2) 4 209 (bC (dX nm::l++[bP 41]))):=by
 have HR:=aA h;have HN:=aA hn;obtain⟨_,hm,A',c',heq,_⟩:=h;cases heq;have HM:=aA (λW=>LY [41] W);have HC:Hid (bC (dX nm::(l++[bP 41]))=[aB aC 2,aD ⟨nm.toArray⟩,aB aC 0,aD ⟨#[]⟩]++bC l++[aB aC 6,aD ⟨#[41]⟩,aB aC 0,aD ⟨#[]⟩]):=by
  show _=_;rw[<-List.cons_append,YU,bC,List.flatMap_cons];rfl
 simp only[aK.agg,sv]at HM;generalize(⟨nm.toArray⟩:ByteArray)=U at*;clear hn;have HNw:Hid (∀W,Below w.heap.size w W->_):=λW hB=>xL HR.out HN.out hB;obtain⟨x0,hx0⟩: ∃x,aF A l.length c=x:=⟨_,rfl⟩;rw[hx0]at HNw ⊢;have HR1:=aA HR.out.1;clear HR HN hx0;go_enter Tryz.func219,Tryz.ntmps219;go_wp2_with(first
  |(go_at_call 180;(with_reducible refine zG (HM.out _) λY1=>?_))
  |(at_builtin;(refine mJ rfl _ _ 175 rfl CQ w.heap.size rfl ((jT HO3.out _).alloc _) (by have:=HB3.out.size;simp[nR];omega) ⟨_,0,none⟩ 1 1 [aB aC 6,aD ⟨#[41]⟩,aB aC 0,aD ⟨#[]⟩] rfl rfl (eR (c:= #[aB aC 6,aD ⟨#[41]⟩,aB aC 0,aD ⟨#[]⟩]) (by simp[go_sem])) (by simp[Value.oneCell']) (by unfold maxLen;omega) om ?_);intro v4 W4 ho4 hg4;(have HB4:=sE hg4 ((jT HO3.out _).alloc _) (Below.alloc (Below.grow HB3.out HB3.out.size _) (by have:=HB3.out.size;simp[nR];omega) _));have HO4:=aA ho4;clear ho4 hg4)
  |(at_builtin;(refine GP rfl _ _ 175 rfl CQ w.heap.size rfl (lW (c:= #[aB aC 2,aD U,aB aC 0,aD ⟨#[]⟩]) (n:=1) rfl dc) (by simp) l.length (bC l) (HNw.out _ aG) HR1.out (YS l) (by unfold maxLen;omega) om ?_);intro v3 W3 ho3 hg3;(have HB3:=sE hg3 (lW (c:= #[aB aC 2,aD U,aB aC 0,aD ⟨#[]⟩]) (n:=1) (size:=4) rfl dc) (show Below w.heap.size w _ from aG));have HO3:=aA ho3;clear ho3 hg3))
 go_ret;rw[HC.out];have ho:=HO4.out;rw[show 1+l.length+1=l.length+2 by omega]at ho;exact lQ.own HB4.out ho (Nat.le_refl _)
structure OD (s:St):Prop where
 xlo: -9223372036854775<=s.x
 xhi:s.x<=9223372036854775
 ylo: -9223372036854775<=s.y
 yhi:s.y<=9223372036854775
 klo: -9223372036854775808<=s.k
 khi:s.k<=9223372036854775807
 deg:s.k=2-> -9223372036854775<=90*s.x/\90*s.x<=9223372036854775
theorem uN {W:World} {c:Array Value} {e:TypeId} {n size B:Nat} {cells:List Value} (hc:c.size=n*size) (hn:n<=maxLen) (hB:B=W.heap.size) (he:c.toList=cells):Rd (W.alloc (.cells c e)) (aF (some ⟨B,0,none⟩) n n) n size cells:=by
 subst hB he;exact Rd.own (lW hc hn)
theorem GK (nm:Bs) (b n:Nat) (l:List aK) (W:World) (h:Rd W (aF (some ⟨b,0,none⟩) n n) n 4 (bC l)) (hn:l.length=n) (hl:n<=1000000000):
  Calls aE 219 #[aD ⟨nm.toArray⟩,aF (some ⟨b,0,none⟩) n n] W (lQ W (n+2) 4 209 (bC (dX nm::l++[bP 41]))):=by
 subst hn;exact ZF nm _ _ _ l W h (λh=>by cases h) hl
theorem AV (s:St) (w:World) (hs:OD s):Calls aE 237 #[s.val] w (lQ w (cZ s).length 4 209 (bC (cZ s))):=by
 have hmx:=bX;obtain⟨xlo,xhi,ylo,yhi,klo,khi,deg⟩:=hs;obtain⟨k,x,y⟩:=s;simp only at xlo xhi ylo yhi klo khi deg;unfold St.val;simp only;by_cases k1:k=1
 .subst k1;have HN1:=aA (λW=>BN x mU W xlo xhi);have HN2:=aA (λW=>BN y mU W ylo yhi);have HMk:=aA (λW=>LY [44] W);have HC:=aA (λb W (h:Rd W (aF (some ⟨b,0,none⟩) 3 3) 3 4 (bC [cT x mU,bP 44,cT y mU]))=>GK rD b 3 [cT x mU,bP 44,cT y mU] W h rfl om);simp only[aK.agg,sv,cT]at HN1 HN2 HMk;simp only[mU,rD]at HN1 HN2 HC;go_enter zo,yj;go_wp2_with fail
  obtain⟨W0,hW0⟩: ∃W0,w.alloc (.cells #[aB aC 1,aB aC x,aB aC y] 260)=W0:=⟨_,rfl⟩;have HBW:Hid (Below w.heap.size w W0):=by show Below _ _ _;rw[<-hW0];exact aG
  have hlt0:w.heap.size<W0.heap.size:=by rw[<-hW0];simp
  have c1:W0.cell? ⟨w.heap.size,1,none⟩=some (aB aC x):=by rw[<-hW0];simp[go_sem]
  have c2:W0.cell? ⟨w.heap.size,2,none⟩=some (aB aC y):=by rw[<-hW0];simp[go_sem]
  have HK2:Hid (∀W,Below W0.heap.size W0 W->W.cell? ⟨w.heap.size,1,none⟩=some (aB aC x)/\W.cell? ⟨w.heap.size,2,none⟩=some (aB aC y)):=λW hW=>⟨(hW.cell hlt0).trans c1,(hW.cell hlt0).trans c2⟩;rw[hW0];clear hW0 c1 c2;go_region_held3 (λW=>W.cell? ⟨w.heap.size,1,none⟩=some (aB aC x)/\W.cell? ⟨w.heap.size,2,none⟩=some (aB aC y))
   (exact HK2.out _ aG)
   (first
    |(go_at_call 256;(with_reducible refine zG (HN1.out _) λX1=>?_))
    |(go_at_call 256;(with_reducible refine zG (HN2.out _) λX3=>?_))
    |(go_at_call 180;(with_reducible refine zG (HMk.out _) λX2=>?_))
    |(go_at_call 219;(refine(HC.out _ _ (by first|exact uN (n:=3) (size:=4) rfl dc rfl rfl|exact uN (n:=3) (size:=4) rfl dc (by simp[go_sem]) rfl)).mono ?_);rintro e w' ⟨v4,X4,rfl,rfl,ho4⟩))
  all_goals(go_wp2;go_ret;exact lQ.own (aP HBW.out aG) ho4 (by have:=HBW.out.size;simp[nR]<;>omega))
 have b1:(k==1)=false:=by simpa using k1
 by_cases k2:k=2
 .subst k2;have HN1:=aA (λW=>BN (90*x) wM W (deg rfl).1 (deg rfl).2);have HC:=aA (λb W (h:Rd W (aF (some ⟨b,0,none⟩) 1 1) 1 4 (bC [cT (90*x) wM]))=>GK rX b 1 [cT (90*x) wM] W h rfl om);have hd1:=(deg rfl).1;have hd2:=(deg rfl).2;simp only[aK.agg,sv,cT]at HN1;simp only[wM,rX]at HN1 HC;go_enter zo,yj;go_wp2_with(first
   |(go_at_call 256;(with_reducible refine zG (HN1.out _) λX1=>?_))
   |(go_at_call 219;(refine(HC.out _ _ (by first|exact uN (n:=1) (size:=4) rfl dc rfl rfl|exact uN (n:=1) (size:=4) rfl dc (by simp[go_sem]) rfl)).mono ?_);rintro e w' ⟨v4,X4,rfl,rfl,ho4⟩))
  go_ret;exact lQ.own aG ho4 (by simp[nR]<;>omega)
 have b2:(k==2)=false:=by simpa using k2
 by_cases k3:k=3
 .subst k3;have HN1:=aA (λW=>BN x [] W xlo xhi);have HC:=aA (λb W (h:Rd W (aF (some ⟨b,0,none⟩) 1 1) 1 4 (bC [cT x []]))=>GK sA b 1 [cT x []] W h rfl om);simp only[aK.agg,sv,cT]at HN1;simp only[sA]at HN1 HC;go_enter zo,yj;go_wp2_with(first
   |(go_at_call 256;(with_reducible refine zG (HN1.out _) λX1=>?_))
   |(go_at_call 219;(refine(HC.out _ _ (by first|exact uN (n:=1) (size:=4) rfl dc rfl rfl|exact uN (n:=1) (size:=4) rfl dc (by simp[go_sem]) rfl)).mono ?_);rintro e w' ⟨v4,X4,rfl,rfl,ho4⟩))
  go_ret;exact lQ.own aG ho4 (by simp[nR]<;>omega)
 have b3:(k==3)=false:=by simpa using k3
 have HT:Hid (cZ ⟨k,x,y⟩=dX uS::[cT (-1) []]++[bP 41]):=by
  show _=_;unfold cZ;rw[if_neg k1,if_neg k2,if_neg k3];rfl
 rw[HT.out];have HN1:=aA (λW=>BN (-1) [] W om om);have HC:=aA (λb W (h:Rd W (aF (some ⟨b,0,none⟩) 1 1) 1 4 (bC [cT (-1) []]))=>GK uS b 1 [cT (-1) []] W h rfl om);simp only[aK.agg,sv,cT]at HN1;simp only[uS]at HN1 HC;go_enter zo,yj;go_wp2_with(first
  |(go_at_call 256;(with_reducible refine zG (HN1.out _) λX1=>?_))
  |(go_at_call 219;(refine(HC.out _ _ (by first|exact uN (n:=1) (size:=4) rfl dc rfl rfl|exact uN (n:=1) (size:=4) rfl dc (by simp[go_sem]) rfl)).mono ?_);rintro e w' ⟨v4,X4,rfl,rfl,ho4⟩))
 go_ret;exact lQ.own aG ho4 (by simp[nR]<;>omega)
theorem QR (n:Int):(n.tdiv 1000).natAbs=n.natAbs/1000:=by rw[Int.natAbs_tdiv];rfl
theorem Rv (A:Option Addr) (n c:Nat) (l:List aK) (i:Nat) (w:World) (h:Rd w (aF A n c) l.length 4 (bC l)) (_:l.length<=1000000000) (hok: ∀x∈l,jY x):
  Calls aE 253 #[aF A n c,aB aC i] w (aH (aB aC (gO l i)) w):=by
 have HR:=aA h;obtain⟨_,hm,A',c',heq,_⟩:=h;cases heq;by_cases hlt:i<l.length
 .obtain⟨b,off,rfl,hb,c0,c1,c2,c3⟩:=HR.out.css i hlt;have HN:Hid (gO l i=l[i].num.tdiv 1000):=by show _=_;unfold gO;rw[List.getElem?_eq_getElem hlt]
  have bi: ¬((l.length:Int)<=i):=by omega
  have hbd:=hok _ (List.getElem_mem hlt);have q1:=hbd.nlo;have q2:=hbd.nhi;have hq:wrap64 (l[i].num.tdiv 1000)=l[i].num.tdiv 1000:=IntWalk.wrap64_in _ (by have e:=QR l[i].num;omega);clear hbd hok;generalize l[i]=x at*;simp only[sv]at c1 c3;generalize x.num=nn at*;generalize x.kind=kk at*;generalize(⟨x.text.toArray⟩:ByteArray)=a1 at*;generalize(⟨x.unit.toArray⟩:ByteArray)=a2 at*;go_enter Tryz.func253,Tryz.ntmps253;go_wp2_with fail
  go_ret;exact aH.of (by rw[HN.out];first|rfl|simp) aG
 .have HN:Hid (gO l i=0):=by show _=_;unfold gO;rw[List.getElem?_eq_none om]
  have bi:(l.length:Int)<=i:=by omega
  go_enter Tryz.func253,Tryz.ntmps253;go_wp2_with fail
  go_ret;exact aH.of (by rw[HN.out];rfl) aG
theorem Km (c:UInt8):oF (bits .or .u8 c.toNat 32) 97 102=decide (65<=c.toNat/\c.toNat<=70\/97<=c.toNat/\c.toNat<=102):=by
 have h: ∀n:Fin 256,oF (bits .or .u8 ((n.val:Nat):Int) 32) 97 102=decide (65<=n.val/\n.val<=70\/97<=n.val/\n.val<=102):=by decide+kernel
 exact h ⟨c.toNat,c.toNat_lt⟩
theorem Kn (c:UInt8) (w:World):Calls aE 154 #[.int .u8 c.toNat] w λe w'=>e=aL (aI (wE c))/\w=w':=by
 have HB:Hid (wE c=(aQ c||decide (65<=c.toNat/\c.toNat<=70\/97<=c.toNat/\c.toNat<=102))):=rfl;have HBt:=aA (Km c);cases hd0:aQ c;all_goals
  have HD:Hid (∀W,Calls aE 109 #[.int .u8 c.toNat] W λe w'=>e=aL (aI _)/\W=w'):=λW=>hd0 ▸ qD c W;go_enter Tryz.func154,Tryz.ntmps154;go_wp2_with(first|(go_at_call 109;(with_reducible refine zQ (HD.out _) ?_))|(go_at_call 107;refine(vB _ _ _ _).mono ?_;rintro e w' ⟨rfl,rfl⟩))
  all_goals go_ret
  all_goals exact⟨mS (by rw[HB.out,hd0];first|rfl|(rw[Bool.false_or];exact HBt.out)|simp),rfl⟩
theorem Kl (c:UInt8) (w:World):Calls aE 238 #[.int .u8 c.toNat] w λe w'=>e=aL (aI (!wE c))/\w=w':=by
 go_enter Tryz.func238,Tryz.ntmps238;go_wp2_with(go_at_call 154;refine(Kn _ _).mono ?_;rintro e w' ⟨rfl,rfl⟩)
 go_ret;exact⟨rfl,rfl⟩
theorem Kk:pB 238 (λc=> !wE c):=⟨enters_of Tryz.func238 kr rfl,Kl⟩
theorem K3 (s:ByteArray) (w:World):Calls aE 217 #[aD s] w (aH (aI (yQ s.data.toList)) w):=by
 obtain⟨D,hD⟩: ∃D,yQ s.data.toList=D:=⟨_,rfl⟩;have HU:Hid (D=(s.toList.isEmpty||(s.toList==[37])||(s.toList==[112,120])||(s.toList==[101,109])||(s.toList==[114,101,109])||(s.toList==[112,116])||(s.toList==[118,104])||(s.toList==[118,119])||(s.toList==[100,101,103])||(s.toList==[115])||(s.toList==[109,115]))):=by
  show _=_;rw[<-hD];unfold yQ mU wM;rw[ByteArray.toList_eq,bK];simp[or_assoc]
 rw[hD];clear hD;go_enter Tryz.func217,Tryz.ntmps217;go_wp2_with fail
 all_goals go_ret
 all_goals exact aH.of (by rw[HU.out];simp_all) aG
theorem Kq (s:ByteArray) (w:World) (hm:s.size<=9223372036854775807):Calls aE 218 #[aD s] w (aH (aI (wF s.data.toList)) w):=by
 have HB:=aA (λW=>cU s ▸ NT W 5 s (grownCap W s.size 0 5) hm);have hcv: ∀W:World,(convert 9 130 (aD s)).run aE W= .ok (aF (some ⟨W.heap.size,0,none⟩) s.size (grownCap W s.size 0 5)) (W.grow (kZ W 5 s)):=λW=>AC W _ _ _ s Tryz.underlying9 Tryz.underlying130 Tryz.underlying5;have HU:Hid (wF s.data.toList=(decide (s.size=3\/s.size=4\/s.size=6\/s.size=8)&& !s.data.toList.any (λc=> !wE c))):=by
  show _=_;unfold wF;rw[cU];congr 1;rw[List.any_eq_not_all_not];simp
 have HC:=aA (λW h=>YV (aF (some ⟨W.heap.size,0,none⟩) s.size (grownCap W s.size 0 5)) s.data.toList _ _ (W.grow (kZ W 5 s)) h Kk);by_cases h:s.size=3\/s.size=4\/s.size=6\/s.size=8
 .rw[decide_eq_true h]at HU;generalize s.data.toList.any (λc=> !wE c)=an at*;generalize wF s.data.toList=D at*;rcases h with h|h|h|h
  all_goals
   have e3:((s.size:Int)==3)=decide (s.size=3):=by rw[bK];simp;omega
   have e4:((s.size:Int)==4)=decide (s.size=4):=by rw[bK];simp;omega
   have e6:((s.size:Int)==6)=decide (s.size=6):=by rw[bK];simp;omega
   have e8:((s.size:Int)==8)=decide (s.size=8):=by rw[bK];simp;omega
   have d3:decide (s.size=3)=_:=congrArg (λn:Nat=>decide (n=3)) h;have d4:decide (s.size=4)=_:=congrArg (λn:Nat=>decide (n=4)) h;have d6:decide (s.size=6)=_:=congrArg (λn:Nat=>decide (n=6)) h;have d8:decide (s.size=8)=_:=congrArg (λn:Nat=>decide (n=8)) h;rw[d3]at e3;rw[d4]at e4;rw[d6]at e6;rw[d8]at e8;simp only[decide_true,Nat.reduceEqDiff,decide_false]at e3 e4 e6 e8;clear h d3 d4 d6 d8;go_enter Tryz.func218,Tryz.ntmps218;go_wp2_with(go_at_call 110;(refine(HC.out _ (HB.out _)).mono ?_);rintro e w' ⟨rfl,rfl⟩)
   go_ret;exact aH.of (by rw[HU.out];rfl) aG
 .rw[decide_eq_false h]at HU;generalize s.data.toList.any (λc=> !wE c)=an at*;generalize wF s.data.toList=D at*;have e3:((s.size:Int)==3)=false:=by rw[beq_eq_false_iff_ne];omega
  have e4:((s.size:Int)==4)=false:=by rw[beq_eq_false_iff_ne];omega
  have e6:((s.size:Int)==6)=false:=by rw[beq_eq_false_iff_ne];omega
  have e8:((s.size:Int)==8)=false:=by rw[beq_eq_false_iff_ne];omega
  clear h HC HB hcv;go_enter Tryz.func218,Tryz.ntmps218;go_wp2_with fail
  go_ret;exact aH.of (by rw[HU.out];rfl) aG
theorem Cm (x:aK):BJ x=if x.kind=1 then true else if x.kind=5 then true else if x.kind=3 then yQ x.unit else if x.kind=4 then wF x.text else if x.kind=6 then(decide (x.text=[44])||decide (x.text=[47]))else false:=by
 unfold BJ;by_cases h1:x.kind=1
 .simp[h1]
 by_cases h5:x.kind=5
 .simp[h5]
 rw[if_neg om,if_neg h1,if_neg h5];congr 2;rw[Bool.decide_or]
theorem Cl (x:aK) (w:World) (hw:Tb w) (hx:Mx w) (ho:jY x) (h1:x.text.length<=1000000) (h2:x.unit.length<=1000000):Calls aE 178 #[aK.agg x] w (aH (aI (sD x)) w):=by
 have hmx:=bX;have HB:=aA (λW (hB:Below w.heap.size w W)=>And.intro (Tb.below hw hB) (Mx.below hx hB));obtain⟨R,hR⟩: ∃R,cR x=R:=⟨_,rfl⟩;obtain⟨U,hU⟩: ∃U,yQ x.unit=U:=⟨_,rfl⟩;obtain⟨H,hH⟩: ∃H,wF x.text=H:=⟨_,rfl⟩;have HRt:=aA (λW (hW:Tb W) (hX:Mx W)=>hR ▸ KX x W hW hX ho h1 h2);have HU:=aA (λW=>show Calls aE 217 #[aD ⟨x.unit.toArray⟩] W (aH (aI U) W)from hU ▸ K3 ⟨x.unit.toArray⟩ W);have HH:=aA (λW=>show Calls aE 218 #[aD ⟨x.text.toArray⟩] W (aH (aI H) W)from hH ▸ Kq ⟨x.text.toArray⟩ W (by show x.text.length<=_;omega));have HN:Hid (sD x=((if x.kind=1 then true else if x.kind=5 then true else if x.kind=3 then U else if x.kind=4 then H else if x.kind=6 then(((⟨x.text.toArray⟩:ByteArray).toList==[44])||((⟨x.text.toArray⟩:ByteArray).toList==[47]))else false)&&R)):=by
  show _=_;have z1:((⟨x.text.toArray⟩:ByteArray).toList==[44])=decide (x.text=[44]):=by rw[ByteArray.toList_eq,bK];simp
  have z2:((⟨x.text.toArray⟩:ByteArray).toList==[47])=decide (x.text=[47]):=by rw[ByteArray.toList_eq,bK];simp
  rw[sD,Cm,hR,hU,hH,z1,z2]
 obtain⟨D,hD⟩: ∃D,sD x=D:=⟨_,rfl⟩;rw[hD]at HN ⊢;clear hD hR hU hH hw hx ho h1 h2;simp only[aK.agg,sv]at HRt ⊢;generalize(⟨x.text.toArray⟩:ByteArray)=a1 at*;generalize(⟨x.unit.toArray⟩:ByteArray)=a2 at*;generalize x.num=nn at*;by_cases k1:x.kind=1
 .rw[k1]at HN HRt ⊢;go_enter ji,jb;go_wp2_with(go_at_call 181;(refine(HRt.out _ (HB.out _ aG).1 (HB.out _ aG).2).mono ?_);rintro e w' ⟨rfl,X1,rfl⟩)
  go_ret;exact aH.of (by rw[HN.out];rfl) aG
 by_cases k5:x.kind=5
 .rw[k5]at HN HRt ⊢;go_enter ji,jb;go_wp2_with(go_at_call 181;(refine(HRt.out _ (HB.out _ aG).1 (HB.out _ aG).2).mono ?_);rintro e w' ⟨rfl,X1,rfl⟩)
  go_ret;exact aH.of (by rw[HN.out];rfl) aG
 by_cases k3:x.kind=3
 .rw[k3]at HN HRt ⊢;cases U;all_goals
   have HU2:=aA HU.out;go_enter ji,jb;go_wp2_with(first|(go_at_call 217;(with_reducible refine zG (HU2.out _) λX2=>?_))|(go_at_call 181;(refine(HRt.out _ (HB.out _ aG).1 (HB.out _ aG).2).mono ?_);rintro e w' ⟨rfl,X1,rfl⟩))
   go_ret;exact aH.of (by rw[HN.out];first|rfl|simp) aG
 by_cases k4:x.kind=4
 .rw[k4]at HN HRt ⊢;cases H;all_goals
   have HH2:=aA HH.out;go_enter ji,jb;go_wp2_with(first|(go_at_call 218;(with_reducible refine zG (HH2.out _) λX2=>?_))|(go_at_call 181;(refine(HRt.out _ (HB.out _ aG).1 (HB.out _ aG).2).mono ?_);rintro e w' ⟨rfl,X1,rfl⟩))
   go_ret;exact aH.of (by rw[HN.out];first|rfl|simp) aG
 by_cases k6:x.kind=6
 .rw[k6]at HN HRt ⊢;cases m1:(a1.toList==[44])<;>cases m2:(a1.toList==[47]);all_goals
   go_enter ji,jb;go_wp2_with(go_at_call 181;(refine(HRt.out _ (HB.out _ aG).1 (HB.out _ aG).2).mono ?_);rintro e w' ⟨rfl,X1,rfl⟩)
   go_ret;exact aH.of (by rw[HN.out,m1,m2];first|rfl|simp) aG
 .have b1:(x.kind==1)=false:=by simpa using k1
  have b5:(x.kind==5)=false:=by simpa using k5
  have b3:(x.kind==3)=false:=by simpa using k3
  have b4:(x.kind==4)=false:=by simpa using k4
  have b6:(x.kind==6)=false:=by simpa using k6
  have HN2:Hid (D=false):=by show _=_;rw[HN.out,if_neg k1,if_neg k5,if_neg k3,if_neg k4,if_neg k6];rfl
  generalize x.kind=kk at*;go_enter ji,jb;go_wp2_with fail
  go_ret;exact aH.of (by rw[HN2.out];rfl) aG
theorem Qp (nm:Bs) (W:World):Calls aE 219 #[aD ⟨nm.toArray⟩,aF none 0 0] W λe w'=> ∃g cap,e=aL (aF (some ⟨g,0,none⟩) 2 cap)/\Below W.heap.size W w'/\W.heap.size<=g/\g<w'.heap.size/\
  w'.cell? ⟨g,0,none⟩=some (aB aC 2)/\w'.cell? ⟨g,1,none⟩=some (aD ⟨nm.toArray⟩)/\w'.cell? ⟨g,2,none⟩=some (aB aC 0)/\w'.cell? ⟨g,3,none⟩=some (aD ⟨#[]⟩):=by
 refine(ZF nm none 0 0 [] W (Rd.nil W 4) (λ_=>rfl) (by simp)).mono ?_;rintro e w' ⟨v,X,rfl,rfl,ho⟩;obtain⟨g,cap,rfl⟩:=Go.Joins.ownsRow_form ho (by simp);obtain⟨_,a,cap',hv,_,hc⟩:=LH ho;cases hv;rcases hc with hc|⟨b,hb,h1,h2,h3⟩
 .simp at hc
 .cases hb;exact⟨g,cap,rfl,dG W X,h1,h2,h3 0 _ rfl,h3 1 _ rfl,h3 2 _ rfl,h3 3 _ rfl⟩
theorem Pn (x:aK):rI x=(decide (x.kind=2)&&decide (x.num=0)&&decide (x.unit=[])&&(decide (x.text=EI)||decide (x.text=EH)||decide (x.text=FP)||decide (x.text=FO))):=by
 unfold rI;obtain⟨k,t,n,u⟩:=x;rw[bK];simp only[dX,aK.mk.injEq,decide_eq_true_eq,Bool.and_eq_true,Bool.or_eq_true];constructor
 .rintro(⟨h1,h2,h3,h4⟩|⟨h1,h2,h3,h4⟩|⟨h1,h2,h3,h4⟩|⟨h1,h2,h3,h4⟩)<;>simp[h1,h2,h3,h4]
 .rintro⟨⟨⟨h1,h3⟩,h4⟩,((h2|h2)|h2)|h2⟩<;>simp[h1,h2,h3,h4]
theorem Po (x:aK) (w:World):Calls aE 179 #[aK.agg x] w (aH (aI (rI x)) w):=by
 have HC:=aA (λnm W=>Qp nm W);have HN:Hid (rI x=((x.kind==2)&&(x.num==0)&&(⟨x.unit.toArray⟩:ByteArray).toList.isEmpty&&(((⟨x.text.toArray⟩:ByteArray).toList==[114,103,98])||((⟨x.text.toArray⟩:ByteArray).toList==[114,103,98,97])||((⟨x.text.toArray⟩:ByteArray).toList==[104,115,108])||((⟨x.text.toArray⟩:ByteArray).toList==[104,115,108,97])))):=by
  show _=_;have z: ∀t:Bs,((⟨x.text.toArray⟩:ByteArray).toList==t)=decide (x.text=t):=λt=>by rw[ByteArray.toList_eq,bK];simp
  rw[Pn,z,z,z,z,tN];simp only[EI,EH,FP,FO];congr 1
 obtain⟨D,hD⟩: ∃D,rI x=D:=⟨_,rfl⟩;rw[hD]at HN ⊢;clear hD;simp only[aK.agg,sv];have H1:=aA (λW=>HC.out [114,103,98] W);have H2:=aA (λW=>HC.out [114,103,98,97] W);have H3:=aA (λW=>HC.out [104,115,108] W);have H4:=aA (λW=>HC.out [104,115,108,97] W);clear HC;generalize(⟨x.text.toArray⟩:ByteArray)=a1 at*;generalize(⟨x.unit.toArray⟩:ByteArray)=a2 at*;generalize x.num=nn at*;generalize x.kind=kk at*;have HBw:Hid (Below w.heap.size w (w.alloc (.cells #[aB aC kk,aD a1,aB aC nn,aD a2] 209))):=by show Below _ _ _;exact aG
 cases k2:(kk==2)
 .have HD:Hid (D=false):=by show _=_;rw[HN.out,k2];rfl
  go_enter Ya,Xs;go_wp2_with(first|(go_at_call 219;(with_reducible refine(H1.out _).mono ?_);rintro e W1 ⟨g1,cap1,rfl,hb1,hg1,hl1,p1,q1,r1,s1⟩;have HB1:=aA (aP HBw.out hb1);clear hb1)|(go_at_call 219;(with_reducible refine(H2.out _).mono ?_);rintro e W2 ⟨g2,cap2,rfl,hb2,hg2,hl2,p2,q2,r2,s2⟩;have HB2:=aA (aP HB1.out hb2);clear hb2)|(go_at_call 219;(with_reducible refine(H3.out _).mono ?_);rintro e W3 ⟨g3,cap3,rfl,hb3,hg3,hl3,p3,q3,r3,s3⟩;have HB3:=aA (aP HB2.out hb3);clear hb3)|(go_at_call 219;(with_reducible refine(H4.out _).mono ?_);rintro e W4 ⟨g4,cap4,rfl,hb4,hg4,hl4,p4,q4,r4,s4⟩;have HB4:=aA (aP HB3.out hb4);clear hb4))
  go_ret;exact aH.of (by rw[HD.out];rfl) HB4.out
 cases k0:(nn==0)
 .have HD:Hid (D=false):=by show _=_;rw[HN.out,k2,k0];rfl
  go_enter Ya,Xs;go_wp2_with(first|(go_at_call 219;(with_reducible refine(H1.out _).mono ?_);rintro e W1 ⟨g1,cap1,rfl,hb1,hg1,hl1,p1,q1,r1,s1⟩;have HB1:=aA (aP HBw.out hb1);clear hb1)|(go_at_call 219;(with_reducible refine(H2.out _).mono ?_);rintro e W2 ⟨g2,cap2,rfl,hb2,hg2,hl2,p2,q2,r2,s2⟩;have HB2:=aA (aP HB1.out hb2);clear hb2)|(go_at_call 219;(with_reducible refine(H3.out _).mono ?_);rintro e W3 ⟨g3,cap3,rfl,hb3,hg3,hl3,p3,q3,r3,s3⟩;have HB3:=aA (aP HB2.out hb3);clear hb3)|(go_at_call 219;(with_reducible refine(H4.out _).mono ?_);rintro e W4 ⟨g4,cap4,rfl,hb4,hg4,hl4,p4,q4,r4,s4⟩;have HB4:=aA (aP HB3.out hb4);clear hb4))
  go_ret;exact aH.of (by rw[HD.out];rfl) HB4.out
 cases ke:a2.toList.isEmpty
 .have HD:Hid (D=false):=by show _=_;rw[HN.out,k2,k0,ke];rfl
  go_enter Ya,Xs;go_wp2_with(first|(go_at_call 219;(with_reducible refine(H1.out _).mono ?_);rintro e W1 ⟨g1,cap1,rfl,hb1,hg1,hl1,p1,q1,r1,s1⟩;have HB1:=aA (aP HBw.out hb1);clear hb1)|(go_at_call 219;(with_reducible refine(H2.out _).mono ?_);rintro e W2 ⟨g2,cap2,rfl,hb2,hg2,hl2,p2,q2,r2,s2⟩;have HB2:=aA (aP HB1.out hb2);clear hb2)|(go_at_call 219;(with_reducible refine(H3.out _).mono ?_);rintro e W3 ⟨g3,cap3,rfl,hb3,hg3,hl3,p3,q3,r3,s3⟩;have HB3:=aA (aP HB2.out hb3);clear hb3)|(go_at_call 219;(with_reducible refine(H4.out _).mono ?_);rintro e W4 ⟨g4,cap4,rfl,hb4,hg4,hl4,p4,q4,r4,s4⟩;have HB4:=aA (aP HB3.out hb4);clear hb4))
  go_ret;exact aH.of (by rw[HD.out];rfl) HB4.out
 cases t1:(a1.toList==[114,103,98]);rotate_left
 .have HD:Hid (D=true):=by show _=_;rw[HN.out,k2,k0,ke,t1];first|rfl|simp
  go_enter Ya,Xs;go_wp2_with(first|(go_at_call 219;(with_reducible refine(H1.out _).mono ?_);rintro e W1 ⟨g1,cap1,rfl,hb1,hg1,hl1,p1,q1,r1,s1⟩;have HB1:=aA (aP HBw.out hb1);clear hb1))
  go_ret;exact aH.of (by rw[HD.out];rfl) HB1.out
 cases t2:(a1.toList==[114,103,98,97]);rotate_left
 .have HD:Hid (D=true):=by show _=_;rw[HN.out,k2,k0,ke,t1,t2];first|rfl|simp
  go_enter Ya,Xs;go_wp2_with(first|(go_at_call 219;(with_reducible refine(H1.out _).mono ?_);rintro e W1 ⟨g1,cap1,rfl,hb1,hg1,hl1,p1,q1,r1,s1⟩;have HB1:=aA (aP HBw.out hb1);clear hb1)|(go_at_call 219;(with_reducible refine(H2.out _).mono ?_);rintro e W2 ⟨g2,cap2,rfl,hb2,hg2,hl2,p2,q2,r2,s2⟩;have HB2:=aA (aP HB1.out hb2);clear hb2))
  go_ret;exact aH.of (by rw[HD.out];rfl) HB2.out
 cases t3:(a1.toList==[104,115,108]);rotate_left
 .have HD:Hid (D=true):=by show _=_;rw[HN.out,k2,k0,ke,t1,t2,t3];first|rfl|simp
  go_enter Ya,Xs;go_wp2_with(first|(go_at_call 219;(with_reducible refine(H1.out _).mono ?_);rintro e W1 ⟨g1,cap1,rfl,hb1,hg1,hl1,p1,q1,r1,s1⟩;have HB1:=aA (aP HBw.out hb1);clear hb1)|(go_at_call 219;(with_reducible refine(H2.out _).mono ?_);rintro e W2 ⟨g2,cap2,rfl,hb2,hg2,hl2,p2,q2,r2,s2⟩;have HB2:=aA (aP HB1.out hb2);clear hb2)|(go_at_call 219;(with_reducible refine(H3.out _).mono ?_);rintro e W3 ⟨g3,cap3,rfl,hb3,hg3,hl3,p3,q3,r3,s3⟩;have HB3:=aA (aP HB2.out hb3);clear hb3))
  go_ret;exact aH.of (by rw[HD.out];rfl) HB3.out
 cases t4:(a1.toList==[104,115,108,97]);rotate_left
 .have HD:Hid (D=true):=by show _=_;rw[HN.out,k2,k0,ke,t1,t2,t3,t4];first|rfl|simp
  go_enter Ya,Xs;go_wp2_with(first|(go_at_call 219;(with_reducible refine(H1.out _).mono ?_);rintro e W1 ⟨g1,cap1,rfl,hb1,hg1,hl1,p1,q1,r1,s1⟩;have HB1:=aA (aP HBw.out hb1);clear hb1)|(go_at_call 219;(with_reducible refine(H2.out _).mono ?_);rintro e W2 ⟨g2,cap2,rfl,hb2,hg2,hl2,p2,q2,r2,s2⟩;have HB2:=aA (aP HB1.out hb2);clear hb2)|(go_at_call 219;(with_reducible refine(H3.out _).mono ?_);rintro e W3 ⟨g3,cap3,rfl,hb3,hg3,hl3,p3,q3,r3,s3⟩;have HB3:=aA (aP HB2.out hb3);clear hb3)|(go_at_call 219;(with_reducible refine(H4.out _).mono ?_);rintro e W4 ⟨g4,cap4,rfl,hb4,hg4,hl4,p4,q4,r4,s4⟩;have HB4:=aA (aP HB3.out hb4);clear hb4))
  go_ret;exact aH.of (by rw[HD.out];rfl) HB4.out
 have HD:Hid (D=false):=by show _=_;rw[HN.out,k2,k0,ke,t1,t2,t3,t4];rfl
 go_enter Ya,Xs;go_wp2_with(first|(go_at_call 219;(with_reducible refine(H1.out _).mono ?_);rintro e W1 ⟨g1,cap1,rfl,hb1,hg1,hl1,p1,q1,r1,s1⟩;have HB1:=aA (aP HBw.out hb1);clear hb1)|(go_at_call 219;(with_reducible refine(H2.out _).mono ?_);rintro e W2 ⟨g2,cap2,rfl,hb2,hg2,hl2,p2,q2,r2,s2⟩;have HB2:=aA (aP HB1.out hb2);clear hb2)|(go_at_call 219;(with_reducible refine(H3.out _).mono ?_);rintro e W3 ⟨g3,cap3,rfl,hb3,hg3,hl3,p3,q3,r3,s3⟩;have HB3:=aA (aP HB2.out hb3);clear hb3)|(go_at_call 219;(with_reducible refine(H4.out _).mono ?_);rintro e W4 ⟨g4,cap4,rfl,hb4,hg4,hl4,p4,q4,r4,s4⟩;have HB4:=aA (aP HB3.out hb4);clear hb4))
 go_ret;exact aH.of (by rw[HD.out];rfl) HB4.out
