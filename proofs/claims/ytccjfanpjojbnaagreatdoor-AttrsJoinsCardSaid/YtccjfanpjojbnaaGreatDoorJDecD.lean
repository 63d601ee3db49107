import Derived.Test.YtccjfanpjojbnaaGreatDoorJCssR
namespace Go.Proofs.YtccjfanpjojbnaaGreatDoor
open Bool renaming and_eq_true→bD,eq_iff_iff→bK
open Go.Ending renaming returned→aL
open Go.IntKind renaming i64→aC
open Lib renaming hid→aA,indexByte→eE
open List renaming getElem?_eq_getElem→eV,getElem?_eq_some_iff→gV,getElem_mem→dN,length_drop→bL
open Tryz renaming func174→zn,func204→zm,ntmps174→yi,prog→aE
open Go.Value renaming bool→aI,int→aB,pointer→aM,slice→aF,string→aD
set_option maxRecDepth 100000
set_option maxHeartbeats 1600000
open Go.RowKit Go.Shelf
theorem Ot (l:List aK): ∀u∈bC l,u.oneCell'=true:=by
 intro u hu;rw[bC,List.mem_flatMap]at hu;obtain⟨p,_,hp⟩:=hu;simp[aK.cells,sv]at hp;rcases hp with rfl|rfl|rfl|rfl<;>rfl
theorem Rd.turned {pv:Nat->Prop} {W W':World} {A:Option Addr} {n c size:Nat} {xs:List Value} (h:Rd W (aF A n c) n size xs) (ht:aJ pv W W') (hA: ∀b off s,A=some ⟨b,off,s⟩-> ¬pv b):Rd W' (aF A n c) n size xs:=by
 obtain⟨h1,h2,A',c',he,h4⟩:=h;cases he;refine⟨h1,h2,A,c,rfl,λhn=> ?_⟩;obtain⟨b,off,rfl,hb,hc⟩:=h4 hn;refine⟨b,off,rfl,Nat.lt_of_lt_of_le hb ht.size,λj u hu=> ?_⟩;have:=hc j u hu;unfold World.cell? at this ⊢;rw[ht.block b hb (hA _ _ _ rfl)];exact this
def yC (A:Option Addr) (c k:Nat):Option Addr:=if c=k then A else A.map λa=>⟨a.block,a.off+k*4,none⟩
def FG (w:World) (b:Nat):Nat:=match w.cell? ⟨b,0,none⟩with
 |some (aF _ n _)=>n
 |_=>0
theorem tJ {w:World} {b:Nat} {t:TypeId} {A:Option Addr} {n c:Nat} (h:Boxed w b t (aF A n c)):FG w b=n:=by
 unfold FG;rw[h.cell]
theorem Rd.drop4 {w:World} {b off n c:Nat} {l:List aK} (h:Rd w (aF (some ⟨b,off,none⟩) n c) l.length 4 (bC l)) (k:Nat) (hk:k<=l.length):Rd w (aF (some ⟨b,off+k*4,none⟩) (l.drop k).length (c-k)) (l.drop k).length 4 (bC (l.drop k)):=by
 have hm:=h.2.1;refine⟨oY aK.cells 4 (λ_=>rfl) _,by rw[bL];omega,_,_,rfl,λhn=> ?_⟩;rw[bL]at hn;obtain⟨b',off',he,hb,_⟩:=h.css k om;cases he;refine⟨b,_,rfl,hb,λj u hu=> ?_⟩;have hj:j<(l.drop k).length*4:=by rw[<-oY aK.cells 4 (λ_=>rfl) (l.drop k)];exact(gV.1 hu).1
 obtain⟨i,r,hr,rfl⟩: ∃i r,r<4/\j=i*4+r:=⟨j/4,j%4,by omega,by omega⟩;have hi:i<(l.drop k).length:=by omega
 rw[bC,wH aK.cells 4 (λ_=>rfl) (l.drop k) i hi r hr]at hu;obtain⟨_,_,_,_,he,h4⟩:=h;cases he;rw[bL]at hi;obtain⟨b2,off2,he2,_,hc⟩:=h4 om;cases he2;have:=hc ((k+i)*4+r) u (by rw[bC,wH aK.cells 4 (λ_=>rfl) l (k+i) om r hr];simpa using hu);rw[show off+((k+i)*4+r)=off+k*4+(i*4+r) by omega]at this;exact this
theorem Rd.take4 {w:World} {A:Option Addr} {n c:Nat} {l:List aK} (h:Rd w (aF A n c) l.length 4 (bC l)) (k:Nat) (hk:k<=l.length):Rd w (aF A (l.take k).length c) (l.take k).length 4 (bC (l.take k)):=by
 obtain⟨h1,h2,A',c',he,h4⟩:=h;cases he;have hlen:(l.take k).length=k:=by rw[List.length_take];omega
 refine⟨oY aK.cells 4 (λ_=>rfl) _,by omega,_,_,rfl,λhn=> ?_⟩;obtain⟨b,off,h5,h6,h7⟩:=h4 om;refine⟨b,off,h5,h6,λj u hu=> ?_⟩;have hj:j<(l.take k).length*4:=by rw[<-oY aK.cells 4 (λ_=>rfl) (l.take k)];exact(gV.1 hu).1
 obtain⟨i,r,hr,rfl⟩: ∃i r,r<4/\j=i*4+r:=⟨j/4,j%4,by omega,by omega⟩;have hi:i<(l.take k).length:=by omega
 rw[bC,wH aK.cells 4 (λ_=>rfl) (l.take k) i hi r hr]at hu;exact h7 _ u (by rw[bC,wH aK.cells 4 (λ_=>rfl) l i om r hr];simpa using hu)
theorem ZA (ad:Addr) (n c:Nat) (l:List aK) (w:World) (h:Rd w (aF (some ad) n c) l.length 4 (bC l)) (hl:l.length<=1000000000):
  Calls aE 176 #[aF (some ad) n c] w (lQ w l.length 4 209 (bC l)):=by
 have HR:=aA h;have hn:l.length=n:=by obtain⟨_,_,_,_,he,_⟩:=h;cases he;rfl
 have HN:=aA hn;have hn9:n<=1000000000:=by omega
 clear h;have hnil: ∀W:World,(binOp .eql 175 (aF (some ad) n c) (aF none 0 0)).run aE W= .ok (aI false) W:=λW=>Lib.run_eql_slice_nil W _ _ (some ad) n c 0 0 Tryz.underlying175;go_enter Tryz.func176,Tryz.ntmps176;go_wp2_with(at_builtin;go_loud(refine Rw rfl _ _ 175 rfl CQ w rfl (UE (by simp[go_sem]) (by simp[go_sem]<;>omega)) aG n (bC l) (xL (HN.out ▸ HR.out) (λh=>by cases h) aG) (by have:=HR.out.1;rw[HN.out]at this;exact this) (Ot l) (by unfold maxLen;omega) om ?_);intro v3 X3 hown3)
 go_ret;rw[HN.out];rw[Nat.zero_add,List.nil_append]at hown3;exact⟨v3,X3,rfl,rfl,hown3⟩
theorem Js (M:Bs) (c:UInt8):decide ((0:Int)<=eE M c)=M.contains c:=by
 induction M with
 |nil=>rfl
 |cons b l ih=>
  have hge: -1<=eE l c:=by
   clear ih;induction l with
   |nil=>simp[eE]
   |cons b l ih2=>unfold eE;split;decide;split;decide;omega
  rw[List.contains_cons,<-ih,show eE (b::l) c=if b==c then 0 else if eE l c== -1 then-1 else eE l c+1 from rfl];by_cases h:b=c
  .subst h;simp
  .have h2: ¬c=b:=λh3=>h h3.symm;have hcb:(c==b)=false:=by simpa using h2
   rw[if_neg (by simpa using h),hcb,Bool.false_or];clear ih;generalize eE l c=z at*;by_cases h1:z= -1
   .subst h1;rfl
   .rw[if_neg (by simpa using h1),bK];simp;omega
def rE (M:Bs) (x:aK):Bool:=M.any λk=>cK k x
theorem Ha (M:Bs) (c:UInt8):rE M (bP c)=M.contains c:=by
 unfold rE;induction M with
 |nil=>rfl
 |cons k l ih=>
  rw[List.any_cons,List.contains_cons,ih];congr 1;rw[bK];simp[cK,bP]
theorem Gz {M:Bs} {x:aK} (h:x.kind≠6):rE M x=false:=by
 unfold rE;rw[List.any_eq_false];intro k _;simp[cK,h]
theorem BW (k:UInt8) (x:aK):rE [k] x=cK k x:=by simp[rE]
theorem zR (x:aK) (M:Bs) (w:World) (hx:mB x):Calls aE 173 #[aK.agg x,aD ⟨M.toArray⟩] w (aH (aI (rE M x)) w):=by
 have hx6:=hx.2;have HT:=aA (λW c=>show Calls aE 209 #[aD ⟨M.toArray⟩,aD ⟨#[c]⟩] W λe w'=>e=aL (aI (rE M (bP c)))/\w'=W from by
  have:=Tryz.strings_Contains_one ⟨M.toArray⟩ c W;rw[show(⟨M.toArray⟩:ByteArray).data.toList=M from rfl,Js,<-Ha]at this;exact this)
 obtain⟨S,hS⟩: ∃S:ByteArray,⟨M.toArray⟩=S:=⟨_,rfl⟩;rw[hS]at HT ⊢;clear hS hx;by_cases h6:x.kind=6
 .obtain⟨c,rfl⟩:=hx6 h6;have HT2:=aA (λW=>HT.out W c);obtain⟨D,hD⟩: ∃D,rE M (bP c)=D:=⟨_,rfl⟩;rw[hD]at HT2 ⊢;clear hD HT h6 hx6;simp only[aK.agg,bP,sv];go_enter Tryz.func173,Tryz.ntmps173;go_wp2_with(go_at_call 209;(with_reducible refine zQ (HT2.out _) ?_))
  go_ret;exact aH.of rfl aG
 .have HN:=aA (Gz (M:=M) h6);rw[HN.out];have b6:(x.kind==6)=false:=by simpa using h6
  clear HT HN h6 hx6;simp only[aK.agg,sv];generalize x.kind=k at*;generalize(⟨x.text.toArray⟩:ByteArray)=a1 at*;generalize(⟨x.unit.toArray⟩:ByteArray)=a2 at*;go_enter Tryz.func173,Tryz.ntmps173;go_wp2_with fail
  go_ret;exact aH.of rfl aG
def oC (x:aK):Int:=if uH x then 1 else if cK 41 x then-1 else 0
theorem YM (x:aK) (w:World) (hx:mB x):Calls aE 205 #[aK.agg x] w (aH (aB aC (oC x)) w):=by
 have HM1:=aA (λW=>BW 40 x ▸ zR x [40] W hx);have HM2:=aA (λW=>BW 41 x ▸ zR x [41] W hx);have HD:Hid (oC x=if decide (x.kind=2)||cK 40 x then 1 else if cK 41 x then-1 else 0):=rfl;obtain⟨D,hD⟩: ∃D,oC x=D:=⟨_,rfl⟩;rw[hD]at HD ⊢;clear hD hx;simp only[aK.agg,sv]at HM1 HM2 ⊢;generalize cK 40 x=m1 at*;generalize cK 41 x=m2 at*;by_cases h2:x.kind=2
 .rw[decide_eq_true h2]at HD;have b2:(x.kind==2)=true:=by simp[h2]
  clear h2;generalize x.kind=k at*;generalize(⟨x.text.toArray⟩:ByteArray)=a1 at*;generalize(⟨x.unit.toArray⟩:ByteArray)=a2 at*;go_enter Tryz.func205,Tryz.ntmps205;go_wp2_with fail
  go_ret;exact aH.of (wC (by rw[HD.out];simp)) aG
 .rw[decide_eq_false h2]at HD;have b2:(x.kind==2)=false:=by simpa using h2
  clear h2;generalize x.kind=k at*;generalize(⟨x.text.toArray⟩:ByteArray)=a1 at*;generalize(⟨x.unit.toArray⟩:ByteArray)=a2 at*;cases m1
  .cases m2;all_goals
    have HM1':=aA HM1.out;have HM2':=aA HM2.out;go_enter Tryz.func205,Tryz.ntmps205;go_wp2_with(go_at_call 173;first|((with_reducible refine zG (aH.flatA (X:=⟨#[],w.drawn⟩) (HM1'.out _)) λX1=>?_))|((with_reducible refine zG (HM1'.out _) λX1=>?_))|((with_reducible refine zG (HM2'.out _) λX2=>?_)))
    go_ret;exact aH.of (wC (by rw[HD.out];simp)) aG
  .have HM1':=aA HM1.out;go_enter Tryz.func205,Tryz.ntmps205;go_wp2_with(go_at_call 173;(with_reducible refine zG (HM1'.out _) λX1=>?_))
   go_ret;exact aH.of (wC (by rw[HD.out];simp)) aG
theorem YG (d:Nat) (x:aK):max ((d:Int)+oC x) 0=(dn d x:Int):=by
 unfold oC dn;split
 .omega
 .split
  .have:max ((d:Int)+ -1) 0=((d-1:Nat):Int):=by omega
   exact this
  .omega
theorem Ej (x:aK):uH x=true->cK 41 x=false:=by
 unfold uH cK;intro h;simp only[Bool.or_eq_true,bD,decide_eq_true_eq]at h;rw[Bool.and_eq_false_iff,decide_eq_false_iff_not,decide_eq_false_iff_not];rcases h with h|h
 .exact .inl om
 .exact .inr (by rw[h.2];decide)
theorem Mq {d:Nat} {x:aK} (l:List aK) (h:(d:Int)+oC x<0):fU d (x::l)=false:=by
 unfold oC at h;split at h
 .omega
 .split at h
  .rename_i h2;simp only[fU,h2,Bool.true_and];rw[if_pos (by simp;omega)]
  .omega
theorem Mp {d:Nat} {x:aK} (l:List aK) (h: ¬(d:Int)+oC x<0):fU d (x::l)=fU (dn d x) l/\(d:Int)+oC x=(dn d x:Int):=by
 have h2:=YG d x;refine⟨?_,by omega⟩;simp only[fU];rw[if_neg];intro h3;simp only[bD,decide_eq_true_eq]at h3;apply h;unfold oC;cases ho:uH x
 .simp[h3.1,h3.2]
 .have:=Ej x ho;rw[h3.1]at this;cases this
theorem YN (x:aK): -1<=oC x/\oC x<=1:=by unfold oC;split;omega;split<;>omega
theorem YF (d:Nat) (x:aK):dn d x<=d+1:=by unfold dn;split;omega;split<;>omega
theorem XY (A:Option Addr) (n c:Nat) (l:List aK) (w:World) (h:Rd w (aF A n c) l.length 4 (bC l)) (hp: ∀x∈l,mB x) (hl:l.length<=1000000000):
  Calls aE 211 #[aF A n c] w (aH (aI (fU 0 l)) w):=by
 have HR:=aA h;have HPr:=aA hp;obtain⟨_,hm,A',c',heq,_⟩:=h;cases heq;obtain⟨D,hD⟩: ∃D,fU 0 l=D:=⟨_,rfl⟩;have HD:=aA hD;rw[hD];clear hp hD;go_enter Tryz.func211,Tryz.ntmps211;go_wp2_with fail
 go_loopw [3,8] (λd i wr=> ∃(k e:Nat) (X:Gr),k<=l.length/\e<=k/\i=aB aC k/\d=aB aC e/\wr=w.grow X/\Hid (D=fU e (l.drop k))) (λ_ i _=>l.length-(intOf i).toNat)
 case atStart=>exact⟨0,0,_,by omega,by omega,rfl,rfl,(kW w).symm,by show _=_;rw[<-HD.out];rfl⟩
 case round=>
  obtain⟨k,e,X,hk,hek,rfl,rfl,rfl,HK⟩:=hrel;by_cases hlt:k<l.length
  .obtain⟨b,off,rfl,hb,c0,c1,c2,c3⟩:=HR.out.css k hlt;have HS:=aA (HK.out.trans (by rw[List.drop_eq_getElem_cons hlt]));have hpx:=HPr.out _ (dN hlt);generalize l[k]=x at*;have HDp:=aA (λW=>YM x W hpx);have hdl:=YN x;have hdn:=YF e x;simp only[aK.agg,sv]at HDp c1 c3;have HE1:=aA (λh=>Mq (d:=e) (x:=x) (l.drop (k+1)) h);have HE2:=aA (λh=>Mp (d:=e) (x:=x) (l.drop (k+1)) h);generalize oC x=dp at*;generalize dn e x=en at*;generalize(⟨x.text.toArray⟩:ByteArray)=a1 at*;generalize(⟨x.unit.toArray⟩:ByteArray)=a2 at*;by_cases hneg:(e:Int)+dp<0
   .have HN:Hid (D=false):=by show _=_;rw[HS.out,HE1.out hneg]
    go_wp2_with(go_at_call 205;(with_reducible refine zG (HDp.out _) λX1=>?_))
    go_ret;exact aH.of (by rw[HN.out];rfl) aG
   .obtain⟨h1,h2⟩:=HE2.out hneg;have HN:Hid (D=fU en (l.drop (k+1))):=by show _=_;rw[HS.out,h1]
    have hnn: ¬(en:Int)<0:=by omega
    clear h1;go_wp2_with(go_at_call 205;(with_reducible refine zG (HDp.out _) λX1=>?_))
    go_roundw
    case rel=>exact⟨k+1,en,_,by omega,by omega,by go_num,by first|rfl|(rw[h2])|(go_num),by rw[qG,jV,jV],HN⟩
    case measure=>simp[intOf];omega
  .have HN:Hid (D=decide (e=0)):=by show _=_;rw[HK.out,List.drop_eq_nil_of_le om];rfl
   go_wp2_with fail
   go_ret;exact aH.of (by rw[HN.out];first|rfl|(show aI ((e:Int)==0)=_;congr 1;rw[bK];simp)) aG
theorem Es (x:aK):(!fQ x)=(decide (x.kind=7)||rE [59,33] x):=by
 unfold fQ rE;simp only[List.any_cons,List.any_nil];cases cK 59 x<;>cases cK 33 x<;>by_cases h7:x.kind=7<;>simp[h7]
theorem Gx (x:aK) (w:World) (hx:mB x):Calls aE 210 #[aK.agg x] w (aH (aI (!fQ x)) w):=by
 have HM:=aA (λW=>zR x [59,33] W hx);have HD:=aA (Es x);obtain⟨D,hD⟩: ∃D,(!fQ x)=D:=⟨_,rfl⟩;rw[hD]at HD ⊢;clear hD hx;simp only[aK.agg,sv]at HM ⊢;generalize rE [59,33] x=m at*;by_cases h7:x.kind=7
 .rw[decide_eq_true h7]at HD;have b7:(x.kind==7)=true:=by simp[h7]
  clear h7;generalize x.kind=k at*;generalize(⟨x.text.toArray⟩:ByteArray)=a1 at*;generalize(⟨x.unit.toArray⟩:ByteArray)=a2 at*;go_enter Tryz.func210,Tryz.ntmps210;go_wp2_with fail
  go_ret;exact aH.of (by rw[HD.out];rfl) aG
 .rw[decide_eq_false h7]at HD;have b7:(x.kind==7)=false:=by simpa using h7
  clear h7;generalize x.kind=k at*;generalize(⟨x.text.toArray⟩:ByteArray)=a1 at*;generalize(⟨x.unit.toArray⟩:ByteArray)=a2 at*;go_enter Tryz.func210,Tryz.ntmps210;go_wp2_with(go_at_call 173;(with_reducible refine zG (HM.out _) λX1=>?_))
  go_ret;exact aH.of (by rw[HD.out];rfl) aG
theorem Jw (A:Option Addr) (n c:Nat) (l:List aK) (g:Nat) (P:Nat->Bool) (J:Nat->World->Prop) (w:World) (hl:l.length=n) (hm:n<=9223372036854775807)
  (hr: ∀k W,J k W->Rd W (aF A n c) l.length 4 (bC l)) (h0:J 0 w) (eg: ∀args W,(callFunc g args).run aE W= .ok (.enter g args) W)
  (hc: ∀k (hk:k<l.length) W,J k W->(∀j,j<k->P j=false)->Calls aE g #[aK.agg l[k]] W λe W'=>e=aL (aI (P k))/\J (k+1) W'):
  Calls aE 207 #[aF A n c,.func (.func g) #[] #[]] w λe W'=> ∃i:Int,e=aL (aB aC i)/\
   ((∃k:Nat,k<n/\i=k/\P k=true/\(∀j,j<k->P j=false)/\J (k+1) W')\/(i= -1/\(∀j,j<n->P j=false)/\J n W')):=by
 have HR:=aA hr;have HC:=aA hc;have HL:=aA hl;clear hr hc hl;go_enter Tryz.func207,Tryz.ntmps207;go_wp2_with fail
 go_loopw [8] (λi wr=> ∃k:Nat,k<=n/\i=aB aC k/\Hid (∀j,j<k->P j=false)/\Hid (J k wr)) (λi _=>n-(intOf i).toNat)
 case atStart=>exact⟨0,by omega,rfl,λj hj=>absurd hj om,h0⟩
 case round=>
  obtain⟨k,hk,rfl,HK,HJ⟩:=hrel;clear h0;by_cases hlt:k<n
  .have hlt2:k<l.length:=by rw[HL.out];exact hlt
   obtain⟨b,off,rfl,hb,c0,c1,c2,c3⟩:=(HR.out k wr HJ.out).css k hlt2;have HC2:=aA (HC.out k hlt2 wr HJ.out HK.out);simp only[aK.agg,sv]at HC2 c1 c3;generalize l[k].kind=x1 at*;generalize l[k].num=x3 at*;generalize(⟨l[k].text.toArray⟩:ByteArray)=a1 at*;generalize(⟨l[k].unit.toArray⟩:ByteArray)=a2 at*;cases hp:P k
   .have HK2:Hid (∀j,j<k+1->P j=false):=λj hj=>by
     rcases Nat.lt_or_ge j k with h|h
     .exact HK.out j h
     .rw[show j=k by omega];exact hp
    rw[hp]at HC2;have HC3:=aA HC2.out;clear HC2;go_wp2_with((with_reducible refine HC3.out.mono ?_);rintro e W2 ⟨rfl,hj2⟩;have HJ2:=aA hj2;clear hj2)
    go_roundw
    case rel=>exact⟨k+1,by omega,by go_num,HK2,HJ2⟩
    case measure=>simp[intOf];omega
   .rw[hp]at HC2;have HC3:=aA HC2.out;have HP:=aA hp;clear HC2 hp;go_wp2_with((with_reducible refine HC3.out.mono ?_);rintro e W2 ⟨rfl,hj2⟩;have HJ2:=aA hj2;clear hj2)
    go_ret;exact⟨_,rfl,.inl ⟨k,hlt,rfl,HP.out,HK.out,HJ2.out⟩⟩
  .obtain rfl:k=n:=by omega
   go_wp2_with fail
   go_ret;exact⟨_,rfl,.inr ⟨rfl,HK.out,HJ.out⟩⟩
theorem Jv (A:Option Addr) (n c:Nat) (l:List aK) (g:Nat) (db:Nat) (P:Nat->Bool) (J:Nat->World->Prop) (w:World) (hl:l.length=n) (hm:n<=9223372036854775807)
  (hr: ∀k W,J k W->Rd W (aF A n c) l.length 4 (bC l)) (h0:J 0 w) (eg: ∀args W,(callFunc g args).run aE W= .ok (.enter g args) W)
  (hc: ∀k (hk:k<l.length) W,J k W->(∀j,j<k->P j=false)->Calls aE g #[aK.agg l[k],aM (some ⟨db,0,none⟩)] W λe W'=>e=aL (aI (P k))/\J (k+1) W'):
  Calls aE 207 #[aF A n c,.func (.func g) #[] #[aM (some ⟨db,0,none⟩)]] w λe W'=> ∃i:Int,e=aL (aB aC i)/\
   ((∃k:Nat,k<n/\i=k/\P k=true/\(∀j,j<k->P j=false)/\J (k+1) W')\/(i= -1/\(∀j,j<n->P j=false)/\J n W')):=by
 have HR:=aA hr;have HC:=aA hc;have HL:=aA hl;clear hr hc hl;go_enter Tryz.func207,Tryz.ntmps207;go_wp2_with fail
 go_loopw [8] (λi wr=> ∃k:Nat,k<=n/\i=aB aC k/\Hid (∀j,j<k->P j=false)/\Hid (J k wr)) (λi _=>n-(intOf i).toNat)
 case atStart=>exact⟨0,by omega,rfl,λj hj=>absurd hj om,h0⟩
 case round=>
  obtain⟨k,hk,rfl,HK,HJ⟩:=hrel;clear h0;by_cases hlt:k<n
  .have hlt2:k<l.length:=by rw[HL.out];exact hlt
   obtain⟨b,off,rfl,hb,c0,c1,c2,c3⟩:=(HR.out k wr HJ.out).css k hlt2;have HC2:=aA (HC.out k hlt2 wr HJ.out HK.out);simp only[aK.agg,sv]at HC2 c1 c3;generalize l[k].kind=x1 at*;generalize l[k].num=x3 at*;generalize(⟨l[k].text.toArray⟩:ByteArray)=a1 at*;generalize(⟨l[k].unit.toArray⟩:ByteArray)=a2 at*;cases hp:P k
   .have HK2:Hid (∀j,j<k+1->P j=false):=λj hj=>by
     rcases Nat.lt_or_ge j k with h|h
     .exact HK.out j h
     .rw[show j=k by omega];exact hp
    rw[hp]at HC2;have HC3:=aA HC2.out;clear HC2;go_wp2_with((with_reducible refine HC3.out.mono ?_);rintro e W2 ⟨rfl,hj2⟩;have HJ2:=aA hj2;clear hj2)
    go_roundw
    case rel=>exact⟨k+1,by omega,by go_num,HK2,HJ2⟩
    case measure=>simp[intOf];omega
   .rw[hp]at HC2;have HC3:=aA HC2.out;have HP:=aA hp;clear HC2 hp;go_wp2_with((with_reducible refine HC3.out.mono ?_);rintro e W2 ⟨rfl,hj2⟩;have HJ2:=aA hj2;clear hj2)
    go_ret;exact⟨_,rfl,.inl ⟨k,hlt,rfl,HP.out,HK.out,HJ2.out⟩⟩
  .obtain rfl:k=n:=by omega
   go_wp2_with fail
   go_ret;exact⟨_,rfl,.inr ⟨rfl,HK.out,HJ.out⟩⟩
theorem Ox (A:Option Addr) (n c:Nat) (l:List aK) (w:World) (h:Rd w (aF A n c) l.length 4 (bC l)) (hp: ∀x∈l,mB x):
  Calls aE 212 #[aF A n c,.func (.func 210) #[] #[]] w (aH (aI (l.any λx=> !fQ x)) w):=by
 have hl:l.length=n:=by obtain⟨_,_,_,_,he,_⟩:=h;cases he;rfl
 have hm:=h.2.1;rw[hl]at hm;have HI:=aA (Jw A n c l 210 (λk=>if h:k<l.length then !fQ l[k]else false) (λ_ W=> ∃X,W=w.grow X) w hl hm (λk W ⟨X,hX⟩=>by rw[hX];exact h.grow X) ⟨_,(kW w).symm⟩
  (enters_of Tryz.func210 kr rfl) (λk hk W ⟨X,hX⟩ _=>by
   rw[hX,dif_pos hk];refine(Gx l[k] (w.grow X) (hp _ (dN hk))).mono ?_;rintro e W' ⟨h1,Y,rfl⟩;exact⟨h1,_,jV w X Y⟩))
 obtain⟨D,hD⟩: ∃D,(l.any λx=> !fQ x)=D:=⟨_,rfl⟩;have HT:Hid (∀k,k<n->(if h:k<l.length then !fQ l[k]else false)=true->D=true):=λk hk h=>by
  rw[dif_pos om]at h;rw[<-hD,List.any_eq_true];exact⟨_,dN om,h⟩
 have HF:Hid ((∀j,j<n->(if h:j<l.length then !fQ l[j]else false)=false)->D=false):=λh=>by
  rw[<-hD,List.any_eq_false];intro x hx;obtain⟨j,hj,rfl⟩:=List.mem_iff_getElem.1 hx;have:=h j om;rw[dif_pos hj]at this;simpa using this
 rw[hD];clear hD hp h hl;go_enter Tryz.func212,Tryz.ntmps212;go_wp2_with(go_at_call 207;(with_reducible refine HI.out.mono ?_);rintro e W2 ⟨i,rfl,hi⟩;have HI2:=aA hi;clear hi)
 go_ret;rcases HI2.out with⟨k,h1,rfl,h3,_,X,rfl⟩|⟨rfl,h2,X,rfl⟩
 .exact aH.of (by rw[HT.out k h1 h3];simp) aG
 .exact aH.of (by rw[HF.out h2];rfl) aG
theorem Hp (l:List aK):oS l=(decide (l≠[])&&fU 0 l&& !(l.any λx=> !fQ x)):=by
 unfold oS;congr 1
 .congr 1;cases l<;>simp
 .rw[bK];simp
theorem VG (A:Option Addr) (n c:Nat) (l:List aK) (w:World) (h:Rd w (aF A n c) l.length 4 (bC l)) (hp: ∀x∈l,mB x) (hl:l.length<=1000000000):
  Calls aE 175 #[aF A n c] w (aH (aI (oS l)) w):=by
 have HE:=aA (λX=>XY A n c l (w.grow X) (h.grow X) hp hl);have HC:=aA (λX=>Ox A n c l (w.grow X) (h.grow X) hp);have HM:=aA (Hp l);have hn:l.length=n:=by obtain⟨_,_,_,_,he,_⟩:=h;cases he;rfl
 have HE0:=aA (XY A n c l w h hp hl);obtain⟨D,hD⟩: ∃D,oS l=D:=⟨_,rfl⟩;rw[hD]at HM ⊢;by_cases h0:l=[]
 .subst h0;obtain rfl:n=0:=hn.symm;have HN:Hid (D=false):=by show _=_;rw[HM.out];rfl
  clear HE HC HE0 h hp hD HM;go_enter Tryz.func175,Tryz.ntmps175;go_wp2_with fail
  go_ret;exact aH.of (by rw[HN.out];rfl) aG
 have hpos:0<n:=by have:=List.length_pos_iff.2 h0;omega
 have HM2:Hid (D=(fU 0 l&& !(l.any λx=> !fQ x))):=by show _=_;rw[HM.out,decide_eq_true h0,Bool.true_and]
 clear hD HM h0 hn hp h HE;generalize(l.any λx=> !fQ x)=o at*;generalize fU 0 l=ev at*;cases ev
 .have HE1:=aA HE0.out;go_enter Tryz.func175,Tryz.ntmps175;go_wp2_with(first|(go_at_call 211;(with_reducible refine HE1.out.mono ?_);rintro e w' ⟨rfl,X1,rfl⟩)|(go_at_call 212;(with_reducible refine zG (HC.out _) λX2=>?_)))
  go_ret;exact aH.of (by rw[HM2.out];rfl) aG
 .have HE1:=aA HE0.out;go_enter Tryz.func175,Tryz.ntmps175;go_wp2_with(first|(go_at_call 211;(with_reducible refine HE1.out.mono ?_);rintro e w' ⟨rfl,X1,rfl⟩)|(go_at_call 212;(with_reducible refine zG (HC.out _) λX2=>?_)))
  go_ret;exact aH.of (by rw[HM2.out];rfl) aG
theorem Ng (x:aK) (db e:Nat) (W:World) (hx:mB x) (hb:Boxed W db 3 (aB aC e)) (he:e<=2000000000):
  Calls aE 204 #[aK.agg x,aM (some ⟨db,0,none⟩)] W λen W'=>en=aL (aI (cK 59 x&&decide (e=0)))/\aJ (λk=>k=db) W W'/\ ∃e':Nat,Boxed W' db 3 (aB aC e')/\(e'<=e+1)/\((cK 59 x&&decide (e=0))=false->e'=dn e x):=by
 have hmx:=bX;have HM:=aA (λV=>BW 59 x ▸ zR x [59] V hx);have HDp:=aA (λV=>YM x V hx);have hmax:=YG e x;have hdl:=YN x;have hdn:=YF e x;have hc:=hb.cell;have hf:=hb.frozen;have hlt:=hb.lt;simp only[aK.agg,sv]at HM HDp ⊢;generalize cK 59 x=m at*;generalize oC x=dp at*;generalize hen:dn e x=en at*;have HEn:=aA hen;clear hen hx;generalize x.kind=x1 at*;generalize x.num=x3 at*;generalize(⟨x.text.toArray⟩:ByteArray)=a1 at*;generalize(⟨x.unit.toArray⟩:ByteArray)=a2 at*;by_cases hend:(m&&decide (e=0))=true
 .rw[hend];rw[bD,decide_eq_true_eq]at hend;obtain⟨rfl,rfl⟩:=hend;have HM2:=aA HM.out;clear HM;go_enter zm,Tryz.ntmps204;go_wp2_with(go_at_call 173;(with_reducible refine zG (HM2.out _) λX1=>?_))
  go_ret;exact⟨rfl,iX,0,(by repeat(first|with_reducible assumption|(with_reducible refine @Boxed.set _ _ _ ?_ _ ?_;rotate_left)|(with_reducible refine Boxed.oth ?_ (by first|omega|(simp[go_sem]<;>omega)) _)|with_reducible refine Boxed.grow' ?_ _|with_reducible refine Boxed.alloc ?_ _|with_reducible refine Boxed.drew' ?_)),by omega,λh=>by cases h⟩
 .have hend2:(m&&decide (e=0))=false:=by simpa using hend
  rw[hend2];cases m
  .have HM2:=aA HM.out;clear HM hend hend2;go_enter zm,Tryz.ntmps204;go_wp2_with(go_at_call 173;(with_reducible refine zG (HM2.out _) λX1=>?_))
   refine AL 5 kr kr  ?_;dsimp only[List.take,List.drop];repeat(go_big_quiet_step((first|(go_at_call 205;with_reducible exact Calls.grow_of (HDp.out _)))))
   refine wpQuiet_nil ?_;rintro _ ⟨nq,rfl⟩;go_wp2_with fail
   go_ret;exact⟨rfl,iX,en,(by repeat(first|with_reducible assumption|(with_reducible refine @Boxed.set _ _ _ ?_ _ ?_;rotate_left)|(with_reducible refine Boxed.oth ?_ (by first|omega|(simp[go_sem]<;>omega)) _)|with_reducible refine Boxed.grow' ?_ _|with_reducible refine Boxed.alloc ?_ _|with_reducible refine Boxed.drew' ?_)),hdn,λ_=>rfl⟩
  .have he0: ¬e=0:=by simpa using hend
   have he1:((e:Int)==0)=false:=by simpa using he0
   have HM2:=aA HM.out;clear HM hend hend2;go_enter zm,Tryz.ntmps204;go_wp2_with(go_at_call 173;(with_reducible refine zG (HM2.out _) λX1=>?_))
   refine AL 5 kr kr  ?_;dsimp only[List.take,List.drop];repeat(go_big_quiet_step((first|(go_at_call 205;with_reducible exact Calls.grow_of (HDp.out _)))))
   refine wpQuiet_nil ?_;rintro _ ⟨nq,rfl⟩;go_wp2_with fail
   go_ret;exact⟨rfl,iX,en,(by repeat(first|with_reducible assumption|(with_reducible refine @Boxed.set _ _ _ ?_ _ ?_;rotate_left)|(with_reducible refine Boxed.oth ?_ (by first|omega|(simp[go_sem]<;>omega)) _)|with_reducible refine Boxed.grow' ?_ _|with_reducible refine Boxed.alloc ?_ _|with_reducible refine Boxed.drew' ?_)),hdn,λ_=>rfl⟩
theorem Dv (A:Option Addr) (n c:Nat) (w:World):Calls aE 171 #[aF A n c] w λe w'=>e=aL (.func (.func 206) #[] #[aM (some ⟨w.heap.size+1,0,none⟩),aM (some ⟨w.heap.size,0,none⟩),aM (some ⟨w.heap.size+1+1,0,none⟩)])/\
  ((w.alloc (.cells #[aF A n c] 175)).alloc (.cells #[aB aC 0] 3)).alloc (.cells #[.func (.func 204) #[] #[aM (some ⟨w.heap.size+1,0,none⟩)]] 214)=w':=by
 go_enter Tryz.func171,Tryz.ntmps171;go_wp2
 go_ret;exact⟨rfl,rfl⟩
theorem J6 {l:List aK} (h:2<=l.length):iL l=(cK 33 l[l.length-2]&&zU l[l.length-1]):=by
 unfold iL;rw[eV om,eV om];simp[h]
theorem J5 {l:List aK} (h:l.length<2):iL l=false:=by
 unfold iL;split
 .rw[decide_eq_false om];rfl
 .rfl
theorem Jz {b:aK} (h:mB b):((b.kind==1)&&((⟨b.text.toArray⟩:ByteArray).toList==(⟨#[105,109,112,111,114,116,97,110,116]⟩:ByteArray).toList)&&(b.num==0)&&((⟨b.unit.toArray⟩:ByteArray).toList==(⟨#[]⟩:ByteArray).toList))=zU b:=by
 rw[nD,nD];unfold zU;by_cases h1:b.kind=1
 .obtain⟨h2,h3⟩:=h.1 h1;rw[h1,h2,h3,bK];simp only[qB];simp;exact decide_eq_true_iff.symm
 .have:(b.kind==1)=false:=by simpa using h1
  rw[this,decide_eq_false h1];simp
theorem J2 (A:Option Addr) (n c:Nat) (l:List aK) (w:World) (h:Rd w (aF A n c) l.length 4 (bC l)) (hp: ∀x∈l,mB x) (hcap:n<=c):
  Calls aE 174 #[aF A n c] w (aH (Value.tuple #[aF A (dQ l).length c,aI (iL l)]) w):=by
 have HR:=aA h;have hn:l.length=n:=by obtain⟨_,_,_,_,he,_⟩:=h;cases he;rfl
 have hm:=h.2.1;rw[hn]at hm;have HV:Hid (dQ l=if iL l then l.take (n-2)else l):=by show _=_;rw[<-hn];rfl
 clear h;by_cases h2:n<2
 .have HU:=aA (J5 (l:=l) om);have HV2:Hid ((dQ l).length=n):=by show _=_;rw[HV.out,HU.out];exact hn
  rw[HU.out,HV2.out];have b2:decide ((n:Int)-2<0)=true:=by simp;omega
  have b2':(n:Int)-2<0:=by omega
  have b3: ¬(2<=n):=by omega
  go_enter zn,yi;go_wp2_with fail
  go_ret2;exact aH.of rfl aG
 obtain⟨k,hk⟩: ∃k,n=k+2:=⟨n-2,by omega⟩;have HK:=aA hk;have hsub:(n:Int)-2=(k:Int):=by omega
 have hkl:k<l.length:=by omega
 have hkl2:k+1<l.length:=by omega
 obtain⟨b,off,rfl,hb,c0,c1,c2,c3⟩:=HR.out.css k hkl;obtain⟨b',off',he,_,d0,d1,d2,d3⟩:=HR.out.css (k+1) hkl2;cases he;have HU:Hid (iL l=(cK 33 l[k]&&zU l[k+1])):=by
  show _=_;rw[J6 om];congr 2<;>congr 1<;>omega
 have HM:=aA (λW:World=>BW 33 l[k] ▸ zR l[k] [33] W (hp _ (dN hkl)));have hI:=Jz (hp _ (dN hkl2));have hlt1:k<n:=by omega
 have hlt2:k+1<n:=by omega
 have hkc:k<=c:=by omega
 have hkn:k<=n:=by omega
 have HVt:Hid ((l.take (n-2)).length=k):=by show _=_;rw[List.length_take];omega
 clear hk hn h2 hp HK;simp only[aK.agg,sv]at HM c1 c3 d1 d3;generalize cK 33 l[k]=m at*;generalize zU l[k+1]=ic at*;generalize l[k].kind=x1 at*;generalize l[k].num=x3 at*;generalize(⟨l[k].text.toArray⟩:ByteArray)=a1 at*;generalize(⟨l[k].unit.toArray⟩:ByteArray)=a2 at*;generalize l[k+1].kind=y1 at*;generalize l[k+1].num=y3 at*;generalize(⟨l[k+1].text.toArray⟩:ByteArray)=e1 at*;generalize(⟨l[k+1].unit.toArray⟩:ByteArray)=e2 at*;have hix:((k:Int)+1).toNat=k+1:=by omega
 have hI2:(!y1==1|| !e1.toList==[105,109,112,111,114,116,97,110,116]|| !y3==0|| !e2.toList.isEmpty)= !ic:=by
  rw[<-hI];have z1:(⟨#[105,109,112,111,114,116,97,110,116]⟩:ByteArray).toList=[105,109,112,111,114,116,97,110,116]:=by rw[ByteArray.toList_eq]
  have z2:(⟨#[]⟩:ByteArray).toList=[]:=by rw[ByteArray.toList_eq]
  rw[z1,z2];cases e2.toList<;>simp
 have hk0: ¬((k:Int)<0):=by omega
 clear hI;cases m
 .have HM2:=aA HM.out;have HU2:Hid (iL l=false):=by show _=_;rw[HU.out];rfl
  have HV2:Hid ((dQ l).length=n):=by
   show _=_;rw[HV.out,HU2.out];have:=HR.out.1;obtain⟨_,_,_,_,he,_⟩:=HR.out;cases he;rfl
  rw[HU2.out,HV2.out];clear HM HR HV HU HVt;go_enter zn,yi;go_wp2_with(go_at_call 173;(with_reducible refine zG (HM2.out _) λX1=>?_))
  go_ret2;exact aH.of rfl aG
 .have HM2:=aA HM.out;cases ic
  .have HU2:Hid (iL l=false):=by show _=_;rw[HU.out];rfl
   have HV2:Hid ((dQ l).length=n):=by
    show _=_;rw[HV.out,HU2.out];have:=HR.out.1;obtain⟨_,_,_,_,he,_⟩:=HR.out;cases he;rfl
   rw[HU2.out,HV2.out];clear HM HR HV HU HVt;go_enter zn,yi;go_wp2_with(go_at_call 173;(with_reducible refine zG (HM2.out _) λX1=>?_))
   go_ret2;exact aH.of rfl aG
  .have HU2:Hid (iL l=true):=by show _=_;rw[HU.out];rfl
   have HV2:Hid ((dQ l).length=k):=by show _=_;rw[HV.out,HU2.out,if_pos rfl,HVt.out]
   rw[HU2.out,HV2.out];clear HM HR HV HU HVt;go_enter zn,yi;go_wp2_with(go_at_call 173;(with_reducible refine zG (HM2.out _) λX1=>?_))
   go_ret2;exact aH.of rfl aG
def uZ:Nat->List aK->Option Nat
 |_,[]=>none
 |d,x::l=>if cK 59 x&&decide (d=0)then some 0 else(uZ (dn d x) l).map (· +1)
theorem NR: ∀(l:List aK) (d:Nat),match uZ d l with
  |some k=>k<l.length/\eB d l=l.take k::eB 0 (l.drop (k+1))
  |none=>eB d l=[l]:=by
 intro l;induction l with
 |nil=>intro d;rfl
 |cons x l ih=>
  intro d;simp only[uZ,eB];split
  .rename_i h;split at h
   .rename_i h2;cases h;rw[if_pos h2];exact⟨by simp,rfl⟩
   .rename_i h2;rw[if_neg h2];rw[Option.map_eq_some_iff]at h;obtain⟨k,hk,rfl⟩:=h;have:=ih (dn d x);rw[hk]at this;rw[this.2];exact⟨by simp;exact this.1,rfl⟩
  .rename_i h;split at h
   .cases h
   .rename_i h2;rw[if_neg h2];rw[Option.map_eq_none_iff]at h;have:=ih (dn d x);rw[h]at this;rw[this]
def sK (l:List aK) (d k:Nat):Bool:=match l[k]? with
 |some x=>cK 59 x&&decide (tM d (l.take k)=0)
 |none=>false
theorem Oo: ∀(l:List aK) (d:Nat),match uZ d l with
  |some k=>sK l d k=true/\ ∀j,j<k->sK l d j=false
  |none=> ∀j,j<l.length->sK l d j=false:=by
 intro l;induction l with
 |nil=>intro d;simp[uZ]
 |cons x l ih=>
  intro d;have h0:sK (x::l) d 0=(cK 59 x&&decide (d=0)):=rfl;have hs: ∀j,sK (x::l) d (j+1)=sK l (dn d x) j:=λj=>by
   unfold sK;simp only[List.getElem?_cons_succ,List.take_succ_cons];rfl
  simp only[uZ];split
  .rename_i h;split at h
   .rename_i h2;cases h;exact⟨h0.trans h2,λj hj=>absurd hj om⟩
   .rename_i h2;rw[Option.map_eq_some_iff]at h;obtain⟨k,hk,rfl⟩:=h;have:=ih (dn d x);rw[hk]at this;refine⟨(hs k).trans this.1,λj hj=> ?_⟩;cases j with
    |zero=>rw[h0];simpa using h2
    |succ j=>rw[hs];exact this.2 j om
  .rename_i h;split at h
   .cases h
   .rename_i h2;rw[Option.map_eq_none_iff]at h;have:=ih (dn d x);rw[h]at this;intro j hj;cases j with
    |zero=>rw[h0];simpa using h2
    |succ j=>rw[hs];exact this j (by simpa using hj)
def xT (l:List aK):Int:=match uZ 0 l with
 |some k=>k
 |none=> -1
theorem Jr (A:Option Addr) (n c:Nat) (l:List aK) (db:Nat) (V:World) (hb:Boxed V db 3 (aB aC 0)) (hr:Rd V (aF A n c) l.length 4 (bC l)) (hA: ∀b off s,A=some ⟨b,off,s⟩->b≠db) (hp: ∀x∈l,mB x) (hn9:l.length<=1000000000):
  Calls aE 207 #[aF A n c,.func (.func 204) #[] #[aM (some ⟨db,0,none⟩)]] V λe W'=>e=aL (aB aC (xT l))/\aJ (λk=>k=db) V W'/\ ∃e':Nat,Boxed W' db 3 (aB aC e'):=by
 have hn:l.length=n:=by obtain⟨_,_,_,_,he,_⟩:=hr;cases he;rfl
 subst hn;have hm:=hr.2.1;have key:=Jv A l.length c l 204 db (sK l 0) (λk W=>aJ (λk=>k=db) V W/\ ∃e':Nat,Boxed W db 3 (aB aC e')/\e'<=k/\((∀j,j<k->sK l 0 j=false)->e'=tM 0 (l.take k))) V rfl hm
  (λk W h=>hr.turned h.1 hA) ⟨aJ.refl _ _,0,hb,Nat.le_refl _,λ_=>rfl⟩ (enters_of zm kr rfl)
  (λk hk W h hbef=>by
   obtain⟨ht,e',hb',he',hd⟩:=h;have hd:=hd hbef;have hE:sK l 0 k=(cK 59 l[k]&&decide (e'=0)):=by
    unfold sK;rw[eV hk,hd]
   refine(Ng l[k] db e' W (hp _ (dN hk)) hb' om).mono ?_;rintro e W' ⟨h1,h2,e2,h3,h4,h5⟩;rw[hE];refine⟨h1,ht.trans h2,e2,h3,by omega,λhall=> ?_⟩;have h6:=hall k om;rw[hE]at h6;rw[h5 h6,hd,List.take_succ_eq_append_getElem hk,tM,tM,List.foldl_append];rfl)
 refine key.mono ?_;rintro e W' ⟨i,rfl,h⟩;have hs:=Oo l 0;rcases h with⟨k,h1,rfl,h3,h4,ht,e',hb',_⟩|⟨rfl,h2,ht,e',hb',_⟩
 .refine⟨?_,ht,e',hb'⟩;unfold xT;split at hs
  .rename_i k2 hk2;have:k=k2:=by
    rcases Nat.lt_trichotomy k k2 with h|h|h
    .have:=hs.2 k h;rw[h3]at this;cases this
    .exact h
    .have:=h4 k2 h;rw[hs.1]at this;cases this
   rw[this]
  .have:=hs k h1;rw[h3]at this;cases this
 .refine⟨?_,ht,e',hb'⟩;unfold xT;split at hs
  .rename_i k2 hk2;have hlt:k2<l.length:=by
    have:=NR l 0;rw[hk2]at this;exact this.1
   have:=h2 k2 hlt;rw[hs.1]at this;cases this
  .rfl
def mG:Option Addr->Nat->List (List aK)->List (Value × List aK)
 |_,_,[]=>[]
 |A,c,p::ps=>(aF A p.length c,p)::mG (yC A c (p.length+1)) (c-(p.length+1)) ps
