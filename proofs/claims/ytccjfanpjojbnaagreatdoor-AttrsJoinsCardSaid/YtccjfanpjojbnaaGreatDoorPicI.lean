import Derived.Test.YtccjfanpjojbnaaGreatDoorLB
namespace Go.Proofs.YtccjfanpjojbnaaGreatDoor
open Bool renaming and_eq_true→bD,eq_iff_iff→bK
open Go.Ending renaming returned→aL
open Go.IntKind renaming i64→aC
open Lib renaming hid→aA
open List renaming all_eq_true→dO,append_nil→bV,cons_append→cF,dropWhile_cons_of_neg→lF,dropWhile_cons_of_pos→nM,dropWhile_suffix→Xu,drop_eq_nil_of_le→iG,drop_left→Xw,extract_eq_take_drop→Xl,head?_dropWhile_not→qh,length_cons→aY,length_drop→bL,nil_append→fG,reverse_append→yf,reverse_reverse→xw,takeWhile_append_dropWhile→Wv,takeWhile_cons_of_neg→jn,take_left→jl
open Nat renaming le_refl→bA
open Tryz renaming func130→zq,func165→xc,ntmps130→yk,ntmps165→yl,prog→aE
open Go.Value renaming bool→aI,int→aB,pointer→aM,slice→aF,string→aD
set_option maxRecDepth 100000
set_option maxHeartbeats 4000000
open Go.RowKit Go.Shelf
theorem Mn (s:ByteArray) (k:Nat):(s.extract k s.size).data.toList=s.data.toList.drop k:=by
 rw[ByteArray.data_extract,Array.toList_extract,Xl,List.take_of_length_le];rw[bL,cU];omega
theorem DS (s:ByteArray) (k:Nat):s.extract k s.size=⟨(s.data.toList.drop k).toArray⟩:=by
 rw[<-Mn]
theorem RF (s:ByteArray) (n:Nat):s.extract 0 n=⟨(s.data.toList.take n).toArray⟩:=by
 have:(s.extract 0 n).data.toList=s.data.toList.take n:=by
  rw[ByteArray.data_extract,Array.toList_extract,Xl];simp
 rw[<-this]
theorem R5 (s:ByteArray) (f m:Nat):s.extract f m=⟨((s.data.toList.take m).drop f).toArray⟩:=by
 have:(s.extract f m).data.toList=(s.data.toList.take m).drop f:=by
  rw[ByteArray.data_extract,Array.toList_extract,Xl,List.drop_take]
 rw[<-this]
theorem tL (p:UInt8->Bool) (l:Bs):l.drop (tw p l)=l.dropWhile p:=by
 have h:=Xw (l₁:=l.takeWhile p) (l₂:=l.dropWhile p);rwa[Wv]at h
theorem QS (p:UInt8->Bool) (l:Bs):l.take (tw p l)=l.takeWhile p:=by
 have h:=jl (l₁:=l.takeWhile p) (l₂:=l.dropWhile p);rwa[Wv]at h
structure cN where
 url:Bs
 size:Bs
 deriving DecidableEq
def dS (c:UInt8):Bool:=bB c||decide (c.toNat=44)
def eX:Nat->Bs->Nat
 |_,[]=>0
 |d,c::r=>if c.toNat=44/\d=0 then 0 else 1+eX (if c.toNat=40 then d+1 else if c.toNat=41 then d-1 else d) r
def fY:Bs->Bs->List Bs
 |w,[]=>if w=[]then []else [w]
 |w,c::r=>if bB c then(if w=[]then fY [] r else w::fY [] r)else fY (w++[c]) r
def dZ (l:Bs):List Bs:=fY [] l
def jJ (sep:Bs):List Bs->Bs
 |[]=>[]
 |[x]=>x
 |x::y::r=>x++sep++jJ sep (y::r)
def gQ (l:Bs):Bs:=(l.reverse.dropWhile (λc=>decide (c.toNat=44))).reverse
def qC (l:Bs):Bool:=match l.getLast? with
 |some c=>decide (c.toNat=44)
 |none=>false
def tC:Nat->Bs->List cN
 |0,_=>[]
 |n+1,l=>match l.dropWhile dS with
  |[]=>[]
  |c::r=>
   if qC ((c::r).takeWhile (λc=> !bB c))then⟨gQ ((c::r).takeWhile (λc=> !bB c)),[]⟩::tC n ((c::r).dropWhile (λc=> !bB c))
   else⟨(c::r).takeWhile (λc=> !bB c),jJ [32] (dZ (((c::r).dropWhile (λc=> !bB c)).take (eX 0 ((c::r).dropWhile (λc=> !bB c)))))⟩::tC n (((c::r).dropWhile (λc=> !bB c)).drop (eX 0 ((c::r).dropWhile (λc=> !bB c))))
def cO (l:Bs):List cN:=tC (l.length+1) l
def mP (p:cN):Bs:=if p.size=[]then p.url else p.url++32::p.size
def mF (l:List cN):Bs:=jJ [44,32] (l.map mP)
def vS:Bs->Bool
 |[120]=>true
 |_=>false
def nS (s:Bs):Bool:=
 if s=[]then true
 else
  let n:=(s.takeWhile aQ).length
  if n<1\/9<n then false
  else match s.dropWhile aQ with
   |[119]=>(s.takeWhile aQ).any (λc=>decide (c.toNat≠48))
   |46::r=>decide (1<=(r.takeWhile aQ).length)&&decide ((r.takeWhile aQ).length<=9)&&vS (r.dropWhile aQ)
   |t=>vS t
def mV (p:cN):Bool:=match p.url with
 |[]=>false
 |c::r=>decide (c.toNat≠44)&& !qC (c::r)&&(c::r).all (λc=> !bB c)&&nS p.size
theorem nB (p:UInt8->Bool) (l:Bs):(l.dropWhile p).length<=l.length:=(List.dropWhile_sublist p).length_le
theorem yS {c:UInt8} {r:Bs} (h:bB c=false):((c::r).dropWhile (λc=> !bB c)).length<=r.length:=by
 rw[nM (by simp[h])];exact nB _ r
theorem BA {l:Bs} {c:UInt8} {r:Bs} (h:l.dropWhile dS=c::r):dS c=false:=by
 have:=qh dS l;rw[h]at this;simpa using this
theorem xD {c:UInt8} (h:dS c=false):bB c=false:=by
 unfold dS at h;simp at h;exact h.1
theorem EN: ∀(n m:Nat) (l:Bs),l.length<n->l.length<m->tC n l=tC m l:=by
 intro n;induction n with
 |zero=>intro m l h;omega
 |succ n ih=>
  intro m l h1 h2;cases m with
  |zero=>omega
  |succ m=>
   rw[tC,tC];split
   .rfl
   .rename_i c r hd;have hs:=xD (BA hd);have h3:=yS (r:=r) hs;have h4:=nB dS l;rw[hd]at h4;simp at h4;have h5:(((c::r).dropWhile (λc=> !bB c)).drop (eX 0 ((c::r).dropWhile (λc=> !bB c)))).length<=r.length:=by
     rw[bL];omega
    rw[ih m _ om om,ih m _ om om]
theorem uF {c:UInt8} {r:Bs} (h:dS c=true):cO (c::r)=cO r:=by
 unfold cO;rw[EN ((c::r).length+1) (r.length+2) _ (by simp) (by simp)];rw[EN (r.length+1) (r.length+2) r om om];rw[tC,tC,nM h]
theorem vX:cO []=[]:=rfl
theorem vW {c:UInt8} {r:Bs} (h:dS c=false):cO (c::r)=
  if qC ((c::r).takeWhile (λc=> !bB c))then⟨gQ ((c::r).takeWhile (λc=> !bB c)),[]⟩::cO ((c::r).dropWhile (λc=> !bB c))
  else⟨(c::r).takeWhile (λc=> !bB c),jJ [32] (dZ (((c::r).dropWhile (λc=> !bB c)).take (eX 0 ((c::r).dropWhile (λc=> !bB c)))))⟩::cO (((c::r).dropWhile (λc=> !bB c)).drop (eX 0 ((c::r).dropWhile (λc=> !bB c)))):=by
 unfold cO;rw[tC,lF (by simp[h])];have h3:=yS (r:=r) (xD h);have h5:(((c::r).dropWhile (λc=> !bB c)).drop (eX 0 ((c::r).dropWhile (λc=> !bB c)))).length<=r.length:=by
  rw[bL];omega
 dsimp only;rw[EN (c::r).length _ _ (by simp;omega) (Nat.lt_succ_self _)];rw[EN (c::r).length _ _ (by simp;simp at h5;omega) (Nat.lt_succ_self _)]
theorem IL (w:Bs): ∀(acc r:Bs),w.all (λc=> !bB c)=true->fY acc (w++r)=fY (acc++w) r:=by
 induction w with
 |nil=>intro acc r _;simp
 |cons c w ih=>
  intro acc r h;simp at h;rw[cF,fY,if_neg (by simp[h.1]),ih _ _ (by simpa using h.2)];simp
theorem AP (c:UInt8) (r:Bs) (h:bB c=true):dZ (c::r)=dZ r:=by
 unfold dZ;rw[fY,if_pos h,if_pos rfl]
theorem PF {w:Bs} (h:w.all (λc=> !bB c)=true) (hn:w≠[]):dZ w=[w]:=by
 unfold dZ;have:=IL w [] [] h;rw[bV,fG]at this;rw[this,fY,if_neg hn]
theorem G2 {w:Bs} (h:w.all (λc=> !bB c)=true) (hn:w≠[]):dZ (w++[32])=[w]:=by
 unfold dZ;rw[IL w [] [32] h,fG,fY,if_pos (by rfl),if_neg hn];rfl
theorem Q0 (s:Bs): ∀r,(∀c∈s,c.toNat≠40/\c.toNat≠41/\c.toNat≠44)->eX 0 (s++r)=s.length+eX 0 r:=by
 induction s with
 |nil=>intro r _;simp
 |cons c s ih=>
  intro r h;obtain⟨h1,h2,h3⟩:=h c (by simp);rw[cF,eX,if_neg om,if_neg h1,if_neg h2,ih r λd hd=>h d (by simp[hd])];simp;omega
theorem Q2 (r:Bs):eX 0 (44::r)=0:=rfl
theorem QZ {t:Bs} (h:vS t=true):t=[120]:=by
 unfold vS at h;split at h
 .rfl
 .cases h
def xA (c:UInt8):Bool:=aQ c||decide (c.toNat=46)||decide (c.toNat=119)||decide (c.toNat=120)
theorem QX (s:Bs): ∀c∈s.takeWhile aQ,xA c=true:=by
 intro c hc;have:=List.all_takeWhile (p:=aQ) (l:=s);rw[dO]at this;unfold xA;simp[this c hc]
theorem RX {s:Bs} (h:nS s=true): ∀c∈s,xA c=true:=by
 by_cases hs:s=[]
 .subst hs;intro c hc;cases hc
 .rw[nS,if_neg hs]at h;dsimp only at h;split at h
  .cases h
  .intro c hc;rw[<-Wv (p:=aQ) (l:=s),List.mem_append]at hc;rcases hc with hc|hc
   .exact QX s c hc
   .split at h
    .rename_i he;rw[he]at hc;simp at hc;subst hc;rfl
    .rename_i r he;rw[he]at hc;simp only[bD]at h;rw[List.mem_cons,<-Wv (p:=aQ) (l:=r),List.mem_append,QZ h.2]at hc;rcases hc with rfl|hc|hc
     .rfl
     .exact QX r c hc
     .simp at hc;subst hc;rfl
    .rw[QZ h]at hc;simp at hc;subst hc;rfl
theorem RC {c:UInt8} (h:xA c=true):bB c=false/\c.toNat≠40/\c.toNat≠41/\c.toNat≠44:=by
 unfold xA aQ at h;unfold bB;simp at h ⊢;omega
theorem DO (u:Bs) (r:Bs) (h:u.all (λc=> !bB c)=true) (hr:r.takeWhile (λc=> !bB c)=[]):(u++r).takeWhile (λc=> !bB c)=u/\(u++r).dropWhile (λc=> !bB c)=r:=by
 have hd:r.dropWhile (λc=> !bB c)=r:=by
  have:=Wv (p:=λc=> !bB c) (l:=r);rw[hr,fG]at this;exact this
 rw[dO]at h;exact⟨by rw[List.takeWhile_append_of_pos h,hr,bV],by rw[List.dropWhile_append_of_pos h,hd]⟩
theorem YD (u:Bs) (c:UInt8):qC (u++[c])=decide (c.toNat=44):=by
 unfold qC;rw[List.getLast?_concat]
theorem M0 {u:Bs} (h:qC u=false):gQ (u++[44])=u:=by
 unfold gQ;rw[yf];show(List.dropWhile _ (44::u.reverse)).reverse=u;rw[nM (by rfl)];cases hr:u.reverse with
 |nil=>simp at hr;subst hr;rfl
 |cons c r=>
  have hu:u=r.reverse++[c]:=by
   have:=congrArg List.reverse hr;simpa using this
  rw[hu,YD]at h;rw[lF (by simpa using h),<-hr,xw]
theorem UK {p:cN} (h:mV p=true): ∃c r,p.url=c::r/\dS c=false/\qC (c::r)=false/\(c::r).all (λc=> !bB c)=true/\nS p.size=true:=by
 unfold mV at h;split at h
 .cases h
 .rename_i c r he;simp only[bD]at h;obtain⟨⟨⟨h1,h2⟩,h3⟩,h4⟩:=h;refine⟨c,r,he, ?_,by simpa using h2,h3,h4⟩;unfold dS;simp at h1 h3 ⊢;exact⟨h3.1,h1⟩
def C2 (r:Bs):Prop:=r=[]\/ ∃x,r=44::32::x\/r=32::44::x
theorem TV {p:cN} (h:mV p=true) {r:Bs} (hr:C2 r):cO (mP p++r)=p::cO r:=by
 obtain⟨c,u,hu,h1,h2,h3,h4⟩:=UK h;obtain⟨url,size⟩:=p;dsimp only at hu h4;subst hu;unfold mP;dsimp only;by_cases hs:size=[]
 .rw[if_pos hs];subst hs;rcases hr with rfl|⟨x,rfl|rfl⟩
  .obtain⟨e1,e2⟩:=DO (c::u) [] h3 rfl;rw[cF]at e1 e2 ⊢;rw[vW h1,e1,e2,if_neg (by rw[h2];decide)];rfl
  .have h5:(c::u++[44]).all (λc=> !bB c)=true:=by rw[List.all_append,h3];rfl
   obtain⟨e1,e2⟩:=DO (c::u++[44]) (32::x) h5 (by rw[jn dc]);have e:c::u++44::32::x=c::u++[44]++32::x:=by simp
   rw[e];rw[cF,cF]at e1 e2 ⊢;rw[vW h1,e1,e2,<-cF,if_pos (by rw[YD];rfl),M0 h2,uF (c:=44) dc]
  .obtain⟨e1,e2⟩:=DO (c::u) (32::44::x) h3 (by rw[jn dc]);rw[cF]at e1 e2 ⊢;rw[vW h1,e1,e2,if_neg (by rw[h2];decide),uF (c:=32) dc];rfl
 .rw[if_neg hs];have hb:=RX h4;have hsp:size.all (λc=> !bB c)=true:=by
   rw[dO];intro d hd;simp[(RC (hb d hd)).1]
  have hpl: ∀d∈32::size,d.toNat≠40/\d.toNat≠41/\d.toNat≠44:=by
   intro d hd;rcases List.mem_cons.1 hd with rfl|hd
   .decide
   .exact(RC (hb d hd)).2
  obtain⟨e1,e2⟩:=DO (c::u) (32::size++r) h3 (by rw[cF,jn dc]);have e:c::u++32::size++r=c::u++(32::size++r):=by simp
  rw[e];rw[cF]at e1 e2 ⊢;rw[vW h1,e1,e2,if_neg (by rw[h2];decide),Q0 _ _ hpl];rcases hr with rfl|⟨x,rfl|rfl⟩
  .rw[show eX 0 []=0 from rfl,bV,Nat.add_zero,List.take_length,List.drop_length,AP _ _ dc,PF hsp hs];rfl
  .rw[Q2,Nat.add_zero,jl,Xw,AP _ _ dc,PF hsp hs];rfl
  .have e3:eX 0 (32::44::x)=1:=rfl;have e4:32::size++32::44::x=(32::size++[32])++44::x:=by simp
   have e5:(32::size).length+1=(32::size++[32]).length:=by simp
   rw[e3,e4,e5,jl,Xw,cF,AP _ _ dc,G2 hsp hs,uF (c:=32) dc];rfl
theorem Dl: ∀(l:List cN) (r:Bs),l.all mV=true->C2 r->cO (mF l++r)=l++cO r:=by
 intro l;induction l with
 |nil=>intro r _ _;rfl
 |cons p l ih=>
  intro r h hr;rw[List.all_cons,bD]at h;cases l with
  |nil=>exact TV h.1 hr
  |cons q l=>
   have e:mF (p::q::l)++r=mP p++(44::32::(mF (q::l)++r)):=by
    simp[mF,jJ]
   rw[e,TV h.1 (Or.inr ⟨_,Or.inl rfl⟩),uF (c:=44) dc,uF (c:=32) dc,ih r h.2 hr];rfl
theorem Dr (l:List cN) (h:l.all mV=true):cO (mF l)=l:=by
 have:=Dl l [] h (Or.inl rfl);simpa[vX]using this
theorem Kg (p:UInt8->Bool) (l:Bs):(0<=sH p l/\sH p l=tw (λc=> !p c) l)\/(sH p l<0/\tw (λc=> !p c) l=l.length):=by
 unfold sH;have:=vL (λc=> !p c) l;split
 .left;omega
 .right;omega
theorem IR (s:ByteArray) (g:Nat) (p:UInt8->Bool) (w:World) (hp:pB g p) (hm:s.size<=9223372036854775807):
  Calls aE 130 #[aD s,.func (.func g) #[] #[]] w (aH (aB aC (tw (λc=> !p c) s.data.toList)) w):=by
 have HB:=aA (λW=>cU s ▸ NT W 5 s (grownCap W s.size 0 5) hm);have HP:=aA hp;have HU:=aA (Kg p s.data.toList);rw[cU]at HU;have HL:=aA (cU s);clear hp;rcases HU.out with⟨h1,h2⟩|⟨h1,h2⟩
 .have H2:=aA h2;clear HU h2;go_enter zq,yk;go_wp2_with(go_at_call 158;refine(MT _ _ _ _ _ (HB.out _) HP.out).mono ?_;rintro e w' ⟨rfl,rfl⟩)
  go_ret;exact aH.of (by rw[<-H2.out];rfl) aG
 .have H2:=aA h2;clear HU h2;go_enter zq,yk;go_wp2_with(go_at_call 158;refine(MT _ _ _ _ _ (HB.out _) HP.out).mono ?_;rintro e w' ⟨rfl,rfl⟩)
  go_ret;exact aH.of (by rw[H2.out];rfl) aG
theorem V8:pB 128 bB:=⟨enters_of Tryz.func128 kr rfl,nQ⟩
theorem Fi (c:UInt8) (w:World):Calls aE 203 #[.int .u8 c.toNat] w λe w'=>e=aL (aI (!aQ c))/\w=w':=by
 go_enter Tryz.func203,Tryz.ntmps203;go_wp2_with(go_at_call 109;refine(qD _ _).mono ?_;rintro e w' ⟨rfl,rfl⟩)
 all_goals go_ret
 all_goals exact⟨rfl,rfl⟩
theorem Fh:pB 203 (λc=> !aQ c):=⟨enters_of Tryz.func203 kr rfl,Fi⟩
theorem Rc (c:UInt8) (w:World):Calls aE 127 #[.int .u8 c.toNat] w λe w'=>e=aL (aI (!dS c))/\w=w':=by
 cases hs:bB c
 .have HX:Hid ((!dS c)=((c.toNat:Int) !=44)):=by
   show _=_;unfold dS;rw[hs,bK];simp;omega
  go_enter Tryz.func127,Tryz.ntmps127;go_wp2_with(go_at_call 128;refine(nQ _ _).mono ?_;rintro e w' ⟨rfl,rfl⟩;rw[hs])
  all_goals go_ret
  all_goals exact⟨mS HX.out.symm,rfl⟩
 .have HX:Hid ((!dS c)=false):=by
   show _=_;unfold dS;rw[hs];rfl
  go_enter Tryz.func127,Tryz.ntmps127;go_wp2_with(go_at_call 128;refine(nQ _ _).mono ?_;rintro e w' ⟨rfl,rfl⟩;rw[hs])
  all_goals go_ret
  all_goals exact⟨mS HX.out.symm,rfl⟩
theorem Re:pB 127 (λc=> !dS c):=⟨enters_of Tryz.func127 kr rfl,Rc⟩
theorem UO (p:UInt8->Bool):(λc=> !(λc=> !p c) c)=p:=by funext c;simp
theorem Ny (s:ByteArray) (w:World) (hm:s.size<=9223372036854775807):
  Calls aE 170 #[aD s] w (aH (Value.tuple #[aD ⟨(s.data.toList.dropWhile aQ).toArray⟩,aI (decide (1<=tw aQ s.data.toList)&&decide (tw aQ s.data.toList<=9))]) w):=by
 have HU:=aA (λW=>UO aQ ▸ IR s _ _ W Fh hm);have hle:=vL aQ s.data.toList;rw[cU]at hle;have HS:=aA (DS s (tw aQ s.data.toList));have HD:=aA (tL aQ s.data.toList);generalize tw aQ s.data.toList=n at*;by_cases h1:1<=n
 .by_cases h2:n<=9;all_goals
   go_enter Tryz.func170,Tryz.ntmps170;go_wp2_with(go_at_call 130;(with_reducible refine zG (HU.out _) λX=>?_))
   go_ret2;exact aH.of (by rw[<-HD.out,<-HS.out];simp[h1,h2];try omega) aG
 .go_enter Tryz.func170,Tryz.ntmps170;go_wp2_with(go_at_call 130;(with_reducible refine zG (HU.out _) λX=>?_))
  go_ret2;exact aH.of (by rw[<-HD.out,<-HS.out];simp;try omega) aG
def nU (l:Bs):Bs:=(l.reverse.dropWhile bB).reverse
theorem SV (l:Bs) (c:UInt8) (h:bB c=true):nU (l++[c])=nU l:=by
 unfold nU;rw[yf,List.reverse_singleton,List.singleton_append,nM h]
theorem SW (l:Bs) (c:UInt8) (h:bB c=false):nU (l++[c])=l++[c]:=by
 unfold nU;rw[yf,List.reverse_singleton,List.singleton_append,lF (by simp[h])];simp
def kO (l:Bs):Bs:=nU (l.dropWhile bB)
theorem Oq (l:Bs) (k h:Nat) (hk:k<=h) (hh:h<l.length):(l.take (h+1)).drop k=(l.take h).drop k++[l[h]]:=by
 rw[List.take_succ_eq_append_getElem hh,List.drop_append_of_le_length (by simp;omega)]
theorem QG (s:ByteArray) (w:World) (hm:s.size<=9223372036854775807):
  Calls aE 202 #[aD s] w λe w'=>e=aL (aD ⟨(kO s.data.toList).toArray⟩)/\w=w':=by
 obtain⟨T,hT⟩: ∃T,kO s.data.toList=T:=⟨_,rfl⟩;have HT:=aA hT;rw[hT];clear hT;have HL:=aA (cU s);go_enter Tryz.func202,Tryz.ntmps202;go_wp2_with fail
 go_loop [3] (λi=> ∃k:Nat,k<=s.size/\i=aB aC k/\Hid ((s.data.toList.drop k).dropWhile bB=s.data.toList.dropWhile bB)) (λi=>s.size-(intOf i).toNat)
 case atStart=>exact⟨0,by omega,rfl,rfl⟩
 case round=>
  obtain⟨k,hk,rfl,HK⟩:=hrel;by_cases hlt:k<s.size
  .have HD:=aA (oB s k hlt);cases hs:bB s[k]
   .have HR:Hid (nU (s.data.toList.drop k)=T):=by
     show _=_;rw[<-HT.out,kO,<-HK.out,HD.out,lF (by simp[hs])]
    go_wp2_with(go_at_call 128;(with_reducible refine zQ (nQ _ _) ?_);rw[hs])
    go_loop [4] (λi=> ∃h:Nat,k<=h/\h<=s.size/\i=aB aC h/\Hid (nU ((s.data.toList.take h).drop k)=T)) (λi=>(intOf i).toNat)
    case atStart=>exact⟨s.size,hk,bA _,rfl,by show _=_;rw[<-HL.out,List.take_length];exact HR.out⟩
    case round=>
     obtain⟨h,hkh,hh,rfl,HJ⟩:=hrel;by_cases hlt2:k<h
     .obtain⟨j,rfl⟩: ∃j,h=j+1:=⟨h-1,by omega⟩;have HC:Hid ((s.data.toList.take (j+1)).drop k=(s.data.toList.take j).drop k++[s[j]]):=by
       show _=_;exact Oq s.data.toList k j om (by rw[cU];omega)
      have ej:((j+1:Nat):Int)-1=j:=by omega
      cases hs2:bB s[j]
      .have HX:Hid (s.extract k (j+1)=⟨T.toArray⟩):=by
        show _=_;rw[R5,<-HJ.out,HC.out,SW _ _ hs2]
       go_wp2_with(go_at_call 128;(with_reducible refine zQ (nQ _ _) ?_))
       go_ret;exact⟨by rw[<-HX.out];rfl,rfl⟩
      .have HX:Hid (nU ((s.data.toList.take j).drop k)=T):=by
        show _=_;rw[<-HJ.out,HC.out,SV _ _ hs2]
       go_wp2_with(go_at_call 128;(with_reducible refine zQ (nQ _ _) ?_))
       go_round
       case rel=>exact⟨j,by omega,by omega,by go_num,HX⟩
       case measure=>simp[intOf]
     .obtain rfl:h=k:=by omega
      have HX:Hid (T=[]):=by
       show _=_;rw[<-HJ.out,iG (by simp;omega)];rfl
      go_wp2
      go_ret;exact⟨by rw[HX.out];rfl,rfl⟩
   .have HN:Hid ((s.data.toList.drop (k+1)).dropWhile bB=s.data.toList.dropWhile bB):=by
     show _=_;rw[<-HK.out,HD.out,nM hs]
    go_wp2_with(go_at_call 128;(with_reducible refine zQ (nQ _ _) ?_);rw[hs])
    go_round
    case rel=>exact⟨k+1,by omega,by go_num,HN⟩
    case measure=>simp[intOf];omega
  .obtain rfl:k=s.size:=by omega
   have HX:Hid (T=[]):=by
    show _=_;rw[<-HT.out,kO,<-HK.out,iG (Nat.le_of_eq (cU s))];rfl
   go_wp2_with fail
   go_loop [4] (λi=>i=aB aC s.size) (λ_=>0)
   case atStart=>rfl
   case round=>
    obtain rfl:=hrel;go_wp2
    go_ret;exact⟨by rw[HX.out];rfl,rfl⟩
theorem F4 (l:Bs): ∀(acc:Bs) (c:UInt8),bB c=true->fY acc (l++[c])=fY acc l:=by
 induction l with
 |nil=>
  intro acc c h;show(if bB c=true then(if acc=[]then fY [] []else acc::fY [] [])else fY (acc++[c]) [])=(if acc=[]then []else [acc]);rw[if_pos h];split<;>rfl
 |cons d l ih=>
  intro acc c h;rw[cF,fY,fY,ih _ c h,ih _ c h]
theorem F7 (l:Bs):dZ (nU l)=dZ l:=by
 suffices H: ∀m:Bs,dZ (nU m.reverse)=dZ m.reverse by simpa using H l.reverse
 intro m;induction m with
 |nil=>rfl
 |cons c m ih=>
  rw[List.reverse_cons];cases h:bB c
  .rw[SW _ _ h]
  .rw[SV _ _ h,ih];unfold dZ;rw[F4 _ _ _ h]
theorem F6 (l:Bs):dZ (l.dropWhile bB)=dZ l:=by
 induction l with
 |nil=>rfl
 |cons c l ih=>
  cases h:bB c
  .rw[lF (by simp[h])]
  .rw[nM h,ih,AP _ _ h]
theorem PD (l:Bs):dZ (kO l)=dZ l:=by
 unfold kO;rw[F7,F6]
theorem F9 {c:UInt8} {r:Bs} (h:bB c=false):dZ (c::r)=(c::r).takeWhile (λc=> !bB c)::dZ ((c::r).dropWhile (λc=> !bB c)):=by
 have hu:((c::r).takeWhile (λc=> !bB c)).all (λc=> !bB c)=true:=List.all_takeWhile;have hn:(c::r).takeWhile (λc=> !bB c)≠[]:=by rw[List.takeWhile_cons_of_pos (by simp[h])];simp
 conv=>lhs;rw[<-Wv (p:=λc=> !bB c) (l:=c::r)]
 have e:dZ ((c::r).takeWhile (λc=> !bB c)++(c::r).dropWhile (λc=> !bB c))=fY ((c::r).takeWhile (λc=> !bB c)) ((c::r).dropWhile (λc=> !bB c)):=by
  unfold dZ;rw[IL _ [] _ hu,fG]
 rw[e];have hd:=qh (λc=> !bB c) (c::r);generalize(c::r).takeWhile (λc=> !bB c)=u at*;generalize(c::r).dropWhile (λc=> !bB c)=t at*;cases t with
 |nil=>rw[fY,if_neg hn];rfl
 |cons d t=>
  have hs:bB d=true:=by simpa using hd
  rw[fY,if_pos hs,if_neg hn,AP _ _ hs];rfl
attribute [go_sem] Oper.semAt_some
def FH (w:World) (b:Nat):Nat:=match w.cell? ⟨b,0,none⟩with
 |some (aD t)=>t.size
 |_=>0
theorem zT {w:World} {b:Nat} {t:TypeId} {s:ByteArray} (h:Boxed w b t (aD s)):FH w b=s.size:=by
 unfold FH;rw[h.cell]
def dA (c:UInt8):Bool:= !bB c
theorem L9 {l:Bs} {c:UInt8} {r:Bs} (h:kO l=c::r):bB c=false:=by
 have h1:=qh bB l;unfold kO at h;cases hd:l.dropWhile bB with
 |nil=>rw[hd]at h;simp[nU]at h
 |cons d t=>
  rw[hd]at h h1;have h2:bB d=false:=by simpa using h1
  have h3:nU (d::t)<+:d::t:=by
   unfold nU;have:=Xu bB (l:=(d::t).reverse);rw[<-List.reverse_prefix]at this;simpa using this
  rw[h]at h3;obtain⟨u,hu⟩:=h3;simp at hu;rw[hu.1];exact h2
theorem QF (l:Bs):(kO l).length<=l.length:=by
 unfold kO nU;have h1:=nB bB l;have h2:=nB bB (l.dropWhile bB).reverse;simp at*;omega
theorem G0:dZ []=[]:=rfl
theorem G1 {c:UInt8} {r:Bs} (h:bB c=false):dZ (c::r)=(c::r).takeWhile dA::dZ (kO ((c::r).dropWhile dA)):=by
 rw[PD];exact F9 h
theorem Ml (s:ByteArray) (bs:Nat) (bw:Nat->Prop) (W:World) (hb:Boxed W bs 9 (aD s)) (hbw: ¬bw bs) (hm:s.size<=140737488355328):
  yM aE 201 #[aM (some ⟨bs,0,none⟩)] (λu=> #[sv u]) (λk=>k=bs) bw (dZ s.data.toList) W:=by
 intro l J Jx hJ hY h0;refine callsIn_of_wp Tryz.func201 rfl trivial ?_ rfl;have hc:=hb.cell;have hf:=hb.frozen;have HT:=aA (λW=>QG s W om);simp only[Tryz.ntmps201,List.size_toArray,aY,List.length_nil,Nat.reduceAdd,Nat.reduceSub,Array.replicate_succ,Array.replicate_zero,List.push_toArray,List.append_toArray,fG,cF];gi_wp2_with (gi_at_call 202;refine(callsIn_wide.2 (HT.out _)).mono ?_;rintro e w' ⟨rfl,rfl⟩)
 clear hc hf;gi_loopw [3] (λ_ wr=> ∃(t:Bs) (pre:List Bs),t.length<=s.size/\Boxed wr bs 9 (aD ⟨(kO t).toArray⟩)/\J pre wr/\Hid (pre++dZ (kO t)=dZ s.data.toList)) (λ_ wr=>FH wr bs)
 case atStart=>
  exact⟨s.data.toList,[],Nat.le_of_eq (cU s),hb.set _,hJ _ _ _ h0 (aJ.setCell (pv:=λk=>k=bs) (aJ.refl _ _) (Or.inr rfl) _),by show _=_;rw[PD];rfl⟩
 case round=>
  obtain⟨t,pre,ht,hbx,hJs,HK⟩:=hrel;have hh:=λc r=> @L9 t c r;have hl:=QF t;generalize kO t=u at*;have hc:=hbx.cell;have hf:=hbx.frozen;cases u with
  |nil=>
   have HE:Hid (pre=dZ s.data.toList):=by
    show _=_;rw[<-HK.out,G0,bV]
   clear HK hh;gi_wp2;go_end0;exact⟨⟨_,rfl⟩,.inl (HE.out ▸ hJs)⟩
  |cons c r=>
   have hs:=hh c r rfl;obtain⟨S,hS⟩: ∃S:ByteArray,⟨(c::r).toArray⟩=S:=⟨_,rfl⟩;have HS:=aA hS;have hz:S.size=r.length+1:=by rw[<-hS];rfl
   have hne:=GN (a:=S) om;have hm2:S.size<=140737488355328:=by simp at hl;omega
   rw[hS]at hbx hc;have HD:Hid (S.data.toList=c::r):=by show _=_;rw[<-hS]
   have hpos:0<S.size:=by omega
   have HZ:=aA hz;clear hS hh hz;gi_wp2;gi_loop [3] (λi=> ∃k:Nat,k<=S.size/\i=aB aC k/\Hid (tw dA S.data.toList=k+tw dA (S.data.toList.drop k))) (λi=>S.size-(intOf i).toNat)
   case atStart=>exact⟨0,by omega,rfl,by show _=_;simp⟩
   case round=>
    obtain⟨k,hk,rfl,HI⟩:=hrel;by_cases hgo: ∃h:k<S.size,bB S[k]=false
    .obtain⟨hlt,hsp⟩:=hgo;have HDk:=aA (oB S k hlt);have HN:Hid (tw dA S.data.toList=k+1+tw dA (S.data.toList.drop (k+1))):=by
      show _=_;rw[HI.out,HDk.out,AS _ (by simp[dA,hsp])];omega
     gi_wp2_with (gi_at_call 128;(with_reducible refine(callsIn_wide.2 (nQ _ _)).mono ?_);rintro e w' ⟨rfl,rfl⟩;rw[hsp])
     go_round
     case rel=>exact⟨k+1,by omega,by go_num,HN⟩
     case measure=>simp[intOf];omega
    .have hend:(∃h:k<S.size,bB S[k]=true)\/k=S.size:=by
      by_cases hlt:k<S.size
      .left;refine⟨hlt, ?_⟩;cases hq:bB S[k]
       .exact absurd ⟨hlt,hq⟩ hgo
       .rfl
      .right;omega
     have hkt:k=tw dA S.data.toList:=by
      have:=HI.out;rcases hend with⟨hlt,hq⟩|rfl
      .rw[oB S k hlt,AT _ (by simp[dA,hq])]at this;omega
      .rw[uW S _ (bA _)]at this;simp[tw]at this;simpa[tw]using this.symm
     have HK2:Hid (S.extract 0 k=⟨((c::r).takeWhile dA).toArray⟩):=by
      show _=_;rw[RF,hkt,QS,HD.out]
     have HK3:Hid (S.extract k S.size=⟨((c::r).dropWhile dA).toArray⟩):=by
      show _=_;rw[DS,hkt,tL,HD.out]
     have HX:Hid (pre++[(c::r).takeWhile dA]++dZ (kO ((c::r).dropWhile dA))=dZ s.data.toList):=by
      show _=_;rw[<-HK.out,G1 hs,List.append_assoc];rfl
     have HL:Hid (((c::r).dropWhile dA).length<=r.length):=by
      show _<=_;rw[nM (by simp[dA,hs])];exact nB _ _
     obtain⟨fn,tmps,assign,body,hy,hR⟩:=hY pre ((c::r).takeWhile dA) _ ⟨dZ (kO ((c::r).dropWhile dA)),HX.out⟩ hJs;rw[sv,<-HK2.out]at hy;clear hgo hkt;have hend2:(∃h:k<S.size,bB S[k]=true)\/ ¬(k<S.size):=by
      rcases hend with h|h
      .exact .inl h
      .right;omega
     clear hend;rcases hend2 with⟨hlt,hsp⟩|hlt
     all_goals
      gi_wp2_with (gi_at_call 128;(with_reducible refine(callsIn_wide.2 (nQ _ _)).mono ?_);rintro e w' ⟨rfl,rfl⟩;rw[hsp])
      try rw[hy]
      try go_simp
      refine hR.mono ?_;rintro e W3 (⟨rfl,hJ3,ht3⟩|⟨rfl,hJx⟩)
      .have hb3:=ht3.boxed hbx hbw;have hc3:=hb3.cell;have hf3:=hb3.frozen;have HT3:=aA (λW=>(by
        have h1:=QG (S.extract k S.size) W (by rw[ByteArray.size_extract];omega);have h2:(S.extract k S.size).data.toList=(c::r).dropWhile dA:=by rw[HK3.out]
        rw[h2]at h1;exact h1:Calls aE 202 #[aD (S.extract k S.size)] W λe w'=>e=aL (aD ⟨(kO ((c::r).dropWhile dA)).toArray⟩)/\W=w'))
       have hLT:=aA (QF ((c::r).dropWhile dA));gi_wp2_with (gi_at_call 202;(with_reducible refine(callsIn_wide.2 (HT3.out _)).mono ?_);rintro e w' ⟨rfl,rfl⟩)
       go_roundw
       case rel=>
        refine⟨(c::r).dropWhile dA,pre++[(c::r).takeWhile dA], ?_,(hb3.set _).set _,hJ _ _ _ (hJ _ _ _ hJ3 (aJ.setCell (pv:=λk=>k=bs) (aJ.refl _ _) (Or.inr rfl) _)) (aJ.setCell (pv:=λk=>k=bs) (aJ.refl _ _) (Or.inr rfl) _),HX.out⟩;have:=HL.out;simp at hl;omega
       case measure=>
        have h1:=zT ((hb3.set (aD (S.extract k S.size))).set (aD ⟨(kO ((c::r).dropWhile dA)).toArray⟩));have h2:=zT hbx;rw[h1,h2,HZ.out];have h3:(⟨(kO ((c::r).dropWhile dA)).toArray⟩:ByteArray).size=(kO ((c::r).dropWhile dA)).length:=rfl;have:=HL.out;have:=hLT.out;omega
      .gi_wp2;refine bodyPost_ret (results_none rfl _ _ _) rfl ?_;exact⟨⟨_,rfl⟩,.inr ⟨pre,_,⟨_,HX.out⟩,hJx⟩⟩
theorem JX:jX aE 44 9 (aD ⟨#[]⟩) 1 16:=⟨by kernel_rfl,by kernel_rfl,by kernel_rfl,by decide⟩
theorem Mm (s:ByteArray) (w:World):Calls aE 166 #[aD s] w λe w'=>e=aL (.func (.func 201) #[] #[aM (some ⟨w.heap.size,0,none⟩)])/\w.alloc (.cells #[aD s] 9)=w':=by
 go_enter Tryz.func166,Tryz.ntmps166;go_wp2
 go_ret;exact⟨rfl,rfl⟩
theorem PG (l:Bs):(dZ l).length<=l.length:=by
 suffices H: ∀l acc,(fY acc l).length<=l.length+(if acc=[]then 0 else 1) by simpa[dZ]using H l []
 intro l;induction l with
 |nil=>intro acc;rw[fY];split<;>simp
 |cons c l ih=>
  intro acc;rw[fY];have h1:=ih [];have h2:=ih (acc++[c]);rw[if_pos rfl]at h1;rw[if_neg (by simp)]at h2;split
  .split<;>simp<;>omega
  .simp only[aY];split<;>omega
def DQ (u:Bs):List Value:=[sv u]
theorem Q7 (us:List Bs):us.flatMap DQ=us.map sv:=by
 induction us with
 |nil=>rfl
 |cons u us ih=>rw[List.flatMap_cons,ih];rfl
abbrev Tg (w:World):=vG w w.heap.size (w.heap.size+4) 44 9 1 DQ
theorem Mk (s:ByteArray) (w:World) (hm:s.size<=140737488355):Calls aE 134 #[aD s] w (pA w (dZ s.data.toList).length 1 ((dZ s.data.toList).map sv)):=by
 refine(callsIn_wide (n:=0)).1 ?_;refine callsIn_of_wp_marks (n:=0) Tryz.func134 rfl trivial ?_ rfl;simp only[Tryz.ntmps134,List.size_toArray,aY,List.length_nil,Nat.reduceAdd,Nat.reduceSub,Array.replicate_succ,Array.replicate_zero,List.push_toArray,List.append_toArray,fG,cF];have hfew:=PG s.data.toList;rw[cU]at hfew;gi_wp2_with (gi_at_call 166;refine(callsIn_wide.2 (Mm s _)).mono ?_;rintro e w' ⟨rfl,rfl⟩)
 refine yO (B:=w.heap.size+2) (by simp) rfl (enters_of Tryz.func201 kr rfl) (encs:=λu=> #[sv u]) (λ_=>rfl) (xs:=dZ s.data.toList) (λk=>k=w.heap.size+1)
  (λk=>k=w.heap.size\/w.heap.size+4<=k) (by intro k hk;omega) (by intro k hk;omega) (Tg w) (λ_ _ _=>False) ?hI ?hIx ?h0 ?hiter ?hround ?hdone ?hstop
 case hI=>
  intro pre A C h ht;exact h.turned ht om (by intro k hk;omega) (by intro k hk;omega)
 case hIx=>intro c pre A C h _;exact h.elim
 case h0=>exact⟨⟨_,(Boxed.new w 44 (aF none 0 0)).alloc (.cells #[aD s] 9),World.ownsRow_nil _ _ _ _⟩,aG⟩
 case hiter=>
  intro o1 o2;have b5:=(Boxed.new (w.alloc (.cells #[aF none 0 0] 44)) 9 (aD s)).alloc o1 |>.alloc o2
  simp only[World.size_alloc]at b5;exact Ml s _ _ _ b5 om om
 case hround=>
  rintro l pre x A hx ⟨_,hBA⟩ hsz;simp only[sv];gi_wp2;refine⟨aJ.refl _ _,λA2 ht hI2 hs2=> ?_⟩;obtain⟨⟨v,bv,ho⟩,hB⟩:=hI2;have d4:=bv.cell;have e4:=bv.frozen;have HX:=aA hx;have HB:=aA hB;have hlen:pre.length<=140737488355:=by
   have h1:=hx.length_le;simp at h1;omega
  have hs3:w.heap.size+4<=A2.heap.size:=by omega
  clear hx hB hs2 ht;gi_wp2_with (gi_at_builtin;go_loud(refine CW rfl _ _ 44 rfl JX (w.heap.size+4) rfl (ho.alloc _) (by simp;omega) ⟨_,0,none⟩ 0 1 (DQ x) rfl rfl (eR (c:= #[sv x]) (by simp[go_sem])) (by simp[DQ,sv,Value.oneCell']) (by unfold maxLen;omega) om ?_);intro g cap W' ho' ht';have bv':=ht'.boxed (bv.alloc _) om;have d5:=bv'.cell;have e5:=bv'.frozen)
  have h3:=vG.put (x:=x) (HB.out.trans ((Below.refl _ _).alloc HB.out.size _)) (bv.alloc _) ho' rfl ht' om (bA _);exact⟨(((aJ.refl _ _).alloc _).trans h3.1),h3.2⟩
 case hdone=>
  rintro W ⟨⟨v,bv,ho⟩,hB⟩ hK;have d1:=bv.cell;gi_wp2;have hT:aJ (λk=>k=w.heap.size+2) W (W.putObj (w.heap.size+2) (.deferred none)):=aJ.putObj (pv:=λk=>k=w.heap.size+2) (aJ.refl _ _) (Or.inr rfl) _;refine⟨by simp,.inl ⟨_,_,rfl,run_takeDeferred hK, ?_⟩⟩;refine⟨v,by simp[results,Tryz.results134,go_sem], ?_⟩;rw[<-Q7];exact pA.own (hB.trans (hT.below hB.size (λk hk=>by omega))) (hT.own ho (λk hk=>by omega))
 case hstop=>intro c pre x W _ h;exact h.elim
def jB (d:Nat) (c:UInt8):Nat:=if c.toNat=40 then d+1 else if c.toNat=41 then d-1 else d
def qY (d:Nat) (c:UInt8):Bool:=decide (c.toNat=44)&&decide (d=0)
theorem RA {d:Nat} {c:UInt8} {r:Bs} (h:qY (jB d c) c=true):eX d (c::r)=0:=by
 unfold qY jB at h;simp at h;rw[if_neg om,if_neg om]at h;rw[eX,if_pos h]
theorem RB {d:Nat} {c:UInt8} {r:Bs} (h:qY (jB d c) c=false):eX d (c::r)=1+eX (jB d c) r:=by
 unfold qY at h;rw[eX,if_neg]
 .rfl
 .rintro⟨h1,h2⟩;unfold jB at h;rw[if_neg om,if_neg om]at h;simp[h1,h2]at h
def xR (N n:Nat):Int:=if N<n then(N:Nat)else-1
theorem JU (l:Bs): ∀d,eX d l<=l.length:=by
 induction l with
 |nil=>intro d;simp[eX]
 |cons c r ih=>
  intro d;cases h:qY (jB d c) c
  .rw[RB h];have:=ih (jB d c);simp;omega
  .rw[RA h];omega
theorem RY (c:UInt8) (b d:Nat) (w:World) (hb:Boxed w b 3 (aB aC d)) (hd:d<=140737488355328):
  Calls aE 165 #[.int .u8 c.toNat,aM (some ⟨b,0,none⟩)] w λe w'=>e=aL (aI (qY (jB d c) c))/\aJ (λk=>k=b) w w'/\Boxed w' b 3 (aB aC (jB d c:Nat)):=by
 have hc:=hb.cell;have hf:=hb.frozen;by_cases h40:c.toNat=40
 .have b40:((c.toNat:Int)==40)=true:=by simp;omega
  have b44:((c.toNat:Int)==44)=false:=by simp;omega
  have HX:Hid (qY (jB d c) c=false):=by show _=_;unfold qY;simp;omega
  have HN:Hid ((jB d c:Int)=d+1):=by show _=_;unfold jB;rw[if_pos h40];omega
  have hb2:=hb.set (aB aC ((d:Int)+1));have hc2:=hb2.cell;have hf2:=hb2.frozen;clear h40;go_enter xc,yl;go_wp2
  go_ret;refine⟨by rw[HX.out];rfl,aJ.setCell (pv:=λk=>k=b) (aJ.refl _ _) (p:=⟨b,0,none⟩) (Or.inr rfl) _,by rw[HN.out];exact hb2⟩
 .have b40:((c.toNat:Int)==40)=false:=by simp;omega
  by_cases h41:c.toNat=41
  .have b41:((c.toNat:Int)==41)=true:=by simp;omega
   have b44:((c.toNat:Int)==44)=false:=by simp;omega
   have HX:Hid (qY (jB d c) c=false):=by show _=_;unfold qY;simp;omega
   rcases Nat.eq_zero_or_pos d with rfl|hd0
   .have HN:Hid (((jB 0 c:Nat):Int)=0):=by show _=_;unfold jB;rw[if_neg h40,if_pos h41];rfl
    have hb2:=hb.set (aB aC 0);have hc2:=hb2.cell;have hf2:=hb2.frozen;clear h40 h41;go_enter xc,yl;go_wp2
    go_ret;refine⟨by rw[HX.out];rfl,aJ.setCell (pv:=λk=>k=b) (aJ.refl _ _) (p:=⟨b,0,none⟩) (Or.inr rfl) _,by rw[HN.out];exact hb2⟩
   .have HN:Hid (((jB d c:Nat):Int)=(d:Int)-1):=by show _=_;unfold jB;rw[if_neg h40,if_pos h41];omega
    have hmx:max ((d:Int)-1) 0=(d:Int)-1:=by omega
    have hb2:=hb.set (aB aC ((d:Int)-1));have hc2:=hb2.cell;have hf2:=hb2.frozen;have hlt0: ¬((d:Int)-1<0):=by omega
    clear h40 h41;go_enter xc,yl;go_wp2
    all_goals go_ret
    all_goals refine⟨by rw[HX.out];rfl,aJ.setCell (pv:=λk=>k=b) (aJ.refl _ _) (p:=⟨b,0,none⟩) (Or.inr rfl) _,by rw[HN.out];exact hb2⟩
  .have b41:((c.toNat:Int)==41)=false:=by simp;omega
   have HN:Hid (jB d c=d):=by show _=_;unfold jB;rw[if_neg h40,if_neg h41]
   have e44:((c.toNat:Int)==44)=decide (c.toNat=44):=by rw[bK];simp;omega
   have e0:((d:Int)==0)=decide (d=0):=by rw[bK];simp
   have HX:Hid (qY (jB d c) c=(decide (c.toNat=44)&&decide (d=0))):=by show _=_;rw[HN.out];rfl
   clear h40 h41;generalize decide (c.toNat=44)=q at*;generalize decide (d=0)=z at*;cases q;all_goals
    go_enter xc,yl;go_wp2
    go_ret;exact⟨by rw[HX.out];simp,aJ.refl _ _,by rw[HN.out];exact hb⟩
theorem iV.turned {W W':World} {nb:Nat} {e:TypeId} {s:ByteArray} {pv:Nat->Prop} (h:iV W nb e s) (ht:aJ pv W W') (hn: ¬pv nb):iV W' nb e s:=by
 have hl:=h.lt;obtain⟨C,m,h1,h2⟩:=h;exact⟨C,m,(ht.block nb hl hn).trans h1,h2⟩
theorem Q3 (s:ByteArray) (nb b:Nat) (cp:Nat) (w:World) (hy:iV w nb 5 s) (hne:nb≠b) (hb:Boxed w b 3 (aB aC 0)) (hm:s.size<=140737488355327):
  Calls aE 158 #[aF (some ⟨nb,0,none⟩) s.size cp,.func (.func 165) #[] #[aM (some ⟨b,0,none⟩)]] w λe w'=>e=aL (aB aC (xR (eX 0 s.data.toList) s.size))/\aJ (λk=>k=b) w w':=by
 obtain⟨N,hN⟩: ∃N,eX 0 s.data.toList=N:=⟨_,rfl⟩;have HN:=aA hN;have hle:=JU s.data.toList 0;rw[cU]at hle;rw[hN]at hle ⊢;clear hN;have eg:=enters_of xc (P:=aE) kr rfl;go_enter Tryz.func158,Tryz.ntmps158;go_wp2_with fail
 go_loopw [8] (λi wr=> ∃k d:Nat,k<=s.size/\d<=k/\i=aB aC k/\Boxed wr b 3 (aB aC d)/\aJ (λk=>k=b) w wr/\Hid (k+eX d (s.data.toList.drop k)=N)) (λi _=>s.size-(intOf i).toNat)
 case atStart=>exact⟨0,0,by omega,by omega,rfl,hb,aJ.refl _ _,by show _=_;rw[List.drop_zero,HN.out];omega⟩
 case round=>
  obtain⟨k,d,hk,hd,rfl,hbx,ht,HK⟩:=hrel;by_cases hlt:k<s.size
  .have hcc:=(hy.turned ht hne).cell k hlt;have HD:=aA (oB s k hlt);have HT:=aA ht;clear ht;have hdn:jB d s[k]<=k+1:=by unfold jB;split;omega;split<;>omega
   cases hz:qY (jB d s[k]) s[k]
   .have HS:Hid (k+1+eX (jB d s[k]) (s.data.toList.drop (k+1))=N):=by
     show _=_;rw[<-HK.out,HD.out,RB hz];omega
    go_wp2_with((with_reducible refine(RY s[k] b d _ hbx om).mono ?_);rintro e w' ⟨rfl,ht2,hb2⟩;rw[hz])
    go_roundw
    case rel=>exact⟨k+1,_,by omega,hdn,by go_num,hb2,HT.out.trans ht2,HS⟩
    case measure=>simp[intOf];omega
   .have HS:Hid (xR N s.size=k):=by
     show _=_;have:=HK.out;rw[HD.out,RA hz]at this;unfold xR;rw[if_pos om];omega
    go_wp2_with((with_reducible refine(RY s[k] b d _ hbx om).mono ?_);rintro e w' ⟨rfl,ht2,hb2⟩;rw[hz])
    go_ret;exact⟨sC HS.out.symm,HT.out.trans ht2⟩
  .have HS:Hid (xR N s.size= -1):=by
    show _=_;have:=HK.out;unfold xR;rw[if_neg om]
   go_wp2
   go_ret;exact⟨sC HS.out.symm,ht⟩
theorem J9 (s:ByteArray) (b:Nat) (w:World) (hb:Boxed w b 3 (aB aC 0)) (hm:s.size<=140737488355327):
  Calls aE 130 #[aD s,.func (.func 165) #[] #[aM (some ⟨b,0,none⟩)]] w λe w'=>e=aL (aB aC (eX 0 s.data.toList:Nat))/\aJ (λk=>k=b) w w':=by
 have hlt:=hb.lt;have hI:=aA (Q3 s w.heap.size b (grownCap w s.size 0 5) (w.grow (kZ w 5 s)) (iV.new w _ s) om (((aJ.refl (λ_=>False) w).grow _).boxed hb (λh=>h)) hm);have hle:=JU s.data.toList 0;rw[cU]at hle;have HT:Hid (aJ (λk=>k=b) w (w.grow (kZ w 5 s))):=(aJ.refl _ w).grow _;by_cases hs:eX 0 s.data.toList<s.size
 .simp only[xR,if_pos hs]at hI;generalize eX 0 s.data.toList=N at*;go_enter zq,yk;go_wp2_with(go_at_call 158;(with_reducible refine hI.out.mono ?_);rintro e w' ⟨rfl,ht⟩)
  go_ret;exact⟨rfl,HT.out.trans ht⟩
 .simp only[xR,if_neg hs]at hI;have HE:Hid (eX 0 s.data.toList=s.size):=by show _=_;omega
  rw[HE.out]at hs hle ⊢;go_enter zq,yk;go_wp2_with(go_at_call 158;(with_reducible refine hI.out.mono ?_);rintro e w' ⟨rfl,ht⟩)
  go_ret;exact⟨rfl,HT.out.trans ht⟩
theorem i8 (s:ByteArray) (w:World) (hm:s.size<=140737488355327):
  Calls aE 132 #[aD s] w (aH (aB aC (eX 0 s.data.toList:Nat)) w):=by
 have hb:=Boxed.new w 3 (aB aC 0);have hU:=aA (J9 s _ _ hb hm);have hB:Hid (Below w.heap.size w (w.alloc (.cells #[aB aC 0] 3))):=(Below.refl _ _).alloc (bA _) _;go_enter Tryz.func132,Tryz.ntmps132;go_wp2_with(go_at_call 130;(with_reducible refine hU.out.mono ?_);rintro e w' ⟨rfl,ht⟩)
 go_ret;exact aH.of rfl (hB.out.trans (ht.below (by simp) (by intro k hk;omega)))
theorem WL (us:List Bs) (sep:Bs):Lib.join us sep=jJ sep us:=by
 induction us with
 |nil=>rfl
 |cons u us ih=>
  cases us with
  |nil=>simp[Lib.join,List.intercalate,jJ]
  |cons v vs=>
   rw[jJ,<-ih];simp[Lib.join,List.intercalate]
theorem RD {W:World} {A:Option Addr} {n c:Nat} (us:List Bs) (sep:Bs) (h:Rd W (aF A n c) us.length 1 (us.map sv)) (hc:us.length<=c) (hl:(jJ sep us).length<=140737488355328) (hn:us.length<=140737488355328):
  Calls aE 133 #[aF A n c,aD ⟨sep.toArray⟩] W (aH (aD ⟨(jJ sep us).toArray⟩) W):=by
 obtain⟨h1,h2,A',c',he,h4⟩:=h;cases he;by_cases h0:us.length=0
 .obtain rfl:us=[]:=List.eq_nil_of_length_eq_zero h0;refine(Tryz.strings_Join_none A c _ W).mono ?_;rintro e w' ⟨rfl,rfl⟩;exact aH.same rfl
 .obtain⟨b,off,rfl,hb,hcell⟩:=h4 om;have e1:(us.map λu=>(⟨u.toArray⟩:ByteArray)).length=us.length:=by simp
  have e2:(us.map λu=>(⟨u.toArray⟩:ByteArray)).map (·.data.toList)=us:=by
   rw[List.map_map];conv=>rhs;rw[<-List.map_id us]
   apply List.map_congr_left;intro u _;rfl
  have key:=Tryz.strings_Join b off c (us.map λu=>(⟨u.toArray⟩:ByteArray)) ⟨sep.toArray⟩ W (λj x hx=>by
   have hx2:(us.map sv)[j]? =some (aD x):=by
    rw[List.getElem?_map]at hx ⊢;cases hj:us[j]? with
    |none=>rw[hj]at hx;cases hx
    |some u=>rw[hj]at hx;cases hx;rfl
   exact hcell j _ hx2) hb (by rw[e1];exact hn) (by rw[e1];exact hc) (by rw[e2,WL];exact hl)
  rw[e1,e2]at key;refine key.mono ?_;rintro e w' ⟨rfl,hB⟩;refine⟨?_,cV hB⟩;show aL (aD ⟨(Lib.join us sep).toArray⟩)=_;rw[WL]
theorem QH (l:Bs):Lib.trimRightB l 44=gQ l:=by
 unfold Lib.trimRightB gQ;congr 2;funext c;rw[bK];simp[<-UInt8.toNat_inj]
theorem QI (l:Bs):(gQ l).length<=l.length:=by
 unfold gQ;have:=nB (λc=>decide (c.toNat=44)) l.reverse;simp at*;omega
theorem QJ (l:Bs):qC l=decide (gQ l≠l):=by
 rw[bK,decide_eq_true_iff];unfold qC gQ;rw[<-List.head?_reverse];have e: ∀m:Bs,(match m.head? with|some c=>decide (c.toNat=44)|none=>false)=true↔(m.dropWhile (λc=>decide (c.toNat=44))).length≠m.length:=by
  intro m;cases m with
  |nil=>simp
  |cons c m=>
   have:=nB (λc=>decide (c.toNat=44)) m;by_cases h:c.toNat=44
   .rw[nM (by simp[h])];simp[h];omega
   .rw[lF (by simp[h])];simp[h]
 refine(e _).trans ?_;constructor
 .intro h h2;apply h;have:=congrArg List.length h2;simpa using this
 .intro h h2;apply h;have h3:l.reverse.dropWhile (λc=>decide (c.toNat=44))=l.reverse:=(Xu _).eq_of_length h2;rw[h3,xw]
theorem LF (l:Bs):cO (l.dropWhile dS)=cO l:=by
 induction l with
 |nil=>rfl
 |cons c l ih=>
  cases h:dS c
  .rw[lF (by simp[h])]
  .rw[nM h,ih,uF h]
theorem G6 (l:Bs):(jJ [32] (dZ l)).length<=l.length:=by
 suffices H: ∀l acc,(jJ [32] (fY acc l)).length<=l.length+acc.length by
  have:=H l [];simpa[dZ]using this
 intro l;induction l with
 |nil=>intro acc;rw[fY];split<;>simp_all [jJ]
 |cons c l ih=>
  intro acc;rw[fY];have h1:=ih [];have h2:=ih (acc++[c]);split
  .split
   .simp at h1 ⊢;omega
   .cases hw:fY [] l with
    |nil=>simp[jJ]
    |cons y r=>rw[hw]at h1;simp[jJ]at h1 ⊢;omega
  .simp at h2 ⊢;omega
