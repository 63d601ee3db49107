import Derived.Lib.SmallJoins
import Derived.Test.YtccjfanpjojbnaaGreatDoorKB
namespace Go.Proofs.YtccjfanpjojbnaaGreatDoor
open Bool renaming and_eq_false_iff→Yz,and_eq_true→bD,not_eq_true'→rU,or_eq_false_iff→oK,or_eq_true→kL
open Go.Ending renaming returned→aL
open Go.IntKind renaming i64→aC
open Lib renaming hid→aA
open List renaming Pairwise→Yg,append_assoc→cY,append_nil→bV,dropWhile_suffix→Xu,drop_eq_getElem_cons→iK,drop_eq_nil_of_le→iG,eq_nil_of_length_eq_zero→gD,filter_append→jm,filter_cons_of_neg→mN,filter_cons_of_pos→kK,filter_eq_nil_iff→qz,filter_nil→Xk,flatMap_append→nL,flatMap_cons→iF,getElem?_drop→yq,getElem?_eq_getElem→eV,getElem?_eq_some_iff→gV,getElem?_take→yr,length_append→aZ,length_cons→aY,length_drop→bL,length_take→bZ,mem_append→eK,mem_cons→bJ,mem_cons_of_mem→fO,mem_cons_self→fX,mem_filter→rS,mem_iff_getElem?→Xt,mem_singleton→fW,nil_append→fG,pairwise_append→oJ,pairwise_cons→oI,take_append_drop→nJ,take_of_length_le→fI
open Nat renaming le_refl→bA,mul_le_mul_right→Xn,succ_mul→xj
open Tryz renaming prog→aE
open Go.Value renaming agg→aR,bool→aI,int→aB,slice→aF,string→aD
set_option maxRecDepth 100000
set_option maxHeartbeats 1600000
section
variable {α:Type}
structure dM (lt:α->α->Bool):Prop where
 irrefl: ∀a,lt a a=false
 asymm: ∀a b,lt a b=true->lt b a=false
 le_trans: ∀a b c,lt b a=false->lt c b=false->lt c a=false
variable (lt:α->α->Bool)
def Up (l:List α):Prop:=l.Pairwise λa b=>lt b a=false
def ev (a b:α):Bool:= !lt a b&& !lt b a
def bH (l m:List α):Prop:= ∀a,l.filter (ev lt a)=m.filter (ev lt a)
variable {lt}
theorem bH.refl (l:List α):bH lt l l:=λ_=>rfl
theorem bH.symm {l m:List α} (h:bH lt l m):bH lt m l:=λa=>(h a).symm
theorem bH.trans {l m n:List α} (h:bH lt l m) (h2:bH lt m n):bH lt l n:=λa=>(h a).trans (h2 a)
theorem bH.app {l m l2 m2:List α} (h:bH lt l m) (h2:bH lt l2 m2):bH lt (l++l2) (m++m2):=λa=>by
 rw[jm,jm,h a,h2 a]
theorem dM.ev_refl (H:dM lt) (a:α):ev lt a a=true:=by simp[ev,H.irrefl]
theorem bH.mem (H:dM lt) {l m:List α} (h:bH lt l m) {x:α} (hx:x∈l):x∈m:=by
 have:x∈l.filter (ev lt x):=rS.2 ⟨hx,H.ev_refl x⟩;rw[h x]at this;exact(rS.1 this).1
theorem dM.lt_le (H:dM lt) {a b c:α} (h:lt a b=true) (h2:lt c b=false):lt a c=true:=by
 cases h3:lt a c
 .have:=H.le_trans b c a h2 h3;rw[h]at this;cases this
 .rfl
theorem dM.le_lt (H:dM lt) {a b c:α} (h:lt b a=false) (h2:lt b c=true):lt a c=true:=by
 cases h3:lt a c
 .have:=H.le_trans c a b h3 h;rw[h2]at this;cases this
 .rfl
theorem dM.ev_no (H:dM lt) {a x y:α} (hx:ev lt a x=true) (hy:ev lt a y=true):lt x y=false:=by
 simp only[ev,bD,rU]at hx hy;exact H.le_trans y a x hy.1 hx.2
theorem bH.up_eq (H:dM lt): ∀{l m:List α},Up lt l->Up lt m->bH lt l m->l=m:=by
 intro l;induction l with
 |nil=>
  intro m _ _ h;cases m with
  |nil=>rfl
  |cons y m=>have:=h.symm.mem H (fX ..);cases this
 |cons x l ih=>
  intro m hl hm h;cases m with
  |nil=>have:=h.mem H (fX ..);cases this
  |cons y m=>
   obtain⟨hl1,hl2⟩:=oI.1 hl;obtain⟨hm1,hm2⟩:=oI.1 hm;have hx:lt x y=false:=by
    rcases bJ.1 (h.mem H (fX ..))with rfl|h1
    .exact H.irrefl _
    .exact hm1 _ h1
   have hy:lt y x=false:=by
    rcases bJ.1 (h.symm.mem H (fX ..))with rfl|h1
    .exact H.irrefl _
    .exact hl1 _ h1
   have h1:=h x;rw[kK (H.ev_refl x),kK (by simp[ev,hx,hy])]at h1;obtain⟨rfl,_⟩:=List.cons.inj h1;congr 1;refine ih hl2 hm2 λa=> ?_;have h2:=h a;cases he:ev lt a x
   .rwa[mN (by simp[he]),mN (by simp[he])]at h2
   .rw[kK he,kK he]at h2;exact(List.cons.inj h2).2
theorem bH.swap (H:dM lt) {u v:List α} (h: ∀x∈u,∀y∈v,lt y x=true):bH lt (u++v) (v++u):=λa=>by
 rw[jm,jm];cases hu:u.filter (ev lt a)with
 |nil=>rw[fG,bV]
 |cons x u'=>
  cases hv:v.filter (ev lt a)with
  |nil=>rw[fG,bV]
  |cons y v'=>
   have hx:x∈u.filter (ev lt a):=by rw[hu];exact fX ..
   have hy:y∈v.filter (ev lt a):=by rw[hv];exact fX ..
   rw[rS]at hx hy;have h1:=h x hx.1 y hy.1;have h2:=H.ev_no hy.2 hx.2;rw[h1]at h2;cases h2
theorem He (H:dM lt) {L1 L2 R1 R2 s1 s2:List α} (hA:Up lt (L1++L2)) (hB:Up lt (R1++R2)) (h1: ∀x∈L2,∀y∈R1,lt y x=true) (h2: ∀x∈L1,∀y∈R2,lt y x=false)
  (u1:Up lt s1) (a1:bH lt s1 (L1++R1)) (u2:Up lt s2) (a2:bH lt s2 (L2++R2)):Up lt (s1++s2)/\bH lt (s1++s2) ((L1++L2)++(R1++R2)):=by
 obtain⟨_,_,hA3⟩:=oJ.1 hA;obtain⟨_,_,hB3⟩:=oJ.1 hB;refine⟨oJ.2 ⟨u1,u2,λx hx y hy=> ?_⟩, ?_⟩
 .rcases eK.1 (a1.mem H hx)with hx|hx<;>rcases eK.1 (a2.mem H hy)with hy|hy
  .exact hA3 x hx y hy
  .exact h2 x hx y hy
  .exact H.asymm _ _ (h1 y hy x hx)
  .exact hB3 x hx y hy
 .refine(a1.app a2).trans ?_;rw[cY,cY];refine(bH.refl L1).app ?_;rw[<-cY,<-cY];exact(bH.swap H h1).symm.app (bH.refl R2)
theorem Cc (H:dM lt) {x:α} {B1 B2:List α} (hB:Up lt (B1++B2)) (h1: ∀y∈B1,lt y x=true) (h2: ∀y∈B2,lt y x=false):Up lt (B1++x::B2)/\bH lt (B1++x::B2) (x::(B1++B2)):=by
 obtain⟨hb1,hb2,hb3⟩:=oJ.1 hB;refine⟨oJ.2 ⟨hb1,oI.2 ⟨h2,hb2⟩,λy hy z hz=> ?_⟩, ?_⟩
 .rcases bJ.1 hz with rfl|hz
  .exact H.asymm _ _ (h1 y hy)
  .exact hb3 y hy z hz
 .have:=(bH.swap H (u:=[x]) (v:=B1) (λz hz y hy=>by rw[fW]at hz;subst hz;exact h1 y hy)).symm.app (bH.refl (lt:=lt) B2);simpa using this
theorem TI (H:dM lt) {y:α} {A1 A2:List α} (hA:Up lt (A1++A2)) (h1: ∀x∈A1,lt y x=false) (h2: ∀x∈A2,lt y x=true):Up lt (A1++y::A2)/\bH lt (A1++y::A2) ((A1++A2)++[y]):=by
 obtain⟨ha1,ha2,ha3⟩:=oJ.1 hA;refine⟨oJ.2 ⟨ha1,oI.2 ⟨λx hx=>H.asymm _ _ (h2 x hx),ha2⟩,λx hx z hz=> ?_⟩, ?_⟩
 .rcases bJ.1 hz with rfl|hz
  .exact h1 x hx
  .exact ha3 x hx z hz
 .rw[cY];refine(bH.refl A1).app ?_;have:=bH.swap H (u:=A2) (v:=[y]) (λx hx z hz=>by rw[fW]at hz;subst hz;exact h2 x hx);exact this.symm
end
section
variable {α:Type} {lt:α->α->Bool}
theorem Up.get (H:dM lt) {l:List α} (h:Up lt l) {i j:Nat} (hij:i<=j) {a b:α} (ha:l[i]? =some a) (hb:l[j]? =some b):lt b a=false:=by
 obtain⟨hi,rfl⟩:=gV.1 ha;obtain⟨hj,rfl⟩:=gV.1 hb;rcases Nat.lt_or_eq_of_le hij with h1|h1
 .exact(List.pairwise_iff_getElem.1 h) i j hi hj h1
 .subst h1;exact H.irrefl _
theorem CP (H:dM lt) {A B:List α} (hA:Up lt A) (hB:Up lt B) {s t:Nat} (hs:s<=A.length) (ht:t<=B.length) (hx: ∀x y,A[s]? =some x->0<t->B[t-1]? =some y->lt y x=true)
  (hy: ∀x y,0<s->A[s-1]? =some x->B[t]? =some y->lt y x=false):(∀x∈A.drop s,∀y∈B.take t,lt y x=true)/\(∀x∈A.take s,∀y∈B.drop t,lt y x=false):=by
 constructor
 .intro x hxm y hym;obtain⟨i,hi⟩:=Xt.1 hxm;obtain⟨j,hj⟩:=Xt.1 hym;rw[yq]at hi;rw[yr]at hj;split at hj
  .rename_i hjt;obtain⟨hil,_⟩:=gV.1 hi;have h1:A[s]? =some (A[s]' om):=eV om;have h2:B[t-1]? =some (B[t-1]' om):=eV om;exact H.lt_le (H.le_lt (Up.get H hB (show j<=t-1 by omega) hj h2) (hx _ _ h1 om h2)) (Up.get H hA (show s<=s+i by omega) h1 hi)
  .cases hj
 .intro x hxm y hym;obtain⟨i,hi⟩:=Xt.1 hxm;obtain⟨j,hj⟩:=Xt.1 hym;rw[yr]at hi;rw[yq]at hj;split at hi
  .rename_i his;obtain⟨hjl,_⟩:=gV.1 hj;have h1:A[s-1]? =some (A[s-1]' om):=eV om;have h2:B[t]? =some (B[t]' om):=eV om;have h3:=hy _ _ om h1 h2;exact H.le_trans x _ y (Up.get H hA (show i<=s-1 by omega) hi h1) (H.le_trans _ _ _ h3 (Up.get H hB (show t<=t+j by omega) h2 hj))
  .cases hi
def iN (d:List α) (a b:Nat) (s:List α):List α:=d.take a++s++d.drop b
def eQ (d:List α) (a b:Nat):List α:=(d.drop a).take (b-a)
theorem BB (d:List α) {a b:Nat} (h1:a<=b) (h2:b<=d.length):(eQ d a b).length=b-a:=by unfold eQ;rw[bZ,bL];omega
theorem EK (d:List α) {a b:Nat} (h1:a<=b):iN d a b (eQ d a b)=d:=by
 unfold iN eQ;have h:=nJ (b-a) (d.drop a);rw[List.drop_drop,show a+(b-a)=b by omega]at h;rw[cY,h,nJ]
theorem TH {d s:List α} {a b:Nat} (h1:a<=b) (h2:b<=d.length) (hs:s.length=b-a):(iN d a b s).length=d.length:=by
 unfold iN;rw[aZ,aZ,bZ,bL];omega
theorem Bz {d s:List α} {a b i n:Nat} (hi:i+n<=a) (ha:a<=d.length):((iN d a b s).drop i).take n=(d.drop i).take n:=by
 unfold iN;rw[cY,List.drop_append_of_le_length (by rw[bZ];omega),List.take_append_of_le_length (by rw[bL,bZ];omega),List.drop_take,List.take_take];congr 1;omega
theorem TF {d s:List α} {a b:Nat} (ha:a<=d.length) (hs:s.length=b-a):((iN d a b s).drop a).take (b-a)=s:=by
 unfold iN;rw[cY,List.drop_left' (by rw[bZ];omega),List.take_left' hs]
theorem Cb {d s:List α} {a b i:Nat} (h1:a<=b) (h2:b<=d.length) (hs:s.length=b-a) (hi:b<=i):(iN d a b s).drop i=d.drop i:=by
 unfold iN;rw[List.drop_append,iG (by rw[aZ,bZ];omega),fG,List.drop_drop,aZ,bZ];congr 1;omega
theorem Cd {d s:List α} {a b:Nat} (h1:a<=b) (h:bH lt s (eQ d a b)):bH lt (iN d a b s) d:=by
 have h2:bH lt (iN d a b s) (iN d a b (eQ d a b)):=((bH.refl _).app h).app (bH.refl _);rwa[EK d h1]at h2
def wS (lt:α->α->Bool) (n:Nat) (d:List α):Prop:= ∀k,Up lt ((d.drop (k*n)).take n)
theorem wS.whole {n:Nat} {d:List α} (h:wS lt n d) (hn:d.length<=n):Up lt d:=by
 have:=h 0;rwa[Nat.zero_mul,List.drop_zero,fI hn]at this
def rN (lt:α->α->Bool) (n a:Nat) (d:List α):Prop:= ∀k,k*n+n<=a->Up lt ((d.drop (k*n)).take n)
theorem rN.put {n a:Nat} {d s:List α} (h:rN lt n (a*n) d) (ha:a*n<=d.length) (b:Nat):rN lt n (a*n) (iN d (a*n) b s):=λk hk=>by
 rw[Bz hk ha];exact h k hk
theorem rN.next {n a:Nat} {d s:List α} (h:rN lt n (a*n) d) (ha:a*n+n<=d.length) (hs:s.length=n) (hu:Up lt s):rN lt n ((a+1)*n) (iN d (a*n) (a*n+n) s):=λk hk=>by
 rw[xj]at hk;by_cases hka:k*n+n<=a*n
 .exact h.put om _ k hka
 .have hkn:k*n=a*n:=by
   by_cases h0:n=0
   .subst h0;simp
   .have h1:k<=a:=by
     have:=Nat.le_of_mul_le_mul_right (show k*n<=a*n by omega) (by omega:0<n);exact this
    have h2: ¬k+1<=a:=λh=>hka (by have:=Xn n h;rw[xj]at this;exact this);have:k=a:=by omega
    rw[this]
  rw[hkn];have:=TF (d:=d) (s:=s) (a:=a*n) (b:=a*n+n) om om;rw[show a*n+n-a*n=n by omega]at this;rw[this];exact hu
theorem rN.last {n a:Nat} {d s:List α} (_hn:0<n) (h:rN lt n (a*n) d) (ha:a*n<=d.length) (hd:d.length<a*n+n) (hs:s.length=d.length-a*n) (hu:Up lt s):wS lt n (iN d (a*n) d.length s):=λk=>by
 by_cases hka:k*n+n<=a*n
 .exact h.put ha _ k hka
 .have h2:a<=k:=by
   refine Classical.byContradiction λh=>hka ?_;have:=Xn n (show k+1<=a by omega);rwa[xj]at this
  have hlen:(iN d (a*n) d.length s).length=d.length:=TH ha (bA _) hs;rcases Nat.lt_or_eq_of_le h2 with h3|h3
  .have:=Xn n h3;rw[xj]at this;rw[iG (by rw[hlen];omega)];simp[Up]
  .subst h3;have:=TF (d:=d) (s:=s) (a:=a*n) (b:=d.length) ha hs;rw[fI (by rw[bL,hlen];omega)]at this;rw[fI (by rw[bL,hlen];omega),this];exact hu
structure nG (lt:α->α->Bool) (n a:Nat) (d:List α):Prop where
 done:rN lt (2*n) (a*(2*n)) d
 left: ∀k,a*(2*n)<=k*n->Up lt ((d.drop (k*n)).take n)
theorem nG.start {n:Nat} {d:List α} (_hn:0<n) (h:wS lt n d):nG lt n 0 d:=⟨λk hk=>by rw[Nat.zero_mul]at hk;omega,λk _=>h k⟩
theorem nG.parts {n a:Nat} {d:List α} (h:nG lt n a d):Up lt (eQ d (a*(2*n)) (a*(2*n)+n))/\Up lt ((d.drop (a*(2*n)+n)).take n):=by
 have e1:a*(2*n)=2*a*n:=by rw[<-Nat.mul_assoc,Nat.mul_comm a 2]
 constructor
 .have:=h.left (2*a) om;unfold eQ;rw[show a*(2*n)+n-a*(2*n)=n by omega,e1];exact this
 .have e2:(2*a+1)*n=2*a*n+n:=by rw[Nat.add_mul,Nat.one_mul]
  have:=h.left (2*a+1) om;rw[e2]at this;rw[e1];exact this
theorem nG.next {n a:Nat} {d s:List α} (h:nG lt n a d) (ha:a*(2*n)+2*n<=d.length) (hs:s.length=2*n) (hu:Up lt s):nG lt n (a+1) (iN d (a*(2*n)) (a*(2*n)+2*n) s):=
 ⟨h.done.next ha hs hu,λk hk=>by
  rw[xj]at hk;rw[Cb om ha om hk];exact h.left k om⟩
theorem nG.last {n a:Nat} {d s:List α} (hn:0<n) (h:nG lt n a d) (ha:a*(2*n)<=d.length) (hd:d.length<a*(2*n)+2*n) (hs:s.length=d.length-a*(2*n)) (hu:Up lt s):wS lt (2*n) (iN d (a*(2*n)) d.length s):=
 h.done.last om ha hd hs hu
theorem nG.stay {n a:Nat} {d:List α} (hn:0<n) (h:nG lt n a d) (ha:a*(2*n)<=d.length) (hd:d.length<=a*(2*n)+n):wS lt (2*n) d:=by
 have h1:=h.parts.1;have e:eQ d (a*(2*n)) (a*(2*n)+n)=eQ d (a*(2*n)) d.length:=by
  unfold eQ;rw[fI (by rw[bL];omega),fI (by rw[bL];omega)]
 rw[e]at h1;have:=h.last hn ha om (BB d ha (bA _)) h1;rwa[EK d ha]at this
theorem Ca {A1 A2:List α} {y:α} (H:dM lt) (hA:Up lt (A1++A2)) (h1: ∀x,A1.getLast? =some x->lt y x=false) (h2: ∀x∈A2,lt y x=true):Up lt (A1++y::A2)/\bH lt (A1++y::A2) ((A1++A2)++[y]):=by
 refine TI H hA (λx hx=> ?_) h2;obtain⟨hA1,_,_⟩:=oJ.1 hA;cases hl:A1.getLast? with
 |none=>rw[List.getLast?_eq_none_iff]at hl;subst hl;cases hx
 |some z=>
  have h3:=h1 z hl;obtain⟨i,hi⟩:=Xt.1 hx;rw[List.getLast?_eq_getElem?]at hl;obtain⟨hil,_⟩:=gV.1 hi;exact H.le_trans x z y (Up.get H hA1 (show i<=A1.length-1 by omega) hi hl) h3
end
section
variable {α:Type} {lt:α->α->Bool}
theorem CN (a b:α):ev lt a b=ev lt b a:=by unfold ev;rw[Bool.and_comm]
theorem dM.ev_join (H:dM lt) {a x y:α} (hx:ev lt a x=true) (hy:ev lt a y=true):ev lt x y=true:=by
 have h1:=H.ev_no hx hy;have h2:=H.ev_no hy hx;simp[ev,h1,h2]
theorem bH.len (H:dM lt): ∀(n:Nat) (l m:List α),l.length<=n->bH lt l m->l.length=m.length:=by
 intro n;induction n with
 |zero=>
  intro l m hl h;have h0:l=[]:=gD om;subst h0;cases m with
  |nil=>rfl
  |cons y m=>have:=h.symm.mem H (fX ..);cases this
 |succ n ih=>
  intro l m hl h;cases l with
  |nil=>
   cases m with
   |nil=>rfl
   |cons y m=>have:=h.symm.mem H (fX ..);cases this
  |cons x l=>
   have hlen: ∀k:List α,k.length=(k.filter (ev lt x)).length+(k.filter (λz=> !ev lt x z)).length:=λk=>by
    induction k with
    |nil=>rfl
    |cons z k ihk=>cases hz:ev lt x z<;>simp[hz,ihk]<;>omega
   have hc:bH lt ((x::l).filter (λz=> !ev lt x z)) (m.filter (λz=> !ev lt x z)):=λa=>by
    rw[List.filter_filter,List.filter_filter];cases hxa:ev lt a x
    .have e: ∀z,(ev lt a z&& !ev lt x z)=ev lt a z:=λz=>by
      cases h1:ev lt a z
      .rfl
      .cases h2:ev lt x z
       .rfl
       .rw[CN]at h1 h2;have:=H.ev_join h1 h2;rw[this]at hxa;cases hxa
     simp only[e];exact h a
    .have e: ∀z,(ev lt a z&& !ev lt x z)=false:=λz=>by
      cases h1:ev lt a z
      .rfl
      .rw[H.ev_join hxa h1];rfl
     simp only[e];rw[qz.2 (λ_ _=>by simp),qz.2 (λ_ _=>by simp)]
   have h1:=congrArg List.length (h x);have h2:=ih _ _ (by
    have:=hlen (x::l);rw[kK (H.ev_refl x)]at this;simp only[aY]at this hl;omega) hc
   rw[hlen (x::l),hlen m,h1,h2]
end
section
variable {α:Type} (eq:α->α->Bool)
def mI:α->List α->List α
 |_,[]=>[]
 |p,y::r=>if eq y p=true then mI y r else y::mI y r
def kY:List α->List α
 |[]=>[]
 |x::r=>x::mI eq x r
variable {eq}
theorem FK {d:List α} {i:Nat} {x y:α} (hy:d[i]? =some y):mI eq x (d.drop i)=if eq y x=true then mI eq y (d.drop (i+1))else y::mI eq y (d.drop (i+1)):=by
 obtain⟨hi,rfl⟩:=gV.1 hy;rw[iK hi];rfl
theorem WF {d:List α} {i:Nat} {x:α} (h:d.length<=i):mI eq x (d.drop i)=[]:=by
 rw[iG h];rfl
theorem MQ {lt:α->α->Bool} (H:dM lt) (he: ∀x y,eq y x=false->lt y x=false->lt x y=true):
  ∀{p:α} {l:List α},Up lt (p::l)->(mI eq p l).Pairwise (λa b=>lt a b=true)/\ ∀x∈mI eq p l,lt p x=true:=by
 intro p l;induction l generalizing p with
 |nil=>intro _;exact⟨Yg.nil,λx hx=>by cases hx⟩
 |cons y r ih=>
  intro h;obtain⟨h1,h2⟩:=oI.1 h;obtain⟨k1,k2⟩:=ih h2;have hpy:=h1 y fX;have up: ∀x∈mI eq y r,lt p x=true:=λx hx=>by
   cases hl:lt p x
   .exact absurd (k2 x hx) (by rw[H.le_trans x p y hl hpy];simp)
   .rfl
  unfold mI;split
  .exact⟨k1,up⟩
  .next hn=>
   have hn2:lt p y=true:=he p y (by simpa using hn) hpy;exact⟨oI.2 ⟨k2,k1⟩,λx hx=>by
    rcases bJ.1 hx with rfl|hx
    .exact hn2
    .exact up x hx⟩
theorem Pa {lt:α->α->Bool} (H:dM lt) (he: ∀x y,eq y x=false->lt y x=false->lt x y=true):
  ∀{l:List α},Up lt l->(kY eq l).Pairwise (λa b=>lt a b=true)
 |[],_=>Yg.nil
 |_::_,h=>by
  obtain⟨k1,k2⟩:=MQ H he h;exact oI.2 ⟨k2,k1⟩
end
section
variable {α:Type} {lt:α->α->Bool}
def lM (lt:α->α->Bool) (x:α):List α->List α
 |[]=>[x]
 |y::r=>if lt y x=true then y::lM lt x r else if ev lt y x=true then y::r else x::y::r
def bS (lt:α->α->Bool) (l:List α):List α:=l.foldl (λo x=>lM lt x o) []
def tR (lt:α->α->Bool) (l:List α):Prop:=l.Pairwise λa b=>lt a b=true
theorem tR.up (H:dM lt) {l:List α} (h:tR lt l):Up lt l:=Yg.imp (λhab=>H.asymm _ _ hab) h
theorem wI {a y z:α} (H:dM lt) (hy:ev lt a y=true) (h:lt y z=true):ev lt a z=false:=by
 cases hz:ev lt a z
 .rfl
 .have:=H.ev_no hy hz;rw[this]at h;cases h
theorem zX {p:α->Bool} {l:List α} (h: ∀z∈l,p z=false):l.filter p=[]:=by
 rw[qz];intro z hz;rw[h z hz];simp
theorem BG (H:dM lt) (a:α): ∀{l:List α},tR lt l->(l.filter (ev lt a)).length<=1
 |[],_=>by simp
 |y::r,h=>by
  obtain⟨h1,h2⟩:=oI.1 h;cases hy:ev lt a y
  .rw[mN (by simp[hy])];exact BG H a h2
  .rw[kK hy,zX (λz hz=>wI H hy (h1 z hz))];simp
theorem MS {x z:α}: ∀{o:List α},z∈lM lt x o->z=x\/z∈o
 |[],h=>by rw[lM,fW]at h;exact .inl h
 |y::r,h=>by
  unfold lM at h;split at h
  .rcases bJ.1 h with rfl|h
   .exact .inr fX
   .rcases MS h with h|h
    .exact .inl h
    .exact .inr (fO _ h)
  .split at h
   .exact .inr h
   .rcases bJ.1 h with rfl|h
    .exact .inl rfl
    .exact .inr h
theorem WR (H:dM lt) (x:α): ∀{o:List α},tR lt o->tR lt (lM lt x o)
 |[],_=>List.pairwise_singleton _ _
 |y::r,h=>by
  obtain⟨h1,h2⟩:=oI.1 h;unfold lM;split
  .next hyx=>
   refine oI.2 ⟨λz hz=> ?_,WR H x h2⟩;rcases MS hz with rfl|hz
   .exact hyx
   .exact h1 z hz
  .next hyx=>
   split
   .exact h
   .next he=>
    have hxy:lt x y=true:=by
     simp only[ev,bD,rU]at he;cases hl:lt x y
     .exact absurd ⟨by simpa using hyx,hl⟩ he
     .rfl
    refine oI.2 ⟨λz hz=> ?_,h⟩;rcases bJ.1 hz with rfl|hz
    .exact hxy
    .exact H.lt_le hxy (H.asymm _ _ (h1 z hz))
theorem WT (H:dM lt) (a x:α): ∀{o:List α},tR lt o->(lM lt x o).filter (ev lt a)=(o.filter (ev lt a)++[x].filter (ev lt a)).take 1
 |[],_=>by
  rw[lM,Xk,fG];cases hx:ev lt a x<;>simp[hx]
 |y::r,h=>by
  obtain⟨h1,h2⟩:=oI.1 h;have hl:=BG H a h;unfold lM;split
  .next hyx=>
   cases hy:ev lt a y
   .rw[mN (by simp[hy]),mN (by simp[hy])];exact WT H a x h2
   .rw[kK hy,kK hy,zX (l:=lM lt x r) (λz hz=> ?_)]
    .simp
    .rcases MS hz with rfl|hz
     .exact wI H hy hyx
     .exact wI H hy (h1 z hz)
  .next hyx=>
   split
   .next he=>
    cases hy:ev lt a y
    .have hx:ev lt a x=false:=by
      cases hx:ev lt a x
      .rfl
      .have h8:ev lt y a=true:=H.ev_join (a:=x) (by rw[CN];exact he) (by rw[CN];exact hx);rw[CN,hy]at h8;cases h8
     rw[mN (l:=[]) (by simp[hx]),Xk,bV,fI hl]
    .rw[kK hy,zX (λz hz=>wI H hy (h1 z hz))];simp
   .next he=>
    have hxy:lt x y=true:=by
     simp only[ev,bD,rU]at he;cases hl:lt x y
     .exact absurd ⟨by simpa using hyx,hl⟩ he
     .rfl
    cases hx:ev lt a x
    .rw[mN (a:=x) (l:=y::r) (by simp[hx]),mN (a:=x) (l:=[]) (by simp[hx]),Xk,bV,fI hl]
    .have hn:(y::r).filter (ev lt a)=[]:=zX λz hz=>by
      rcases bJ.1 hz with rfl|hz
      .exact wI H hx hxy
      .exact wI H hx (H.lt_le hxy (H.asymm _ _ (h1 z hz)))
     rw[kK (a:=x) (l:=y::r) hx,hn,kK (a:=x) (l:=[]) hx,Xk];simp
theorem LU (H:dM lt) (a:α): ∀(l o:List α),tR lt o->tR lt (l.foldl (λo x=>lM lt x o) o)/\(l.foldl (λo x=>lM lt x o) o).filter (ev lt a)=(o.filter (ev lt a)++l.filter (ev lt a)).take 1
 |[],o,h=>⟨h,by rw[Xk,bV,List.foldl_nil,fI (BG H a h)]⟩
 |x::l,o,h=>by
  obtain⟨h1,h2⟩:=LU H a l (lM lt x o) (WR H x h);refine⟨h1, ?_⟩;rw[List.foldl_cons,h2,WT H a x h];have hl:=BG H a h;cases ho:o.filter (ev lt a)with
  |cons u v=>simp
  |nil=>
   rw[fG,fG];cases hx:ev lt a x
   .rw[mN (a:=x) (l:=[]) (by simp[hx]),mN (a:=x) (l:=l) (by simp[hx]),Xk,List.take_nil,fG]
   .rw[kK (a:=x) (l:=[]) hx,kK (a:=x) (l:=l) hx,Xk];simp
theorem EU (H:dM lt) (l:List α):tR lt (bS lt l):=by
 cases l with
 |nil=>exact Yg.nil
 |cons a l=>exact(LU H a (a::l) [] Yg.nil).1
theorem LV (H:dM lt) (l:List α) (a:α):(bS lt l).filter (ev lt a)=(l.filter (ev lt a)).take 1:=by
 have:=(LU H a l [] Yg.nil).2;rwa[Xk,fG]at this
theorem MR (_H:dM lt): ∀x y,ev lt y x=false->lt y x=false->lt x y=true:=λx y h1 h2=>by
 simp only[ev,Yz,Bool.not_eq_false']at h1;rcases h1 with h1|h1
 .rw[h1]at h2;cases h2
 .exact h1
theorem FM (H:dM lt) (a:α): ∀(l:List α) (p:α),Up lt (p::l)->(mI (ev lt) p l).filter (ev lt a)=if ev lt a p=true then []else(l.filter (ev lt a)).take 1
 |[],p,_=>by
  unfold mI;cases hp:ev lt a p<;>simp
 |y::r,p,h=>by
  obtain⟨h1,h2⟩:=oI.1 h;have hk:=(MQ H (MR H) h).2;split
  .next hp=>exact zX λz hz=>wI H hp (hk z hz)
  .next hp=>
   unfold mI;split
   .next he=>
    have hy: ¬ev lt a y=true:=λhy=>by
     have h8:ev lt a p=true:=by
      have h7:ev lt y p=true:=he;have h6:ev lt y a=true:=by rw[CN];exact hy
      exact H.ev_join h6 h7
     exact hp h8
    rw[FM H a r y h2,if_neg hy,mN hy]
   .next he=>
    have hky:=(MQ H (MR H) h2).2;cases hy:ev lt a y
    .rw[mN (by simp[hy]),mN (by simp[hy]),FM H a r y h2,if_neg (by simp[hy])]
    .rw[kK hy,kK hy,zX (λz hz=>wI H hy (hky z hz))];simp
theorem Pb (H:dM lt) (a:α) {l:List α} (h:Up lt l):(kY (ev lt) l).filter (ev lt a)=(l.filter (ev lt a)).take 1:=by
 cases l with
 |nil=>rfl
 |cons x r=>
  unfold kY;cases hx:ev lt a x
  .rw[mN (by simp[hx]),mN (by simp[hx]),FM H a r x h,if_neg (by simp[hx])]
  .rw[kK hx,kK hx,FM H a r x h,if_pos hx];simp
theorem Fs (H:dM lt) {s d:List α} (hu:Up lt s) (ha:bH lt s d):kY (ev lt) s=bS lt d:=by
 refine bH.up_eq H ?_ ((EU H d).up H) ?_
 .exact Yg.imp (λhab=>H.asymm _ _ hab) (Pa H (MR H) hu)
 .intro a;rw[Pb H a hu,LV H d a,ha a]
theorem Fw (H:dM lt) {l:List α} (h:tR lt l):bS lt l=l:=by
 refine bH.up_eq H ((EU H l).up H) (h.up H) λa=> ?_;rw[LV H l a,fI (BG H a h)]
theorem LW (H:dM lt) (l:List α):bS lt (bS lt l)=bS lt l:=Fw H (EU H l)
theorem xM (H:dM lt) {l:List α} {x:α} (h:x∈bS lt l):x∈l:=by
 have h1:x∈(bS lt l).filter (ev lt x):=rS.2 ⟨h,H.ev_refl x⟩;rw[LV H l x]at h1;exact(rS.1 (List.mem_of_mem_take h1)).1
end
def bF:Bs->Bs->Bool
 |_,[]=>false
 |[],_::_=>true
 |a::aa,b::bs=>if a.toNat<b.toNat then true else if b.toNat<a.toNat then false else bF aa bs
theorem tH: ∀a,bF a a=false
 |[]=>rfl
 |a::aa=>by simp[bF,tH aa]
theorem EZ: ∀a b,bF a b=true->bF b a=false
 |[],[],h=>by simp[bF]at h
 |_::_,[],h=>by simp[bF]at h
 |[],_::_,_=>rfl
 |a::aa,b::bs,h=>by
  simp only[bF]at h ⊢;split at h
  .rename_i h1;rw[if_neg om,if_pos h1]
  .split at h
   .cases h
   .rename_i h1 h2;rw[if_neg h2,if_neg h1];exact EZ aa bs h
theorem BX: ∀a b,bF a b=false->bF b a=false->a=b
 |[],[],_,_=>rfl
 |_::_,[],_,h=>by simp[bF]at h
 |[],_::_,h,_=>by simp[bF]at h
 |a::aa,b::bs,h,h'=>by
  simp only[bF]at h h';split at h
  .cases h
  .rename_i h1;rw[if_neg h1]at h';split at h'
   .cases h'
   .rename_i h2;rw[if_neg h2]at h;have:a=b:=by
     apply UInt8.toNat_inj.1;omega
    rw[this,BX aa bs h h']
theorem EY: ∀a b c,bF b a=false->bF c b=false->bF c a=false
 |[],b,c,h1,h2=>by
  cases b with
  |nil=>exact h2
  |cons x b=>
   cases c with
   |nil=>simp[bF]at h2
   |cons y c=>rfl
 |a::aa,[],c,h1,h2=>by simp[bF]at h1
 |a::aa,b::bs,[],h1,h2=>by simp[bF]at h2
 |a::aa,b::bs,c::cs,h1,h2=>by
  simp only[bF]at h1 h2 ⊢;split at h1
  .cases h1
  .split at h2
   .cases h2
   .rename_i q1 q2;rw[if_neg om];split
    .rfl
    .rename_i q3;rw[if_neg om]at h1 h2;exact EY aa bs cs h1 h2
theorem uB:dM bF:=⟨tH,EZ,EY⟩
def gN (a b:Bs):Int:=if bF a b then-1 else if a=b then 0 else 1
theorem CR (a b:Bs):decide (gN a b<0)=bF a b:=by
 unfold gN;cases bF a b
 .by_cases h:a=b<;>simp[h]
 .simp
theorem GH (a b:Bs):decide (gN a b=0)=decide (a=b):=by
 unfold gN;cases h:bF a b
 .by_cases h:a=b<;>simp[h]
 .have:a≠b:=λe=>by rw[e,tH]at h;cases h
  simp[this]
theorem Ms (a b:Bs):ev bF a b=decide (a=b):=by
 rw[Bool.eq_iff_iff];simp only[ev,bD,rU,decide_eq_true_eq];constructor
 .rintro⟨h1,h2⟩;exact BX a b h1 h2
 .rintro rfl;exact⟨tH a,tH a⟩
def oT (p q:Bs × Bs):Bool:=bF p.1 q.1||(decide (p.1=q.1)&&bF p.2 q.2)
def jL (p q:Bs × Bs):Int:=if gN p.1 q.1≠0 then gN p.1 q.1 else gN p.2 q.2
theorem YX (p q:Bs × Bs):decide (jL p q<0)=oT p q:=by
 have h1:=CR p.1 q.1;have h2:=GH p.1 q.1;have h3:=CR p.2 q.2;unfold jL oT;by_cases h:gN p.1 q.1=0
 .rw[if_neg (by simpa using h),h3];rw[h]at h1 h2;rw[<-h1,<-h2];simp
 .rw[if_pos h,h1];rw[<-h2,decide_eq_false h];simp
theorem YY (p q:Bs × Bs):decide (jL p q=0)=decide (p=q):=by
 have h2:=GH p.1 q.1;have h4:=GH p.2 q.2;unfold jL;by_cases h:gN p.1 q.1=0
 .rw[if_neg (by simpa using h),h4];rw[decide_eq_true h]at h2;have h5:p.1=q.1:=of_decide_eq_true h2.symm;rw[decide_eq_decide];exact⟨λh6=>Prod.ext h5 h6,λh6=>by rw[h6]⟩
 .rw[if_pos h,h2,decide_eq_decide];constructor
  .intro h6;exact absurd (of_decide_eq_true (h2.trans (decide_eq_true h6))) h
  .intro h6;exact absurd (of_decide_eq_true (h2.trans (decide_eq_true (by rw[h6])))) h
theorem DP:dM oT where
 irrefl p:=by simp[oT,tH]
 asymm p q h:=by
  unfold oT at h ⊢;simp only[kL,bD,decide_eq_true_eq,oK,Yz,decide_eq_false_iff_not]at h ⊢;rcases h with h|⟨h1,h2⟩
  .exact⟨EZ _ _ h,.inl λe=>by rw[e,tH]at h;cases h⟩
  .exact⟨by rw[h1,tH],.inr (EZ _ _ h2)⟩
 le_trans p q r h1 h2:=by
  unfold oT at*;simp only[oK,Yz,decide_eq_false_iff_not]at*;obtain⟨a1,a2⟩:=h1;obtain⟨b1,b2⟩:=h2;refine⟨EY _ _ _ a1 b1, ?_⟩;by_cases e:r.1=p.1
  .right;have e1:q.1=p.1:=BX _ _ a1 (by rw[<-e];exact b1);have e2:r.1=q.1:=by rw[e,e1]
   rcases a2 with a2|a2
   .exact absurd e1 a2
   .rcases b2 with b2|b2
    .exact absurd e2 b2
    .exact EY _ _ _ a2 b2
  .exact .inl e
theorem dM.comap {α β:Type} {lt:β->β->Bool} (H:dM lt) (f:α->β):dM λa b=>lt (f a) (f b):=⟨λ_=>H.irrefl _,λ_ _=>H.asymm _ _,λ_ _ _=>H.le_trans _ _ _⟩
theorem Qt: ∀a b:Bs,Op.bytesLess a b=bF a b:=by
 intro a;induction a with
 |nil=>intro b;cases b<;>simp[Op.bytesLess,bF]
 |cons x a ih=>
  intro b;cases b with
  |nil=>simp[Op.bytesLess,bF]
  |cons y b=>
   have e:Op.bytesLess (x::a) (y::b)=(decide (x<y)||(x==y&&Op.bytesLess a b)):=rfl;rw[e,ih b];simp only[bF];have l1:(x<y)↔x.toNat<y.toNat:=UInt8.lt_iff_toNat_lt;by_cases h1:x.toNat<y.toNat
   .rw[if_pos h1,decide_eq_true (l1.2 h1)];rfl
   .rw[if_neg h1,decide_eq_false (λh=>h1 (l1.1 h))];by_cases h2:y.toNat<x.toNat
    .have:(x==y)=false:=by rw[beq_eq_false_iff_ne];intro h3;rw[h3]at h2;omega
     rw[if_pos h2,this];rfl
    .have:(x==y)=true:=by rw[beq_iff_eq];apply UInt8.toNat_inj.1;omega
     rw[if_neg h2,this];rfl
open Go.RowKit
structure aW where
 tag:Bs
 name:Bs
deriving DecidableEq
structure aS where
 tag:Bs
 name:Bs
 value:Bs
deriving DecidableEq
def aW.cells (x:aW):List Value:=[sv x.tag,sv x.name]
def aS.cells (x:aS):List Value:=[sv x.tag,sv x.name,sv x.value]
def aW.key (x:aW):Bs × Bs:=(x.tag,x.name)
def aS.key (x:aS):Bs × Bs:=(x.tag,x.name)
def aW.agg (x:aW):Value:= aR #[sv x.tag,sv x.name]
def aS.agg (x:aS):Value:= aR #[sv x.tag,sv x.name,sv x.value]
def cP (x y:aW):Bool:=oT x.key y.key
def cG (x y:aS):Bool:=oT x.key y.key
theorem yU:dM cP:=DP.comap aW.key
theorem vN:dM cG:=DP.comap aS.key
theorem nT {α:Type} (L R:List α) (x y:α) {i:Nat} (hi:i=L.length):(L++x::R).set i y=L++y::R:=by
 subst hi;rw[List.set_append_right _ _ (bA _),Nat.sub_self];rfl
theorem eT {α:Type} (L R:List α) (x:α) {i:Nat} (hi:i=L.length):(L++x::R)[i]? =some x:=by
 subst hi;rw[List.getElem?_append_right (bA _),Nat.sub_self];rfl
theorem RR {α:Type} {d:List α} {i:Nat} (hi:i<d.length): ∃L x R,d=L++x::R/\L.length=i:=⟨d.take i,d[i],d.drop (i+1),by rw[List.getElem_cons_drop,nJ],by rw[bZ];omega⟩
theorem Lm {α:Type} (cells:α->List Value) (hn: ∀x,(cells x).length=2) (d:List α) (i:Nat) (hi:i<d.length) (x:α) {a b:Value} (hx:cells x=[a,b]):((d.flatMap cells).set (i*2) a).set (i*2+1) b=(d.set i x).flatMap cells:=by
 obtain⟨L,y,R,rfl,rfl⟩:=RR hi;have hL:=oY cells 2 hn L;rw[nT _ _ _ _ rfl,nL,nL,iF,iF,hx];have hy:=hn y;match hc:cells y,hy with
 |[p,q],_=>
  rw[<-hL];rw[show [p,q]++R.flatMap cells=p::q::R.flatMap cells from rfl,nT _ _ _ _ rfl];rw[show L.flatMap cells++a::q::R.flatMap cells=(L.flatMap cells++[a])++q::R.flatMap cells by simp,nT _ _ _ _ (by simp)];simp
theorem Ll {α:Type} (cells:α->List Value) (hn: ∀x,(cells x).length=3) (d:List α) (i:Nat) (hi:i<d.length) (x:α) {a b c:Value} (hx:cells x=[a,b,c]):(((d.flatMap cells).set (i*3) a).set (i*3+1) b).set (i*3+2) c=(d.set i x).flatMap cells:=by
 obtain⟨L,y,R,rfl,rfl⟩:=RR hi;have hL:=oY cells 3 hn L;rw[nT _ _ _ _ rfl,nL,nL,iF,iF,hx];have hy:=hn y;match hc:cells y,hy with
 |[p,q,r],_=>
  rw[<-hL];rw[show [p,q,r]++R.flatMap cells=p::q::r::R.flatMap cells from rfl,nT _ _ _ _ rfl];rw[show L.flatMap cells++a::q::r::R.flatMap cells=(L.flatMap cells++[a])++q::r::R.flatMap cells by simp,nT _ _ _ _ (by simp)];rw[show L.flatMap cells++[a]++b::r::R.flatMap cells=(L.flatMap cells++[a,b])++r::R.flatMap cells by simp,nT _ _ _ _ (by simp)];simp
theorem KP {W W':World} {B g cap size n:Nat} {e:TypeId} {xs:List Value} {pv:Nat->Prop} (h:W.ownsRow B e size (aF (some ⟨g,0,none⟩) n cap) n xs) (ht:aJ pv W W') (hp: ¬pv g):W'.ownsRow B e size (aF (some ⟨g,0,none⟩) n cap) n xs:=by
 refine⟨h.1, ?_⟩;rcases h.2 with⟨h1,_⟩|⟨g',cap',cur,h1,h2,h3,h4⟩
 .cases h1
 .cases h1;exact .inr ⟨g,cap,cur,rfl,h2,(ht.block g (Array.getElem?_eq_some_iff.1 h3).1 hp).trans h3,h4⟩
theorem yZ {W:World} {B g cap size n:Nat} {e:TypeId} {xs:List Value} (h:W.ownsRow B e size (aF (some ⟨g,0,none⟩) n cap) n xs):g<W.heap.size:=(h.lt g rfl).2
open Go.RowKit
theorem Jj (x:ByteArray) (W:World):Calls aE 97 #[aD x] W (aH (aI false) W):=by
 go_enter Tryz.func97,Tryz.ntmps97;go_wp2_with fail
 go_ret;exact aH.of rfl aG
theorem wN (x y:Bs) (W:World):Calls aE 49 #[sv x,sv y] W (aH (aB aC (gN x y)) W):=by
 have HN:=aA (λx W=>Jj x W);have h1:Op.bytesLess (⟨x.toArray⟩:ByteArray).toList (⟨y.toArray⟩:ByteArray).toList=bF x y:=by rw[ByteArray.toList_eq,ByteArray.toList_eq];exact Qt x y
 have h2:((⟨x.toArray⟩:ByteArray).toList==(⟨y.toArray⟩:ByteArray).toList)=decide (x=y):=by rw[nD]
 have HD:Hid (gN x y=if bF x y then-1 else if x=y then 0 else 1):=rfl;simp only[sv];generalize(⟨x.toArray⟩:ByteArray)=X1 at*;generalize(⟨y.toArray⟩:ByteArray)=Y1 at*;cases hl:bF x y
 .rw[hl]at h1 HD;by_cases he:x=y
  .rw[decide_eq_true he]at h2;have HD2:Hid (gN x y=0):=by show _=_;rw[HD.out,if_pos he];rfl
   rw[HD2.out];clear hl he HD HD2;go_enter Tryz.func49,Tryz.ntmps49;go_wp2_with(go_at_call 97;(with_reducible refine zG (HN.out _ _) λX=>?_))
   go_ret;exact aH.of rfl aG
  .rw[decide_eq_false he]at h2;have HD2:Hid (gN x y=1):=by show _=_;rw[HD.out,if_neg he];rfl
   rw[HD2.out];clear hl he HD HD2;go_enter Tryz.func49,Tryz.ntmps49;go_wp2_with(go_at_call 97;(with_reducible refine zG (HN.out _ _) λX=>?_))
   go_ret;exact aH.of rfl aG
 .rw[hl]at h1 HD;have HD2:Hid (gN x y= -1):=HD.out;rw[HD2.out];clear hl HD HD2 h2;go_enter Tryz.func49,Tryz.ntmps49;go_wp2_with(go_at_call 97;(with_reducible refine zG (HN.out _ _) λX=>?_))
  go_ret;exact aH.of rfl aG
def oQ:List Int->Int
 |[]=>0
 |a::l=>if a≠0 then a else oQ l
def iv (n:Int):Value:= aB aC n
theorem UI (v:Value) (zs:List Int) (W:World) (h:Rd W v zs.length 1 (zs.map iv)):Calls aE 102 #[v] W λe w'=>e=aL (aB aC (oQ zs))/\W=w':=by
 have HR:=aA h;obtain⟨_,hm,A,c,rfl,_⟩:=h;go_enter Tryz.func102,Tryz.ntmps102;go_wp2_with fail
 go_loop [8] (λi=> ∃k:Nat,k<=zs.length/\i=aB aC k/\Hid (oQ zs=oQ (zs.drop k))) (λi=>zs.length-(intOf i).toNat)
 case atStart=>exact⟨0,by omega,rfl,rfl⟩
 case round=>
  obtain⟨k,hk,rfl,HK⟩:=hrel;by_cases hlt:k<zs.length
  .obtain⟨b,off,rfl,hb,hc⟩: ∃b off,A=some ⟨b,off,none⟩/\b<W.heap.size/\W.cell? ⟨b,off+k,none⟩=some (aB aC zs[k]):=by
    obtain⟨_,_,_,_,he,h4⟩:=HR.out;cases he;obtain⟨b,off,rfl,hb,hc⟩:=h4 om;exact⟨b,off,rfl,hb,hc k (iv zs[k]) (by simp[hlt])⟩
   have HS:Hid (oQ zs=if zs[k]≠0 then zs[k]else oQ (zs.drop (k+1))):=by show _=_;rw[HK.out,iK hlt];rfl
   generalize zs[k]=z at*;by_cases hz:z=0
   .have b0:(z !=0)=false:=by simp[hz]
    have HS2:Hid (oQ zs=oQ (zs.drop (k+1))):=by show _=_;rw[HS.out,if_neg (by simpa using hz)]
    clear hz;go_wp2_with fail
    go_round
    case rel=>exact⟨k+1,by omega,by go_num,HS2⟩
    case measure=>simp[intOf];omega
   .have b0:(z !=0)=true:=by simpa using hz
    have HS2:Hid (oQ zs=z):=by show _=_;rw[HS.out,if_pos hz]
    clear hz;go_wp2_with fail
    go_ret;exact⟨by rw[HS2.out];rfl,rfl⟩
  .have HS2:Hid (oQ zs=0):=by show _=_;rw[HK.out,iG om];rfl
   go_wp2_with fail
   go_ret;exact⟨by rw[HS2.out];rfl,rfl⟩
theorem UH (a b:Int):oQ [a,b]=if a≠0 then a else b:=by
 simp only[oQ];split
 .rfl
 .split
  .rfl
  .rename_i h;simp at h;rw[h]
theorem VM {W:World} {c:Array Value} {e:TypeId} {n B:Nat} {zs:List Int} (hB:B=W.heap.size) (he:c=(zs.map iv).toArray) (hn:n=zs.length) (h9:zs.length<=1000):Rd (W.alloc (.cells c e)) (aF (some ⟨B,0,none⟩) n n) zs.length 1 (zs.map iv):=by
 subst hB he hn;have:=Rd.own (lW (W:=W) (e:=e) (c:=(zs.map iv).toArray) (n:=zs.length) (size:=1) (by simp) (by unfold maxLen;omega));simpa using this
theorem GR (x y:aW) (W:World):Calls aE 51 #[x.agg,y.agg] W (aH (aB aC (jL x.key y.key)) W):=by
 have hmx:=bX;have HC1:=aA (λW=>wN x.tag y.tag W);have HC2:=aA (λW=>wN x.name y.name W);have HD:Hid (jL x.key y.key=oQ [gN x.tag y.tag,gN x.name y.name]):=by show _=_;rw[UH];rfl
 rw[HD.out];simp only[aW.agg,sv]at*;generalize gN x.tag y.tag=r1 at*;generalize gN x.name y.name=r2 at*;generalize(⟨x.tag.toArray⟩:ByteArray)=x1 at*;generalize(⟨x.name.toArray⟩:ByteArray)=x2 at*;generalize(⟨y.tag.toArray⟩:ByteArray)=y1 at*;generalize(⟨y.name.toArray⟩:ByteArray)=y2 at*;clear HD;go_enter Tryz.func51,Tryz.ntmps51;go_wp2_with fail
 refine AL 10 kr kr  ?_;dsimp only[List.take,List.drop];repeat(go_big_quiet_step(first|(go_at_call 49;with_reducible exact Calls.grow_of (HC1.out _))|(go_at_call 49;with_reducible exact Calls.grow_of (HC2.out _))))
 refine wpQuiet_nil ?_;rintro _ ⟨nq,rfl⟩;go_wp2_with(go_at_call 102;(refine(UI _ [r1,r2] _ (VM (by simp[go_sem]) rfl rfl (by simp))).mono ?_);rintro e w' ⟨rfl,rfl⟩)
 go_ret;exact aH.of rfl aG
theorem FW (x y:aS) (W:World):Calls aE 53 #[x.agg,y.agg] W (aH (aB aC (jL x.key y.key)) W):=by
 have hmx:=bX;have HC1:=aA (λW=>wN x.tag y.tag W);have HC2:=aA (λW=>wN x.name y.name W);have HD:Hid (jL x.key y.key=oQ [gN x.tag y.tag,gN x.name y.name]):=by show _=_;rw[UH];rfl
 rw[HD.out];simp only[aS.agg,sv]at*;generalize gN x.tag y.tag=r1 at*;generalize gN x.name y.name=r2 at*;generalize(⟨x.tag.toArray⟩:ByteArray)=x1 at*;generalize(⟨x.name.toArray⟩:ByteArray)=x2 at*;generalize(⟨y.tag.toArray⟩:ByteArray)=y1 at*;generalize(⟨y.name.toArray⟩:ByteArray)=y2 at*;generalize(⟨x.value.toArray⟩:ByteArray)=x3 at*;generalize(⟨y.value.toArray⟩:ByteArray)=y3 at*;clear HD;go_enter Tryz.func53,Tryz.ntmps53;go_wp2_with fail
 refine AL 10 kr kr  ?_;dsimp only[List.take,List.drop];repeat(go_big_quiet_step(first|(go_at_call 49;with_reducible exact Calls.grow_of (HC1.out _))|(go_at_call 49;with_reducible exact Calls.grow_of (HC2.out _))))
 refine wpQuiet_nil ?_;rintro _ ⟨nq,rfl⟩;go_wp2_with(go_at_call 102;(refine(UI _ [r1,r2] _ (VM (by simp[go_sem]) rfl rfl (by simp))).mono ?_);rintro e w' ⟨rfl,rfl⟩)
 go_ret;exact aH.of rfl aG
theorem MD (x y:aW):decide (jL x.key y.key<0)=cP x y:=YX _ _
theorem MC (x y:aS):decide (jL x.key y.key<0)=cG x y:=YX _ _
structure aO where
 tags:List Bs
 schemes:List Bs
 css:List Bs
 drops:List Bs
 attrs:List aW
 forces:List aS
 rel:Bool
 depth:Int
 name:Int
 value:Int
deriving DecidableEq
def eD (p:aO):aO:=⟨bS bF p.tags,bS bF p.schemes,bS bF p.css,bS bF p.drops,bS cP p.attrs,bS cG p.forces,p.rel,p.depth,p.name,p.value⟩
theorem Fz (p:aO):eD (eD p)=eD p:=by
 simp only[eD,LW uB,LW yU,LW vN]
def uQ (n hi:Int):Bool:=decide (1<=n/\n<=hi)
def lK (p:aO):Bool:=uQ p.depth 256&&uQ p.name 64&&uQ p.value 65536
def oA (p:aO):Bool:=decide (p.tags.length<=200/\p.schemes.length<=200/\p.css.length<=200/\p.drops.length<=200/\p.attrs.length<=200/\p.forces.length<=200)
def oG (a:aW):Bool:=(decide (a.tag=[42])||bW a.tag)&&bW a.name
def lN (f:aS):Bool:= !f.value.any iO&&bW f.tag&&bW f.name
def gZ (p:aO):Bool:=p.tags.all bW&&p.schemes.all bW&&p.css.all bW&&p.drops.all bW&&p.attrs.all oG&&p.forces.all lN&&lK p&&oA p&&decide (eD p=p)
def pV:aO:=⟨[],[],[],[],[],[],false,64,32,1024⟩
def EL:aO:=⟨[],[],[],[],[],[],false,0,0,0⟩
structure lC where
 at_:Nat
 code:Nat
deriving DecidableEq
structure Ps where
 rest:List Lx
 pol:aO
 told:List Bs
abbrev Rs (α:Type):=Except lC α
def sO (en:Nat):List Lx->Nat
 |[]=>en
 |x::_=>x.at_
def cD (k:Nat) (ts:List Bs) (x:Lx):Bool:=decide (x.kind=k)&&(ts.isEmpty||decide (x.text∈ts))
def bM (k:Nat) (ts:List Bs):List Lx->Bool
 |[]=>false
 |x::_=>cD k ts x
def dE (en k:Nat) (ts:List Bs):List Lx->Rs (Lx × List Lx)
 |[]=> .error ⟨en,2⟩
 |x::r=>if cD k ts x then .ok (x,r)else .error ⟨x.at_,2⟩
def fP:Bs:=[59]
def pZ (en:Nat) (l:List Lx):Rs (List Bs × List Lx):=match dE en 4 [fP] (l.dropWhile (cD 1 []))with
 | .error f=> .error f
 | .ok (_,q)=> .ok ((l.takeWhile (cD 1 [])).map Lx.text,q)
def eP (en:Nat) (l:List Lx):Rs (List Bs × List Lx):=match dE en 1 [] l with
 | .error f=> .error f
 | .ok (x,r)=>match pZ en r with
  | .error f=> .error f
  | .ok (ws,q)=> .ok (x.text::ws,q)
def iB (en a:Nat) (what:Bs) (l:List Lx) (told:List Bs):Rs (List Lx × List Bs):=match dE en 4 [fP] l with
 | .error f=> .error f
 | .ok (_,q)=>if what∈told then .error ⟨a,5⟩else .ok (q,what::told)
def sN (en:Nat) (s:Ps):Rs Ps:=
 if bM 4 [[42]] s.rest||bM 1 [] s.rest then
  match s.rest with
  |[]=> .error ⟨en,2⟩
  |x::r=>match dE en 4 [[58]] r with
   | .error f=> .error f
   | .ok (_,q)=>match eP en q with
    | .error f=> .error f
    | .ok (ws,q)=> .ok ⟨q,{s.pol with attrs:=s.pol.attrs++ws.map (λn=>⟨x.text,n⟩)},s.told⟩
 else .error ⟨sO en s.rest,2⟩
def lO:Bs:=[102,111,114,99,101]
def mY:Bs:=[108,105,109,105,116]
def mT:Bs:=[114,101,108,97,116,105,118,101]
def nX (en a:Nat) (s:Ps):Rs Ps:=match dE en 1 [] s.rest with
 | .error f=> .error f
 | .ok (t,q)=>match dE en 1 [] q with
  | .error f=> .error f
  | .ok (n,q)=>match dE en 3 [] q with
   | .error f=> .error f
   | .ok (v,q)=>match iB en a (lO++[32]++t.text++[32]++n.text) q s.told with
    | .error f=> .error f
    | .ok (q,told)=> .ok ⟨q,{s.pol with forces:=s.pol.forces++[⟨t.text,n.text,v.text⟩]},told⟩
def pW (t:Bs):Int:=t.foldl (λn c=>n*10+((c.toNat:Int)-48)) 0
def kX:Bs:=[100,101,112,116,104]
def kT:Bs:=[110,97,109,101]
def lG:Bs:=[118,97,108,117,101]
def gE (kind:Bs) (n:Int) (p:aO):aO:=if kind=kX then {p with depth:=n}else if kind=kT then {p with name:=n}else {p with value:=n}
def nW (en a:Nat) (s:Ps):Rs Ps:=match dE en 1 [kX,kT,lG] s.rest with
 | .error f=> .error f
 | .ok (k,q)=>match dE en 2 [] q with
  | .error f=> .error f
  | .ok (x,q)=>match iB en a (mY++[32]++k.text) q s.told with
   | .error f=> .error f
   | .ok (q,told)=>if lK (gE k.text (pW x.text) s.pol)then .ok ⟨q,gE k.text (pW x.text) s.pol,told⟩else .error ⟨x.at_,2⟩
def kA:Bs:=[121,101,115]
def mW:Bs:=[110,111]
def xH (en a:Nat) (s:Ps):Rs Ps:=match dE en 1 [kA,mW] s.rest with
 | .error f=> .error f
 | .ok (x,q)=>match iB en a mT q s.told with
  | .error f=> .error f
  | .ok (q,told)=> .ok ⟨q,{s.pol with rel:=decide (x.text=kA)},told⟩
def uA:Bs:=[116,97,103,115]
def uD:Bs:=[115,99,104,101,109,101,115]
def vA:Bs:=[99,115,115]
def uX:Bs:=[100,114,111,112]
def wP:Bs:=[97,116,116,114,115]
def iQ:List Bs:=[uA,uD,vA,uX,wP,mT,lO,mY]
def rG (en:Nat) (s:Ps) (f:aO->List Bs->aO):Rs Ps:=match eP en s.rest with
 | .error f=> .error f
 | .ok (ws,q)=> .ok ⟨q,f s.pol ws,s.told⟩
def eZ (en:Nat) (s:Ps):Rs Ps:=match dE en 1 iQ s.rest with
 | .error f=> .error f
 | .ok (x,q)=>
  if x.text=uA then rG en ⟨q,s.pol,s.told⟩ λp ws=>{p with tags:=p.tags++ws}
  else if x.text=uD then rG en ⟨q,s.pol,s.told⟩ λp ws=>{p with schemes:=p.schemes++ws}
  else if x.text=vA then rG en ⟨q,s.pol,s.told⟩ λp ws=>{p with css:=p.css++ws}
  else if x.text=uX then rG en ⟨q,s.pol,s.told⟩ λp ws=>{p with drops:=p.drops++ws}
  else if x.text=wP then sN en ⟨q,s.pol,s.told⟩
  else if x.text=mT then xH en x.at_ ⟨q,s.pol,s.told⟩
  else if x.text=lO then nX en x.at_ ⟨q,s.pol,s.told⟩
  else nW en x.at_ ⟨q,s.pol,s.told⟩
theorem iI {en k:Nat} {ts:List Bs} {l r:List Lx} {x:Lx} (h:dE en k ts l= .ok (x,r)):l=x::r/\cD k ts x=true:=by
 cases l with
 |nil=>cases h
 |cons y q=>
  have h:(if cD k ts y=true then Except.ok (y,q)else .error ⟨y.at_,2⟩:Rs (Lx × List Lx))= .ok (x,r):=h;by_cases hi:cD k ts y=true
  .rw[if_pos hi]at h;cases h;exact⟨rfl,hi⟩
  .rw[if_neg hi]at h;cases h
theorem Gv {en:Nat} {l q:List Lx} {ws:List Bs} (h:pZ en l= .ok (ws,q)):q.length<l.length:=by
 unfold pZ at h;split at h
 .cases h
 .next y r ht=>
  cases h;obtain⟨h1,_⟩:=iI ht;have h2:(l.dropWhile (cD 1 [])).length<=l.length:=(Xu _).length_le;rw[h1,aY]at h2;omega
theorem PI {en:Nat} {l q:List Lx} {ws:List Bs} (h:eP en l= .ok (ws,q)):q.length<l.length:=by
 unfold eP at h;split at h
 .cases h
 .next x r ht=>
  obtain⟨rfl,_⟩:=iI ht;split at h
  .cases h
  .next hm=>cases h;have:=Gv hm;simp only[aY];omega
theorem ES {en a:Nat} {what:Bs} {l q:List Lx} {told told':List Bs} (h:iB en a what l told= .ok (q,told')):q.length<l.length/\what∉told/\told'=what::told:=by
 unfold iB at h;split at h
 .cases h
 .next x r ht=>
  obtain⟨rfl,_⟩:=iI ht;split at h
  .cases h
  .next hw=>cases h;exact⟨by simp,hw,rfl⟩
theorem KE {en:Nat} {s t:Ps} (h:eZ en s= .ok t):t.rest.length<s.rest.length:=by
 unfold eZ at h;split at h
 .cases h
 .next x q ht=>
  obtain⟨h1,_⟩:=iI ht;rw[h1,aY];have hl: ∀f,rG en ⟨q,s.pol,s.told⟩ f= .ok t->t.rest.length<q.length+1:=λf h=>by
   unfold rG at h;split at h
   .cases h
   .next hw=>cases h;have:=PI hw;simp only;simp only at this;omega
  split at h
  .exact hl _ h
  split at h
  .exact hl _ h
  split at h
  .exact hl _ h
  split at h
  .exact hl _ h
  split at h
  .unfold sN at h;split at h
   .split at h
    .cases h
    .next y r hq=>
     simp only at hq;split at h
     .cases h
     .next z q2 h2=>
      obtain⟨h3,_⟩:=iI h2;split at h
      .cases h
      .next hw=>cases h;have:=PI hw;simp only;rw[hq,h3];simp only[aY];omega
   .cases h
  split at h
  .unfold xH at h;split at h
   .cases h
   .next h2=>
    obtain⟨h3,_⟩:=iI h2;simp only at h3;split at h
    .cases h
    .next ho=>cases h;have:=(ES ho).1;simp only;rw[h3,aY];omega
  split at h
  .unfold nX at h;split at h
   .cases h
   .next h2=>
    obtain⟨h3,_⟩:=iI h2;simp only at h3;split at h
    .cases h
    .next h4=>
     obtain⟨h5,_⟩:=iI h4;split at h
     .cases h
     .next h6=>
      obtain⟨h7,_⟩:=iI h6;split at h
      .cases h
      .next ho=>cases h;have:=(ES ho).1;simp only;rw[h3,h5,h7];simp only[aY];omega
  .unfold nW at h;split at h
   .cases h
   .next h2=>
    obtain⟨h3,_⟩:=iI h2;simp only at h3;split at h
    .cases h
    .next h4=>
     obtain⟨h5,_⟩:=iI h4;split at h
     .cases h
     .next ho=>
      split at h
      .cases h;have:=(ES ho).1;simp only;rw[h3,h5];simp only[aY];omega
      .cases h
def lV (en:Nat):Nat->Ps->Rs Ps
 |0,s=> .ok s
 |f+1,s=>match s.rest with
  |[]=> .ok s
  |_::_=>match eZ en s with
   | .error e=> .error e
   | .ok t=>lV en f t
theorem SQ (en:Nat): ∀(f g:Nat) (s:Ps),s.rest.length<=f->s.rest.length<=g->lV en f s=lV en g s
 |0,0,_,_,_=>rfl
 |0,g+1,s,h,_=>by
  have:s.rest=[]:=gD om;simp only[lV,this]
 |f+1,0,s,_,h=>by
  have:s.rest=[]:=gD om;simp only[lV,this]
 |f+1,g+1,s,h1,h2=>by
  unfold lV;cases hr:s.rest with
  |nil=>rfl
  |cons x r=>
   simp only;cases ht:eZ en s with
   |error e=>rfl
   |ok t=>
    simp only;have:=KE ht;exact SQ en f g t om om
def oM (en:Nat) (s:Ps):Rs Ps:=lV en s.rest.length s
theorem Ai {en:Nat} {s:Ps} (h:s.rest=[]):oM en s= .ok s:=by
 unfold oM;rw[h];rfl
theorem Aj {en:Nat} {s:Ps} (h:s.rest≠[]):oM en s=match eZ en s with
  | .error e=> .error e
  | .ok t=>oM en t:=by
 unfold oM;cases hr:s.rest with
 |nil=>exact absurd hr h
 |cons x r=>
  rw[aY];conv=>lhs;unfold lV
  simp only[hr];cases ht:eZ en s with
  |error e=>rfl
  |ok t=>
   simp only;have:=KE ht;rw[hr,aY]at this;exact SQ en _ _ t om (bA _)
def jS (s:Bs):Rs aO:=
 if 8192<s.length then .error ⟨0,3⟩
 else match xF 0 s with
  | .bad n=> .error ⟨n,2⟩
  | .ok l=>match oM s.length ⟨l,pV,[]⟩with
   | .error e=> .error e
   | .ok t=>if oA (eD t.pol)then .ok (eD t.pol)else .error ⟨s.length,3⟩
theorem JS {α:Type} {p:α->Bool} {x:α}: ∀{l:List α},x∈l.takeWhile p->p x=true
 |[],h=>by cases h
 |y::r,h=>by
  rw[List.takeWhile_cons]at h;split at h
  .next hy=>
   rcases bJ.1 h with rfl|h
   .exact hy
   .exact JS h
  .cases h
structure IA (en:Nat) (x:Lx):Prop where
 word:x.kind=1->bW x.text=true
 num:x.kind=2->x.text.all aQ=true/\x.text.length<=9
 str:x.kind=3->x.text.any iO=false
 at_:x.at_<=en
theorem TR.app_ok {x:TR} {p t:Bs} {k n:Nat} (h:x.app p k= .ok t n): ∃t' n',x= .ok t' n'/\t=p++t':=by
 cases x with
 |ok t' n'=>simp only[TR.app,TR.ok.injEq]at h;exact⟨t',n',rfl,h.1.symm⟩
 |bad n=>cases h
 |op=>cases h
theorem KC: ∀(m:Nat) (l t:Bs) (n:Nat),l.length<=m->eY l= .ok t n->t.any iO=false
 |_,[],t,n,_,h=>by rw[eY.eq_def]at h;cases h
 |0,_::_,_,_,hm,_=>by simp at hm
 |m+1,c::r,t,n,hm,h=>by
  simp only[aY]at hm;by_cases h34:c.toNat=34
  .rw[DT r h34]at h;cases h;rfl
  by_cases h92:c.toNat=92
  .cases r with
   |nil=>rw[DW h92]at h;cases h
   |cons d r=>
    by_cases hd:d.toNat=92\/d.toNat=34
    .rw[DY r h92 hd]at h;obtain⟨t',n',h1,rfl⟩:=TR.app_ok h;have ih:=KC m r t' n' (by simp only[aY]at hm;omega) h1;have ho:iO d=false:=by unfold iO;rw[decide_eq_false_iff_not];omega
     simp[ho,ih]
    .rw[DX r h92 hd]at h;cases h
  by_cases ho:iO c=true
  .rw[DV r h34 h92 ho]at h;cases h
  .rw[DU r h34 h92 ho]at h;obtain⟨t',n',h1,rfl⟩:=TR.app_ok h;have ih:=KC m r t' n' om h1;simp[ho,ih]
theorem Da {l t:Bs} {k n:Nat} (h:iA l= .ok k t n):(k=1->bW t=true)/\(k=2->t.all aQ=true/\t.length<=9)/\(k=3->t.any iO=false):=by
 unfold iA at h;split at h
 .cases h
 .next c r=>
  split at h
  .split at h
   .next t' n' hs=>
    simp only[PR.ok.injEq]at h;obtain⟨rfl,rfl,rfl⟩:=h;exact⟨λh=>(by cases h),λh=>(by cases h),λ_=>KC _ r _ _ (bA _) hs⟩
   .cases h
   .cases h
  split at h
  .split at h
   .next hw=>
    simp only[PR.ok.injEq]at h;obtain⟨rfl,rfl,rfl⟩:=h;exact⟨λ_=>hw,λh=>(by cases h),λh=>(by cases h)⟩
   .cases h
  split at h
  .next hd=>
   split at h
   .next hl=>
    simp only[PR.ok.injEq]at h;obtain⟨rfl,rfl,rfl⟩:=h;refine⟨λh=>(by cases h),λ_=>⟨?_,by simp only[aY];omega⟩,λh=>(by cases h)⟩;rw[List.all_cons,hd,Bool.true_and,List.all_eq_true];intro x hx;exact JS hx
   .cases h
  split at h
  .simp only[PR.ok.injEq]at h;obtain⟨rfl,rfl,rfl⟩:=h;exact⟨λh=>(by cases h),λh=>(by cases h),λh=>(by cases h)⟩
  .cases h
theorem SR.cons_ok {x:Lx} {r:SR} {L:List Lx} (h:r.cons x= .ok L): ∃M,r= .ok M/\L=x::M:=by
 cases r with
 |ok M=>simp only[SR.cons,SR.ok.injEq]at h;exact⟨M,rfl,h.symm⟩
 |bad n=>cases h
theorem SR.cons_bad {x:Lx} {r:SR} {n:Nat} (h:r.cons x= .bad n):r= .bad n:=by
 cases r with
 |ok M=>cases h
 |bad m=>simp only[SR.cons,SR.bad.injEq]at h;rw[h]
theorem ED: ∀(f a en:Nat) (l:Bs) (L:List Lx),a+l.length<=en->pU f a l= .ok L-> ∀x∈L,IA en x
 |0,_,_,_,L,_,h=>by
  simp only[pU,SR.ok.injEq]at h;subst h;intro x hx;cases hx
 |f+1,a,en,l,L,ha,h=>by
  simp only[pU]at h;split at h
  .simp only[SR.ok.injEq]at h;subst h;intro x hx;cases hx
  .next c r hr=>
   have hb:=GL false l;have hlr:=congrArg List.length hr;rw[bL]at hlr;split at h
   .next k t n hp=>
    obtain⟨M,h1,rfl⟩:=SR.cons_ok h;have hf:=Da hp;have hle:=(xJ _).1 _ _ _ hp;intro x hx;rcases bJ.1 hx with rfl|hx
    .exact⟨hf.1,hf.2.1,hf.2.2,by simp only;omega⟩
    .exact ED f _ en _ M (by rw[bL];omega) h1 x hx
   .cases h
theorem SH: ∀(f a en:Nat) (l:Bs) (n:Nat),a+l.length<=en->pU f a l= .bad n->n<=en
 |0,_,_,_,n,_,h=>by simp only[pU]at h;cases h
 |f+1,a,en,l,n,ha,h=>by
  simp only[pU]at h;split at h
  .cases h
  .next c r hr=>
   have hb:=GL false l;have hlr:=congrArg List.length hr;rw[bL]at hlr;split at h
   .next k t m hp=>
    have hle:=(xJ _).1 _ _ _ hp;exact SH f _ en _ n (by rw[bL];omega) (SR.cons_bad h)
   .next m hp=>
    have hle:=(xJ _).2 _ hp;simp only[SR.bad.injEq]at h;omega
structure tT (p:aO):Prop where
 tags: ∀t∈p.tags,bW t=true
 schemes: ∀t∈p.schemes,bW t=true
 css: ∀t∈p.css,bW t=true
 drops: ∀t∈p.drops,bW t=true
 attrs: ∀a∈p.attrs,oG a=true
 forces: ∀f∈p.forces,lN f=true
 lim:lK p=true
theorem LC:tT pV:=⟨λ_ h=>(by cases h),λ_ h=>(by cases h),λ_ h=>(by cases h),λ_ h=>(by cases h),λ_ h=>(by cases h),λ_ h=>(by cases h),by decide⟩
def gP (en:Nat) (l:List Lx):Prop:= ∀x∈l,IA en x
theorem gP.tail {en:Nat} {x:Lx} {r:List Lx} (h:gP en (x::r)):IA en x/\gP en r:=⟨h x fX,λy hy=>h y (fO _ hy)⟩
theorem Rt {en:Nat} {l:List Lx} (h:gP en l):sO en l<=en:=by
 cases l with
 |nil=>exact bA _
 |cons x r=>exact h.tail.1.at_
theorem wB {k:Nat} {ts:List Bs} {x:Lx} (h:cD k ts x=true):x.kind=k/\(ts≠[]->x.text∈ts):=by
 simp only[cD,bD,kL,decide_eq_true_eq]at h;refine⟨h.1,λhn=> ?_⟩;rcases h.2 with h2|h2
 .exact absurd (List.isEmpty_iff.1 h2) hn
 .exact h2
theorem kP {en k:Nat} {ts:List Bs} {l r:List Lx} {x:Lx} (h:dE en k ts l= .ok (x,r)) (hl:gP en l):IA en x/\x.kind=k/\gP en r:=by
 obtain⟨rfl,hi⟩:=iI h;exact⟨hl.tail.1,(wB hi).1,hl.tail.2⟩
theorem rY {en k:Nat} {ts:List Bs} {l:List Lx} {f:lC} (h:dE en k ts l= .error f) (hl:gP en l):f.at_<=en:=by
 cases l with
 |nil=>cases h;exact bA _
 |cons y q=>
  have h:(if cD k ts y=true then Except.ok (y,q)else .error ⟨y.at_,2⟩:Rs (Lx × List Lx))= .error f:=h;by_cases hi:cD k ts y=true
  .rw[if_pos hi]at h;cases h
  .rw[if_neg hi]at h;cases h;exact hl.tail.1.at_
theorem P9 {en:Nat} {l:List Lx} (hl:gP en l): ∀t∈(l.takeWhile (cD 1 [])).map Lx.text,bW t=true:=by
 intro t ht;obtain⟨x,hx,rfl⟩:=List.mem_map.1 ht;exact(hl x (List.takeWhile_prefix _ |>.subset hx)).word (wB (JS hx)).1
theorem YE {en:Nat} {l:List Lx} (hl:gP en l):gP en (l.dropWhile (cD 1 [])):=λx hx=>hl x ((Xu _).subset hx)
theorem Gu {en:Nat} {l q:List Lx} {ws:List Bs} (h:pZ en l= .ok (ws,q)) (hl:gP en l):(∀t∈ws,bW t=true)/\gP en q:=by
 unfold pZ at h;split at h
 .cases h
 .next y r ht=>
  cases h;exact⟨P9 hl,(kP ht (YE hl)).2.2⟩
theorem Gw {en:Nat} {l:List Lx} {f:lC} (h:pZ en l= .error f) (hl:gP en l):f.at_<=en:=by
 unfold pZ at h;split at h
 .next ht=>cases h;exact rY ht (YE hl)
 .cases h
theorem PH {en:Nat} {l q:List Lx} {ws:List Bs} (h:eP en l= .ok (ws,q)) (hl:gP en l):(∀t∈ws,bW t=true)/\gP en q:=by
 unfold eP at h;split at h
 .cases h
 .next x r ht=>
  obtain⟨h1,h2,h3⟩:=kP ht hl;split at h
  .cases h
  .next ws' q' hm=>
   cases h;obtain⟨h4,h5⟩:=Gu hm h3;refine⟨λt ht=> ?_,h5⟩;rcases bJ.1 ht with rfl|ht
   .exact h1.word h2
   .exact h4 t ht
theorem PJ {en:Nat} {l:List Lx} {f:lC} (h:eP en l= .error f) (hl:gP en l):f.at_<=en:=by
 unfold eP at h;split at h
 .next ht=>cases h;exact rY ht hl
 .next x r ht=>
  split at h
  .next hm=>cases h;exact Gw hm (kP ht hl).2.2
  .cases h
theorem LK {en a:Nat} {what:Bs} {l q:List Lx} {told told':List Bs} (h:iB en a what l told= .ok (q,told')) (hl:gP en l):gP en q:=by
 unfold iB at h;split at h
 .cases h
 .next x r ht=>
  split at h
  .cases h
  .cases h;exact(kP ht hl).2.2
theorem LL {en a:Nat} {what:Bs} {l:List Lx} {told:List Bs} {f:lC} (h:iB en a what l told= .error f) (hl:gP en l) (ha:a<=en):f.at_<=en:=by
 unfold iB at h;split at h
 .next ht=>cases h;exact rY ht hl
 .split at h
  .cases h;exact ha
  .cases h
theorem FC {en:Nat} {s t:Ps} {f:aO->List Bs->aO} (h:rG en s f= .ok t) (hl:gP en s.rest) (hf: ∀ws,(∀t∈ws,bW t=true)->tT (f s.pol ws)):tT t.pol/\gP en t.rest:=by
 unfold rG at h;split at h
 .cases h
 .next hw=>
  cases h;obtain⟨h1,h2⟩:=PH hw hl;exact⟨hf _ h1,h2⟩
theorem zP {α:Type} {p:α->Prop} {a b:List α} (ha: ∀x∈a,p x) (hb: ∀x∈b,p x): ∀x∈a++b,p x:=λx hx=>(eK.1 hx).elim (ha x) (hb x)
theorem KD {en:Nat} {s t:Ps} (h:eZ en s= .ok t) (hp:tT s.pol) (hl:gP en s.rest):tT t.pol/\gP en t.rest:=by
 unfold eZ at h;split at h
 .cases h
 .next x q ht=>
  obtain⟨_,_,hq⟩:=kP ht hl;split at h
  .exact FC h hq λws hw=>⟨zP hp.tags hw,hp.schemes,hp.css,hp.drops,hp.attrs,hp.forces,hp.lim⟩
  split at h
  .exact FC h hq λws hw=>⟨hp.tags,zP hp.schemes hw,hp.css,hp.drops,hp.attrs,hp.forces,hp.lim⟩
  split at h
  .exact FC h hq λws hw=>⟨hp.tags,hp.schemes,zP hp.css hw,hp.drops,hp.attrs,hp.forces,hp.lim⟩
  split at h
  .exact FC h hq λws hw=>⟨hp.tags,hp.schemes,hp.css,zP hp.drops hw,hp.attrs,hp.forces,hp.lim⟩
  split at h
  .unfold sN at h;simp only at h;split at h
   .next hn=>
    split at h
    .cases h
    .next y r=>
     split at h
     .cases h
     .next z q2 h2=>
      obtain⟨_,_,hq2⟩:=kP h2 hq.tail.2;split at h
      .cases h
      .next ws q3 hw=>
       cases h;obtain⟨hw1,hq3⟩:=PH hw hq2;refine⟨⟨hp.tags,hp.schemes,hp.css,hp.drops,zP hp.attrs λa ha=> ?_,hp.forces,hp.lim⟩,hq3⟩;obtain⟨m,hm,rfl⟩:=List.mem_map.1 ha;have hy:(decide (y.text=[42])||bW y.text)=true:=by
        rw[kL]at hn;rcases hn with hn|hn
        .have:=(wB (show cD 4 [[42]] y=true from hn)).2 (by simp);rw[fW]at this;simp[this]
        .have:=hq.tail.1.word (wB (show cD 1 [] y=true from hn)).1;simp[this]
       show((decide (y.text=[42])||bW y.text)&&bW m)=true;rw[hy,hw1 m hm];rfl
   .cases h
  split at h
  .unfold xH at h;split at h
   .cases h
   .next h2=>
    obtain⟨_,_,hq2⟩:=kP h2 hq;split at h
    .cases h
    .next ho=>
     cases h;exact⟨⟨hp.tags,hp.schemes,hp.css,hp.drops,hp.attrs,hp.forces,hp.lim⟩,LK ho hq2⟩
  split at h
  .unfold nX at h;split at h
   .cases h
   .next a q2 h2=>
    obtain⟨a1,a2,hq2⟩:=kP h2 hq;split at h
    .cases h
    .next b q3 h3=>
     obtain⟨b1,b2,hq3⟩:=kP h3 hq2;split at h
     .cases h
     .next v q4 h4=>
      obtain⟨c1,c2,hq4⟩:=kP h4 hq3;split at h
      .cases h
      .next ho=>
       cases h;refine⟨⟨hp.tags,hp.schemes,hp.css,hp.drops,hp.attrs,zP hp.forces λf hf=> ?_,hp.lim⟩,LK ho hq4⟩;rw[fW]at hf;subst hf;show(!v.text.any iO&&bW a.text&&bW b.text)=true;rw[c1.str c2,a1.word a2,b1.word b2];rfl
  .unfold nW at h;split at h
   .cases h
   .next a q2 h2=>
    obtain⟨_,_,hq2⟩:=kP h2 hq;split at h
    .cases h
    .next b q3 h3=>
     obtain⟨_,_,hq3⟩:=kP h3 hq2;split at h
     .cases h
     .next ho=>
      split at h
      .next hlim=>
       cases h;refine⟨?_,LK ho hq3⟩;have e: ∀n:Int,(gE a.text n s.pol).tags=s.pol.tags/\(gE a.text n s.pol).schemes=s.pol.schemes/\(gE a.text n s.pol).css=s.pol.css/\(gE a.text n s.pol).drops=s.pol.drops/\(gE a.text n s.pol).attrs=s.pol.attrs/\(gE a.text n s.pol).forces=s.pol.forces:=λn=>by
        unfold gE;split
        .exact⟨rfl,rfl,rfl,rfl,rfl,rfl⟩
        .split<;>exact⟨rfl,rfl,rfl,rfl,rfl,rfl⟩
       obtain⟨e1,e2,e3,e4,e5,e6⟩:=e (pW b.text);exact⟨by simp only;rw[e1];exact hp.tags,by simp only;rw[e2];exact hp.schemes,by simp only;rw[e3];exact hp.css,by simp only;rw[e4];exact hp.drops,by simp only;rw[e5];exact hp.attrs,by simp only;rw[e6];exact hp.forces,hlim⟩
      .cases h
theorem FE {en:Nat} {s:Ps} {g:aO->List Bs->aO} {f:lC} (h:rG en s g= .error f) (hl:gP en s.rest):f.at_<=en:=by
 unfold rG at h;split at h
 .next hw=>cases h;exact PJ hw hl
 .cases h
theorem S4 {en:Nat} {s:Ps} {f:lC} (h:eZ en s= .error f) (hl:gP en s.rest):f.at_<=en:=by
 unfold eZ at h;split at h
 .next ht=>cases h;exact rY ht hl
 .next x q ht=>
  obtain⟨hx,_,hq⟩:=kP ht hl;split at h
  .exact FE h hq
  split at h
  .exact FE h hq
  split at h
  .exact FE h hq
  split at h
  .exact FE h hq
  split at h
  .unfold sN at h;simp only at h;split at h
   .split at h
    .cases h;exact bA _
    .next y r=>
     split at h
     .next h2=>cases h;exact rY h2 hq.tail.2
     .next z q2 h2=>
      obtain⟨_,_,hq2⟩:=kP h2 hq.tail.2;split at h
      .next hw=>cases h;exact PJ hw hq2
      .cases h
   .cases h;exact Rt hq
  split at h
  .unfold xH at h;split at h
   .next h2=>cases h;exact rY h2 hq
   .next h2=>
    obtain⟨_,_,hq2⟩:=kP h2 hq;split at h
    .next ho=>cases h;exact LL ho hq2 hx.at_
    .cases h
  split at h
  .unfold nX at h;split at h
   .next h2=>cases h;exact rY h2 hq
   .next a q2 h2=>
    obtain⟨_,_,hq2⟩:=kP h2 hq;split at h
    .next h3=>cases h;exact rY h3 hq2
    .next b q3 h3=>
     obtain⟨_,_,hq3⟩:=kP h3 hq2;split at h
     .next h4=>cases h;exact rY h4 hq3
     .next v q4 h4=>
      obtain⟨_,_,hq4⟩:=kP h4 hq3;split at h
      .next ho=>cases h;exact LL ho hq4 hx.at_
      .cases h
  .unfold nW at h;split at h
   .next h2=>cases h;exact rY h2 hq
   .next a q2 h2=>
    obtain⟨_,_,hq2⟩:=kP h2 hq;split at h
    .next h3=>cases h;exact rY h3 hq2
    .next b q3 h3=>
     obtain⟨hb,_,hq3⟩:=kP h3 hq2;split at h
     .next ho=>cases h;exact LL ho hq3 hx.at_
     .split at h
      .cases h
      .cases h;exact hb.at_
theorem SP {en:Nat}: ∀(f:Nat) {s t:Ps},lV en f s= .ok t->tT s.pol->gP en s.rest->tT t.pol
 |0,s,t,h,hp,_=>by simp only[lV]at h;cases h;exact hp
 |f+1,s,t,h,hp,hl=>by
  unfold lV at h;split at h
  .cases h;exact hp
  .split at h
   .cases h
   .next ht=>obtain⟨h1,h2⟩:=KD ht hp hl;exact SP f h h1 h2
theorem ST {en:Nat}: ∀(f:Nat) {s:Ps} {e:lC},lV en f s= .error e->tT s.pol->gP en s.rest->e.at_<=en
 |0,s,e,h,_,_=>by simp only[lV]at h;cases h
 |f+1,s,e,h,hp,hl=>by
  unfold lV at h;split at h
  .cases h
  .split at h
   .next ht=>cases h;exact S4 ht hl
   .next ht=>obtain⟨h1,h2⟩:=KD ht hp hl;exact ST f h h1 h2
theorem AG {α:Type} {p:α->Bool} {l:List α} (h: ∀x∈l,p x=true):l.all p=true:=List.all_eq_true.2 h
theorem Fv {p:aO} (h:tT p) (hf:oA (eD p)=true):gZ (eD p)=true:=by
 unfold gZ;have h1:=AG (p:=bW) λt ht=>h.tags t (xM uB (l:=p.tags) ht);have h2:=AG (p:=bW) λt ht=>h.schemes t (xM uB (l:=p.schemes) ht);have h3:=AG (p:=bW) λt ht=>h.css t (xM uB (l:=p.css) ht);have h4:=AG (p:=bW) λt ht=>h.drops t (xM uB (l:=p.drops) ht);have h5:=AG (p:=oG) λt ht=>h.attrs t (xM yU (l:=p.attrs) ht);have h6:=AG (p:=lN) λt ht=>h.forces t (xM vN (l:=p.forces) ht);have h7:lK (eD p)=true:=h.lim;have h8:decide (eD (eD p)=eD p)=true:=decide_eq_true (Fz p);rw[hf,h7,h8];show((bS bF p.tags).all bW&&(bS bF p.schemes).all bW&&(bS bF p.css).all bW&&(bS bF p.drops).all bW&&(bS cP p.attrs).all oG&&(bS cG p.forces).all lN&&true&&true&&true)=true;rw[h1,h2,h3,h4,h5,h6];rfl
theorem LG {s:Bs} {p:aO} (h:jS s= .ok p):gZ p=true:=by
 unfold jS at h;split at h
 .cases h
 .split at h
  .cases h
  .next l hl=>
   split at h
   .cases h
   .next t ht=>
    split at h
    .next hf=>
     cases h;exact Fv (SP _ ht LC (ED _ _ _ _ _ om hl)) hf
    .cases h
theorem Eb {s:Bs} {f:lC} (h:jS s= .error f):f.at_<=s.length:=by
 unfold jS at h;split at h
 .cases h;exact Nat.zero_le _
 .split at h
  .next n hn=>cases h;exact SH _ _ _ _ _ om hn
  .next l hl=>
   split at h
   .next ht=>cases h;exact ST _ ht LC (ED _ _ _ _ _ om hl)
   .split at h
    .cases h
    .cases h;exact bA _
open Go.RowKit
def IF (A:Option Addr) (n c:Nat):Prop:=(A=none->c=0)/\n<=c
theorem Eh {W:World} {B:Nat} {e:TypeId} {size:Nat} {A:Option Addr} {n c:Nat} {xs:List Value} (h:W.ownsRow B e size (aF A n c) n xs):IF A n c:=by
 obtain⟨_,_,e9,h9⟩:=dF h;cases e9;exact⟨uG h,h9⟩
def rO (w:World) (n size:Nat) (cells:List Value) (e:Ending) (w':World):Prop:= ∃A c,e=aL (aF A n c)/\Below w.heap.size w w'/\IF A n c/\Rd w' (aF A n c) n size cells/\(0<n-> ∀b off s,A=some ⟨b,off,s⟩->w.heap.size<=b)
theorem Rd.part {w:World} {A:Option Addr} {n c size:Nat} {xs:List Value} (h:Rd w (aF A n c) n size xs) (m:Nat) (hm:m<=n):Rd w (aF A m c) m size (xs.take (m*size)):=by
 obtain⟨h1,h2,A',c',he,h4⟩:=h;cases he;refine⟨?_,by omega,A,c,rfl,λh0=> ?_⟩
 .rw[bZ,h1,Nat.min_eq_left (Xn _ hm)]
 .obtain⟨b,off,h5,h6,h7⟩:=h4 om;refine⟨b,off,h5,h6,λj u hu=>h7 j u ?_⟩;rw[yr]at hu;split at hu
  .exact hu
  .cases hu
theorem XN {α:Type} (cells:α->List Value) (n:Nat) (hn: ∀x,(cells x).length=n) (l:List α) (m:Nat):(l.flatMap cells).take (m*n)=(l.take m).flatMap cells:=by
 induction l generalizing m with
 |nil=>simp
 |cons x r ih=>
  cases m with
  |zero=>simp
  |succ m=>
   rw[List.take_succ_cons,iF,iF,show(m+1)*n=n+m*n by rw[Nat.add_mul];omega,List.take_append,hn x,fI (by rw[hn];omega),show n+m*n-n=m*n by omega,ih]
theorem XZ (p q:Bs × Bs):ev oT p q=decide (p=q):=by
 rw[Bool.eq_iff_iff];simp only[ev,bD,rU,decide_eq_true_eq];constructor
 .rintro⟨h1,h2⟩;simp only[oT,oK,Yz,decide_eq_false_iff_not]at h1 h2;have e1:=BX _ _ h1.1 h2.1;have a:bF p.2 q.2=false:=by
   rcases h1.2 with h|h
   .exact absurd e1 h
   .exact h
  have b:bF q.2 p.2=false:=by
   rcases h2.2 with h|h
   .exact absurd e1.symm h
   .exact h
  exact Prod.ext e1 (BX _ _ a b)
 .rintro rfl;exact⟨DP.irrefl _,DP.irrefl _⟩
theorem Rd.empty {w:World} {A:Option Addr} {c size:Nat}:Rd w (aF A 0 c) 0 size []:=⟨by simp,by omega,A,c,rfl,λh=>by omega⟩
theorem Rd.none_nil {w:World} {n c size:Nat} {xs:List Value} (h:Rd w (aF none n c) n size xs):n=0:=by
 rcases Nat.eq_zero_or_pos n with h0|h0
 .exact h0
 .obtain⟨_,_,A,c',he,h4⟩:=h;cases he;obtain⟨b,off,h5,_⟩:=h4 h0;cases h5
open Go.RowKit
def Rx (W:World) (bad:Nat->Prop) (v:Value) (n size:Nat) (cells:List Value):Prop:= ∃A c,v=aF A n c/\IF A n c/\Rd W v n size cells/\(0<n-> ∀b off s,A=some ⟨b,off,s⟩-> ¬bad b)
theorem Rd.turnedN {pv:Nat->Prop} {W W':World} {A:Option Addr} {n c size:Nat} {xs:List Value} (h:Rd W (aF A n c) n size xs) (ht:aJ pv W W') (hA:0<n-> ∀b off s,A=some ⟨b,off,s⟩-> ¬pv b):Rd W' (aF A n c) n size xs:=by
 obtain⟨h1,h2,A',c',he,h4⟩:=h;cases he;refine⟨h1,h2,A,c,rfl,λhn=> ?_⟩;obtain⟨b,off,rfl,hb,hc⟩:=h4 hn;refine⟨b,off,rfl,Nat.lt_of_lt_of_le hb ht.size,λj u hu=> ?_⟩;have:=hc j u hu;unfold World.cell? at this ⊢;rw[ht.block b hb (hA hn _ _ _ rfl)];exact this
theorem Rx.turned {W W':World} {bad:Nat->Prop} {v:Value} {n size:Nat} {cells:List Value} (h:Rx W bad v n size cells) (ht:aJ bad W W'):Rx W' bad v n size cells:=by
 obtain⟨A,c,rfl,h1,h2,h3⟩:=h;exact⟨A,c,rfl,h1,h2.turnedN ht h3,h3⟩
theorem Rx.mono {W:World} {bad bad':Nat->Prop} {v:Value} {n size:Nat} {cells:List Value} (h:Rx W bad v n size cells) (hb: ∀b,b<W.heap.size->bad' b->bad b):Rx W bad' v n size cells:=by
 obtain⟨A,c,rfl,h1,h2,h3⟩:=h;refine⟨A,c,rfl,h1,h2,λhn b off s he hx=> ?_⟩;obtain⟨_,_,A',c',e,h4⟩:=h2;cases e;obtain⟨b2,off2,h5,h6,_⟩:=h4 hn;rw[he]at h5;cases h5;exact h3 hn _ _ _ he (hb _ h6 hx)
theorem Rx.below {W W':World} {bad:Nat->Prop} {v:Value} {n size:Nat} {cells:List Value} (h:Rx W bad v n size cells) (hb:Below W.heap.size W W'):Rx W' bad v n size cells:=h.turned (aJ.of_below hb)
def fN (p:aO):Nat->Nat
 |0=>p.tags.length
 |1=>p.schemes.length
 |2=>p.css.length
 |3=>p.drops.length
 |4=>p.attrs.length
 |_=>p.forces.length
def fS:Nat->Nat
 |4=>2
 |5=>3
 |_=>1
def fC (p:aO):Nat->List Value
 |0=>p.tags.map sv
 |1=>p.schemes.map sv
 |2=>p.css.map sv
 |3=>p.drops.map sv
 |4=>p.attrs.flatMap aW.cells
 |_=>p.forces.flatMap aS.cells
def jN (W:World) (bad:Nat->Prop) (v:Value) (p:aO):Prop:= ∃v0 v1 v2 v3 v4 v5,v=aR #[v0,v1,v2,v3,v4,v5,aI p.rel,aB aC p.depth,aB aC p.name,aB aC p.value]/\
 Rx W bad v0 (fN p 0) 1 (fC p 0)/\Rx W bad v1 (fN p 1) 1 (fC p 1)/\Rx W bad v2 (fN p 2) 1 (fC p 2)/\Rx W bad v3 (fN p 3) 1 (fC p 3)/\Rx W bad v4 (fN p 4) 2 (fC p 4)/\Rx W bad v5 (fN p 5) 3 (fC p 5)
theorem jN.below {W W':World} {bad:Nat->Prop} {v:Value} {p:aO} (h:jN W bad v p) (hb:Below W.heap.size W W'):jN W' bad v p:=by
 obtain⟨v0,v1,v2,v3,v4,v5,rfl,h0,h1,h2,h3,h4,h5⟩:=h;exact⟨v0,v1,v2,v3,v4,v5,rfl,h0.below hb,h1.below hb,h2.below hb,h3.below hb,h4.below hb,h5.below hb⟩
theorem jN.mono {W:World} {bad bad':Nat->Prop} {v:Value} {p:aO} (h:jN W bad v p) (hb: ∀b,b<W.heap.size->bad' b->bad b):jN W bad' v p:=by
 obtain⟨v0,v1,v2,v3,v4,v5,rfl,h0,h1,h2,h3,h4,h5⟩:=h;exact⟨v0,v1,v2,v3,v4,v5,rfl,h0.mono hb,h1.mono hb,h2.mono hb,h3.mono hb,h4.mono hb,h5.mono hb⟩
def bd (B:Nat) (neat:Prop) (b:Nat):Prop:=(b=B\/b=B+1)\/(neat/\b<B)
def iD (p:aO) (k j:Nat):aO:=if j<k then eD p else p
structure rP (p:aO) (B k:Nat) (w W:World):Prop where
 below:Below B w W
 size:B+2<=W.heap.size
 fld: ∀j,j<6-> ∃v,W.cell? ⟨B,j,none⟩=some v/\Rx W (bd B (j<k)) v (fN (iD p k j) j) (fS j) (fC (iD p k j) j)
 c6:W.cell? ⟨B,6,none⟩=some (aI p.rel)
 c7:W.cell? ⟨B,7,none⟩=some (aB aC p.depth)
 c8:W.cell? ⟨B,8,none⟩=some (aB aC p.name)
 c9:W.cell? ⟨B,9,none⟩=some (aB aC p.value)
 fz: ∀j,W.frozen? ⟨B,j,none⟩=false
 rc: ∀j,j<10-> ∃v,W.cell? ⟨B+1,j,none⟩=some v
 rz: ∀j,W.frozen? ⟨B+1,j,none⟩=false
theorem rP.step {p:aO} {B k:Nat} {w W W':World} (h:rP p B k w W) (hk:k<6) (hb:Below W.heap.size W W') {A:Option Addr} {c:Nat} (hA:IF A (fN (eD p) k) c) (hr:Rd W' (aF A (fN (eD p) k) c) (fN (eD p) k) (fS k) (fC (eD p) k)) (hA2:0<fN (eD p) k-> ∀b off s,A=some ⟨b,off,s⟩->W.heap.size<=b):
  rP p B (k+1) w (W'.setCell ⟨B,k,none⟩ (aF A (fN (eD p) k) c)):=by
 have hs:=h.size;have hs2:=hb.size;obtain⟨v0,hv0,_⟩:=h.fld k hk;have hB:B<W.heap.size:=by omega
 have hB1:B+1<W.heap.size:=by omega
 have t1:aJ (λb=>b=B) W' (W'.setCell ⟨B,k,none⟩ (aF A (fN (eD p) k) c)):=aJ.setCell (pv:=λb=>b=B) (p:=⟨B,k,none⟩) (aJ.refl _ W') (.inr rfl) _;have t2:aJ (λb=>b=B) W (W'.setCell ⟨B,k,none⟩ (aF A (fN (eD p) k) c)):=(aJ.of_below hb).trans t1;have old: ∀a:Addr,a.block<W.heap.size->(⟨B,k,none⟩:Addr)≠a-> ∀v,W.cell? a=some v->(W'.setCell ⟨B,k,none⟩ (aF A (fN (eD p) k) c)).cell? a=some v:=λa ha hne v hv=>by
  rw[World.cell?_setCell_other _ _ _ _ hne];exact(hb.cell ha).trans hv
 refine⟨h.below.trans (t2.below om (λk hk=>by omega)),Nat.le_trans hs t2.size,λj hj=> ?_,old _ hB (by intro e;cases e;omega) _ h.c6,old _ hB (by intro e;cases e;omega) _ h.c7,old _ hB (by intro e;cases e;omega) _ h.c8,old _ hB (by intro e;cases e;omega) _ h.c9,λj=> ?_,λj hj=> ?_,λj=> ?_⟩
 .by_cases hjk:j=k
  .subst hjk;refine⟨_,World.cell?_setCell_same _ _ _ ((hb.cell hB).trans hv0), ?_⟩;have hm:iD p (j+1) j=eD p:=by unfold iD;rw[if_pos om]
   rw[hm];refine⟨A,c,rfl,hA,hr.turnedN t1 (λhn b off s he hx=> ?_),λhn b off s he hx=> ?_⟩
   .have:=hA2 hn b off s he;omega
   .have:=hA2 hn b off s he;rcases hx with(hx|hx)|⟨_,hx⟩<;>omega
  .obtain⟨v,hv,hx⟩:=h.fld j hj;refine⟨v,old _ hB (by intro e;cases e;exact hjk rfl) _ hv, ?_⟩;have hm:iD p (k+1) j=iD p k j:=by
    unfold iD;by_cases hlt:j<k
    .rw[if_pos hlt,if_pos om]
    .rw[if_neg hlt,if_neg om]
   rw[hm];refine(hx.turned (t2.mono λb hb=> .inl (.inl hb))).mono λb _ hb=> ?_;rcases hb with hb|⟨hb1,hb2⟩
   .exact .inl hb
   .exact .inr ⟨by omega,hb2⟩
 .rw[World.frozen?_setCell,World.frozen?_of_block (hb.block B hB)];exact h.fz j
 .obtain⟨v,hv⟩:=h.rc j hj;exact⟨v,old _ hB1 (by intro e;cases e) _ hv⟩
 .rw[World.frozen?_setCell,World.frozen?_of_block (hb.block (B+1) hB1)];exact h.rz j
open Go.RowKit
theorem WS {α:Type} (lt:α->α->Bool) (x:α): ∀(O:List α),(lM lt x O).length<=O.length+1
 |[]=>by simp[lM]
 |y::r=>by
  unfold lM;split
  .have:=WS lt x r;simp only[aY];omega
  .split
   .simp
   .simp
theorem Fx {α:Type} (lt:α->α->Bool) (l:List α):(bS lt l).length<=l.length:=by
 have: ∀(l o:List α),(l.foldl (λo x=>lM lt x o) o).length<=o.length+l.length:=by
  intro l;induction l with
  |nil=>intro o;simp
  |cons x l ih=>intro o;have h1:=ih (lM lt x o);have h2:=WS lt x o;simp only[List.foldl_cons,aY]at*;omega
 have:=this l [];simpa[bS]using this
theorem Rd.rest {W:World} {g n c size a:Nat} {xs:List Value} (h:Rd W (aF (some ⟨g,0,none⟩) n c) n size xs) (ha:a<=n):Rd W (aF (some ⟨g,a*size,none⟩) (n-a) (c-a)) (n-a) size (xs.drop (a*size)):=by
 obtain⟨h1,h2,A,c',he,h4⟩:=h;cases he;refine⟨by rw[bL,h1,Nat.sub_mul],by omega,_,_,rfl,λh0=> ?_⟩;obtain⟨b,off,h5,h6,h7⟩:=h4 om;cases h5;refine⟨g,a*size,rfl,h6,λj u hu=> ?_⟩;rw[yq]at hu;have:=h7 (a*size+j) u hu;rw[Nat.zero_add]at this;exact this
open Go.RowKit
attribute [local go_sem] Oper.semAt_some
theorem fB {fn:Func} {p:Tmp} {ty:TypeId} (h:fn.results= #[.cell p ty]) (tmps:Array Value) (P:Program) (w:World):
  (results fn tmps).run P w=((asAddr (tmps.getD p undef)).run P w).andThen λa w₁=>(loadVar ty a).run P w₁:=by
 simp only[results,h];simp[Sem.run_bind,Result.andThen]
theorem YC (a b c d:ByteArray) (w:World):(Op.equalIn 10000 65 (aR #[aD a,aD b]) (aR #[aD c,aD d])).run aE w= .ok ((a.toList==c.toList)&&(b.toList==d.toList)) w:=by
 have h2:aE.underlying 65=some (.struct (aE.fieldsOf 65)):=by kernel_rfl
 have h3:aE.stoodInHeld 65=false:=by kernel_rfl
 rw[run_equalIn_agg _ _ _ _ _ h2 h3];simp only[Program.fieldsOf,Tryz.underlying65];cases h1:(a.toList==c.toList)<;>cases h4:(b.toList==d.toList)<;>simp[go_sem,Tryz.underlying9,h1,h4]
@[go_sem high] theorem We (a b c d:ByteArray) (w:World):(binOp .eql 65 (aR #[aD a,aD b]) (aR #[aD c,aD d])).run aE w= .ok (aI ((a.toList==c.toList)&&(b.toList==d.toList))) w:=by
 rw[run_eql_struct,YC];rfl
@[go_sem high] theorem Ur (a b c d:ByteArray) (w:World):(binOp .neq 65 (aR #[aD a,aD b]) (aR #[aD c,aD d])).run aE w= .ok (aI (!((a.toList==c.toList)&&(b.toList==d.toList)))) w:=by
 rw[run_neq_struct,YC];rfl
@[go_sem] theorem Vw:aE.eqGuardType aE.depth 65=false:=by kernel_rfl
