/- Plain: what is in order; each thing once; policies; what a text of one tells; what sorting rests on. -/
import Derived.WalkKit
import Derived.BigRegion
import Derived.Laws.OwnMore
import Derived.Deep.QuietTactic
import Derived.BigQuiet
import Derived.Lib.SmallJoins
import Derived.Test.YtiikamobcmgekaaGreatDoorKB
import Derived.Test.YtiikamobcmgekaaGreatDoorProg
namespace Go.Proofs.YtiikamobcmgekaaGreatDoor
open Bool renaming and_eq_false_iff→z4v,and_eq_true→z2z,not_eq_true'→z4r,or_eq_false_iff→z30
open List renaming Pairwise→z4o,append_assoc→z27,append_nil→z3r,drop_eq_nil_of_le→z2o,eq_nil_of_length_eq_zero→z2u,filter_append→z5f,filter_cons_of_neg→z2v,filter_cons_of_pos→z2t,filter_eq_nil_iff→z5r,filter_nil→z3y,flatMap_append→z45,flatMap_cons→z3z,getElem?_drop→z6f,getElem?_eq_getElem→z2q,getElem?_eq_some_iff→z24,getElem?_take→z6g,length_append→z2h,length_cons→z2i,length_drop→z2n,length_take→z2r,mem_append→z3g,mem_cons→z3n,mem_cons_self→z3i,mem_filter→z44,mem_iff_getElem?→z36,mem_singleton→z23,nil_append→z3l,pairwise_append→z3f,pairwise_cons→z3c,take_append_drop→z3j,take_of_length_le→z2p
open Nat renaming le_refl→z2k,mul_le_mul_right→z42,succ_mul→z52
open Tryz renaming prog→z2f
set_option maxRecDepth 100000
set_option maxHeartbeats 1600000
section
variable {α:Type}
structure Swo (lt:α->α->Bool):Prop where
 irrefl: ∀a,lt a a=false
 asymm: ∀a b,lt a b=true->lt b a=false
 le_trans: ∀a b c,lt b a=false->lt c b=false->lt c a=false
variable (lt:α->α->Bool)
def Up (l:List α):Prop:=l.Pairwise fun a b=>lt b a=false
def ev (a b:α):Bool:= !lt a b&& !lt b a
def zax (l m:List α):Prop:= ∀a,l.filter (ev lt a)=m.filter (ev lt a)
variable {lt}
theorem zax.refl (l:List α):zax lt l l:=fun _=>rfl
theorem zax.symm {l m:List α} (h:zax lt l m):zax lt m l:=fun a=>(h a).symm
theorem zax.trans {l m n:List α} (h:zax lt l m) (h2:zax lt m n):zax lt l n:=fun a=>(h a).trans (h2 a)
theorem zax.app {l m l2 m2:List α} (h:zax lt l m) (h2:zax lt l2 m2):zax lt (l++l2) (m++m2):=fun a=>by
 rw[z5f,z5f,h a,h2 a]
theorem Swo.ev_refl (H:Swo lt) (a:α):ev lt a a=true:=by simp[ev,H.irrefl]
theorem zax.mem (H:Swo lt) {l m:List α} (h:zax lt l m) {x:α} (hx:x∈l):x∈m:=by
 have:x∈l.filter (ev lt x):=z44.2 ⟨hx,H.ev_refl x⟩;rw[h x]at this;exact(z44.1 this).1
theorem Swo.lt_le (H:Swo lt) {a b c:α} (h:lt a b=true) (h2:lt c b=false):lt a c=true:=by
 cases h3:lt a c
 ·have:=H.le_trans b c a h2 h3;rw[h]at this;cases this
 ·rfl
theorem Swo.le_lt (H:Swo lt) {a b c:α} (h:lt b a=false) (h2:lt b c=true):lt a c=true:=by
 cases h3:lt a c
 ·have:=H.le_trans c a b h3 h;rw[h2]at this;cases this
 ·rfl
theorem Swo.ev_no (H:Swo lt) {a x y:α} (hx:ev lt a x=true) (hy:ev lt a y=true):lt x y=false:=by
 simp only[ev,z2z,z4r]at hx hy;exact H.le_trans y a x hy.1 hx.2
theorem zax.up_eq (H:Swo lt): ∀{l m:List α},Up lt l->Up lt m->zax lt l m->l=m:=by
 intro l;induction l with
 |nil=>
  intro m _ _ h;cases m with
  |nil=>rfl
  |cons y m=>have:=h.symm.mem H (z3i ..);cases this
 |cons x l ih=>
  intro m hl hm h;cases m with
  |nil=>have:=h.mem H (z3i ..);cases this
  |cons y m=>
   obtain⟨hl1,hl2⟩:=z3c.1 hl;obtain⟨hm1,hm2⟩:=z3c.1 hm;have hx:lt x y=false:=by
    rcases z3n.1 (h.mem H (z3i ..))with rfl|h1
    ·exact H.irrefl _
    ·exact hm1 _ h1
   have hy:lt y x=false:=by
    rcases z3n.1 (h.symm.mem H (z3i ..))with rfl|h1
    ·exact H.irrefl _
    ·exact hl1 _ h1
   have h1:=h x;rw[z2t (H.ev_refl x),z2t (by simp[ev,hx,hy])]at h1;obtain⟨rfl,_⟩:=List.cons.inj h1;congr 1;refine ih hl2 hm2 fun a=> ?_;have h2:=h a;cases he:ev lt a x
   ·rwa[z2v (by simp[he]),z2v (by simp[he])]at h2
   ·rw[z2t he,z2t he]at h2;exact(List.cons.inj h2).2
theorem zax.swap (H:Swo lt) {u v:List α} (h: ∀x∈u,∀y∈v,lt y x=true):zax lt (u++v) (v++u):=fun a=>by
 rw[z5f,z5f];cases hu:u.filter (ev lt a)with
 |nil=>rw[z3l,z3r]
 |cons x u'=>
  cases hv:v.filter (ev lt a)with
  |nil=>rw[z3l,z3r]
  |cons y v'=>
   have hx:x∈u.filter (ev lt a):=by rw[hu];exact z3i ..
   have hy:y∈v.filter (ev lt a):=by rw[hv];exact z3i ..
   rw[z44]at hx hy;have h1:=h x hx.1 y hy.1;have h2:=H.ev_no hy.2 hx.2;rw[h1]at h2;cases h2
theorem zqz (H:Swo lt) {L1 L2 R1 R2 s1 s2:List α} (hA:Up lt (L1++L2)) (hB:Up lt (R1++R2)) (h1: ∀x∈L2,∀y∈R1,lt y x=true) (h2: ∀x∈L1,∀y∈R2,lt y x=false)
  (u1:Up lt s1) (a1:zax lt s1 (L1++R1)) (u2:Up lt s2) (a2:zax lt s2 (L2++R2)):Up lt (s1++s2)/\zax lt (s1++s2) ((L1++L2)++(R1++R2)):=by
 obtain⟨_,_,hA3⟩:=z3f.1 hA;obtain⟨_,_,hB3⟩:=z3f.1 hB;refine⟨z3f.2 ⟨u1,u2,fun x hx y hy=> ?_⟩, ?_⟩
 ·rcases z3g.1 (a1.mem H hx)with hx|hx<;>rcases z3g.1 (a2.mem H hy)with hy|hy
  ·exact hA3 x hx y hy
  ·exact h2 x hx y hy
  ·exact H.asymm _ _ (h1 y hy x hx)
  ·exact hB3 x hx y hy
 ·refine(a1.app a2).trans ?_;rw[z27,z27];refine(zax.refl L1).app ?_;rw[<-z27,<-z27];exact(zax.swap H h1).symm.app (zax.refl R2)
theorem zw8 (H:Swo lt) {x:α} {B1 B2:List α} (hB:Up lt (B1++B2)) (h1: ∀y∈B1,lt y x=true) (h2: ∀y∈B2,lt y x=false):Up lt (B1++x::B2)/\zax lt (B1++x::B2) (x::(B1++B2)):=by
 obtain⟨hb1,hb2,hb3⟩:=z3f.1 hB;refine⟨z3f.2 ⟨hb1,z3c.2 ⟨h2,hb2⟩,fun y hy z hz=> ?_⟩, ?_⟩
 ·rcases z3n.1 hz with rfl|hz
  ·exact H.asymm _ _ (h1 y hy)
  ·exact hb3 y hy z hz
 ·have:=(zax.swap H (u:=[x]) (v:=B1) (fun z hz y hy=>by rw[z23]at hz;subst hz;exact h1 y hy)).symm.app (zax.refl (lt:=lt) B2);simpa using this
theorem zsf (H:Swo lt) {y:α} {A1 A2:List α} (hA:Up lt (A1++A2)) (h1: ∀x∈A1,lt y x=false) (h2: ∀x∈A2,lt y x=true):Up lt (A1++y::A2)/\zax lt (A1++y::A2) ((A1++A2)++[y]):=by
 obtain⟨ha1,ha2,ha3⟩:=z3f.1 hA;refine⟨z3f.2 ⟨ha1,z3c.2 ⟨fun x hx=>H.asymm _ _ (h2 x hx),ha2⟩,fun x hx z hz=> ?_⟩, ?_⟩
 ·rcases z3n.1 hz with rfl|hz
  ·exact h1 x hx
  ·exact ha3 x hx z hz
 ·rw[z27];refine(zax.refl A1).app ?_;have:=zax.swap H (u:=A2) (v:=[y]) (fun x hx z hz=>by rw[z23]at hz;subst hz;exact h2 x hx);exact this.symm
end
section
variable {α:Type} {lt:α->α->Bool}
theorem Up.get (H:Swo lt) {l:List α} (h:Up lt l) {i j:Nat} (hij:i<=j) {a b:α} (ha:l[i]? =some a) (hb:l[j]? =some b):lt b a=false:=by
 obtain⟨hi,rfl⟩:=z24.1 ha;obtain⟨hj,rfl⟩:=z24.1 hb;rcases Nat.lt_or_eq_of_le hij with h1|h1
 ·exact(List.pairwise_iff_getElem.1 h) i j hi hj h1
 ·subst h1;exact H.irrefl _
theorem zf5 (H:Swo lt) {A B:List α} (hA:Up lt A) (hB:Up lt B) {s t:Nat} (hs:s<=A.length) (ht:t<=B.length) (hx: ∀x y,A[s]? =some x->0<t->B[t-1]? =some y->lt y x=true)
  (hy: ∀x y,0<s->A[s-1]? =some x->B[t]? =some y->lt y x=false):(∀x∈A.drop s,∀y∈B.take t,lt y x=true)/\(∀x∈A.take s,∀y∈B.drop t,lt y x=false):=by
 constructor
 ·intro x hxm y hym;obtain⟨i,hi⟩:=z36.1 hxm;obtain⟨j,hj⟩:=z36.1 hym;rw[z6f]at hi;rw[z6g]at hj;split at hj
  ·rename_i hjt;obtain⟨hil,_⟩:=z24.1 hi;have h1:A[s]? =some (A[s]'(by omega)):=z2q (by omega);have h2:B[t-1]? =some (B[t-1]'(by omega)):=z2q (by omega);exact H.lt_le (H.le_lt (Up.get H hB (show j<=t-1 by omega) hj h2) (hx _ _ h1 (by omega) h2)) (Up.get H hA (show s<=s+i by omega) h1 hi)
  ·cases hj
 ·intro x hxm y hym;obtain⟨i,hi⟩:=z36.1 hxm;obtain⟨j,hj⟩:=z36.1 hym;rw[z6g]at hi;rw[z6f]at hj;split at hi
  ·rename_i his;obtain⟨hjl,_⟩:=z24.1 hj;have h1:A[s-1]? =some (A[s-1]'(by omega)):=z2q (by omega);have h2:B[t]? =some (B[t]'(by omega)):=z2q (by omega);have h3:=hy _ _ (by omega) h1 h2;exact H.le_trans x _ y (Up.get H hA (show i<=s-1 by omega) hi h1) (H.le_trans _ _ _ h3 (Up.get H hB (show t<=t+j by omega) h2 hj))
  ·cases hi
def putS (d:List α) (a b:Nat) (s:List α):List α:=d.take a++s++d.drop b
def segS (d:List α) (a b:Nat):List α:=(d.drop a).take (b-a)
theorem zju (d:List α) {a b:Nat} (h1:a<=b) (h2:b<=d.length):(segS d a b).length=b-a:=by unfold segS;rw[z2r,z2n];omega
theorem zmu (d:List α) {a b:Nat} (h1:a<=b):putS d a b (segS d a b)=d:=by
 unfold putS segS;have h:=z3j (b-a) (d.drop a);rw[List.drop_drop,show a+(b-a)=b by omega]at h;rw[z27,h,z3j]
theorem zw7 {d s:List α} {a b:Nat} (h1:a<=b) (h2:b<=d.length) (hs:s.length=b-a):(putS d a b s).length=d.length:=by
 unfold putS;rw[z2h,z2h,z2r,z2n];omega
theorem put_lo {d s:List α} {a b i n:Nat} (hi:i+n<=a) (ha:a<=d.length):((putS d a b s).drop i).take n=(d.drop i).take n:=by
 unfold putS;rw[z27,List.drop_append_of_le_length (by rw[z2r];omega),List.take_append_of_le_length (by rw[z2n,z2r];omega),List.drop_take,List.take_take];congr 1;omega
theorem zw6 {d s:List α} {a b:Nat} (ha:a<=d.length) (hs:s.length=b-a):((putS d a b s).drop a).take (b-a)=s:=by
 unfold putS;rw[z27,List.drop_left' (by rw[z2r];omega),List.take_left' hs]
theorem put_hi {d s:List α} {a b i:Nat} (h1:a<=b) (h2:b<=d.length) (hs:s.length=b-a) (hi:b<=i):(putS d a b s).drop i=d.drop i:=by
 unfold putS;rw[List.drop_append,z2o (by rw[z2h,z2r];omega),z3l,List.drop_drop,z2h,z2r];congr 1;omega
theorem zw9 {d s:List α} {a b:Nat} (h1:a<=b) (h:zax lt s (segS d a b)):zax lt (putS d a b s) d:=by
 have h2:zax lt (putS d a b s) (putS d a b (segS d a b)):=((zax.refl _).app h).app (zax.refl _);rwa[zmu d h1]at h2
def Runs (lt:α->α->Bool) (n:Nat) (d:List α):Prop:= ∀k,Up lt ((d.drop (k*n)).take n)
theorem Runs.whole {n:Nat} {d:List α} (h:Runs lt n d) (hn:d.length<=n):Up lt d:=by
 have:=h 0;rwa[Nat.zero_mul,List.drop_zero,z2p hn]at this
def zfp (lt:α->α->Bool) (n a:Nat) (d:List α):Prop:= ∀k,k*n+n<=a->Up lt ((d.drop (k*n)).take n)
theorem zfp.put {n a:Nat} {d s:List α} (h:zfp lt n (a*n) d) (ha:a*n<=d.length) (b:Nat):zfp lt n (a*n) (putS d (a*n) b s):=fun k hk=>by
 rw[put_lo hk ha];exact h k hk
theorem zfp.next {n a:Nat} {d s:List α} (h:zfp lt n (a*n) d) (ha:a*n+n<=d.length) (hs:s.length=n) (hu:Up lt s):zfp lt n ((a+1)*n) (putS d (a*n) (a*n+n) s):=fun k hk=>by
 rw[z52]at hk;by_cases hka:k*n+n<=a*n
 ·exact h.put (by omega) _ k hka
 ·have hkn:k*n=a*n:=by
   by_cases h0:n=0
   ·subst h0;simp
   ·have h1:k<=a:=by
     have:=Nat.le_of_mul_le_mul_right (show k*n<=a*n by omega) (by omega:0<n);exact this
    have h2: ¬k+1<=a:=fun h=>hka (by have:=z42 n h;rw[z52]at this;exact this);have:k=a:=by omega
    rw[this]
  rw[hkn];have:=zw6 (d:=d) (s:=s) (a:=a*n) (b:=a*n+n) (by omega) (by omega);rw[show a*n+n-a*n=n by omega]at this;rw[this];exact hu
theorem zfp.last {n a:Nat} {d s:List α} (_hn:0<n) (h:zfp lt n (a*n) d) (ha:a*n<=d.length) (hd:d.length<a*n+n) (hs:s.length=d.length-a*n) (hu:Up lt s):Runs lt n (putS d (a*n) d.length s):=fun k=>by
 by_cases hka:k*n+n<=a*n
 ·exact h.put ha _ k hka
 ·have h2:a<=k:=by
   refine Classical.byContradiction fun h=>hka ?_;have:=z42 n (show k+1<=a by omega);rwa[z52]at this
  have hlen:(putS d (a*n) d.length s).length=d.length:=zw7 ha (z2k _) hs;rcases Nat.lt_or_eq_of_le h2 with h3|h3
  ·have:=z42 n h3;rw[z52]at this;rw[z2o (by rw[hlen];omega)];simp[Up]
  ·subst h3;have:=zw6 (d:=d) (s:=s) (a:=a*n) (b:=d.length) ha hs;rw[z2p (by rw[z2n,hlen];omega)]at this;rw[z2p (by rw[z2n,hlen];omega),this];exact hu
structure Half (lt:α->α->Bool) (n a:Nat) (d:List α):Prop where
 done:zfp lt (2*n) (a*(2*n)) d
 left: ∀k,a*(2*n)<=k*n->Up lt ((d.drop (k*n)).take n)
theorem Half.start {n:Nat} {d:List α} (_hn:0<n) (h:Runs lt n d):Half lt n 0 d:=⟨fun k hk=>by rw[Nat.zero_mul]at hk;omega,fun k _=>h k⟩
theorem Half.parts {n a:Nat} {d:List α} (h:Half lt n a d):Up lt (segS d (a*(2*n)) (a*(2*n)+n))/\Up lt ((d.drop (a*(2*n)+n)).take n):=by
 have e1:a*(2*n)=2*a*n:=by rw[<-Nat.mul_assoc,Nat.mul_comm a 2]
 constructor
 ·have:=h.left (2*a) (by omega);unfold segS;rw[show a*(2*n)+n-a*(2*n)=n by omega,e1];exact this
 ·have e2:(2*a+1)*n=2*a*n+n:=by rw[Nat.add_mul,Nat.one_mul]
  have:=h.left (2*a+1) (by omega);rw[e2]at this;rw[e1];exact this
theorem Half.next {n a:Nat} {d s:List α} (h:Half lt n a d) (ha:a*(2*n)+2*n<=d.length) (hs:s.length=2*n) (hu:Up lt s):Half lt n (a+1) (putS d (a*(2*n)) (a*(2*n)+2*n) s):=
 ⟨h.done.next ha hs hu,fun k hk=>by
  rw[z52]at hk;rw[put_hi (by omega) ha (by omega) hk];exact h.left k (by omega)⟩
theorem Half.last {n a:Nat} {d s:List α} (hn:0<n) (h:Half lt n a d) (ha:a*(2*n)<=d.length) (hd:d.length<a*(2*n)+2*n) (hs:s.length=d.length-a*(2*n)) (hu:Up lt s):Runs lt (2*n) (putS d (a*(2*n)) d.length s):=
 h.done.last (by omega) ha hd hs hu
theorem Half.stay {n a:Nat} {d:List α} (hn:0<n) (h:Half lt n a d) (ha:a*(2*n)<=d.length) (hd:d.length<=a*(2*n)+n):Runs lt (2*n) d:=by
 have h1:=h.parts.1;have e:segS d (a*(2*n)) (a*(2*n)+n)=segS d (a*(2*n)) d.length:=by
  unfold segS;rw[z2p (by rw[z2n];omega),z2p (by rw[z2n];omega)]
 rw[e]at h1;have:=h.last hn ha (by omega) (zju d ha (z2k _)) h1;rwa[zmu d ha]at this
theorem put_in {A1 A2:List α} {y:α} (H:Swo lt) (hA:Up lt (A1++A2)) (h1: ∀x,A1.getLast? =some x->lt y x=false) (h2: ∀x∈A2,lt y x=true):Up lt (A1++y::A2)/\zax lt (A1++y::A2) ((A1++A2)++[y]):=by
 refine zsf H hA (fun x hx=> ?_) h2;obtain⟨hA1,_,_⟩:=z3f.1 hA;cases hl:A1.getLast? with
 |none=>rw[List.getLast?_eq_none_iff]at hl;subst hl;cases hx
 |some z=>
  have h3:=h1 z hl;obtain⟨i,hi⟩:=z36.1 hx;rw[List.getLast?_eq_getElem?]at hl;obtain⟨hil,_⟩:=z24.1 hi;exact H.le_trans x z y (Up.get H hA1 (show i<=A1.length-1 by omega) hi hl) h3
end
section
variable {α:Type} {lt:α->α->Bool}
theorem zkj (a b:α):ev lt a b=ev lt b a:=by unfold ev;rw[Bool.and_comm]
theorem Swo.ev_join (H:Swo lt) {a x y:α} (hx:ev lt a x=true) (hy:ev lt a y=true):ev lt x y=true:=by
 have h1:=H.ev_no hx hy;have h2:=H.ev_no hy hx;simp[ev,h1,h2]
theorem zax.len (H:Swo lt): ∀(n:Nat) (l m:List α),l.length<=n->zax lt l m->l.length=m.length:=by
 intro n;induction n with
 |zero=>
  intro l m hl h;have h0:l=[]:=z2u (by omega);subst h0;cases m with
  |nil=>rfl
  |cons y m=>have:=h.symm.mem H (z3i ..);cases this
 |succ n ih=>
  intro l m hl h;cases l with
  |nil=>
   cases m with
   |nil=>rfl
   |cons y m=>have:=h.symm.mem H (z3i ..);cases this
  |cons x l=>
   have hlen: ∀k:List α,k.length=(k.filter (ev lt x)).length+(k.filter (fun z=> !ev lt x z)).length:=fun k=>by
    induction k with
    |nil=>rfl
    |cons z k ihk=>cases hz:ev lt x z<;>simp[hz,ihk]<;>omega
   have hc:zax lt ((x::l).filter (fun z=> !ev lt x z)) (m.filter (fun z=> !ev lt x z)):=fun a=>by
    rw[List.filter_filter,List.filter_filter];cases hxa:ev lt a x
    ·have e: ∀z,(ev lt a z&& !ev lt x z)=ev lt a z:=fun z=>by
      cases h1:ev lt a z
      ·rfl
      ·cases h2:ev lt x z
       ·rfl
       ·rw[zkj]at h1 h2;have:=H.ev_join h1 h2;rw[this]at hxa;cases hxa
     simp only[e];exact h a
    ·have e: ∀z,(ev lt a z&& !ev lt x z)=false:=fun z=>by
      cases h1:ev lt a z
      ·rfl
      ·rw[H.ev_join hxa h1];rfl
     simp only[e];rw[z5r.2 (fun _ _=>by simp),z5r.2 (fun _ _=>by simp)]
   have h1:=congrArg List.length (h x);have h2:=ih _ _ (by
    have:=hlen (x::l);rw[z2t (H.ev_refl x)]at this;simp only[z2i]at this hl;omega) hc
   rw[hlen (x::l),hlen m,h1,h2]
end
section
variable {α:Type} (eq:α->α->Bool)
def zf1:α->List α->List α
 |_,[]=>[]
 |p,y::r=>if eq y p=true then zf1 y r else y::zf1 y r
def zbw:List α->List α
 |[]=>[]
 |x::r=>x::zf1 eq x r
variable {eq}
theorem zhn {d:List α} {i:Nat} {x y:α} (hy:d[i]? =some y):zf1 eq x (d.drop i)=if eq y x=true then zf1 eq y (d.drop (i+1))else y::zf1 eq y (d.drop (i+1)):=by
 obtain⟨hi,rfl⟩:=z24.1 hy;rw[List.drop_eq_getElem_cons hi];rfl
theorem zsl {d:List α} {i:Nat} {x:α} (h:d.length<=i):zf1 eq x (d.drop i)=[]:=by
 rw[z2o h];rfl
theorem zh8 {lt:α->α->Bool} (H:Swo lt) (he: ∀x y,eq y x=false->lt y x=false->lt x y=true):
  ∀{p:α} {l:List α},Up lt (p::l)->(zf1 eq p l).Pairwise (fun a b=>lt a b=true)/\ ∀x∈zf1 eq p l,lt p x=true:=by
 intro p l;induction l generalizing p with
 |nil=>intro _;exact⟨z4o.nil,fun x hx=>by cases hx⟩
 |cons y r ih=>
  intro h;obtain⟨h1,h2⟩:=z3c.1 h;obtain⟨k1,k2⟩:=ih h2;have hpy:=h1 y z3i;have up: ∀x∈zf1 eq y r,lt p x=true:=fun x hx=>by
   cases hl:lt p x
   ·exact absurd (k2 x hx) (by rw[H.le_trans x p y hl hpy];simp)
   ·rfl
  unfold zf1;split
  ·exact⟨k1,up⟩
  ·next hn=>
   have hn2:lt p y=true:=he p y (by simpa using hn) hpy;exact⟨z3c.2 ⟨k2,k1⟩,fun x hx=>by
    rcases z3n.1 hx with rfl|hx
    ·exact hn2
    ·exact up x hx⟩
theorem znc {lt:α->α->Bool} (H:Swo lt) (he: ∀x y,eq y x=false->lt y x=false->lt x y=true):
  ∀{l:List α},Up lt l->(zbw eq l).Pairwise (fun a b=>lt a b=true)
 |[],_=>z4o.nil
 |_::_,h=>by
  obtain⟨k1,k2⟩:=zh8 H he h;exact z3c.2 ⟨k2,k1⟩
end
section
variable {α:Type} {lt:α->α->Bool}
def insO (lt:α->α->Bool) (x:α):List α->List α
 |[]=>[x]
 |y::r=>if lt y x=true then y::insO lt x r else if ev lt y x=true then y::r else x::y::r
def zap (lt:α->α->Bool) (l:List α):List α:=l.foldl (fun o x=>insO lt x o) []
def Rise (lt:α->α->Bool) (l:List α):Prop:=l.Pairwise fun a b=>lt a b=true
theorem Rise.up (H:Swo lt) {l:List α} (h:Rise lt l):Up lt l:=z4o.imp (fun hab=>H.asymm _ _ hab) h
theorem zez {a y z:α} (H:Swo lt) (hy:ev lt a y=true) (h:lt y z=true):ev lt a z=false:=by
 cases hz:ev lt a z
 ·rfl
 ·have:=H.ev_no hy hz;rw[this]at h;cases h
theorem zdl {p:α->Bool} {l:List α} (h: ∀z∈l,p z=false):l.filter p=[]:=by
 rw[z5r];intro z hz;rw[h z hz];simp
theorem zhb (H:Swo lt) (a:α): ∀{l:List α},Rise lt l->(l.filter (ev lt a)).length<=1
 |[],_=>by simp
 |y::r,h=>by
  obtain⟨h1,h2⟩:=z3c.1 h;cases hy:ev lt a y
  ·rw[z2v (by simp[hy])];exact zhb H a h2
  ·rw[z2t hy,zdl (fun z hz=>zez H hy (h1 z hz))];simp
theorem zrd {x z:α}: ∀{o:List α},z∈insO lt x o->z=x\/z∈o
 |[],h=>by rw[insO,z23]at h;exact .inl h
 |y::r,h=>by
  unfold insO at h;split at h
  ·rcases z3n.1 h with rfl|h
   ·exact .inr z3i
   ·rcases zrd h with h|h
    ·exact .inl h
    ·exact .inr (List.mem_cons_of_mem _ h)
  ·split at h
   ·exact .inr h
   ·rcases z3n.1 h with rfl|h
    ·exact .inl rfl
    ·exact .inr h
theorem zsm (H:Swo lt) (x:α): ∀{o:List α},Rise lt o->Rise lt (insO lt x o)
 |[],_=>List.pairwise_singleton _ _
 |y::r,h=>by
  obtain⟨h1,h2⟩:=z3c.1 h;unfold insO;split
  ·next hyx=>
   refine z3c.2 ⟨fun z hz=> ?_,zsm H x h2⟩;rcases zrd hz with rfl|hz
   ·exact hyx
   ·exact h1 z hz
  ·next hyx=>
   split
   ·exact h
   ·next he=>
    have hxy:lt x y=true:=by
     simp only[ev,z2z,z4r]at he;cases hl:lt x y
     ·exact absurd ⟨by simpa using hyx,hl⟩ he
     ·rfl
    refine z3c.2 ⟨fun z hz=> ?_,h⟩;rcases z3n.1 hz with rfl|hz
    ·exact hxy
    ·exact H.lt_le hxy (H.asymm _ _ (h1 z hz))
theorem zl6 (H:Swo lt) (a x:α): ∀{o:List α},Rise lt o->(insO lt x o).filter (ev lt a)=(o.filter (ev lt a)++[x].filter (ev lt a)).take 1
 |[],_=>by
  rw[insO,z3y,z3l];cases hx:ev lt a x<;>simp[hx]
 |y::r,h=>by
  obtain⟨h1,h2⟩:=z3c.1 h;have hl:=zhb H a h;unfold insO;split
  ·next hyx=>
   cases hy:ev lt a y
   ·rw[z2v (by simp[hy]),z2v (by simp[hy])];exact zl6 H a x h2
   ·rw[z2t hy,z2t hy,zdl (l:=insO lt x r) (fun z hz=> ?_)]
    ·simp
    ·rcases zrd hz with rfl|hz
     ·exact zez H hy hyx
     ·exact zez H hy (h1 z hz)
  ·next hyx=>
   split
   ·next he=>
    cases hy:ev lt a y
    ·have hx:ev lt a x=false:=by
      cases hx:ev lt a x
      ·rfl
      ·have h8:ev lt y a=true:=H.ev_join (a:=x) (by rw[zkj];exact he) (by rw[zkj];exact hx);rw[zkj,hy]at h8;cases h8
     rw[z2v (l:=[]) (by simp[hx]),z3y,z3r,z2p hl]
    ·rw[z2t hy,zdl (fun z hz=>zez H hy (h1 z hz))];simp
   ·next he=>
    have hxy:lt x y=true:=by
     simp only[ev,z2z,z4r]at he;cases hl:lt x y
     ·exact absurd ⟨by simpa using hyx,hl⟩ he
     ·rfl
    cases hx:ev lt a x
    ·rw[z2v (a:=x) (l:=y::r) (by simp[hx]),z2v (a:=x) (l:=[]) (by simp[hx]),z3y,z3r,z2p hl]
    ·have hn:(y::r).filter (ev lt a)=[]:=zdl fun z hz=>by
      rcases z3n.1 hz with rfl|hz
      ·exact zez H hx hxy
      ·exact zez H hx (H.lt_le hxy (H.asymm _ _ (h1 z hz)))
     rw[z2t (a:=x) (l:=y::r) hx,hn,z2t (a:=x) (l:=[]) hx,z3y];simp
theorem zj7 (H:Swo lt) (a:α): ∀(l o:List α),Rise lt o->Rise lt (l.foldl (fun o x=>insO lt x o) o)/\(l.foldl (fun o x=>insO lt x o) o).filter (ev lt a)=(o.filter (ev lt a)++l.filter (ev lt a)).take 1
 |[],o,h=>⟨h,by rw[z3y,z3r,List.foldl_nil,z2p (zhb H a h)]⟩
 |x::l,o,h=>by
  obtain⟨h1,h2⟩:=zj7 H a l (insO lt x o) (zsm H x h);refine⟨h1, ?_⟩;rw[List.foldl_cons,h2,zl6 H a x h];have hl:=zhb H a h;cases ho:o.filter (ev lt a)with
  |cons u v=>simp
  |nil=>
   rw[z3l,z3l];cases hx:ev lt a x
   ·rw[z2v (a:=x) (l:=[]) (by simp[hx]),z2v (a:=x) (l:=l) (by simp[hx]),z3y,List.take_nil,z3l]
   ·rw[z2t (a:=x) (l:=[]) hx,z2t (a:=x) (l:=l) hx,z3y];simp
theorem zj6 (H:Swo lt) (l:List α):Rise lt (zap lt l):=by
 cases l with
 |nil=>exact z4o.nil
 |cons a l=>exact(zj7 H a (a::l) [] z4o.nil).1
theorem zgx (H:Swo lt) (l:List α) (a:α):(zap lt l).filter (ev lt a)=(l.filter (ev lt a)).take 1:=by
 have:=(zj7 H a l [] z4o.nil).2;rwa[z3y,z3l]at this
theorem zrc (_H:Swo lt): ∀x y,ev lt y x=false->lt y x=false->lt x y=true:=fun x y h1 h2=>by
 simp only[ev,z4v,Bool.not_eq_false']at h1;rcases h1 with h1|h1
 ·rw[h1]at h2;cases h2
 ·exact h1
theorem zfj (H:Swo lt) (a:α): ∀(l:List α) (p:α),Up lt (p::l)->(zf1 (ev lt) p l).filter (ev lt a)=if ev lt a p=true then []else(l.filter (ev lt a)).take 1
 |[],p,_=>by
  unfold zf1;cases hp:ev lt a p<;>simp
 |y::r,p,h=>by
  obtain⟨h1,h2⟩:=z3c.1 h;have hk:=(zh8 H (zrc H) h).2;split
  ·next hp=>exact zdl fun z hz=>zez H hp (hk z hz)
  ·next hp=>
   unfold zf1;split
   ·next he=>
    have hy: ¬ev lt a y=true:=fun hy=>by
     have h8:ev lt a p=true:=by
      have h7:ev lt y p=true:=he;have h6:ev lt y a=true:=by rw[zkj];exact hy
      exact H.ev_join h6 h7
     exact hp h8
    rw[zfj H a r y h2,if_neg hy,z2v hy]
   ·next he=>
    have hky:=(zh8 H (zrc H) h2).2;cases hy:ev lt a y
    ·rw[z2v (by simp[hy]),z2v (by simp[hy]),zfj H a r y h2,if_neg (by simp[hy])]
    ·rw[z2t hy,z2t hy,zdl (fun z hz=>zez H hy (hky z hz))];simp
theorem zk4 (H:Swo lt) (a:α) {l:List α} (h:Up lt l):(zbw (ev lt) l).filter (ev lt a)=(l.filter (ev lt a)).take 1:=by
 cases l with
 |nil=>rfl
 |cons x r=>
  unfold zbw;cases hx:ev lt a x
  ·rw[z2v (by simp[hx]),z2v (by simp[hx]),zfj H a r x h,if_neg (by simp[hx])]
  ·rw[z2t hx,z2t hx,zfj H a r x h,if_pos hx];simp
theorem zqu (H:Swo lt) {s d:List α} (hu:Up lt s) (ha:zax lt s d):zbw (ev lt) s=zap lt d:=by
 refine zax.up_eq H ?_ ((zj6 H d).up H) ?_
 ·exact z4o.imp (fun hab=>H.asymm _ _ hab) (znc H (zrc H) hu)
 ·intro a;rw[zk4 H a hu,zgx H d a,ha a]
theorem zoz (H:Swo lt) {l:List α} (h:Rise lt l):zap lt l=l:=by
 refine zax.up_eq H ((zj6 H l).up H) (h.up H) fun a=> ?_;rw[zgx H l a,z2p (zhb H a h)]
theorem zh4 (H:Swo lt) (l:List α):zap lt (zap lt l)=zap lt l:=zoz H (zj6 H l)
theorem zfg (H:Swo lt) {l:List α} {x:α} (h:x∈zap lt l):x∈l:=by
 have h1:x∈(zap lt l).filter (ev lt x):=z44.2 ⟨h,H.ev_refl x⟩;rw[zgx H l x]at h1;exact(z44.1 (List.mem_of_mem_take h1)).1
end
def ltB:Bs->Bs->Bool
 |_,[]=>false
 |[],_::_=>true
 |a::aa,b::bs=>if a.toNat<b.toNat then true else if b.toNat<a.toNat then false else ltB aa bs
theorem zcy: ∀a,ltB a a=false
 |[]=>rfl
 |a::aa=>by simp[ltB,zcy aa]
theorem zhk: ∀a b,ltB a b=true->ltB b a=false
 |[],[],h=>by simp[ltB]at h
 |_::_,[],h=>by simp[ltB]at h
 |[],_::_,_=>rfl
 |a::aa,b::bs,h=>by
  simp only[ltB]at h ⊢;split at h
  ·rename_i h1;rw[if_neg (by omega),if_pos h1]
  ·split at h
   ·cases h
   ·rename_i h1 h2;rw[if_neg h2,if_neg h1];exact zhk aa bs h
theorem zj9: ∀a b,ltB a b=false->ltB b a=false->a=b
 |[],[],_,_=>rfl
 |_::_,[],_,h=>by simp[ltB]at h
 |[],_::_,h,_=>by simp[ltB]at h
 |a::aa,b::bs,h,h'=>by
  simp only[ltB]at h h';split at h
  ·cases h
  ·rename_i h1;rw[if_neg h1]at h';split at h'
   ·cases h'
   ·rename_i h2;rw[if_neg h2]at h;have:a=b:=by
     apply UInt8.toNat_inj.1;omega
    rw[this,zj9 aa bs h h']
theorem zex: ∀a b c,ltB b a=false->ltB c b=false->ltB c a=false
 |[],b,c,h1,h2=>by
  cases b with
  |nil=>exact h2
  |cons x b=>
   cases c with
   |nil=>simp[ltB]at h2
   |cons y c=>rfl
 |a::aa,[],c,h1,h2=>by simp[ltB]at h1
 |a::aa,b::bs,[],h1,h2=>by simp[ltB]at h2
 |a::aa,b::bs,c::cs,h1,h2=>by
  simp only[ltB]at h1 h2 ⊢;split at h1
  ·cases h1
  ·split at h2
   ·cases h2
   ·rename_i q1 q2;rw[if_neg (by omega)];split
    ·rfl
    ·rename_i q3;rw[if_neg (by omega)]at h1 h2;exact zex aa bs cs h1 h2
theorem swoB:Swo ltB:=⟨zcy,zhk,zex⟩
def cmpB (a b:Bs):Int:=if ltB a b then-1 else if a=b then 0 else 1
theorem zib (a b:Bs):decide (cmpB a b<0)=ltB a b:=by
 unfold cmpB;cases ltB a b
 ·by_cases h:a=b<;>simp[h]
 ·simp
theorem znd (a b:Bs):decide (cmpB a b=0)=decide (a=b):=by
 unfold cmpB;cases h:ltB a b
 ·by_cases h:a=b<;>simp[h]
 ·have:a≠b:=fun e=>by rw[e,zcy]at h;cases h
  simp[this]
theorem ev_B (a b:Bs):ev ltB a b=decide (a=b):=by
 rw[Bool.eq_iff_iff];simp only[ev,z2z,z4r,decide_eq_true_eq];constructor
 ·rintro⟨h1,h2⟩;exact zj9 a b h1 h2
 ·rintro rfl;exact⟨zcy a,zcy a⟩
def ltP (p q:Bs × Bs):Bool:=ltB p.1 q.1||(decide (p.1=q.1)&&ltB p.2 q.2)
def cmpP (p q:Bs × Bs):Int:=if cmpB p.1 q.1≠0 then cmpB p.1 q.1 else cmpB p.2 q.2
theorem zyi (p q:Bs × Bs):decide (cmpP p q<0)=ltP p q:=by
 have h1:=zib p.1 q.1;have h2:=znd p.1 q.1;have h3:=zib p.2 q.2;unfold cmpP ltP;by_cases h:cmpB p.1 q.1=0
 ·rw[if_neg (by simpa using h),h3];rw[h]at h1 h2;rw[<-h1,<-h2];simp
 ·rw[if_pos h,h1];rw[<-h2,decide_eq_false h];simp
theorem zyj (p q:Bs × Bs):decide (cmpP p q=0)=decide (p=q):=by
 have h2:=znd p.1 q.1;have h4:=znd p.2 q.2;unfold cmpP;by_cases h:cmpB p.1 q.1=0
 ·rw[if_neg (by simpa using h),h4];rw[decide_eq_true h]at h2;have h5:p.1=q.1:=of_decide_eq_true h2.symm;rw[decide_eq_decide];exact⟨fun h6=>Prod.ext h5 h6,fun h6=>by rw[h6]⟩
 ·rw[if_pos h,h2,decide_eq_decide];constructor
  ·intro h6;exact absurd (of_decide_eq_true (h2.trans (decide_eq_true h6))) h
  ·intro h6;exact absurd (of_decide_eq_true (h2.trans (decide_eq_true (by rw[h6])))) h
theorem swoP:Swo ltP where
 irrefl p:=by simp[ltP,zcy]
 asymm p q h:=by
  unfold ltP at h ⊢;simp only[Bool.or_eq_true,z2z,decide_eq_true_eq,z30,z4v,decide_eq_false_iff_not]at h ⊢;rcases h with h|⟨h1,h2⟩
  ·exact⟨zhk _ _ h,.inl fun e=>by rw[e,zcy]at h;cases h⟩
  ·exact⟨by rw[h1,zcy],.inr (zhk _ _ h2)⟩
 le_trans p q r h1 h2:=by
  unfold ltP at*;simp only[z30,z4v,decide_eq_false_iff_not]at*;obtain⟨a1,a2⟩:=h1;obtain⟨b1,b2⟩:=h2;refine⟨zex _ _ _ a1 b1, ?_⟩;by_cases e:r.1=p.1
  ·right;have e1:q.1=p.1:=zj9 _ _ a1 (by rw[<-e];exact b1);have e2:r.1=q.1:=by rw[e,e1]
   rcases a2 with a2|a2
   ·exact absurd e1 a2
   ·rcases b2 with b2|b2
    ·exact absurd e2 b2
    ·exact zex _ _ _ a2 b2
  ·exact .inl e
theorem Swo.comap {α β:Type} {lt:β->β->Bool} (H:Swo lt) (f:α->β):Swo fun a b=>lt (f a) (f b):=⟨fun _=>H.irrefl _,fun _ _=>H.asymm _ _,fun _ _ _=>H.le_trans _ _ _⟩
theorem zgh: ∀a b:Bs,Op.bytesLess a b=ltB a b:=by
 intro a;induction a with
 |nil=>intro b;cases b<;>simp[Op.bytesLess,ltB]
 |cons x a ih=>
  intro b;cases b with
  |nil=>simp[Op.bytesLess,ltB]
  |cons y b=>
   have e:Op.bytesLess (x::a) (y::b)=(decide (x<y)||(x==y&&Op.bytesLess a b)):=rfl;rw[e,ih b];simp only[ltB];have l1:(x<y)↔x.toNat<y.toNat:=UInt8.lt_iff_toNat_lt;by_cases h1:x.toNat<y.toNat
   ·rw[if_pos h1,decide_eq_true (l1.2 h1)];rfl
   ·rw[if_neg h1,decide_eq_false (fun h=>h1 (l1.1 h))];by_cases h2:y.toNat<x.toNat
    ·have:(x==y)=false:=by rw[beq_eq_false_iff_ne];intro h3;rw[h3]at h2;omega
     rw[if_pos h2,this];rfl
    ·have:(x==y)=true:=by rw[beq_iff_eq];apply UInt8.toNat_inj.1;omega
     rw[if_neg h2,this];rfl
open Go.RowKit
structure Alw where
 tag:Bs
 name:Bs
deriving DecidableEq
structure Frc where
 tag:Bs
 name:Bs
 value:Bs
deriving DecidableEq
def Alw.cells (x:Alw):List Value:=[sv x.tag,sv x.name]
def Frc.cells (x:Frc):List Value:=[sv x.tag,sv x.name,sv x.value]
def Alw.key (x:Alw):Bs × Bs:=(x.tag,x.name)
def Frc.key (x:Frc):Bs × Bs:=(x.tag,x.name)
def Alw.agg (x:Alw):Value:= .agg #[sv x.tag,sv x.name]
def Frc.agg (x:Frc):Value:= .agg #[sv x.tag,sv x.name,sv x.value]
def ltA (x y:Alw):Bool:=ltP x.key y.key
def ltF (x y:Frc):Bool:=ltP x.key y.key
theorem swoA:Swo ltA:=swoP.comap Alw.key
theorem swoF:Swo ltF:=swoP.comap Frc.key
theorem zc4 {α:Type} (L R:List α) (x y:α) {i:Nat} (hi:i=L.length):(L++x::R).set i y=L++y::R:=by
 subst hi;rw[List.set_append_right _ _ (z2k _),Nat.sub_self];rfl
theorem za8 {α:Type} (L R:List α) (x:α) {i:Nat} (hi:i=L.length):(L++x::R)[i]? =some x:=by
 subst hi;rw[List.getElem?_append_right (z2k _),Nat.sub_self];rfl
theorem zr5 {α:Type} {d:List α} {i:Nat} (hi:i<d.length): ∃L x R,d=L++x::R/\L.length=i:=⟨d.take i,d[i],d.drop (i+1),by rw[List.getElem_cons_drop,z3j],by rw[z2r];omega⟩
theorem zyb {α:Type} (cells:α->List Value) (hn: ∀x,(cells x).length=2) (d:List α) (i:Nat) (hi:i<d.length) (x:α) {a b:Value} (hx:cells x=[a,b]):((d.flatMap cells).set (i*2) a).set (i*2+1) b=(d.set i x).flatMap cells:=by
 obtain⟨L,y,R,rfl,rfl⟩:=zr5 hi;have hL:=zsp cells 2 hn L;rw[zc4 _ _ _ _ rfl,z45,z45,z3z,z3z,hx];have hy:=hn y;match hc:cells y,hy with
 |[p,q],_=>
  rw[<-hL];rw[show [p,q]++R.flatMap cells=p::q::R.flatMap cells from rfl,zc4 _ _ _ _ rfl];rw[show L.flatMap cells++a::q::R.flatMap cells=(L.flatMap cells++[a])++q::R.flatMap cells by simp,zc4 _ _ _ _ (by simp)];simp
theorem zya {α:Type} (cells:α->List Value) (hn: ∀x,(cells x).length=3) (d:List α) (i:Nat) (hi:i<d.length) (x:α) {a b c:Value} (hx:cells x=[a,b,c]):(((d.flatMap cells).set (i*3) a).set (i*3+1) b).set (i*3+2) c=(d.set i x).flatMap cells:=by
 obtain⟨L,y,R,rfl,rfl⟩:=zr5 hi;have hL:=zsp cells 3 hn L;rw[zc4 _ _ _ _ rfl,z45,z45,z3z,z3z,hx];have hy:=hn y;match hc:cells y,hy with
 |[p,q,r],_=>
  rw[<-hL];rw[show [p,q,r]++R.flatMap cells=p::q::r::R.flatMap cells from rfl,zc4 _ _ _ _ rfl];rw[show L.flatMap cells++a::q::r::R.flatMap cells=(L.flatMap cells++[a])++q::r::R.flatMap cells by simp,zc4 _ _ _ _ (by simp)];rw[show L.flatMap cells++[a]++b::r::R.flatMap cells=(L.flatMap cells++[a,b])++r::R.flatMap cells by simp,zc4 _ _ _ _ (by simp)];simp
theorem zh1 {W W':World} {B g cap size n:Nat} {e:TypeId} {xs:List Value} {pv:Nat->Prop} (h:W.ownsRow B e size (.slice (some ⟨g,0,none⟩) n cap) n xs) (ht:zab pv W W') (hp: ¬pv g):W'.ownsRow B e size (.slice (some ⟨g,0,none⟩) n cap) n xs:=by
 refine⟨h.1, ?_⟩;rcases h.2 with⟨h1,_⟩|⟨g',cap',cur,h1,h2,h3,h4⟩
 ·cases h1
 ·cases h1;exact .inr ⟨g,cap,cur,rfl,h2,(ht.block g (Array.getElem?_eq_some_iff.1 h3).1 hp).trans h3,h4⟩
theorem zlv {W:World} {B g cap size n:Nat} {e:TypeId} {xs:List Value} (h:W.ownsRow B e size (.slice (some ⟨g,0,none⟩) n cap) n xs):g<W.heap.size:=(h.lt g rfl).2
open Go.RowKit
theorem zt9 (x:ByteArray) (W:World):Calls z2f 195 #[.string x] W (Ret (.bool false) W):=by
 go_enter Tryz.func195,Tryz.ntmps195;go_wp2_with fail
 go_ret;exact Ret.of rfl bel
theorem zd8 (x y:Bs) (W:World):Calls z2f 118 #[sv x,sv y] W (Ret (.int .i64 (cmpB x y)) W):=by
 have HN:=Lib.hid (fun x W=>zt9 x W);have h1:Op.bytesLess (⟨x.toArray⟩:ByteArray).toList (⟨y.toArray⟩:ByteArray).toList=ltB x y:=by rw[ByteArray.toList_eq,ByteArray.toList_eq];exact zgh x y
 have h2:((⟨x.toArray⟩:ByteArray).toList==(⟨y.toArray⟩:ByteArray).toList)=decide (x=y):=by rw[zhs]
 have HD:Hid (cmpB x y=if ltB x y then-1 else if x=y then 0 else 1):=rfl;simp only[sv];generalize(⟨x.toArray⟩:ByteArray)=X1 at*;generalize(⟨y.toArray⟩:ByteArray)=Y1 at*;cases hl:ltB x y
 ·rw[hl]at h1 HD;by_cases he:x=y
  ·rw[decide_eq_true he]at h2;have HD2:Hid (cmpB x y=0):=by show _=_;rw[HD.out,if_pos he];rfl
   rw[HD2.out];clear hl he HD HD2;go_enter Tryz.func118,Tryz.ntmps118;go_wp2_with(go_at_call 195;(with_reducible refine(HN.out _ _).mono ?_);rintro e w' ⟨rfl,X,rfl⟩)
   go_ret;exact Ret.of rfl bel
  ·rw[decide_eq_false he]at h2;have HD2:Hid (cmpB x y=1):=by show _=_;rw[HD.out,if_neg he];rfl
   rw[HD2.out];clear hl he HD HD2;go_enter Tryz.func118,Tryz.ntmps118;go_wp2_with(go_at_call 195;(with_reducible refine(HN.out _ _).mono ?_);rintro e w' ⟨rfl,X,rfl⟩)
   go_ret;exact Ret.of rfl bel
 ·rw[hl]at h1 HD;have HD2:Hid (cmpB x y= -1):=HD.out;rw[HD2.out];clear hl HD HD2 h2;go_enter Tryz.func118,Tryz.ntmps118;go_wp2_with(go_at_call 195;(with_reducible refine(HN.out _ _).mono ?_);rintro e w' ⟨rfl,X,rfl⟩)
  go_ret;exact Ret.of rfl bel
def orF:List Int->Int
 |[]=>0
 |a::l=>if a≠0 then a else orF l
def iv (n:Int):Value:= .int .i64 n
theorem zxj (v:Value) (zs:List Int) (W:World) (h:Rd W v zs.length 1 (zs.map iv)):Calls z2f 200 #[v] W fun e w'=>e= .returned (.int .i64 (orF zs))/\W=w':=by
 have HR:=Lib.hid h;obtain⟨_,hm,A,c,rfl,_⟩:=h;go_enter Tryz.func200,Tryz.ntmps200;go_wp2_with fail
 go_loop [8] (fun i=> ∃k:Nat,k<=zs.length/\i= .int .i64 k/\Hid (orF zs=orF (zs.drop k))) (fun i=>zs.length-(intOf i).toNat)
 case atStart=>exact⟨0,by omega,rfl,rfl⟩
 case round=>
  obtain⟨k,hk,rfl,HK⟩:=hrel;by_cases hlt:k<zs.length
  ·obtain⟨b,off,rfl,hb,hc⟩: ∃b off,A=some ⟨b,off,none⟩/\b<W.heap.size/\W.cell? ⟨b,off+k,none⟩=some (.int .i64 zs[k]):=by
    obtain⟨_,_,_,_,he,h4⟩:=HR.out;cases he;obtain⟨b,off,rfl,hb,hc⟩:=h4 (by omega);exact⟨b,off,rfl,hb,hc k (iv zs[k]) (by simp[hlt])⟩
   have HS:Hid (orF zs=if zs[k]≠0 then zs[k]else orF (zs.drop (k+1))):=by show _=_;rw[HK.out,List.drop_eq_getElem_cons hlt];rfl
   generalize zs[k]=z at*;by_cases hz:z=0
   ·have b0:(z !=0)=false:=by simp[hz]
    have HS2:Hid (orF zs=orF (zs.drop (k+1))):=by show _=_;rw[HS.out,if_neg (by simpa using hz)]
    clear hz;go_wp2_with fail
    go_round
    case rel=>exact⟨k+1,by omega,by go_num,HS2⟩
    case measure=>simp[intOf];omega
   ·have b0:(z !=0)=true:=by simpa using hz
    have HS2:Hid (orF zs=z):=by show _=_;rw[HS.out,if_pos hz]
    clear hz;go_wp2_with fail
    go_ret;exact⟨by rw[HS2.out];rfl,rfl⟩
  ·have HS2:Hid (orF zs=0):=by show _=_;rw[HK.out,z2o (by omega)];rfl
   go_wp2_with fail
   go_ret;exact⟨by rw[HS2.out];rfl,rfl⟩
theorem z00 (a b:Int):orF [a,b]=if a≠0 then a else b:=by
 simp only[orF];split
 ·rfl
 ·split
  ·rfl
  ·rename_i h;simp at h;rw[h]
theorem zxv {W:World} {c:Array Value} {e:TypeId} {n B:Nat} {zs:List Int} (hB:B=W.heap.size) (he:c=(zs.map iv).toArray) (hn:n=zs.length) (h9:zs.length<=1000):Rd (W.alloc (.cells c e)) (.slice (some ⟨B,0,none⟩) n n) zs.length 1 (zs.map iv):=by
 subst hB he hn;have:=Rd.own (za5 (W:=W) (e:=e) (c:=(zs.map iv).toArray) (n:=zs.length) (size:=1) (by simp) (by unfold maxLen;omega));simpa using this
theorem zeu (x y:Alw) (W:World):Calls z2f 120 #[x.agg,y.agg] W (Ret (.int .i64 (cmpP x.key y.key)) W):=by
 have hmx:=mxd;have HC1:=Lib.hid (fun W=>zd8 x.tag y.tag W);have HC2:=Lib.hid (fun W=>zd8 x.name y.name W);have HD:Hid (cmpP x.key y.key=orF [cmpB x.tag y.tag,cmpB x.name y.name]):=by show _=_;rw[z00];rfl
 rw[HD.out];simp only[Alw.agg,sv]at*;generalize cmpB x.tag y.tag=r1 at*;generalize cmpB x.name y.name=r2 at*;generalize(⟨x.tag.toArray⟩:ByteArray)=x1 at*;generalize(⟨x.name.toArray⟩:ByteArray)=x2 at*;generalize(⟨y.tag.toArray⟩:ByteArray)=y1 at*;generalize(⟨y.name.toArray⟩:ByteArray)=y2 at*;clear HD;go_enter Tryz.func120,Tryz.ntmps120;go_wp2_with fail
 refine zef 10 (by kernel_rfl) (by kernel_rfl) ?_;dsimp only[List.take,List.drop];repeat(go_big_quiet_step(first|(go_at_call 118;with_reducible exact Calls.grow_of (HC1.out _))|(go_at_call 118;with_reducible exact Calls.grow_of (HC2.out _))))
 refine wpQuiet_nil ?_;intro _ hw';obtain⟨nq,hw''⟩:=hw';subst hw'';go_wp2_with(go_at_call 200;(refine(zxj _ [r1,r2] _ (zxv (by simp[go_sem]) rfl rfl (by simp))).mono ?_);rintro e w' ⟨rfl,rfl⟩)
 go_ret;exact Ret.of rfl bel
theorem ze9 (x y:Frc) (W:World):Calls z2f 122 #[x.agg,y.agg] W (Ret (.int .i64 (cmpP x.key y.key)) W):=by
 have hmx:=mxd;have HC1:=Lib.hid (fun W=>zd8 x.tag y.tag W);have HC2:=Lib.hid (fun W=>zd8 x.name y.name W);have HD:Hid (cmpP x.key y.key=orF [cmpB x.tag y.tag,cmpB x.name y.name]):=by show _=_;rw[z00];rfl
 rw[HD.out];simp only[Frc.agg,sv]at*;generalize cmpB x.tag y.tag=r1 at*;generalize cmpB x.name y.name=r2 at*;generalize(⟨x.tag.toArray⟩:ByteArray)=x1 at*;generalize(⟨x.name.toArray⟩:ByteArray)=x2 at*;generalize(⟨y.tag.toArray⟩:ByteArray)=y1 at*;generalize(⟨y.name.toArray⟩:ByteArray)=y2 at*;generalize(⟨x.value.toArray⟩:ByteArray)=x3 at*;generalize(⟨y.value.toArray⟩:ByteArray)=y3 at*;clear HD;go_enter Tryz.func122,Tryz.ntmps122;go_wp2_with fail
 refine zef 10 (by kernel_rfl) (by kernel_rfl) ?_;dsimp only[List.take,List.drop];repeat(go_big_quiet_step(first|(go_at_call 118;with_reducible exact Calls.grow_of (HC1.out _))|(go_at_call 118;with_reducible exact Calls.grow_of (HC2.out _))))
 refine wpQuiet_nil ?_;intro _ hw';obtain⟨nq,hw''⟩:=hw';subst hw'';go_wp2_with(go_at_call 200;(refine(zxj _ [r1,r2] _ (zxv (by simp[go_sem]) rfl rfl (by simp))).mono ?_);rintro e w' ⟨rfl,rfl⟩)
 go_ret;exact Ret.of rfl bel
theorem z0c (x y:Alw):decide (cmpP x.key y.key<0)=ltA x y:=zyi _ _
theorem z0b (x y:Frc):decide (cmpP x.key y.key<0)=ltF x y:=zyi _ _
structure Pol where
 tags:List Bs
 schemes:List Bs
 css:List Bs
 drops:List Bs
 attrs:List Alw
 forces:List Frc
 rel:Bool
 depth:Int
 name:Int
 value:Int
deriving DecidableEq
def za7 (p:Pol):Pol:=⟨zap ltB p.tags,zap ltB p.schemes,zap ltB p.css,zap ltB p.drops,zap ltA p.attrs,zap ltF p.forces,p.rel,p.depth,p.name,p.value⟩
theorem zqv (p:Pol):za7 (za7 p)=za7 p:=by
 simp only[za7,zh4 swoB,zh4 swoA,zh4 swoF]
def inB (n hi:Int):Bool:=decide (1<=n/\n<=hi)
def limB (p:Pol):Bool:=inB p.depth 256&&inB p.name 64&&inB p.value 65536
def fitB (p:Pol):Bool:=decide (p.tags.length<=200/\p.schemes.length<=200/\p.css.length<=200/\p.drops.length<=200/\p.attrs.length<=200/\p.forces.length<=200)
def alwB (a:Alw):Bool:=(decide (a.tag=[42])||zau a.tag)&&zau a.name
def frcB (f:Frc):Bool:= !f.value.any oddB&&zau f.tag&&zau f.name
def zco (p:Pol):Bool:=p.tags.all zau&&p.schemes.all zau&&p.css.all zau&&p.drops.all zau&&p.attrs.all alwB&&p.forces.all frcB&&limB p&&fitB p&&decide (za7 p=p)
def pol0:Pol:=⟨[],[],[],[],[],[],false,64,32,1024⟩
def polZ:Pol:=⟨[],[],[],[],[],[],false,0,0,0⟩
structure Flt where
 at_:Nat
 code:Nat
deriving DecidableEq
structure Ps where
 rest:List Lx
 pol:Pol
 told:List Bs
abbrev Rs (α:Type):=Except Flt α
def atP (en:Nat):List Lx->Nat
 |[]=>en
 |x::_=>x.at_
def isP (k:Nat) (ts:List Bs) (x:Lx):Bool:=decide (x.kind=k)&&(ts.isEmpty||decide (x.text∈ts))
def za2 (k:Nat) (ts:List Bs):List Lx->Bool
 |[]=>false
 |x::_=>isP k ts x
def zb0 (en k:Nat) (ts:List Bs):List Lx->Rs (Lx × List Lx)
 |[]=> .error ⟨en,2⟩
 |x::r=>if isP k ts x then .ok (x,r)else .error ⟨x.at_,2⟩
def zbr:Bs:=[59]
def zh5 (en:Nat) (l:List Lx):Rs (List Bs × List Lx):=match zb0 en 4 [zbr] (l.dropWhile (isP 1 []))with
 | .error f=> .error f
 | .ok (_,q)=> .ok ((l.takeWhile (isP 1 [])).map Lx.text,q)
def zbm (en:Nat) (l:List Lx):Rs (List Bs × List Lx):=match zb0 en 1 [] l with
 | .error f=> .error f
 | .ok (x,r)=>match zh5 en r with
  | .error f=> .error f
  | .ok (ws,q)=> .ok (x.text::ws,q)
def zdj (en a:Nat) (what:Bs) (l:List Lx) (told:List Bs):Rs (List Lx × List Bs):=match zb0 en 4 [zbr] l with
 | .error f=> .error f
 | .ok (_,q)=>if what∈told then .error ⟨a,5⟩else .ok (q,what::told)
def zf8 (en:Nat) (s:Ps):Rs Ps:=
 if za2 4 [[42]] s.rest||za2 1 [] s.rest then
  match s.rest with
  |[]=> .error ⟨en,2⟩
  |x::r=>match zb0 en 4 [[58]] r with
   | .error f=> .error f
   | .ok (_,q)=>match zbm en q with
    | .error f=> .error f
    | .ok (ws,q)=> .ok ⟨q,{s.pol with attrs:=s.pol.attrs++ws.map (fun n=>⟨x.text,n⟩)},s.told⟩
 else .error ⟨atP en s.rest,2⟩
def zbg:Bs:=[102,111,114,99,101]
def zbp:Bs:=[108,105,109,105,116]
def relT:Bs:=[114,101,108,97,116,105,118,101]
def zes (en a:Nat) (s:Ps):Rs Ps:=match zb0 en 1 [] s.rest with
 | .error f=> .error f
 | .ok (t,q)=>match zb0 en 1 [] q with
  | .error f=> .error f
  | .ok (n,q)=>match zb0 en 3 [] q with
   | .error f=> .error f
   | .ok (v,q)=>match zdj en a (zbg++[32]++t.text++[32]++n.text) q s.told with
    | .error f=> .error f
    | .ok (q,told)=> .ok ⟨q,{s.pol with forces:=s.pol.forces++[⟨t.text,n.text,v.text⟩]},told⟩
def numT (t:Bs):Int:=t.foldl (fun n c=>n*10+((c.toNat:Int)-48)) 0
def zcc:Bs:=[100,101,112,116,104]
def zdx:Bs:=[110,97,109,101]
def valT:Bs:=[118,97,108,117,101]
def setL (kind:Bs) (n:Int) (p:Pol):Pol:=if kind=zcc then {p with depth:=n}else if kind=zdx then {p with name:=n}else {p with value:=n}
def zeq (en a:Nat) (s:Ps):Rs Ps:=match zb0 en 1 [zcc,zdx,valT] s.rest with
 | .error f=> .error f
 | .ok (k,q)=>match zb0 en 2 [] q with
  | .error f=> .error f
  | .ok (x,q)=>match zdj en a (zbp++[32]++k.text) q s.told with
   | .error f=> .error f
   | .ok (q,told)=>if limB (setL k.text (numT x.text) s.pol)then .ok ⟨q,setL k.text (numT x.text) s.pol,told⟩else .error ⟨x.at_,2⟩
def yesT:Bs:=[121,101,115]
def noT:Bs:=[110,111]
def relP (en a:Nat) (s:Ps):Rs Ps:=match zb0 en 1 [yesT,noT] s.rest with
 | .error f=> .error f
 | .ok (x,q)=>match zdj en a relT q s.told with
  | .error f=> .error f
  | .ok (q,told)=> .ok ⟨q,{s.pol with rel:=decide (x.text=yesT)},told⟩
def zb7:Bs:=[116,97,103,115]
def zan:Bs:=[115,99,104,101,109,101,115]
def cssT:Bs:=[99,115,115]
def zb8:Bs:=[100,114,111,112]
def zbd:Bs:=[97,116,116,114,115]
def zb9:List Bs:=[zb7,zan,cssT,zb8,zbd,relT,zbg,zbp]
def zim (en:Nat) (s:Ps) (f:Pol->List Bs->Pol):Rs Ps:=match zbm en s.rest with
 | .error f=> .error f
 | .ok (ws,q)=> .ok ⟨q,f s.pol ws,s.told⟩
def zbf (en:Nat) (s:Ps):Rs Ps:=match zb0 en 1 zb9 s.rest with
 | .error f=> .error f
 | .ok (x,q)=>
  if x.text=zb7 then zim en ⟨q,s.pol,s.told⟩ fun p ws=>{p with tags:=p.tags++ws}
  else if x.text=zan then zim en ⟨q,s.pol,s.told⟩ fun p ws=>{p with schemes:=p.schemes++ws}
  else if x.text=cssT then zim en ⟨q,s.pol,s.told⟩ fun p ws=>{p with css:=p.css++ws}
  else if x.text=zb8 then zim en ⟨q,s.pol,s.told⟩ fun p ws=>{p with drops:=p.drops++ws}
  else if x.text=zbd then zf8 en ⟨q,s.pol,s.told⟩
  else if x.text=relT then relP en x.at_ ⟨q,s.pol,s.told⟩
  else if x.text=zbg then zes en x.at_ ⟨q,s.pol,s.told⟩
  else zeq en x.at_ ⟨q,s.pol,s.told⟩
theorem za1 {en k:Nat} {ts:List Bs} {l r:List Lx} {x:Lx} (h:zb0 en k ts l= .ok (x,r)):l=x::r/\isP k ts x=true:=by
 cases l with
 |nil=>cases h
 |cons y q=>
  have h:(if isP k ts y=true then Except.ok (y,q)else .error ⟨y.at_,2⟩:Rs (Lx × List Lx))= .ok (x,r):=h;by_cases hi:isP k ts y=true
  ·rw[if_pos hi]at h;cases h;exact⟨rfl,hi⟩
  ·rw[if_neg hi]at h;cases h
theorem zxq {en:Nat} {l q:List Lx} {ws:List Bs} (h:zh5 en l= .ok (ws,q)):q.length<l.length:=by
 unfold zh5 at h;split at h
 ·cases h
 ·next y r ht=>
  cases h;obtain⟨h1,_⟩:=za1 ht;have h2:(l.dropWhile (isP 1 [])).length<=l.length:=(List.dropWhile_suffix _).length_le;rw[h1,z2i]at h2;omega
theorem zlg {en:Nat} {l q:List Lx} {ws:List Bs} (h:zbm en l= .ok (ws,q)):q.length<l.length:=by
 unfold zbm at h;split at h
 ·cases h
 ·next x r ht=>
  obtain⟨rfl,_⟩:=za1 ht;split at h
  ·cases h
  ·next hm=>cases h;have:=zxq hm;simp only[z2i];omega
theorem zhh {en a:Nat} {what:Bs} {l q:List Lx} {told told':List Bs} (h:zdj en a what l told= .ok (q,told')):q.length<l.length/\what∉told/\told'=what::told:=by
 unfold zdj at h;split at h
 ·cases h
 ·next x r ht=>
  obtain⟨rfl,_⟩:=za1 ht;split at h
  ·cases h
  ·next hw=>cases h;exact⟨by simp,hw,rfl⟩
theorem zct {en:Nat} {s t:Ps} (h:zbf en s= .ok t):t.rest.length<s.rest.length:=by
 unfold zbf at h;split at h
 ·cases h
 ·next x q ht=>
  obtain⟨h1,_⟩:=za1 ht;rw[h1,z2i];have hl: ∀f,zim en ⟨q,s.pol,s.told⟩ f= .ok t->t.rest.length<q.length+1:=fun f h=>by
   unfold zim at h;split at h
   ·cases h
   ·next hw=>cases h;have:=zlg hw;simp only;simp only at this;omega
  split at h
  ·exact hl _ h
  split at h
  ·exact hl _ h
  split at h
  ·exact hl _ h
  split at h
  ·exact hl _ h
  split at h
  ·unfold zf8 at h;split at h
   ·split at h
    ·cases h
    ·next y r hq=>
     simp only at hq;split at h
     ·cases h
     ·next z q2 h2=>
      obtain⟨h3,_⟩:=za1 h2;split at h
      ·cases h
      ·next hw=>cases h;have:=zlg hw;simp only;rw[hq,h3];simp only[z2i];omega
   ·cases h
  split at h
  ·unfold relP at h;split at h
   ·cases h
   ·next h2=>
    obtain⟨h3,_⟩:=za1 h2;simp only at h3;split at h
    ·cases h
    ·next ho=>cases h;have:=(zhh ho).1;simp only;rw[h3,z2i];omega
  split at h
  ·unfold zes at h;split at h
   ·cases h
   ·next h2=>
    obtain⟨h3,_⟩:=za1 h2;simp only at h3;split at h
    ·cases h
    ·next h4=>
     obtain⟨h5,_⟩:=za1 h4;split at h
     ·cases h
     ·next h6=>
      obtain⟨h7,_⟩:=za1 h6;split at h
      ·cases h
      ·next ho=>cases h;have:=(zhh ho).1;simp only;rw[h3,h5,h7];simp only[z2i];omega
  ·unfold zeq at h;split at h
   ·cases h
   ·next h2=>
    obtain⟨h3,_⟩:=za1 h2;simp only at h3;split at h
    ·cases h
    ·next h4=>
     obtain⟨h5,_⟩:=za1 h4;split at h
     ·cases h
     ·next ho=>
      split at h
      ·cases h;have:=(zhh ho).1;simp only;rw[h3,h5];simp only[z2i];omega
      ·cases h
def runF (en:Nat):Nat->Ps->Rs Ps
 |0,s=> .ok s
 |f+1,s=>match s.rest with
  |[]=> .ok s
  |_::_=>match zbf en s with
   | .error e=> .error e
   | .ok t=>runF en f t
theorem zod (en:Nat): ∀(f g:Nat) (s:Ps),s.rest.length<=f->s.rest.length<=g->runF en f s=runF en g s
 |0,0,_,_,_=>rfl
 |0,g+1,s,h,_=>by
  have:s.rest=[]:=z2u (by omega);simp only[runF,this]
 |f+1,0,s,_,h=>by
  have:s.rest=[]:=z2u (by omega);simp only[runF,this]
 |f+1,g+1,s,h1,h2=>by
  unfold runF;cases hr:s.rest with
  |nil=>rfl
  |cons x r=>
   simp only;cases ht:zbf en s with
   |error e=>rfl
   |ok t=>
    simp only;have:=zct ht;exact zod en f g t (by omega) (by omega)
def runP (en:Nat) (s:Ps):Rs Ps:=runF en s.rest.length s
theorem zr8 {en:Nat} {s:Ps} (h:s.rest=[]):runP en s= .ok s:=by
 unfold runP;rw[h];rfl
theorem zoc {en:Nat} {s:Ps} (h:s.rest≠[]):runP en s=match zbf en s with
  | .error e=> .error e
  | .ok t=>runP en t:=by
 unfold runP;cases hr:s.rest with
 |nil=>exact absurd hr h
 |cons x r=>
  rw[z2i];conv=>lhs;unfold runF
  simp only[hr];cases ht:zbf en s with
  |error e=>rfl
  |ok t=>
   simp only;have:=zct ht;rw[hr,z2i]at this;exact zod en _ _ t (by omega) (z2k _)
def zbb (s:Bs):Rs Pol:=
 if 8192<s.length then .error ⟨0,3⟩
 else match zd2 0 s with
  | .bad n=> .error ⟨n,2⟩
  | .ok l=>match runP s.length ⟨l,pol0,[]⟩with
   | .error e=> .error e
   | .ok t=>if fitB (za7 t.pol)then .ok (za7 t.pol)else .error ⟨s.length,3⟩
theorem zfd {α:Type} {p:α->Bool} {x:α}: ∀{l:List α},x∈l.takeWhile p->p x=true
 |[],h=>by cases h
 |y::r,h=>by
  rw[List.takeWhile_cons]at h;split at h
  ·next hy=>
   rcases z3n.1 h with rfl|h
   ·exact hy
   ·exact zfd h
  ·cases h
structure LxOk (en:Nat) (x:Lx):Prop where
 word:x.kind=1->zau x.text=true
 num:x.kind=2->x.text.all digB=true/\x.text.length<=9
 str:x.kind=3->x.text.any oddB=false
 at_:x.at_<=en
theorem TR.app_ok {x:TR} {p t:Bs} {k n:Nat} (h:x.app p k= .ok t n): ∃t' n',x= .ok t' n'/\t=p++t':=by
 cases x with
 |ok t' n'=>simp only[TR.app,TR.ok.injEq]at h;exact⟨t',n',rfl,h.1.symm⟩
 |bad n=>cases h
 |op=>cases h
theorem zhw: ∀(m:Nat) (l t:Bs) (n:Nat),l.length<=m->strL l= .ok t n->t.any oddB=false
 |_,[],t,n,_,h=>by rw[strL.eq_def]at h;cases h
 |0,_::_,_,_,hm,_=>by simp at hm
 |m+1,c::r,t,n,hm,h=>by
  simp only[z2i]at hm;by_cases h34:c.toNat=34
  ·rw[ze3 r h34]at h;cases h;rfl
  by_cases h92:c.toNat=92
  ·cases r with
   |nil=>rw[zdu h92]at h;cases h
   |cons d r=>
    by_cases hd:d.toNat=92\/d.toNat=34
    ·rw[zg5 r h92 hd]at h;obtain⟨t',n',h1,rfl⟩:=TR.app_ok h;have ih:=zhw m r t' n' (by simp only[z2i]at hm;omega) h1;have ho:oddB d=false:=by unfold oddB;rw[decide_eq_false_iff_not];omega
     simp[ho,ih]
    ·rw[zdv r h92 hd]at h;cases h
  by_cases ho:oddB c=true
  ·rw[zg4 r h34 h92 ho]at h;cases h
  ·rw[ze4 r h34 h92 ho]at h;obtain⟨t',n',h1,rfl⟩:=TR.app_ok h;have ih:=zhw m r t' n' (by omega) h1;simp[ho,ih]
theorem zqp {l t:Bs} {k n:Nat} (h:zbj l= .ok k t n):(k=1->zau t=true)/\(k=2->t.all digB=true/\t.length<=9)/\(k=3->t.any oddB=false):=by
 unfold zbj at h;split at h
 ·cases h
 ·next c r=>
  split at h
  ·split at h
   ·next t' n' hs=>
    simp only[PR.ok.injEq]at h;obtain⟨rfl,rfl,rfl⟩:=h;exact⟨fun h=>(by cases h),fun h=>(by cases h),fun _=>zhw _ r _ _ (z2k _) hs⟩
   ·cases h
   ·cases h
  split at h
  ·split at h
   ·next hw=>
    simp only[PR.ok.injEq]at h;obtain⟨rfl,rfl,rfl⟩:=h;exact⟨fun _=>hw,fun h=>(by cases h),fun h=>(by cases h)⟩
   ·cases h
  split at h
  ·next hd=>
   split at h
   ·next hl=>
    simp only[PR.ok.injEq]at h;obtain⟨rfl,rfl,rfl⟩:=h;refine⟨fun h=>(by cases h),fun _=>⟨?_,by simp only[z2i];omega⟩,fun h=>(by cases h)⟩;rw[List.all_cons,hd,Bool.true_and,List.all_eq_true];intro x hx;exact zfd hx
   ·cases h
  split at h
  ·simp only[PR.ok.injEq]at h;obtain⟨rfl,rfl,rfl⟩:=h;exact⟨fun h=>(by cases h),fun h=>(by cases h),fun h=>(by cases h)⟩
  ·cases h
theorem SR.cons_ok {x:Lx} {r:SR} {L:List Lx} (h:r.cons x= .ok L): ∃M,r= .ok M/\L=x::M:=by
 cases r with
 |ok M=>simp only[SR.cons,SR.ok.injEq]at h;exact⟨M,rfl,h.symm⟩
 |bad n=>cases h
theorem SR.cons_bad {x:Lx} {r:SR} {n:Nat} (h:r.cons x= .bad n):r= .bad n:=by
 cases r with
 |ok M=>cases h
 |bad m=>simp only[SR.cons,SR.bad.injEq]at h;rw[h]
theorem zix: ∀(f a en:Nat) (l:Bs) (L:List Lx),a+l.length<=en->zfx f a l= .ok L-> ∀x∈L,LxOk en x
 |0,_,_,_,L,_,h=>by
  simp only[zfx,SR.ok.injEq]at h;subst h;intro x hx;cases hx
 |f+1,a,en,l,L,ha,h=>by
  simp only[zfx]at h;split at h
  ·simp only[SR.ok.injEq]at h;subst h;intro x hx;cases hx
  ·next c r hr=>
   have hb:=zsv false l;have hlr:=congrArg List.length hr;rw[z2n]at hlr;split at h
   ·next k t n hp=>
    obtain⟨M,h1,rfl⟩:=SR.cons_ok h;have hf:=zqp hp;have hle:=(zc0 _).1 _ _ _ hp;intro x hx;rcases z3n.1 hx with rfl|hx
    ·exact⟨hf.1,hf.2.1,hf.2.2,by simp only;omega⟩
    ·exact zix f _ en _ M (by rw[z2n];omega) h1 x hx
   ·cases h
theorem zn7: ∀(f a en:Nat) (l:Bs) (n:Nat),a+l.length<=en->zfx f a l= .bad n->n<=en
 |0,_,_,_,n,_,h=>by simp only[zfx]at h;cases h
 |f+1,a,en,l,n,ha,h=>by
  simp only[zfx]at h;split at h
  ·cases h
  ·next c r hr=>
   have hb:=zsv false l;have hlr:=congrArg List.length hr;rw[z2n]at hlr;split at h
   ·next k t m hp=>
    have hle:=(zc0 _).1 _ _ _ hp;exact zn7 f _ en _ n (by rw[z2n];omega) (SR.cons_bad h)
   ·next m hp=>
    have hle:=(zc0 _).2 _ hp;simp only[SR.bad.injEq]at h;omega
structure zkp (p:Pol):Prop where
 tags: ∀t∈p.tags,zau t=true
 schemes: ∀t∈p.schemes,zau t=true
 css: ∀t∈p.css,zau t=true
 drops: ∀t∈p.drops,zau t=true
 attrs: ∀a∈p.attrs,alwB a=true
 forces: ∀f∈p.forces,frcB f=true
 lim:limB p=true
theorem zmv:zkp pol0:=⟨fun _ h=>(by cases h),fun _ h=>(by cases h),fun _ h=>(by cases h),fun _ h=>(by cases h),fun _ h=>(by cases h),fun _ h=>(by cases h),by decide⟩
def zdb (en:Nat) (l:List Lx):Prop:= ∀x∈l,LxOk en x
theorem zdb.tail {en:Nat} {x:Lx} {r:List Lx} (h:zdb en (x::r)):LxOk en x/\zdb en r:=⟨h x z3i,fun y hy=>h y (List.mem_cons_of_mem _ hy)⟩
theorem at_le {en:Nat} {l:List Lx} (h:zdb en l):atP en l<=en:=by
 cases l with
 |nil=>exact z2k _
 |cons x r=>exact h.tail.1.at_
theorem zey {k:Nat} {ts:List Bs} {x:Lx} (h:isP k ts x=true):x.kind=k/\(ts≠[]->x.text∈ts):=by
 simp only[isP,z2z,Bool.or_eq_true,decide_eq_true_eq]at h;refine⟨h.1,fun hn=> ?_⟩;rcases h.2 with h2|h2
 ·exact absurd (List.isEmpty_iff.1 h2) hn
 ·exact h2
theorem zbs {en k:Nat} {ts:List Bs} {l r:List Lx} {x:Lx} (h:zb0 en k ts l= .ok (x,r)) (hl:zdb en l):LxOk en x/\x.kind=k/\zdb en r:=by
 obtain⟨rfl,hi⟩:=za1 h;exact⟨hl.tail.1,(zey hi).1,hl.tail.2⟩
theorem zcs {en k:Nat} {ts:List Bs} {l:List Lx} {f:Flt} (h:zb0 en k ts l= .error f) (hl:zdb en l):f.at_<=en:=by
 cases l with
 |nil=>cases h;exact z2k _
 |cons y q=>
  have h:(if isP k ts y=true then Except.ok (y,q)else .error ⟨y.at_,2⟩:Rs (Lx × List Lx))= .error f:=h;by_cases hi:isP k ts y=true
  ·rw[if_pos hi]at h;cases h
  ·rw[if_neg hi]at h;cases h;exact hl.tail.1.at_
theorem zjk {en:Nat} {l:List Lx} (hl:zdb en l): ∀t∈(l.takeWhile (isP 1 [])).map Lx.text,zau t=true:=by
 intro t ht;obtain⟨x,hx,rfl⟩:=List.mem_map.1 ht;exact(hl x (List.takeWhile_prefix _ |>.subset hx)).word (zey (zfd hx)).1
theorem zye {en:Nat} {l:List Lx} (hl:zdb en l):zdb en (l.dropWhile (isP 1 [])):=fun x hx=>hl x ((List.dropWhile_suffix _).subset hx)
theorem zz9 {en:Nat} {l q:List Lx} {ws:List Bs} (h:zh5 en l= .ok (ws,q)) (hl:zdb en l):(∀t∈ws,zau t=true)/\zdb en q:=by
 unfold zh5 at h;split at h
 ·cases h
 ·next y r ht=>
  cases h;exact⟨zjk hl,(zbs ht (zye hl)).2.2⟩
theorem zxr {en:Nat} {l:List Lx} {f:Flt} (h:zh5 en l= .error f) (hl:zdb en l):f.at_<=en:=by
 unfold zh5 at h;split at h
 ·next ht=>cases h;exact zcs ht (zye hl)
 ·cases h
theorem znm {en:Nat} {l q:List Lx} {ws:List Bs} (h:zbm en l= .ok (ws,q)) (hl:zdb en l):(∀t∈ws,zau t=true)/\zdb en q:=by
 unfold zbm at h;split at h
 ·cases h
 ·next x r ht=>
  obtain⟨h1,h2,h3⟩:=zbs ht hl;split at h
  ·cases h
  ·next ws' q' hm=>
   cases h;obtain⟨h4,h5⟩:=zz9 hm h3;refine⟨fun t ht=> ?_,h5⟩;rcases z3n.1 ht with rfl|ht
   ·exact h1.word h2
   ·exact h4 t ht
theorem zlh {en:Nat} {l:List Lx} {f:Flt} (h:zbm en l= .error f) (hl:zdb en l):f.at_<=en:=by
 unfold zbm at h;split at h
 ·next ht=>cases h;exact zcs ht hl
 ·next x r ht=>
  split at h
  ·next hm=>cases h;exact zxr hm (zbs ht hl).2.2
  ·cases h
theorem zm2 {en a:Nat} {what:Bs} {l q:List Lx} {told told':List Bs} (h:zdj en a what l told= .ok (q,told')) (hl:zdb en l):zdb en q:=by
 unfold zdj at h;split at h
 ·cases h
 ·next x r ht=>
  split at h
  ·cases h
  ·cases h;exact(zbs ht hl).2.2
theorem zj4 {en a:Nat} {what:Bs} {l:List Lx} {told:List Bs} {f:Flt} (h:zdj en a what l told= .error f) (hl:zdb en l) (ha:a<=en):f.at_<=en:=by
 unfold zdj at h;split at h
 ·next ht=>cases h;exact zcs ht hl
 ·split at h
  ·cases h;exact ha
  ·cases h
theorem zi1 {en:Nat} {s t:Ps} {f:Pol->List Bs->Pol} (h:zim en s f= .ok t) (hl:zdb en s.rest) (hf: ∀ws,(∀t∈ws,zau t=true)->zkp (f s.pol ws)):zkp t.pol/\zdb en t.rest:=by
 unfold zim at h;split at h
 ·cases h
 ·next hw=>
  cases h;obtain⟨h1,h2⟩:=znm hw hl;exact⟨hf _ h1,h2⟩
theorem zh6 {α:Type} {p:α->Prop} {a b:List α} (ha: ∀x∈a,p x) (hb: ∀x∈b,p x): ∀x∈a++b,p x:=fun x hx=>(z3g.1 hx).elim (ha x) (hb x)
theorem zdc {en:Nat} {s t:Ps} (h:zbf en s= .ok t) (hp:zkp s.pol) (hl:zdb en s.rest):zkp t.pol/\zdb en t.rest:=by
 unfold zbf at h;split at h
 ·cases h
 ·next x q ht=>
  obtain⟨_,_,hq⟩:=zbs ht hl;split at h
  ·exact zi1 h hq fun ws hw=>⟨zh6 hp.tags hw,hp.schemes,hp.css,hp.drops,hp.attrs,hp.forces,hp.lim⟩
  split at h
  ·exact zi1 h hq fun ws hw=>⟨hp.tags,zh6 hp.schemes hw,hp.css,hp.drops,hp.attrs,hp.forces,hp.lim⟩
  split at h
  ·exact zi1 h hq fun ws hw=>⟨hp.tags,hp.schemes,zh6 hp.css hw,hp.drops,hp.attrs,hp.forces,hp.lim⟩
  split at h
  ·exact zi1 h hq fun ws hw=>⟨hp.tags,hp.schemes,hp.css,zh6 hp.drops hw,hp.attrs,hp.forces,hp.lim⟩
  split at h
  ·unfold zf8 at h;simp only at h;split at h
   ·next hn=>
    split at h
    ·cases h
    ·next y r=>
     split at h
     ·cases h
     ·next z q2 h2=>
      obtain⟨_,_,hq2⟩:=zbs h2 hq.tail.2;split at h
      ·cases h
      ·next ws q3 hw=>
       cases h;obtain⟨hw1,hq3⟩:=znm hw hq2;refine⟨⟨hp.tags,hp.schemes,hp.css,hp.drops,zh6 hp.attrs fun a ha=> ?_,hp.forces,hp.lim⟩,hq3⟩;obtain⟨m,hm,rfl⟩:=List.mem_map.1 ha;have hy:(decide (y.text=[42])||zau y.text)=true:=by
        rw[Bool.or_eq_true]at hn;rcases hn with hn|hn
        ·have:=(zey (show isP 4 [[42]] y=true from hn)).2 (by simp);rw[z23]at this;simp[this]
        ·have:=hq.tail.1.word (zey (show isP 1 [] y=true from hn)).1;simp[this]
       show((decide (y.text=[42])||zau y.text)&&zau m)=true;rw[hy,hw1 m hm];rfl
   ·cases h
  split at h
  ·unfold relP at h;split at h
   ·cases h
   ·next h2=>
    obtain⟨_,_,hq2⟩:=zbs h2 hq;split at h
    ·cases h
    ·next ho=>
     cases h;exact⟨⟨hp.tags,hp.schemes,hp.css,hp.drops,hp.attrs,hp.forces,hp.lim⟩,zm2 ho hq2⟩
  split at h
  ·unfold zes at h;split at h
   ·cases h
   ·next a q2 h2=>
    obtain⟨a1,a2,hq2⟩:=zbs h2 hq;split at h
    ·cases h
    ·next b q3 h3=>
     obtain⟨b1,b2,hq3⟩:=zbs h3 hq2;split at h
     ·cases h
     ·next v q4 h4=>
      obtain⟨c1,c2,hq4⟩:=zbs h4 hq3;split at h
      ·cases h
      ·next ho=>
       cases h;refine⟨⟨hp.tags,hp.schemes,hp.css,hp.drops,hp.attrs,zh6 hp.forces fun f hf=> ?_,hp.lim⟩,zm2 ho hq4⟩;rw[z23]at hf;subst hf;show(!v.text.any oddB&&zau a.text&&zau b.text)=true;rw[c1.str c2,a1.word a2,b1.word b2];rfl
  ·unfold zeq at h;split at h
   ·cases h
   ·next a q2 h2=>
    obtain⟨_,_,hq2⟩:=zbs h2 hq;split at h
    ·cases h
    ·next b q3 h3=>
     obtain⟨_,_,hq3⟩:=zbs h3 hq2;split at h
     ·cases h
     ·next ho=>
      split at h
      ·next hlim=>
       cases h;refine⟨?_,zm2 ho hq3⟩;have e: ∀n:Int,(setL a.text n s.pol).tags=s.pol.tags/\(setL a.text n s.pol).schemes=s.pol.schemes/\(setL a.text n s.pol).css=s.pol.css/\(setL a.text n s.pol).drops=s.pol.drops/\(setL a.text n s.pol).attrs=s.pol.attrs/\(setL a.text n s.pol).forces=s.pol.forces:=fun n=>by
        unfold setL;split
        ·exact⟨rfl,rfl,rfl,rfl,rfl,rfl⟩
        ·split<;>exact⟨rfl,rfl,rfl,rfl,rfl,rfl⟩
       obtain⟨e1,e2,e3,e4,e5,e6⟩:=e (numT b.text);exact⟨by simp only;rw[e1];exact hp.tags,by simp only;rw[e2];exact hp.schemes,by simp only;rw[e3];exact hp.css,by simp only;rw[e4];exact hp.drops,by simp only;rw[e5];exact hp.attrs,by simp only;rw[e6];exact hp.forces,hlim⟩
      ·cases h
theorem zhm {en:Nat} {s:Ps} {g:Pol->List Bs->Pol} {f:Flt} (h:zim en s g= .error f) (hl:zdb en s.rest):f.at_<=en:=by
 unfold zim at h;split at h
 ·next hw=>cases h;exact zlh hw hl
 ·cases h
theorem zwb {en:Nat} {s:Ps} {f:Flt} (h:zbf en s= .error f) (hl:zdb en s.rest):f.at_<=en:=by
 unfold zbf at h;split at h
 ·next ht=>cases h;exact zcs ht hl
 ·next x q ht=>
  obtain⟨hx,_,hq⟩:=zbs ht hl;split at h
  ·exact zhm h hq
  split at h
  ·exact zhm h hq
  split at h
  ·exact zhm h hq
  split at h
  ·exact zhm h hq
  split at h
  ·unfold zf8 at h;simp only at h;split at h
   ·split at h
    ·cases h;exact z2k _
    ·next y r=>
     split at h
     ·next h2=>cases h;exact zcs h2 hq.tail.2
     ·next z q2 h2=>
      obtain⟨_,_,hq2⟩:=zbs h2 hq.tail.2;split at h
      ·next hw=>cases h;exact zlh hw hq2
      ·cases h
   ·cases h;exact at_le hq
  split at h
  ·unfold relP at h;split at h
   ·next h2=>cases h;exact zcs h2 hq
   ·next h2=>
    obtain⟨_,_,hq2⟩:=zbs h2 hq;split at h
    ·next ho=>cases h;exact zj4 ho hq2 hx.at_
    ·cases h
  split at h
  ·unfold zes at h;split at h
   ·next h2=>cases h;exact zcs h2 hq
   ·next a q2 h2=>
    obtain⟨_,_,hq2⟩:=zbs h2 hq;split at h
    ·next h3=>cases h;exact zcs h3 hq2
    ·next b q3 h3=>
     obtain⟨_,_,hq3⟩:=zbs h3 hq2;split at h
     ·next h4=>cases h;exact zcs h4 hq3
     ·next v q4 h4=>
      obtain⟨_,_,hq4⟩:=zbs h4 hq3;split at h
      ·next ho=>cases h;exact zj4 ho hq4 hx.at_
      ·cases h
  ·unfold zeq at h;split at h
   ·next h2=>cases h;exact zcs h2 hq
   ·next a q2 h2=>
    obtain⟨_,_,hq2⟩:=zbs h2 hq;split at h
    ·next h3=>cases h;exact zcs h3 hq2
    ·next b q3 h3=>
     obtain⟨hb,_,hq3⟩:=zbs h3 hq2;split at h
     ·next ho=>cases h;exact zj4 ho hq3 hx.at_
     ·split at h
      ·cases h
      ·cases h;exact hb.at_
theorem zwn {en:Nat}: ∀(f:Nat) {s t:Ps},runF en f s= .ok t->zkp s.pol->zdb en s.rest->zkp t.pol
 |0,s,t,h,hp,_=>by simp only[runF]at h;cases h;exact hp
 |f+1,s,t,h,hp,hl=>by
  unfold runF at h;split at h
  ·cases h;exact hp
  ·split at h
   ·cases h
   ·next ht=>obtain⟨h1,h2⟩:=zdc ht hp hl;exact zwn f h h1 h2
theorem zsa {en:Nat}: ∀(f:Nat) {s:Ps} {e:Flt},runF en f s= .error e->zkp s.pol->zdb en s.rest->e.at_<=en
 |0,s,e,h,_,_=>by simp only[runF]at h;cases h
 |f+1,s,e,h,hp,hl=>by
  unfold runF at h;split at h
  ·cases h
  ·split at h
   ·next ht=>cases h;exact zwb ht hl
   ·next ht=>obtain⟨h1,h2⟩:=zdc ht hp hl;exact zsa f h h1 h2
theorem zgj {α:Type} {p:α->Bool} {l:List α} (h: ∀x∈l,p x=true):l.all p=true:=List.all_eq_true.2 h
theorem zty {p:Pol} (h:zkp p) (hf:fitB (za7 p)=true):zco (za7 p)=true:=by
 unfold zco;have h1:=zgj (p:=zau) fun t ht=>h.tags t (zfg swoB (l:=p.tags) ht);have h2:=zgj (p:=zau) fun t ht=>h.schemes t (zfg swoB (l:=p.schemes) ht);have h3:=zgj (p:=zau) fun t ht=>h.css t (zfg swoB (l:=p.css) ht);have h4:=zgj (p:=zau) fun t ht=>h.drops t (zfg swoB (l:=p.drops) ht);have h5:=zgj (p:=alwB) fun t ht=>h.attrs t (zfg swoA (l:=p.attrs) ht);have h6:=zgj (p:=frcB) fun t ht=>h.forces t (zfg swoF (l:=p.forces) ht);have h7:limB (za7 p)=true:=h.lim;have h8:decide (za7 (za7 p)=za7 p)=true:=decide_eq_true (zqv p);rw[hf,h7,h8];show((zap ltB p.tags).all zau&&(zap ltB p.schemes).all zau&&(zap ltB p.css).all zau&&(zap ltB p.drops).all zau&&(zap ltA p.attrs).all alwB&&(zap ltF p.forces).all frcB&&true&&true&&true)=true;rw[h1,h2,h3,h4,h5,h6];rfl
theorem zgv {s:Bs} {p:Pol} (h:zbb s= .ok p):zco p=true:=by
 unfold zbb at h;split at h
 ·cases h
 ·split at h
  ·cases h
  ·next l hl=>
   split at h
   ·cases h
   ·next t ht=>
    split at h
    ·next hf=>
     cases h;exact zty (zwn _ ht zmv (zix _ _ _ _ _ (by omega) hl)) hf
    ·cases h
theorem zz0 {s:Bs} {f:Flt} (h:zbb s= .error f):f.at_<=s.length:=by
 unfold zbb at h;split at h
 ·cases h;exact Nat.zero_le _
 ·split at h
  ·next n hn=>cases h;exact zn7 _ _ _ _ _ (by omega) hn
  ·next l hl=>
   split at h
   ·next ht=>cases h;exact zsa _ ht zmv (zix _ _ _ _ _ (by omega) hl)
   ·split at h
    ·cases h
    ·cases h;exact z2k _
open Go.RowKit
def Cpz (A:Option Addr) (n c:Nat):Prop:=(A=none->c=0)/\n<=c
theorem zmz {W:World} {B:Nat} {e:TypeId} {size:Nat} {A:Option Addr} {n c:Nat} {xs:List Value} (h:W.ownsRow B e size (.slice A n c) n xs):Cpz A n c:=by
 obtain⟨_,_,e9,h9⟩:=zah h;cases e9;exact⟨zmy h,h9⟩
def RetN (w:World) (n size:Nat) (cells:List Value) (e:Ending) (w':World):Prop:= ∃A c,e= .returned (.slice A n c)/\Below w.heap.size w w'/\Cpz A n c/\Rd w' (.slice A n c) n size cells/\(0<n-> ∀b off s,A=some ⟨b,off,s⟩->w.heap.size<=b)
theorem Rd.part {w:World} {A:Option Addr} {n c size:Nat} {xs:List Value} (h:Rd w (.slice A n c) n size xs) (m:Nat) (hm:m<=n):Rd w (.slice A m c) m size (xs.take (m*size)):=by
 obtain⟨h1,h2,A',c',he,h4⟩:=h;cases he;refine⟨?_,by omega,A,c,rfl,fun h0=> ?_⟩
 ·rw[z2r,h1,Nat.min_eq_left (z42 _ hm)]
 ·obtain⟨b,off,h5,h6,h7⟩:=h4 (by omega);refine⟨b,off,h5,h6,fun j u hu=>h7 j u ?_⟩;rw[z6g]at hu;split at hu
  ·exact hu
  ·cases hu
theorem zhq {α:Type} (cells:α->List Value) (n:Nat) (hn: ∀x,(cells x).length=n) (l:List α) (m:Nat):(l.flatMap cells).take (m*n)=(l.take m).flatMap cells:=by
 induction l generalizing m with
 |nil=>simp
 |cons x r ih=>
  cases m with
  |zero=>simp
  |succ m=>
   rw[List.take_succ_cons,z3z,z3z,show(m+1)*n=n+m*n by rw[Nat.add_mul];omega,List.take_append,hn x,z2p (by rw[hn];omega),show n+m*n-n=m*n by omega,ih]
theorem ev_P (p q:Bs × Bs):ev ltP p q=decide (p=q):=by
 rw[Bool.eq_iff_iff];simp only[ev,z2z,z4r,decide_eq_true_eq];constructor
 ·rintro⟨h1,h2⟩;simp only[ltP,z30,z4v,decide_eq_false_iff_not]at h1 h2;have e1:=zj9 _ _ h1.1 h2.1;have a:ltB p.2 q.2=false:=by
   rcases h1.2 with h|h
   ·exact absurd e1 h
   ·exact h
  have b:ltB q.2 p.2=false:=by
   rcases h2.2 with h|h
   ·exact absurd e1.symm h
   ·exact h
  exact Prod.ext e1 (zj9 _ _ a b)
 ·rintro rfl;exact⟨swoP.irrefl _,swoP.irrefl _⟩
theorem Rd.empty {w:World} {A:Option Addr} {c size:Nat}:Rd w (.slice A 0 c) 0 size []:=⟨by simp,by omega,A,c,rfl,fun h=>by omega⟩
theorem Rd.none_nil {w:World} {n c size:Nat} {xs:List Value} (h:Rd w (.slice none n c) n size xs):n=0:=by
 rcases Nat.eq_zero_or_pos n with h0|h0
 ·exact h0
 ·obtain⟨_,_,A,c',he,h4⟩:=h;cases he;obtain⟨b,off,h5,_⟩:=h4 h0;cases h5
open Go.RowKit
def Rx (W:World) (bad:Nat->Prop) (v:Value) (n size:Nat) (cells:List Value):Prop:= ∃A c,v= .slice A n c/\Cpz A n c/\Rd W v n size cells/\(0<n-> ∀b off s,A=some ⟨b,off,s⟩-> ¬bad b)
theorem Rd.turnedN {pv:Nat->Prop} {W W':World} {A:Option Addr} {n c size:Nat} {xs:List Value} (h:Rd W (.slice A n c) n size xs) (ht:zab pv W W') (hA:0<n-> ∀b off s,A=some ⟨b,off,s⟩-> ¬pv b):Rd W' (.slice A n c) n size xs:=by
 obtain⟨h1,h2,A',c',he,h4⟩:=h;cases he;refine⟨h1,h2,A,c,rfl,fun hn=> ?_⟩;obtain⟨b,off,rfl,hb,hc⟩:=h4 hn;refine⟨b,off,rfl,Nat.lt_of_lt_of_le hb ht.size,fun j u hu=> ?_⟩;have:=hc j u hu;unfold World.cell? at this ⊢;rw[ht.block b hb (hA hn _ _ _ rfl)];exact this
theorem Rx.turned {W W':World} {bad:Nat->Prop} {v:Value} {n size:Nat} {cells:List Value} (h:Rx W bad v n size cells) (ht:zab bad W W'):Rx W' bad v n size cells:=by
 obtain⟨A,c,rfl,h1,h2,h3⟩:=h;exact⟨A,c,rfl,h1,h2.turnedN ht h3,h3⟩
theorem Rx.mono {W:World} {bad bad':Nat->Prop} {v:Value} {n size:Nat} {cells:List Value} (h:Rx W bad v n size cells) (hb: ∀b,b<W.heap.size->bad' b->bad b):Rx W bad' v n size cells:=by
 obtain⟨A,c,rfl,h1,h2,h3⟩:=h;refine⟨A,c,rfl,h1,h2,fun hn b off s he hx=> ?_⟩;obtain⟨_,_,A',c',e,h4⟩:=h2;cases e;obtain⟨b2,off2,h5,h6,_⟩:=h4 hn;rw[he]at h5;cases h5;exact h3 hn _ _ _ he (hb _ h6 hx)
theorem Rx.below {W W':World} {bad:Nat->Prop} {v:Value} {n size:Nat} {cells:List Value} (h:Rx W bad v n size cells) (hb:Below W.heap.size W W'):Rx W' bad v n size cells:=h.turned (zab.of_below hb)
def fN (p:Pol):Nat->Nat
 |0=>p.tags.length
 |1=>p.schemes.length
 |2=>p.css.length
 |3=>p.drops.length
 |4=>p.attrs.length
 |_=>p.forces.length
def fS:Nat->Nat
 |4=>2
 |5=>3
 |_=>1
def fC (p:Pol):Nat->List Value
 |0=>p.tags.map sv
 |1=>p.schemes.map sv
 |2=>p.css.map sv
 |3=>p.drops.map sv
 |4=>p.attrs.flatMap Alw.cells
 |_=>p.forces.flatMap Frc.cells
def PolV (W:World) (bad:Nat->Prop) (v:Value) (p:Pol):Prop:= ∃v0 v1 v2 v3 v4 v5,v= .agg #[v0,v1,v2,v3,v4,v5,.bool p.rel,.int .i64 p.depth,.int .i64 p.name,.int .i64 p.value]/\
 Rx W bad v0 (fN p 0) 1 (fC p 0)/\Rx W bad v1 (fN p 1) 1 (fC p 1)/\Rx W bad v2 (fN p 2) 1 (fC p 2)/\Rx W bad v3 (fN p 3) 1 (fC p 3)/\Rx W bad v4 (fN p 4) 2 (fC p 4)/\Rx W bad v5 (fN p 5) 3 (fC p 5)
theorem PolV.below {W W':World} {bad:Nat->Prop} {v:Value} {p:Pol} (h:PolV W bad v p) (hb:Below W.heap.size W W'):PolV W' bad v p:=by
 obtain⟨v0,v1,v2,v3,v4,v5,rfl,h0,h1,h2,h3,h4,h5⟩:=h;exact⟨v0,v1,v2,v3,v4,v5,rfl,h0.below hb,h1.below hb,h2.below hb,h3.below hb,h4.below hb,h5.below hb⟩
theorem PolV.mono {W:World} {bad bad':Nat->Prop} {v:Value} {p:Pol} (h:PolV W bad v p) (hb: ∀b,b<W.heap.size->bad' b->bad b):PolV W bad' v p:=by
 obtain⟨v0,v1,v2,v3,v4,v5,rfl,h0,h1,h2,h3,h4,h5⟩:=h;exact⟨v0,v1,v2,v3,v4,v5,rfl,h0.mono hb,h1.mono hb,h2.mono hb,h3.mono hb,h4.mono hb,h5.mono hb⟩
def bd (B:Nat) (neat:Prop) (b:Nat):Prop:=(b=B\/b=B+1)\/(neat/\b<B)
def mix (p:Pol) (k j:Nat):Pol:=if j<k then za7 p else p
structure NtI (p:Pol) (B k:Nat) (w W:World):Prop where
 below:Below B w W
 size:B+2<=W.heap.size
 fld: ∀j,j<6-> ∃v,W.cell? ⟨B,j,none⟩=some v/\Rx W (bd B (j<k)) v (fN (mix p k j) j) (fS j) (fC (mix p k j) j)
 c6:W.cell? ⟨B,6,none⟩=some (.bool p.rel)
 c7:W.cell? ⟨B,7,none⟩=some (.int .i64 p.depth)
 c8:W.cell? ⟨B,8,none⟩=some (.int .i64 p.name)
 c9:W.cell? ⟨B,9,none⟩=some (.int .i64 p.value)
 fz: ∀j,W.frozen? ⟨B,j,none⟩=false
 rc: ∀j,j<10-> ∃v,W.cell? ⟨B+1,j,none⟩=some v
 rz: ∀j,W.frozen? ⟨B+1,j,none⟩=false
theorem NtI.step {p:Pol} {B k:Nat} {w W W':World} (h:NtI p B k w W) (hk:k<6) (hb:Below W.heap.size W W') {A:Option Addr} {c:Nat} (hA:Cpz A (fN (za7 p) k) c) (hr:Rd W' (.slice A (fN (za7 p) k) c) (fN (za7 p) k) (fS k) (fC (za7 p) k)) (hA2:0<fN (za7 p) k-> ∀b off s,A=some ⟨b,off,s⟩->W.heap.size<=b):
  NtI p B (k+1) w (W'.setCell ⟨B,k,none⟩ (.slice A (fN (za7 p) k) c)):=by
 have hs:=h.size;have hs2:=hb.size;obtain⟨v0,hv0,_⟩:=h.fld k hk;have hB:B<W.heap.size:=by omega
 have hB1:B+1<W.heap.size:=by omega
 have t1:zab (fun b=>b=B) W' (W'.setCell ⟨B,k,none⟩ (.slice A (fN (za7 p) k) c)):=zab.setCell (pv:=fun b=>b=B) (p:=⟨B,k,none⟩) (zab.refl _ W') (.inr rfl) _;have t2:zab (fun b=>b=B) W (W'.setCell ⟨B,k,none⟩ (.slice A (fN (za7 p) k) c)):=(zab.of_below hb).trans t1;have old: ∀a:Addr,a.block<W.heap.size->(⟨B,k,none⟩:Addr)≠a-> ∀v,W.cell? a=some v->(W'.setCell ⟨B,k,none⟩ (.slice A (fN (za7 p) k) c)).cell? a=some v:=fun a ha hne v hv=>by
  rw[World.cell?_setCell_other _ _ _ _ hne];exact(hb.cell ha).trans hv
 refine⟨h.below.trans (t2.below (by omega) (fun k hk=>by omega)),Nat.le_trans hs t2.size,fun j hj=> ?_,old _ hB (by intro e;cases e;omega) _ h.c6,old _ hB (by intro e;cases e;omega) _ h.c7,old _ hB (by intro e;cases e;omega) _ h.c8,old _ hB (by intro e;cases e;omega) _ h.c9,fun j=> ?_,fun j hj=> ?_,fun j=> ?_⟩
 ·by_cases hjk:j=k
  ·subst hjk;refine⟨_,World.cell?_setCell_same _ _ _ ((hb.cell hB).trans hv0), ?_⟩;have hm:mix p (j+1) j=za7 p:=by unfold mix;rw[if_pos (by omega)]
   rw[hm];refine⟨A,c,rfl,hA,hr.turnedN t1 (fun hn b off s he hx=> ?_),fun hn b off s he hx=> ?_⟩
   ·have:=hA2 hn b off s he;omega
   ·have:=hA2 hn b off s he;rcases hx with(hx|hx)|⟨_,hx⟩<;>omega
  ·obtain⟨v,hv,hx⟩:=h.fld j hj;refine⟨v,old _ hB (by intro e;cases e;exact hjk rfl) _ hv, ?_⟩;have hm:mix p (k+1) j=mix p k j:=by
    unfold mix;by_cases hlt:j<k
    ·rw[if_pos hlt,if_pos (by omega)]
    ·rw[if_neg hlt,if_neg (by omega)]
   rw[hm];refine(hx.turned (t2.mono fun b hb=> .inl (.inl hb))).mono fun b _ hb=> ?_;rcases hb with hb|⟨hb1,hb2⟩
   ·exact .inl hb
   ·exact .inr ⟨by omega,hb2⟩
 ·rw[World.frozen?_setCell,World.frozen?_of_block (hb.block B hB)];exact h.fz j
 ·obtain⟨v,hv⟩:=h.rc j hj;exact⟨v,old _ hB1 (by intro e;cases e) _ hv⟩
 ·rw[World.frozen?_setCell,World.frozen?_of_block (hb.block (B+1) hB1)];exact h.rz j
open Go.RowKit
theorem zkd {α:Type} {lt:α->α->Bool} (H:Swo lt) (x:α): ∀(O:List α) (a:Nat),a<=O.length->(∀y∈O.take a,lt y x=true)->(∀y,O[a]? =some y->lt y x=false)->
  insO lt x O=match O[a]? with
   |some y=>if ev lt y x=true then O else O.take a++x::O.drop a
   |none=>O++[x]
 |[],a,ha,_,_=>by
  have:a=0:=by simpa using ha
  subst this;rfl
 |y::r,0,_,_,h2=>by
  have h:=h2 y rfl;show(if lt y x=true then y::insO lt x r else if ev lt y x=true then y::r else x::y::r)=if ev lt y x=true then y::r else []++x::y::r;rw[if_neg (by simp[h])];rfl
 |y::r,a+1,ha,h1,h2=>by
  have hy:=h1 y (by simp);have ih:=zkd H x r a (by simpa using ha) (fun z hz=>h1 z (by simp[hz])) (fun z hz=>h2 z (by simpa using hz));show(if lt y x=true then y::insO lt x r else if ev lt y x=true then y::r else x::y::r)=_;rw[if_pos hy,ih,List.getElem?_cons_succ];cases hr:r[a]? with
  |none=>rfl
  |some z=>
   simp only;split
   ·rfl
   ·rfl
theorem zkh {α:Type} (lt:α->α->Bool) (d:List α) (k:Nat) (x:α) (h:d[k]? =some x):zap lt (d.take (k+1))=insO lt x (zap lt (d.take k)):=by
 unfold zap;rw[List.take_add_one,h,Option.toList_some,List.foldl_append];rfl
theorem zx4 {α:Type} (lt:α->α->Bool) (x:α): ∀(O:List α),(insO lt x O).length<=O.length+1
 |[]=>by simp[insO]
 |y::r=>by
  unfold insO;split
  ·have:=zx4 lt x r;simp only[z2i];omega
  ·split
   ·simp
   ·simp
theorem zdo {α:Type} (lt:α->α->Bool) (l:List α):(zap lt l).length<=l.length:=by
 have: ∀(l o:List α),(l.foldl (fun o x=>insO lt x o) o).length<=o.length+l.length:=by
  intro l;induction l with
  |nil=>intro o;simp
  |cons x l ih=>intro o;have h1:=ih (insO lt x o);have h2:=zx4 lt x o;simp only[List.foldl_cons,z2i]at*;omega
 have:=this l [];simpa[zap]using this
theorem zfu {α:Type} {lt:α->α->Bool} {O:List α} {a:Nat} {x y:α} (h: ∀z∈O.take a,lt z x=true) (hy:O[a]? =some y) (hl:lt y x=true): ∀z∈O.take (a+1),lt z x=true:=by
 intro z hz;rw[List.take_add_one,hy,Option.toList_some,z3g,z23]at hz;rcases hz with hz|rfl
 ·exact h z hz
 ·exact hl
theorem Rd.rest {W:World} {g n c size a:Nat} {xs:List Value} (h:Rd W (.slice (some ⟨g,0,none⟩) n c) n size xs) (ha:a<=n):Rd W (.slice (some ⟨g,a*size,none⟩) (n-a) (c-a)) (n-a) size (xs.drop (a*size)):=by
 obtain⟨h1,h2,A,c',he,h4⟩:=h;cases he;refine⟨by rw[z2n,h1,Nat.sub_mul],by omega,_,_,rfl,fun h0=> ?_⟩;obtain⟨b,off,h5,h6,h7⟩:=h4 (by omega);cases h5;refine⟨g,a*size,rfl,h6,fun j u hu=> ?_⟩;rw[z6f]at hu;have:=h7 (a*size+j) u hu;rw[Nat.zero_add]at this;exact this
theorem zo5 {α:Type} (cells:α->List Value) (n:Nat) (hn: ∀x,(cells x).length=n) (l:List α) (m:Nat):(l.flatMap cells).drop (m*n)=(l.drop m).flatMap cells:=by
 induction l generalizing m with
 |nil=>simp
 |cons x r ih=>
  cases m with
  |zero=>simp
  |succ m=>
   rw[List.drop_succ_cons,z3z,show(m+1)*n=n+m*n by rw[Nat.add_mul];omega,List.drop_append,hn x,List.drop_of_length_le (by rw[hn];omega),show n+m*n-n=m*n by omega,ih,z3l]
open Go.RowKit
attribute [local go_sem] Oper.semAt_some
theorem zde {fn:Func} {p:Tmp} {ty:TypeId} (h:fn.results= #[.cell p ty]) (tmps:Array Value) (P:Program) (w:World):
  (results fn tmps).run P w=((asAddr (tmps.getD p undef)).run P w).andThen fun a w₁=>(loadVar ty a).run P w₁:=by
 simp only[results,h];simp[Sem.run_bind,Result.andThen]
def keyF (f:Frc):Alw:=⟨f.tag,f.name⟩
theorem ev_A (p q:Alw):ev ltA p q=(decide (p.tag=q.tag)&&decide (p.name=q.name)):=by
 have h:ev ltA p q=ev ltP p.key q.key:=rfl;rw[h,ev_P,Bool.eq_iff_iff];simp[Alw.key]
theorem z04 (a b c d:ByteArray) (w:World):(Op.equalIn 10000 101 (.agg #[.string a,.string b]) (.agg #[.string c,.string d])).run z2f w= .ok ((a.toList==c.toList)&&(b.toList==d.toList)) w:=by
 have h2:z2f.underlying 101=some (.struct (z2f.fieldsOf 101)):=by kernel_rfl
 have h3:z2f.stoodInHeld 101=false:=by kernel_rfl
 rw[run_equalIn_agg _ _ _ _ _ h2 h3];simp only[Program.fieldsOf,Tryz.underlying101];cases h1:(a.toList==c.toList)<;>cases h4:(b.toList==d.toList)<;>simp[go_sem,Tryz.underlying9,h1,h4]
@[go_sem high] theorem eql_alw (a b c d:ByteArray) (w:World):(binOp .eql 101 (.agg #[.string a,.string b]) (.agg #[.string c,.string d])).run z2f w= .ok (.bool ((a.toList==c.toList)&&(b.toList==d.toList))) w:=by
 rw[run_eql_struct,z04];rfl
@[go_sem high] theorem neq_alw (a b c d:ByteArray) (w:World):(binOp .neq 101 (.agg #[.string a,.string b]) (.agg #[.string c,.string d])).run z2f w= .ok (.bool (!((a.toList==c.toList)&&(b.toList==d.toList)))) w:=by
 rw[run_neq_struct,z04];rfl
@[go_sem] theorem guard_alw:z2f.eqGuardType z2f.depth 101=false:=by kernel_rfl
theorem zsd (x:Frc) (w:World):Calls z2f 222 #[x.agg] w (Ret (keyF x).agg w):=by
 simp only[Frc.agg,keyF,Alw.agg,sv];generalize(⟨x.tag.toArray⟩:ByteArray)=a1 at*;generalize(⟨x.name.toArray⟩:ByteArray)=a2 at*;generalize(⟨x.value.toArray⟩:ByteArray)=a3 at*;go_enter Tryz.func222,Tryz.ntmps222;go_wp2_with fail
 ((try simp only[Exit.inBlock,Exit.then]);refine bodyPost_ret (v:= .agg #[.string a1,.string a2]) (by(first|rw[results_cell_tmp rfl]|rw[zde rfl]);go_simp) rfl ?_);exact Ret.of rfl bel
theorem zlw (x y:Alw) (w:World):Calls z2f 221 #[x.agg,y.agg] w (Ret (.bool (ltA x y)) w):=by
 have h1:Op.bytesLess (⟨x.tag.toArray⟩:ByteArray).toList (⟨y.tag.toArray⟩:ByteArray).toList=ltB x.tag y.tag:=by rw[ByteArray.toList_eq,ByteArray.toList_eq];exact zgh _ _
 have h2:Op.bytesLess (⟨x.name.toArray⟩:ByteArray).toList (⟨y.name.toArray⟩:ByteArray).toList=ltB x.name y.name:=by rw[ByteArray.toList_eq,ByteArray.toList_eq];exact zgh _ _
 have h3:((⟨x.tag.toArray⟩:ByteArray).toList==(⟨y.tag.toArray⟩:ByteArray).toList)=decide (x.tag=y.tag):=by rw[zhs]
 have HD:Hid (ltA x y=(ltB x.tag y.tag||(decide (x.tag=y.tag)&&ltB x.name y.name))):=rfl;by_cases he:x.tag=y.tag
 ·have HN:Hid (ltA x y=ltB x.name y.name):=by show _=_;rw[HD.out,he,zcy,decide_eq_true rfl];simp
  rw[decide_eq_true he]at h3;rw[HN.out];clear he HN HD h1;simp only[Alw.agg,sv];generalize ltB x.name y.name=B at*;generalize(⟨x.tag.toArray⟩:ByteArray)=a1 at*;generalize(⟨x.name.toArray⟩:ByteArray)=a2 at*;generalize(⟨y.tag.toArray⟩:ByteArray)=b1 at*;generalize(⟨y.name.toArray⟩:ByteArray)=b2 at*;go_enter Tryz.func221,Tryz.ntmps221;go_wp2_with fail
  go_ret;exact Ret.of rfl bel
 ·have HN:Hid (ltA x y=ltB x.tag y.tag):=by show _=_;rw[HD.out,decide_eq_false he];simp
  rw[decide_eq_false he]at h3;rw[HN.out];clear he HN HD h2;simp only[Alw.agg,sv];generalize ltB x.tag y.tag=B at*;generalize(⟨x.tag.toArray⟩:ByteArray)=a1 at*;generalize(⟨x.name.toArray⟩:ByteArray)=a2 at*;generalize(⟨y.tag.toArray⟩:ByteArray)=b1 at*;generalize(⟨y.name.toArray⟩:ByteArray)=b2 at*;go_enter Tryz.func221,Tryz.ntmps221;go_wp2_with fail
  go_ret;exact Ret.of rfl bel
end Go.Proofs.YtiikamobcmgekaaGreatDoor

