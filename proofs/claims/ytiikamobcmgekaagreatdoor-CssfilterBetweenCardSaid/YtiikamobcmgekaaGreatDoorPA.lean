/- Plain: what is in order; each thing once; policies; what a text of one tells; what sorting rests on. -/
import Derived.WalkKit
import Derived.BigRegion
import Derived.Laws.OwnMore
import Derived.Deep.QuietTactic
import Derived.BigQuiet
import Derived.Lib.SmallJoins
import Derived.Test.YtiikamobcmgekaaGreatDoorKB
import Derived.Test.YtiikamobcmgekaaGreatDoorProg
namespace Go.Proofs.YtiikamobcmgekaaGreatDoor
set_option maxRecDepth 100000
set_option maxHeartbeats 1600000
section
variable {α:Type}
structure Swo (lt:α->α->Bool):Prop where
 irrefl: ∀a,lt a a=false
 asymm: ∀a b,lt a b=true->lt b a=false
 le_trans: ∀a b c,lt b a=false->lt c b=false->lt c a=false
variable (lt:α->α->Bool)
def Up (l:List α):Prop:=l.Pairwise fun a b=>lt b a=false
def ev (a b:α):Bool:= !lt a b&& !lt b a
def Alike (l m:List α):Prop:= ∀a,l.filter (ev lt a)=m.filter (ev lt a)
variable {lt}
theorem Alike.refl (l:List α):Alike lt l l:=fun _=>rfl
theorem Alike.symm {l m:List α} (h:Alike lt l m):Alike lt m l:=fun a=>(h a).symm
theorem Alike.trans {l m n:List α} (h:Alike lt l m) (h2:Alike lt m n):Alike lt l n:=fun a=>(h a).trans (h2 a)
theorem Alike.app {l m l2 m2:List α} (h:Alike lt l m) (h2:Alike lt l2 m2):Alike lt (l++l2) (m++m2):=fun a=>by
 rw[List.filter_append,List.filter_append,h a,h2 a]
theorem Swo.ev_refl (H:Swo lt) (a:α):ev lt a a=true:=by simp[ev,H.irrefl]
theorem Alike.mem (H:Swo lt) {l m:List α} (h:Alike lt l m) {x:α} (hx:x∈l):x∈m:=by
 have:x∈l.filter (ev lt x):=List.mem_filter.2 ⟨hx,H.ev_refl x⟩
 rw[h x]at this
 exact(List.mem_filter.1 this).1
theorem Swo.lt_le (H:Swo lt) {a b c:α} (h:lt a b=true) (h2:lt c b=false):lt a c=true:=by
 cases h3:lt a c
 ·have:=H.le_trans b c a h2 h3
  rw[h]at this;cases this
 ·rfl
theorem Swo.le_lt (H:Swo lt) {a b c:α} (h:lt b a=false) (h2:lt b c=true):lt a c=true:=by
 cases h3:lt a c
 ·have:=H.le_trans c a b h3 h
  rw[h2]at this;cases this
 ·rfl
theorem Swo.ev_no (H:Swo lt) {a x y:α} (hx:ev lt a x=true) (hy:ev lt a y=true):lt x y=false:=by
 simp only[ev,Bool.and_eq_true,Bool.not_eq_true']at hx hy
 exact H.le_trans y a x hy.1 hx.2
theorem Alike.up_eq (H:Swo lt): ∀{l m:List α},Up lt l->Up lt m->Alike lt l m->l=m:=by
 intro l
 induction l with
 |nil=>
  intro m _ _ h
  cases m with
  |nil=>rfl
  |cons y m=>have:=h.symm.mem H (List.mem_cons_self ..);cases this
 |cons x l ih=>
  intro m hl hm h
  cases m with
  |nil=>have:=h.mem H (List.mem_cons_self ..);cases this
  |cons y m=>
   obtain⟨hl1,hl2⟩:=List.pairwise_cons.1 hl
   obtain⟨hm1,hm2⟩:=List.pairwise_cons.1 hm
   have hx:lt x y=false:=by
    rcases List.mem_cons.1 (h.mem H (List.mem_cons_self ..))with rfl|h1
    ·exact H.irrefl _
    ·exact hm1 _ h1
   have hy:lt y x=false:=by
    rcases List.mem_cons.1 (h.symm.mem H (List.mem_cons_self ..))with rfl|h1
    ·exact H.irrefl _
    ·exact hl1 _ h1
   have h1:=h x
   rw[List.filter_cons_of_pos (H.ev_refl x),List.filter_cons_of_pos (by simp[ev,hx,hy])]at h1
   obtain⟨rfl,_⟩:=List.cons.inj h1
   congr 1
   refine ih hl2 hm2 fun a=> ?_
   have h2:=h a
   cases he:ev lt a x
   ·rwa[List.filter_cons_of_neg (by simp[he]),List.filter_cons_of_neg (by simp[he])]at h2
   ·rw[List.filter_cons_of_pos he,List.filter_cons_of_pos he]at h2
    exact(List.cons.inj h2).2
theorem Alike.swap (H:Swo lt) {u v:List α} (h: ∀x∈u,∀y∈v,lt y x=true):Alike lt (u++v) (v++u):=fun a=>by
 rw[List.filter_append,List.filter_append]
 cases hu:u.filter (ev lt a)with
 |nil=>rw[List.nil_append,List.append_nil]
 |cons x u'=>
  cases hv:v.filter (ev lt a)with
  |nil=>rw[List.nil_append,List.append_nil]
  |cons y v'=>
   have hx:x∈u.filter (ev lt a):=by rw[hu];exact List.mem_cons_self ..
   have hy:y∈v.filter (ev lt a):=by rw[hv];exact List.mem_cons_self ..
   rw[List.mem_filter]at hx hy
   have h1:=h x hx.1 y hy.1
   have h2:=H.ev_no hy.2 hx.2
   rw[h1]at h2;cases h2
theorem merge_parts (H:Swo lt) {L1 L2 R1 R2 s1 s2:List α} (hA:Up lt (L1++L2)) (hB:Up lt (R1++R2)) (h1: ∀x∈L2,∀y∈R1,lt y x=true) (h2: ∀x∈L1,∀y∈R2,lt y x=false)
  (u1:Up lt s1) (a1:Alike lt s1 (L1++R1)) (u2:Up lt s2) (a2:Alike lt s2 (L2++R2)):Up lt (s1++s2)/\Alike lt (s1++s2) ((L1++L2)++(R1++R2)):=by
 obtain⟨_,_,hA3⟩:=List.pairwise_append.1 hA
 obtain⟨_,_,hB3⟩:=List.pairwise_append.1 hB
 refine⟨List.pairwise_append.2 ⟨u1,u2,fun x hx y hy=> ?_⟩, ?_⟩
 ·rcases List.mem_append.1 (a1.mem H hx)with hx|hx<;>rcases List.mem_append.1 (a2.mem H hy)with hy|hy
  ·exact hA3 x hx y hy
  ·exact h2 x hx y hy
  ·exact H.asymm _ _ (h1 y hy x hx)
  ·exact hB3 x hx y hy
 ·refine(a1.app a2).trans ?_
  rw[List.append_assoc,List.append_assoc]
  refine(Alike.refl L1).app ?_
  rw[<-List.append_assoc,<-List.append_assoc]
  exact(Alike.swap H h1).symm.app (Alike.refl R2)
theorem put_first (H:Swo lt) {x:α} {B1 B2:List α} (hB:Up lt (B1++B2)) (h1: ∀y∈B1,lt y x=true) (h2: ∀y∈B2,lt y x=false):Up lt (B1++x::B2)/\Alike lt (B1++x::B2) (x::(B1++B2)):=by
 obtain⟨hb1,hb2,hb3⟩:=List.pairwise_append.1 hB
 refine⟨List.pairwise_append.2 ⟨hb1,List.pairwise_cons.2 ⟨h2,hb2⟩,fun y hy z hz=> ?_⟩, ?_⟩
 ·rcases List.mem_cons.1 hz with rfl|hz
  ·exact H.asymm _ _ (h1 y hy)
  ·exact hb3 y hy z hz
 ·have:=(Alike.swap H (u:=[x]) (v:=B1) (fun z hz y hy=>by rw[List.mem_singleton]at hz;subst hz;exact h1 y hy)).symm.app (Alike.refl (lt:=lt) B2)
  simpa using this
theorem put_last (H:Swo lt) {y:α} {A1 A2:List α} (hA:Up lt (A1++A2)) (h1: ∀x∈A1,lt y x=false) (h2: ∀x∈A2,lt y x=true):Up lt (A1++y::A2)/\Alike lt (A1++y::A2) ((A1++A2)++[y]):=by
 obtain⟨ha1,ha2,ha3⟩:=List.pairwise_append.1 hA
 refine⟨List.pairwise_append.2 ⟨ha1,List.pairwise_cons.2 ⟨fun x hx=>H.asymm _ _ (h2 x hx),ha2⟩,fun x hx z hz=> ?_⟩, ?_⟩
 ·rcases List.mem_cons.1 hz with rfl|hz
  ·exact h1 x hx
  ·exact ha3 x hx z hz
 ·rw[List.append_assoc]
  refine(Alike.refl A1).app ?_
  have:=Alike.swap H (u:=A2) (v:=[y]) (fun x hx z hz=>by rw[List.mem_singleton]at hz;subst hz;exact h2 x hx)
  exact this.symm
end
section
variable {α:Type} {lt:α->α->Bool}
theorem Up.get (H:Swo lt) {l:List α} (h:Up lt l) {i j:Nat} (hij:i<=j) {a b:α} (ha:l[i]? =some a) (hb:l[j]? =some b):lt b a=false:=by
 obtain⟨hi,rfl⟩:=List.getElem?_eq_some_iff.1 ha
 obtain⟨hj,rfl⟩:=List.getElem?_eq_some_iff.1 hb
 rcases Nat.lt_or_eq_of_le hij with h1|h1
 ·exact(List.pairwise_iff_getElem.1 h) i j hi hj h1
 ·subst h1;exact H.irrefl _
theorem cut_facts (H:Swo lt) {A B:List α} (hA:Up lt A) (hB:Up lt B) {s t:Nat} (hs:s<=A.length) (ht:t<=B.length) (hx: ∀x y,A[s]? =some x->0<t->B[t-1]? =some y->lt y x=true)
  (hy: ∀x y,0<s->A[s-1]? =some x->B[t]? =some y->lt y x=false):(∀x∈A.drop s,∀y∈B.take t,lt y x=true)/\(∀x∈A.take s,∀y∈B.drop t,lt y x=false):=by
 constructor
 ·intro x hxm y hym
  obtain⟨i,hi⟩:=List.mem_iff_getElem?.1 hxm
  obtain⟨j,hj⟩:=List.mem_iff_getElem?.1 hym
  rw[List.getElem?_drop]at hi
  rw[List.getElem?_take]at hj
  split at hj
  ·rename_i hjt
   obtain⟨hil,_⟩:=List.getElem?_eq_some_iff.1 hi
   have h1:A[s]? =some (A[s]'(by omega)):=List.getElem?_eq_getElem (by omega)
   have h2:B[t-1]? =some (B[t-1]'(by omega)):=List.getElem?_eq_getElem (by omega)
   exact H.lt_le (H.le_lt (Up.get H hB (show j<=t-1 by omega) hj h2) (hx _ _ h1 (by omega) h2)) (Up.get H hA (show s<=s+i by omega) h1 hi)
  ·cases hj
 ·intro x hxm y hym
  obtain⟨i,hi⟩:=List.mem_iff_getElem?.1 hxm
  obtain⟨j,hj⟩:=List.mem_iff_getElem?.1 hym
  rw[List.getElem?_take]at hi
  rw[List.getElem?_drop]at hj
  split at hi
  ·rename_i his
   obtain⟨hjl,_⟩:=List.getElem?_eq_some_iff.1 hj
   have h1:A[s-1]? =some (A[s-1]'(by omega)):=List.getElem?_eq_getElem (by omega)
   have h2:B[t]? =some (B[t]'(by omega)):=List.getElem?_eq_getElem (by omega)
   have h3:=hy _ _ (by omega) h1 h2
   exact H.le_trans x _ y (Up.get H hA (show i<=s-1 by omega) hi h1) (H.le_trans _ _ _ h3 (Up.get H hB (show t<=t+j by omega) h2 hj))
  ·cases hi
def putS (d:List α) (a b:Nat) (s:List α):List α:=d.take a++s++d.drop b
def segS (d:List α) (a b:Nat):List α:=(d.drop a).take (b-a)
theorem seg_len (d:List α) {a b:Nat} (h1:a<=b) (h2:b<=d.length):(segS d a b).length=b-a:=by unfold segS;rw[List.length_take,List.length_drop];omega
theorem put_seg (d:List α) {a b:Nat} (h1:a<=b):putS d a b (segS d a b)=d:=by
 unfold putS segS
 have h:=List.take_append_drop (b-a) (d.drop a)
 rw[List.drop_drop,show a+(b-a)=b by omega]at h
 rw[List.append_assoc,h,List.take_append_drop]
theorem put_len {d s:List α} {a b:Nat} (h1:a<=b) (h2:b<=d.length) (hs:s.length=b-a):(putS d a b s).length=d.length:=by
 unfold putS;rw[List.length_append,List.length_append,List.length_take,List.length_drop];omega
theorem put_lo {d s:List α} {a b i n:Nat} (hi:i+n<=a) (ha:a<=d.length):((putS d a b s).drop i).take n=(d.drop i).take n:=by
 unfold putS
 rw[List.append_assoc,List.drop_append_of_le_length (by rw[List.length_take];omega),List.take_append_of_le_length (by rw[List.length_drop,List.length_take];omega),List.drop_take,List.take_take]
 congr 1;omega
theorem put_mid {d s:List α} {a b:Nat} (ha:a<=d.length) (hs:s.length=b-a):((putS d a b s).drop a).take (b-a)=s:=by
 unfold putS
 rw[List.append_assoc,List.drop_left' (by rw[List.length_take];omega),List.take_left' hs]
theorem put_hi {d s:List α} {a b i:Nat} (h1:a<=b) (h2:b<=d.length) (hs:s.length=b-a) (hi:b<=i):(putS d a b s).drop i=d.drop i:=by
 unfold putS
 rw[List.drop_append,List.drop_eq_nil_of_le (by rw[List.length_append,List.length_take];omega),List.nil_append,List.drop_drop,List.length_append,List.length_take]
 congr 1;omega
theorem put_alike {d s:List α} {a b:Nat} (h1:a<=b) (h:Alike lt s (segS d a b)):Alike lt (putS d a b s) d:=by
 have h2:Alike lt (putS d a b s) (putS d a b (segS d a b)):=((Alike.refl _).app h).app (Alike.refl _)
 rwa[put_seg d h1]at h2
def Runs (lt:α->α->Bool) (n:Nat) (d:List α):Prop:= ∀k,Up lt ((d.drop (k*n)).take n)
theorem Runs.whole {n:Nat} {d:List α} (h:Runs lt n d) (hn:d.length<=n):Up lt d:=by
 have:=h 0
 rwa[Nat.zero_mul,List.drop_zero,List.take_of_length_le hn]at this
def RunsTo (lt:α->α->Bool) (n a:Nat) (d:List α):Prop:= ∀k,k*n+n<=a->Up lt ((d.drop (k*n)).take n)
theorem RunsTo.put {n a:Nat} {d s:List α} (h:RunsTo lt n (a*n) d) (ha:a*n<=d.length) (b:Nat):RunsTo lt n (a*n) (putS d (a*n) b s):=fun k hk=>by
 rw[put_lo hk ha];exact h k hk
theorem RunsTo.next {n a:Nat} {d s:List α} (h:RunsTo lt n (a*n) d) (ha:a*n+n<=d.length) (hs:s.length=n) (hu:Up lt s):RunsTo lt n ((a+1)*n) (putS d (a*n) (a*n+n) s):=fun k hk=>by
 rw[Nat.succ_mul]at hk
 by_cases hka:k*n+n<=a*n
 ·exact h.put (by omega) _ k hka
 ·have hkn:k*n=a*n:=by
   by_cases h0:n=0
   ·subst h0;simp
   ·have h1:k<=a:=by
     have:=Nat.le_of_mul_le_mul_right (show k*n<=a*n by omega) (by omega:0<n)
     exact this
    have h2: ¬k+1<=a:=fun h=>hka (by have:=Nat.mul_le_mul_right n h;rw[Nat.succ_mul]at this;exact this)
    have:k=a:=by omega
    rw[this]
  rw[hkn]
  have:=put_mid (d:=d) (s:=s) (a:=a*n) (b:=a*n+n) (by omega) (by omega)
  rw[show a*n+n-a*n=n by omega]at this
  rw[this];exact hu
theorem RunsTo.last {n a:Nat} {d s:List α} (_hn:0<n) (h:RunsTo lt n (a*n) d) (ha:a*n<=d.length) (hd:d.length<a*n+n) (hs:s.length=d.length-a*n) (hu:Up lt s):Runs lt n (putS d (a*n) d.length s):=fun k=>by
 by_cases hka:k*n+n<=a*n
 ·exact h.put ha _ k hka
 ·have h2:a<=k:=by
   refine Classical.byContradiction fun h=>hka ?_
   have:=Nat.mul_le_mul_right n (show k+1<=a by omega)
   rwa[Nat.succ_mul]at this
  have hlen:(putS d (a*n) d.length s).length=d.length:=put_len ha (Nat.le_refl _) hs
  rcases Nat.lt_or_eq_of_le h2 with h3|h3
  ·have:=Nat.mul_le_mul_right n h3
   rw[Nat.succ_mul]at this
   rw[List.drop_eq_nil_of_le (by rw[hlen];omega)]
   simp[Up]
  ·subst h3
   have:=put_mid (d:=d) (s:=s) (a:=a*n) (b:=d.length) ha hs
   rw[List.take_of_length_le (by rw[List.length_drop,hlen];omega)]at this
   rw[List.take_of_length_le (by rw[List.length_drop,hlen];omega),this];exact hu
structure Half (lt:α->α->Bool) (n a:Nat) (d:List α):Prop where
 done:RunsTo lt (2*n) (a*(2*n)) d
 left: ∀k,a*(2*n)<=k*n->Up lt ((d.drop (k*n)).take n)
theorem Half.start {n:Nat} {d:List α} (_hn:0<n) (h:Runs lt n d):Half lt n 0 d:=⟨fun k hk=>by rw[Nat.zero_mul]at hk;omega,fun k _=>h k⟩
theorem Half.parts {n a:Nat} {d:List α} (h:Half lt n a d):Up lt (segS d (a*(2*n)) (a*(2*n)+n))/\Up lt ((d.drop (a*(2*n)+n)).take n):=by
 have e1:a*(2*n)=2*a*n:=by rw[<-Nat.mul_assoc,Nat.mul_comm a 2]
 constructor
 ·have:=h.left (2*a) (by omega)
  unfold segS
  rw[show a*(2*n)+n-a*(2*n)=n by omega,e1];exact this
 ·have e2:(2*a+1)*n=2*a*n+n:=by rw[Nat.add_mul,Nat.one_mul]
  have:=h.left (2*a+1) (by omega)
  rw[e2]at this
  rw[e1];exact this
theorem Half.next {n a:Nat} {d s:List α} (h:Half lt n a d) (ha:a*(2*n)+2*n<=d.length) (hs:s.length=2*n) (hu:Up lt s):Half lt n (a+1) (putS d (a*(2*n)) (a*(2*n)+2*n) s):=
 ⟨h.done.next ha hs hu,fun k hk=>by
  rw[Nat.succ_mul]at hk
  rw[put_hi (by omega) ha (by omega) hk]
  exact h.left k (by omega)⟩
theorem Half.last {n a:Nat} {d s:List α} (hn:0<n) (h:Half lt n a d) (ha:a*(2*n)<=d.length) (hd:d.length<a*(2*n)+2*n) (hs:s.length=d.length-a*(2*n)) (hu:Up lt s):Runs lt (2*n) (putS d (a*(2*n)) d.length s):=
 h.done.last (by omega) ha hd hs hu
theorem Half.stay {n a:Nat} {d:List α} (hn:0<n) (h:Half lt n a d) (ha:a*(2*n)<=d.length) (hd:d.length<=a*(2*n)+n):Runs lt (2*n) d:=by
 have h1:=h.parts.1
 have e:segS d (a*(2*n)) (a*(2*n)+n)=segS d (a*(2*n)) d.length:=by
  unfold segS
  rw[List.take_of_length_le (by rw[List.length_drop];omega),List.take_of_length_le (by rw[List.length_drop];omega)]
 rw[e]at h1
 have:=h.last hn ha (by omega) (seg_len d ha (Nat.le_refl _)) h1
 rwa[put_seg d ha]at this
theorem put_in {A1 A2:List α} {y:α} (H:Swo lt) (hA:Up lt (A1++A2)) (h1: ∀x,A1.getLast? =some x->lt y x=false) (h2: ∀x∈A2,lt y x=true):Up lt (A1++y::A2)/\Alike lt (A1++y::A2) ((A1++A2)++[y]):=by
 refine put_last H hA (fun x hx=> ?_) h2
 obtain⟨hA1,_,_⟩:=List.pairwise_append.1 hA
 cases hl:A1.getLast? with
 |none=>rw[List.getLast?_eq_none_iff]at hl;subst hl;cases hx
 |some z=>
  have h3:=h1 z hl
  obtain⟨i,hi⟩:=List.mem_iff_getElem?.1 hx
  rw[List.getLast?_eq_getElem?]at hl
  obtain⟨hil,_⟩:=List.getElem?_eq_some_iff.1 hi
  exact H.le_trans x z y (Up.get H hA1 (show i<=A1.length-1 by omega) hi hl) h3
end
section
variable {α:Type} {lt:α->α->Bool}
theorem ev_symm (a b:α):ev lt a b=ev lt b a:=by unfold ev;rw[Bool.and_comm]
theorem Swo.ev_join (H:Swo lt) {a x y:α} (hx:ev lt a x=true) (hy:ev lt a y=true):ev lt x y=true:=by
 have h1:=H.ev_no hx hy
 have h2:=H.ev_no hy hx
 simp[ev,h1,h2]
theorem Alike.len (H:Swo lt): ∀(n:Nat) (l m:List α),l.length<=n->Alike lt l m->l.length=m.length:=by
 intro n
 induction n with
 |zero=>
  intro l m hl h
  have h0:l=[]:=List.eq_nil_of_length_eq_zero (by omega)
  subst h0
  cases m with
  |nil=>rfl
  |cons y m=>have:=h.symm.mem H (List.mem_cons_self ..);cases this
 |succ n ih=>
  intro l m hl h
  cases l with
  |nil=>
   cases m with
   |nil=>rfl
   |cons y m=>have:=h.symm.mem H (List.mem_cons_self ..);cases this
  |cons x l=>
   have hlen: ∀k:List α,k.length=(k.filter (ev lt x)).length+(k.filter (fun z=> !ev lt x z)).length:=fun k=>by
    induction k with
    |nil=>rfl
    |cons z k ihk=>cases hz:ev lt x z<;>simp[hz,ihk]<;>omega
   have hc:Alike lt ((x::l).filter (fun z=> !ev lt x z)) (m.filter (fun z=> !ev lt x z)):=fun a=>by
    rw[List.filter_filter,List.filter_filter]
    cases hxa:ev lt a x
    ·have e: ∀z,(ev lt a z&& !ev lt x z)=ev lt a z:=fun z=>by
      cases h1:ev lt a z
      ·rfl
      ·cases h2:ev lt x z
       ·rfl
       ·rw[ev_symm]at h1 h2
        have:=H.ev_join h1 h2
        rw[this]at hxa;cases hxa
     simp only[e]
     exact h a
    ·have e: ∀z,(ev lt a z&& !ev lt x z)=false:=fun z=>by
      cases h1:ev lt a z
      ·rfl
      ·rw[H.ev_join hxa h1];rfl
     simp only[e]
     rw[List.filter_eq_nil_iff.2 (fun _ _=>by simp),List.filter_eq_nil_iff.2 (fun _ _=>by simp)]
   have h1:=congrArg List.length (h x)
   have h2:=ih _ _ (by
    have:=hlen (x::l)
    rw[List.filter_cons_of_pos (H.ev_refl x)]at this
    simp only[List.length_cons]at this hl
    omega) hc
   rw[hlen (x::l),hlen m,h1,h2]
end
section
variable {α:Type} (eq:α->α->Bool)
def keepF:α->List α->List α
 |_,[]=>[]
 |p,y::r=>if eq y p=true then keepF y r else y::keepF y r
def compactL:List α->List α
 |[]=>[]
 |x::r=>x::keepF eq x r
variable {eq}
theorem keep_step {d:List α} {i:Nat} {x y:α} (hy:d[i]? =some y):keepF eq x (d.drop i)=if eq y x=true then keepF eq y (d.drop (i+1))else y::keepF eq y (d.drop (i+1)):=by
 obtain⟨hi,rfl⟩:=List.getElem?_eq_some_iff.1 hy
 rw[List.drop_eq_getElem_cons hi]
 rfl
theorem keep_end {d:List α} {i:Nat} {x:α} (h:d.length<=i):keepF eq x (d.drop i)=[]:=by
 rw[List.drop_eq_nil_of_le h];rfl
theorem keep_rises {lt:α->α->Bool} (H:Swo lt) (he: ∀x y,eq y x=false->lt y x=false->lt x y=true):
  ∀{p:α} {l:List α},Up lt (p::l)->(keepF eq p l).Pairwise (fun a b=>lt a b=true)/\ ∀x∈keepF eq p l,lt p x=true:=by
 intro p l
 induction l generalizing p with
 |nil=>intro _;exact⟨List.Pairwise.nil,fun x hx=>by cases hx⟩
 |cons y r ih=>
  intro h
  obtain⟨h1,h2⟩:=List.pairwise_cons.1 h
  obtain⟨k1,k2⟩:=ih h2
  have hpy:=h1 y List.mem_cons_self
  have up: ∀x∈keepF eq y r,lt p x=true:=fun x hx=>by
   cases hl:lt p x
   ·exact absurd (k2 x hx) (by rw[H.le_trans x p y hl hpy];simp)
   ·rfl
  unfold keepF
  split
  ·exact⟨k1,up⟩
  ·next hn=>
   have hn2:lt p y=true:=he p y (by simpa using hn) hpy
   exact⟨List.pairwise_cons.2 ⟨k2,k1⟩,fun x hx=>by
    rcases List.mem_cons.1 hx with rfl|hx
    ·exact hn2
    ·exact up x hx⟩
theorem compact_rises {lt:α->α->Bool} (H:Swo lt) (he: ∀x y,eq y x=false->lt y x=false->lt x y=true):
  ∀{l:List α},Up lt l->(compactL eq l).Pairwise (fun a b=>lt a b=true)
 |[],_=>List.Pairwise.nil
 |_::_,h=>by
  obtain⟨k1,k2⟩:=keep_rises H he h
  exact List.pairwise_cons.2 ⟨k2,k1⟩
end
section
variable {α:Type} {lt:α->α->Bool}
def insO (lt:α->α->Bool) (x:α):List α->List α
 |[]=>[x]
 |y::r=>if lt y x=true then y::insO lt x r else if ev lt y x=true then y::r else x::y::r
def neatL (lt:α->α->Bool) (l:List α):List α:=l.foldl (fun o x=>insO lt x o) []
def Rise (lt:α->α->Bool) (l:List α):Prop:=l.Pairwise fun a b=>lt a b=true
theorem Rise.up (H:Swo lt) {l:List α} (h:Rise lt l):Up lt l:=List.Pairwise.imp (fun hab=>H.asymm _ _ hab) h
theorem ev_lt_no {a y z:α} (H:Swo lt) (hy:ev lt a y=true) (h:lt y z=true):ev lt a z=false:=by
 cases hz:ev lt a z
 ·rfl
 ·have:=H.ev_no hy hz
  rw[this]at h;cases h
theorem filter_none {p:α->Bool} {l:List α} (h: ∀z∈l,p z=false):l.filter p=[]:=by
 rw[List.filter_eq_nil_iff]
 intro z hz;rw[h z hz];simp
theorem rise_one (H:Swo lt) (a:α): ∀{l:List α},Rise lt l->(l.filter (ev lt a)).length<=1
 |[],_=>by simp
 |y::r,h=>by
  obtain⟨h1,h2⟩:=List.pairwise_cons.1 h
  cases hy:ev lt a y
  ·rw[List.filter_cons_of_neg (by simp[hy])]
   exact rise_one H a h2
  ·rw[List.filter_cons_of_pos hy,filter_none (fun z hz=>ev_lt_no H hy (h1 z hz))]
   simp
theorem ins_mem {x z:α}: ∀{o:List α},z∈insO lt x o->z=x\/z∈o
 |[],h=>by rw[insO,List.mem_singleton]at h;exact .inl h
 |y::r,h=>by
  unfold insO at h
  split at h
  ·rcases List.mem_cons.1 h with rfl|h
   ·exact .inr List.mem_cons_self
   ·rcases ins_mem h with h|h
    ·exact .inl h
    ·exact .inr (List.mem_cons_of_mem _ h)
  ·split at h
   ·exact .inr h
   ·rcases List.mem_cons.1 h with rfl|h
    ·exact .inl rfl
    ·exact .inr h
theorem ins_rise (H:Swo lt) (x:α): ∀{o:List α},Rise lt o->Rise lt (insO lt x o)
 |[],_=>List.pairwise_singleton _ _
 |y::r,h=>by
  obtain⟨h1,h2⟩:=List.pairwise_cons.1 h
  unfold insO
  split
  ·next hyx=>
   refine List.pairwise_cons.2 ⟨fun z hz=> ?_,ins_rise H x h2⟩
   rcases ins_mem hz with rfl|hz
   ·exact hyx
   ·exact h1 z hz
  ·next hyx=>
   split
   ·exact h
   ·next he=>
    have hxy:lt x y=true:=by
     simp only[ev,Bool.and_eq_true,Bool.not_eq_true']at he
     cases hl:lt x y
     ·exact absurd ⟨by simpa using hyx,hl⟩ he
     ·rfl
    refine List.pairwise_cons.2 ⟨fun z hz=> ?_,h⟩
    rcases List.mem_cons.1 hz with rfl|hz
    ·exact hxy
    ·exact H.lt_le hxy (H.asymm _ _ (h1 z hz))
theorem ins_filter (H:Swo lt) (a x:α): ∀{o:List α},Rise lt o->(insO lt x o).filter (ev lt a)=(o.filter (ev lt a)++[x].filter (ev lt a)).take 1
 |[],_=>by
  rw[insO,List.filter_nil,List.nil_append]
  cases hx:ev lt a x<;>simp[hx]
 |y::r,h=>by
  obtain⟨h1,h2⟩:=List.pairwise_cons.1 h
  have hl:=rise_one H a h
  unfold insO
  split
  ·next hyx=>
   cases hy:ev lt a y
   ·rw[List.filter_cons_of_neg (by simp[hy]),List.filter_cons_of_neg (by simp[hy])]
    exact ins_filter H a x h2
   ·rw[List.filter_cons_of_pos hy,List.filter_cons_of_pos hy,filter_none (l:=insO lt x r) (fun z hz=> ?_)]
    ·simp
    ·rcases ins_mem hz with rfl|hz
     ·exact ev_lt_no H hy hyx
     ·exact ev_lt_no H hy (h1 z hz)
  ·next hyx=>
   split
   ·next he=>
    cases hy:ev lt a y
    ·have hx:ev lt a x=false:=by
      cases hx:ev lt a x
      ·rfl
      ·have h8:ev lt y a=true:=H.ev_join (a:=x) (by rw[ev_symm];exact he) (by rw[ev_symm];exact hx)
       rw[ev_symm,hy]at h8;cases h8
     rw[List.filter_cons_of_neg (l:=[]) (by simp[hx]),List.filter_nil,List.append_nil,List.take_of_length_le hl]
    ·rw[List.filter_cons_of_pos hy,filter_none (fun z hz=>ev_lt_no H hy (h1 z hz))]
     simp
   ·next he=>
    have hxy:lt x y=true:=by
     simp only[ev,Bool.and_eq_true,Bool.not_eq_true']at he
     cases hl:lt x y
     ·exact absurd ⟨by simpa using hyx,hl⟩ he
     ·rfl
    cases hx:ev lt a x
    ·rw[List.filter_cons_of_neg (a:=x) (l:=y::r) (by simp[hx]),List.filter_cons_of_neg (a:=x) (l:=[]) (by simp[hx]),List.filter_nil,List.append_nil,List.take_of_length_le hl]
    ·have hn:(y::r).filter (ev lt a)=[]:=filter_none fun z hz=>by
      rcases List.mem_cons.1 hz with rfl|hz
      ·exact ev_lt_no H hx hxy
      ·exact ev_lt_no H hx (H.lt_le hxy (H.asymm _ _ (h1 z hz)))
     rw[List.filter_cons_of_pos (a:=x) (l:=y::r) hx,hn,List.filter_cons_of_pos (a:=x) (l:=[]) hx,List.filter_nil]
     simp
theorem neat_fold (H:Swo lt) (a:α): ∀(l o:List α),Rise lt o->Rise lt (l.foldl (fun o x=>insO lt x o) o)/\(l.foldl (fun o x=>insO lt x o) o).filter (ev lt a)=(o.filter (ev lt a)++l.filter (ev lt a)).take 1
 |[],o,h=>⟨h,by rw[List.filter_nil,List.append_nil,List.foldl_nil,List.take_of_length_le (rise_one H a h)]⟩
 |x::l,o,h=>by
  obtain⟨h1,h2⟩:=neat_fold H a l (insO lt x o) (ins_rise H x h)
  refine⟨h1, ?_⟩
  rw[List.foldl_cons,h2,ins_filter H a x h]
  have hl:=rise_one H a h
  cases ho:o.filter (ev lt a)with
  |cons u v=>simp
  |nil=>
   rw[List.nil_append,List.nil_append]
   cases hx:ev lt a x
   ·rw[List.filter_cons_of_neg (a:=x) (l:=[]) (by simp[hx]),List.filter_cons_of_neg (a:=x) (l:=l) (by simp[hx]),List.filter_nil,List.take_nil,List.nil_append]
   ·rw[List.filter_cons_of_pos (a:=x) (l:=[]) hx,List.filter_cons_of_pos (a:=x) (l:=l) hx,List.filter_nil]
    simp
theorem neat_rise (H:Swo lt) (l:List α):Rise lt (neatL lt l):=by
 cases l with
 |nil=>exact List.Pairwise.nil
 |cons a l=>exact(neat_fold H a (a::l) [] List.Pairwise.nil).1
theorem neat_filter (H:Swo lt) (l:List α) (a:α):(neatL lt l).filter (ev lt a)=(l.filter (ev lt a)).take 1:=by
 have:=(neat_fold H a l [] List.Pairwise.nil).2
 rwa[List.filter_nil,List.nil_append]at this
theorem keep_he (_H:Swo lt): ∀x y,ev lt y x=false->lt y x=false->lt x y=true:=fun x y h1 h2=>by
 simp only[ev,Bool.and_eq_false_iff,Bool.not_eq_false']at h1
 rcases h1 with h1|h1
 ·rw[h1]at h2;cases h2
 ·exact h1
theorem keep_filter (H:Swo lt) (a:α): ∀(l:List α) (p:α),Up lt (p::l)->(keepF (ev lt) p l).filter (ev lt a)=if ev lt a p=true then []else(l.filter (ev lt a)).take 1
 |[],p,_=>by
  unfold keepF
  cases hp:ev lt a p<;>simp
 |y::r,p,h=>by
  obtain⟨h1,h2⟩:=List.pairwise_cons.1 h
  have hk:=(keep_rises H (keep_he H) h).2
  split
  ·next hp=>exact filter_none fun z hz=>ev_lt_no H hp (hk z hz)
  ·next hp=>
   unfold keepF
   split
   ·next he=>
    have hy: ¬ev lt a y=true:=fun hy=>by
     have h8:ev lt a p=true:=by
      have h7:ev lt y p=true:=he
      have h6:ev lt y a=true:=by rw[ev_symm];exact hy
      exact H.ev_join h6 h7
     exact hp h8
    rw[keep_filter H a r y h2,if_neg hy,List.filter_cons_of_neg hy]
   ·next he=>
    have hky:=(keep_rises H (keep_he H) h2).2
    cases hy:ev lt a y
    ·rw[List.filter_cons_of_neg (by simp[hy]),List.filter_cons_of_neg (by simp[hy]),keep_filter H a r y h2,if_neg (by simp[hy])]
    ·rw[List.filter_cons_of_pos hy,List.filter_cons_of_pos hy,filter_none (fun z hz=>ev_lt_no H hy (hky z hz))]
     simp
theorem compact_filter (H:Swo lt) (a:α) {l:List α} (h:Up lt l):(compactL (ev lt) l).filter (ev lt a)=(l.filter (ev lt a)).take 1:=by
 cases l with
 |nil=>rfl
 |cons x r=>
  unfold compactL
  cases hx:ev lt a x
  ·rw[List.filter_cons_of_neg (by simp[hx]),List.filter_cons_of_neg (by simp[hx]),keep_filter H a r x h,if_neg (by simp[hx])]
  ·rw[List.filter_cons_of_pos hx,List.filter_cons_of_pos hx,keep_filter H a r x h,if_pos hx]
   simp
theorem neat_sorted (H:Swo lt) {s d:List α} (hu:Up lt s) (ha:Alike lt s d):compactL (ev lt) s=neatL lt d:=by
 refine Alike.up_eq H ?_ ((neat_rise H d).up H) ?_
 ·exact List.Pairwise.imp (fun hab=>H.asymm _ _ hab) (compact_rises H (keep_he H) hu)
 ·intro a
  rw[compact_filter H a hu,neat_filter H d a,ha a]
theorem neat_of_rise (H:Swo lt) {l:List α} (h:Rise lt l):neatL lt l=l:=by
 refine Alike.up_eq H ((neat_rise H l).up H) (h.up H) fun a=> ?_
 rw[neat_filter H l a,List.take_of_length_le (rise_one H a h)]
theorem neat_again (H:Swo lt) (l:List α):neatL lt (neatL lt l)=neatL lt l:=neat_of_rise H (neat_rise H l)
theorem neat_mem (H:Swo lt) {l:List α} {x:α} (h:x∈neatL lt l):x∈l:=by
 have h1:x∈(neatL lt l).filter (ev lt x):=List.mem_filter.2 ⟨h,H.ev_refl x⟩
 rw[neat_filter H l x]at h1
 exact(List.mem_filter.1 (List.mem_of_mem_take h1)).1
end
def ltB:Bs->Bs->Bool
 |_,[]=>false
 |[],_::_=>true
 |a::aa,b::bs=>if a.toNat<b.toNat then true else if b.toNat<a.toNat then false else ltB aa bs
theorem ltB_irrefl: ∀a,ltB a a=false
 |[]=>rfl
 |a::aa=>by simp[ltB,ltB_irrefl aa]
theorem ltB_asymm: ∀a b,ltB a b=true->ltB b a=false
 |[],[],h=>by simp[ltB]at h
 |_::_,[],h=>by simp[ltB]at h
 |[],_::_,_=>rfl
 |a::aa,b::bs,h=>by
  simp only[ltB]at h ⊢
  split at h
  ·rename_i h1
   rw[if_neg (by omega),if_pos h1]
  ·split at h
   ·cases h
   ·rename_i h1 h2
    rw[if_neg h2,if_neg h1]
    exact ltB_asymm aa bs h
theorem ltB_tri: ∀a b,ltB a b=false->ltB b a=false->a=b
 |[],[],_,_=>rfl
 |_::_,[],_,h=>by simp[ltB]at h
 |[],_::_,h,_=>by simp[ltB]at h
 |a::aa,b::bs,h,h'=>by
  simp only[ltB]at h h'
  split at h
  ·cases h
  ·rename_i h1
   rw[if_neg h1]at h'
   split at h'
   ·cases h'
   ·rename_i h2
    rw[if_neg h2]at h
    have:a=b:=by
     apply UInt8.toNat_inj.1;omega
    rw[this,ltB_tri aa bs h h']
theorem ltB_le_trans: ∀a b c,ltB b a=false->ltB c b=false->ltB c a=false
 |[],b,c,h1,h2=>by
  cases b with
  |nil=>exact h2
  |cons x b=>
   cases c with
   |nil=>simp[ltB]at h2
   |cons y c=>rfl
 |a::aa,[],c,h1,h2=>by simp[ltB]at h1
 |a::aa,b::bs,[],h1,h2=>by simp[ltB]at h2
 |a::aa,b::bs,c::cs,h1,h2=>by
  simp only[ltB]at h1 h2 ⊢
  split at h1
  ·cases h1
  ·split at h2
   ·cases h2
   ·rename_i q1 q2
    rw[if_neg (by omega)]
    split
    ·rfl
    ·rename_i q3
     rw[if_neg (by omega)]at h1 h2
     exact ltB_le_trans aa bs cs h1 h2
theorem swoB:Swo ltB:=⟨ltB_irrefl,ltB_asymm,ltB_le_trans⟩
def cmpB (a b:Bs):Int:=if ltB a b then-1 else if a=b then 0 else 1
theorem cmpB_lt (a b:Bs):decide (cmpB a b<0)=ltB a b:=by
 unfold cmpB
 cases ltB a b
 ·by_cases h:a=b<;>simp[h]
 ·simp
theorem cmpB_eq (a b:Bs):decide (cmpB a b=0)=decide (a=b):=by
 unfold cmpB
 cases h:ltB a b
 ·by_cases h:a=b<;>simp[h]
 ·have:a≠b:=fun e=>by rw[e,ltB_irrefl]at h;cases h
  simp[this]
theorem ev_B (a b:Bs):ev ltB a b=decide (a=b):=by
 rw[Bool.eq_iff_iff]
 simp only[ev,Bool.and_eq_true,Bool.not_eq_true',decide_eq_true_eq]
 constructor
 ·rintro⟨h1,h2⟩;exact ltB_tri a b h1 h2
 ·rintro rfl;exact⟨ltB_irrefl a,ltB_irrefl a⟩
def ltP (p q:Bs × Bs):Bool:=ltB p.1 q.1||(decide (p.1=q.1)&&ltB p.2 q.2)
def cmpP (p q:Bs × Bs):Int:=if cmpB p.1 q.1≠0 then cmpB p.1 q.1 else cmpB p.2 q.2
theorem cmpP_lt (p q:Bs × Bs):decide (cmpP p q<0)=ltP p q:=by
 have h1:=cmpB_lt p.1 q.1
 have h2:=cmpB_eq p.1 q.1
 have h3:=cmpB_lt p.2 q.2
 unfold cmpP ltP
 by_cases h:cmpB p.1 q.1=0
 ·rw[if_neg (by simpa using h),h3]
  rw[h]at h1 h2
  rw[<-h1,<-h2];simp
 ·rw[if_pos h,h1]
  rw[<-h2,decide_eq_false h];simp
theorem cmpP_eq (p q:Bs × Bs):decide (cmpP p q=0)=decide (p=q):=by
 have h2:=cmpB_eq p.1 q.1
 have h4:=cmpB_eq p.2 q.2
 unfold cmpP
 by_cases h:cmpB p.1 q.1=0
 ·rw[if_neg (by simpa using h),h4]
  rw[decide_eq_true h]at h2
  have h5:p.1=q.1:=of_decide_eq_true h2.symm
  rw[decide_eq_decide]
  exact⟨fun h6=>Prod.ext h5 h6,fun h6=>by rw[h6]⟩
 ·rw[if_pos h,h2,decide_eq_decide]
  constructor
  ·intro h6;exact absurd (of_decide_eq_true (h2.trans (decide_eq_true h6))) h
  ·intro h6;exact absurd (of_decide_eq_true (h2.trans (decide_eq_true (by rw[h6])))) h
theorem swoP:Swo ltP where
 irrefl p:=by simp[ltP,ltB_irrefl]
 asymm p q h:=by
  unfold ltP at h ⊢
  simp only[Bool.or_eq_true,Bool.and_eq_true,decide_eq_true_eq,Bool.or_eq_false_iff,Bool.and_eq_false_iff,decide_eq_false_iff_not]at h ⊢
  rcases h with h|⟨h1,h2⟩
  ·exact⟨ltB_asymm _ _ h,.inl fun e=>by rw[e,ltB_irrefl]at h;cases h⟩
  ·exact⟨by rw[h1,ltB_irrefl],.inr (ltB_asymm _ _ h2)⟩
 le_trans p q r h1 h2:=by
  unfold ltP at*
  simp only[Bool.or_eq_false_iff,Bool.and_eq_false_iff,decide_eq_false_iff_not]at*
  obtain⟨a1,a2⟩:=h1
  obtain⟨b1,b2⟩:=h2
  refine⟨ltB_le_trans _ _ _ a1 b1, ?_⟩
  by_cases e:r.1=p.1
  ·right
   have e1:q.1=p.1:=ltB_tri _ _ a1 (by rw[<-e];exact b1)
   have e2:r.1=q.1:=by rw[e,e1]
   rcases a2 with a2|a2
   ·exact absurd e1 a2
   ·rcases b2 with b2|b2
    ·exact absurd e2 b2
    ·exact ltB_le_trans _ _ _ a2 b2
  ·exact .inl e
theorem Swo.comap {α β:Type} {lt:β->β->Bool} (H:Swo lt) (f:α->β):Swo fun a b=>lt (f a) (f b):=⟨fun _=>H.irrefl _,fun _ _=>H.asymm _ _,fun _ _ _=>H.le_trans _ _ _⟩
theorem bytes_less: ∀a b:Bs,Op.bytesLess a b=ltB a b:=by
 intro a
 induction a with
 |nil=>intro b;cases b<;>simp[Op.bytesLess,ltB]
 |cons x a ih=>
  intro b
  cases b with
  |nil=>simp[Op.bytesLess,ltB]
  |cons y b=>
   have e:Op.bytesLess (x::a) (y::b)=(decide (x<y)||(x==y&&Op.bytesLess a b)):=rfl
   rw[e,ih b]
   simp only[ltB]
   have l1:(x<y)↔x.toNat<y.toNat:=UInt8.lt_iff_toNat_lt
   by_cases h1:x.toNat<y.toNat
   ·rw[if_pos h1,decide_eq_true (l1.2 h1)];rfl
   ·rw[if_neg h1,decide_eq_false (fun h=>h1 (l1.1 h))]
    by_cases h2:y.toNat<x.toNat
    ·have:(x==y)=false:=by rw[beq_eq_false_iff_ne];intro h3;rw[h3]at h2;omega
     rw[if_pos h2,this];rfl
    ·have:(x==y)=true:=by rw[beq_iff_eq];apply UInt8.toNat_inj.1;omega
     rw[if_neg h2,this];rfl
open Go.RowKit
structure Alw where
 tag:Bs
 name:Bs
deriving DecidableEq
structure Frc where
 tag:Bs
 name:Bs
 value:Bs
deriving DecidableEq
def Alw.cells (x:Alw):List Value:=[sv x.tag,sv x.name]
def Frc.cells (x:Frc):List Value:=[sv x.tag,sv x.name,sv x.value]
def Alw.key (x:Alw):Bs × Bs:=(x.tag,x.name)
def Frc.key (x:Frc):Bs × Bs:=(x.tag,x.name)
def Alw.agg (x:Alw):Value:= .agg #[sv x.tag,sv x.name]
def Frc.agg (x:Frc):Value:= .agg #[sv x.tag,sv x.name,sv x.value]
def ltA (x y:Alw):Bool:=ltP x.key y.key
def ltF (x y:Frc):Bool:=ltP x.key y.key
theorem swoA:Swo ltA:=swoP.comap Alw.key
theorem swoF:Swo ltF:=swoP.comap Frc.key
theorem set_mid {α:Type} (L R:List α) (x y:α) {i:Nat} (hi:i=L.length):(L++x::R).set i y=L++y::R:=by
 subst hi
 rw[List.set_append_right _ _ (Nat.le_refl _),Nat.sub_self];rfl
theorem get_mid {α:Type} (L R:List α) (x:α) {i:Nat} (hi:i=L.length):(L++x::R)[i]? =some x:=by
 subst hi
 rw[List.getElem?_append_right (Nat.le_refl _),Nat.sub_self];rfl
theorem split_at {α:Type} {d:List α} {i:Nat} (hi:i<d.length): ∃L x R,d=L++x::R/\L.length=i:=⟨d.take i,d[i],d.drop (i+1),by rw[List.getElem_cons_drop,List.take_append_drop],by rw[List.length_take];omega⟩
theorem flat_set2 {α:Type} (cells:α->List Value) (hn: ∀x,(cells x).length=2) (d:List α) (i:Nat) (hi:i<d.length) (x:α) {a b:Value} (hx:cells x=[a,b]):((d.flatMap cells).set (i*2) a).set (i*2+1) b=(d.set i x).flatMap cells:=by
 obtain⟨L,y,R,rfl,rfl⟩:=split_at hi
 have hL:=flat_len cells 2 hn L
 rw[set_mid _ _ _ _ rfl,List.flatMap_append,List.flatMap_append,List.flatMap_cons,List.flatMap_cons,hx]
 have hy:=hn y
 match hc:cells y,hy with
 |[p,q],_=>
  rw[<-hL]
  rw[show [p,q]++R.flatMap cells=p::q::R.flatMap cells from rfl,set_mid _ _ _ _ rfl]
  rw[show L.flatMap cells++a::q::R.flatMap cells=(L.flatMap cells++[a])++q::R.flatMap cells by simp,set_mid _ _ _ _ (by simp)]
  simp
theorem flat_set3 {α:Type} (cells:α->List Value) (hn: ∀x,(cells x).length=3) (d:List α) (i:Nat) (hi:i<d.length) (x:α) {a b c:Value} (hx:cells x=[a,b,c]):(((d.flatMap cells).set (i*3) a).set (i*3+1) b).set (i*3+2) c=(d.set i x).flatMap cells:=by
 obtain⟨L,y,R,rfl,rfl⟩:=split_at hi
 have hL:=flat_len cells 3 hn L
 rw[set_mid _ _ _ _ rfl,List.flatMap_append,List.flatMap_append,List.flatMap_cons,List.flatMap_cons,hx]
 have hy:=hn y
 match hc:cells y,hy with
 |[p,q,r],_=>
  rw[<-hL]
  rw[show [p,q,r]++R.flatMap cells=p::q::r::R.flatMap cells from rfl,set_mid _ _ _ _ rfl]
  rw[show L.flatMap cells++a::q::r::R.flatMap cells=(L.flatMap cells++[a])++q::r::R.flatMap cells by simp,set_mid _ _ _ _ (by simp)]
  rw[show L.flatMap cells++[a]++b::r::R.flatMap cells=(L.flatMap cells++[a,b])++r::R.flatMap cells by simp,set_mid _ _ _ _ (by simp)]
  simp
theorem row_turned {W W':World} {B g cap size n:Nat} {e:TypeId} {xs:List Value} {pv:Nat->Prop} (h:W.ownsRow B e size (.slice (some ⟨g,0,none⟩) n cap) n xs) (ht:Turned pv W W') (hp: ¬pv g):W'.ownsRow B e size (.slice (some ⟨g,0,none⟩) n cap) n xs:=by
 refine⟨h.1, ?_⟩
 rcases h.2 with⟨h1,_⟩|⟨g',cap',cur,h1,h2,h3,h4⟩
 ·cases h1
 ·cases h1
  exact .inr ⟨g,cap,cur,rfl,h2,(ht.block g (Array.getElem?_eq_some_iff.1 h3).1 hp).trans h3,h4⟩
theorem row_lt {W:World} {B g cap size n:Nat} {e:TypeId} {xs:List Value} (h:W.ownsRow B e size (.slice (some ⟨g,0,none⟩) n cap) n xs):g<W.heap.size:=(h.lt g rfl).2
open Go.RowKit
theorem isNaNS_any (x:ByteArray) (W:World):Calls Tryz.prog 195 #[.string x] W (Ret (.bool false) W):=by
 go_enter Tryz.func195,Tryz.ntmps195
 go_wp2_with fail
 go_ret
 exact Ret.of rfl bel
theorem cmpS_any (x y:Bs) (W:World):Calls Tryz.prog 118 #[sv x,sv y] W (Ret (.int .i64 (cmpB x y)) W):=by
 have HN:=Lib.hid (fun x W=>isNaNS_any x W)
 have h1:Op.bytesLess (⟨x.toArray⟩:ByteArray).toList (⟨y.toArray⟩:ByteArray).toList=ltB x y:=by rw[ByteArray.toList_eq,ByteArray.toList_eq];exact bytes_less x y
 have h2:((⟨x.toArray⟩:ByteArray).toList==(⟨y.toArray⟩:ByteArray).toList)=decide (x=y):=by rw[ba_bq]
 have HD:Hid (cmpB x y=if ltB x y then-1 else if x=y then 0 else 1):=rfl
 simp only[sv]
 generalize(⟨x.toArray⟩:ByteArray)=X1 at*
 generalize(⟨y.toArray⟩:ByteArray)=Y1 at*
 cases hl:ltB x y
 ·rw[hl]at h1 HD
  by_cases he:x=y
  ·rw[decide_eq_true he]at h2
   have HD2:Hid (cmpB x y=0):=by show _=_;rw[HD.out,if_pos he];rfl
   rw[HD2.out]
   clear hl he HD HD2
   go_enter Tryz.func118,Tryz.ntmps118
   go_wp2_with(go_at_call 195;(with_reducible refine(HN.out _ _).mono ?_);rintro e w' ⟨rfl,X,rfl⟩)
   go_ret
   exact Ret.of rfl bel
  ·rw[decide_eq_false he]at h2
   have HD2:Hid (cmpB x y=1):=by show _=_;rw[HD.out,if_neg he];rfl
   rw[HD2.out]
   clear hl he HD HD2
   go_enter Tryz.func118,Tryz.ntmps118
   go_wp2_with(go_at_call 195;(with_reducible refine(HN.out _ _).mono ?_);rintro e w' ⟨rfl,X,rfl⟩)
   go_ret
   exact Ret.of rfl bel
 ·rw[hl]at h1 HD
  have HD2:Hid (cmpB x y= -1):=HD.out
  rw[HD2.out]
  clear hl HD HD2 h2
  go_enter Tryz.func118,Tryz.ntmps118
  go_wp2_with(go_at_call 195;(with_reducible refine(HN.out _ _).mono ?_);rintro e w' ⟨rfl,X,rfl⟩)
  go_ret
  exact Ret.of rfl bel
def orF:List Int->Int
 |[]=>0
 |a::l=>if a≠0 then a else orF l
def iv (n:Int):Value:= .int .i64 n
theorem orI_any (v:Value) (zs:List Int) (W:World) (h:Rd W v zs.length 1 (zs.map iv)):Calls Tryz.prog 200 #[v] W fun e w'=>e= .returned (.int .i64 (orF zs))/\W=w':=by
 have HR:=Lib.hid h
 obtain⟨_,hm,A,c,rfl,_⟩:=h
 go_enter Tryz.func200,Tryz.ntmps200
 go_wp2_with fail
 go_loop [8] (fun i=> ∃k:Nat,k<=zs.length/\i= .int .i64 k/\Hid (orF zs=orF (zs.drop k))) (fun i=>zs.length-(intOf i).toNat)
 case atStart=>exact⟨0,by omega,rfl,rfl⟩
 case round=>
  obtain⟨k,hk,rfl,HK⟩:=hrel
  by_cases hlt:k<zs.length
  ·obtain⟨b,off,rfl,hb,hc⟩: ∃b off,A=some ⟨b,off,none⟩/\b<W.heap.size/\W.cell? ⟨b,off+k,none⟩=some (.int .i64 zs[k]):=by
    obtain⟨_,_,_,_,he,h4⟩:=HR.out
    cases he
    obtain⟨b,off,rfl,hb,hc⟩:=h4 (by omega)
    exact⟨b,off,rfl,hb,hc k (iv zs[k]) (by simp[hlt])⟩
   have HS:Hid (orF zs=if zs[k]≠0 then zs[k]else orF (zs.drop (k+1))):=by show _=_;rw[HK.out,List.drop_eq_getElem_cons hlt];rfl
   generalize zs[k]=z at*
   by_cases hz:z=0
   ·have b0:(z !=0)=false:=by simp[hz]
    have HS2:Hid (orF zs=orF (zs.drop (k+1))):=by show _=_;rw[HS.out,if_neg (by simpa using hz)]
    clear hz
    go_wp2_with fail
    go_round
    case rel=>exact⟨k+1,by omega,by go_num,HS2⟩
    case measure=>simp[intOf];omega
   ·have b0:(z !=0)=true:=by simpa using hz
    have HS2:Hid (orF zs=z):=by show _=_;rw[HS.out,if_pos hz]
    clear hz
    go_wp2_with fail
    go_ret
    exact⟨by rw[HS2.out];rfl,rfl⟩
  ·have HS2:Hid (orF zs=0):=by show _=_;rw[HK.out,List.drop_eq_nil_of_le (by omega)];rfl
   go_wp2_with fail
   go_ret
   exact⟨by rw[HS2.out];rfl,rfl⟩
theorem or_two (a b:Int):orF [a,b]=if a≠0 then a else b:=by
 simp only[orF]
 split
 ·rfl
 ·split
  ·rfl
  ·rename_i h;simp at h;rw[h]
theorem lit_rdI {W:World} {c:Array Value} {e:TypeId} {n B:Nat} {zs:List Int} (hB:B=W.heap.size) (he:c=(zs.map iv).toArray) (hn:n=zs.length) (h9:zs.length<=1000):Rd (W.alloc (.cells c e)) (.slice (some ⟨B,0,none⟩) n n) zs.length 1 (zs.map iv):=by
 subst hB he hn
 have:=Rd.own (own_lit (W:=W) (e:=e) (c:=(zs.map iv).toArray) (n:=zs.length) (size:=1) (by simp) (by unfold maxLen;omega))
 simpa using this
theorem allowed_any (x y:Alw) (W:World):Calls Tryz.prog 120 #[x.agg,y.agg] W (Ret (.int .i64 (cmpP x.key y.key)) W):=by
 have hmx:=mxd
 have HC1:=Lib.hid (fun W=>cmpS_any x.tag y.tag W)
 have HC2:=Lib.hid (fun W=>cmpS_any x.name y.name W)
 have HD:Hid (cmpP x.key y.key=orF [cmpB x.tag y.tag,cmpB x.name y.name]):=by show _=_;rw[or_two];rfl
 rw[HD.out]
 simp only[Alw.agg,sv]at*
 generalize cmpB x.tag y.tag=r1 at*
 generalize cmpB x.name y.name=r2 at*
 generalize(⟨x.tag.toArray⟩:ByteArray)=x1 at*
 generalize(⟨x.name.toArray⟩:ByteArray)=x2 at*
 generalize(⟨y.tag.toArray⟩:ByteArray)=y1 at*
 generalize(⟨y.name.toArray⟩:ByteArray)=y2 at*
 clear HD
 go_enter Tryz.func120,Tryz.ntmps120
 go_wp2_with fail
 refine wp_region_grow_tail 10 (by kernel_rfl) (by kernel_rfl) ?_
 dsimp only[List.take,List.drop]
 repeat(go_big_quiet_step(first|(go_at_call 118;with_reducible exact Calls.grow_of (HC1.out _))|(go_at_call 118;with_reducible exact Calls.grow_of (HC2.out _))))
 refine wpQuiet_nil ?_
 intro _ hw';obtain⟨nq,hw''⟩:=hw';subst hw''
 go_wp2_with(go_at_call 200;(refine(orI_any _ [r1,r2] _ (lit_rdI (by simp[go_sem]) rfl rfl (by simp))).mono ?_);rintro e w' ⟨rfl,rfl⟩)
 go_ret
 exact Ret.of rfl bel
theorem forced_any (x y:Frc) (W:World):Calls Tryz.prog 122 #[x.agg,y.agg] W (Ret (.int .i64 (cmpP x.key y.key)) W):=by
 have hmx:=mxd
 have HC1:=Lib.hid (fun W=>cmpS_any x.tag y.tag W)
 have HC2:=Lib.hid (fun W=>cmpS_any x.name y.name W)
 have HD:Hid (cmpP x.key y.key=orF [cmpB x.tag y.tag,cmpB x.name y.name]):=by show _=_;rw[or_two];rfl
 rw[HD.out]
 simp only[Frc.agg,sv]at*
 generalize cmpB x.tag y.tag=r1 at*
 generalize cmpB x.name y.name=r2 at*
 generalize(⟨x.tag.toArray⟩:ByteArray)=x1 at*
 generalize(⟨x.name.toArray⟩:ByteArray)=x2 at*
 generalize(⟨y.tag.toArray⟩:ByteArray)=y1 at*
 generalize(⟨y.name.toArray⟩:ByteArray)=y2 at*
 generalize(⟨x.value.toArray⟩:ByteArray)=x3 at*
 generalize(⟨y.value.toArray⟩:ByteArray)=y3 at*
 clear HD
 go_enter Tryz.func122,Tryz.ntmps122
 go_wp2_with fail
 refine wp_region_grow_tail 10 (by kernel_rfl) (by kernel_rfl) ?_
 dsimp only[List.take,List.drop]
 repeat(go_big_quiet_step(first|(go_at_call 118;with_reducible exact Calls.grow_of (HC1.out _))|(go_at_call 118;with_reducible exact Calls.grow_of (HC2.out _))))
 refine wpQuiet_nil ?_
 intro _ hw';obtain⟨nq,hw''⟩:=hw';subst hw''
 go_wp2_with(go_at_call 200;(refine(orI_any _ [r1,r2] _ (lit_rdI (by simp[go_sem]) rfl rfl (by simp))).mono ?_);rintro e w' ⟨rfl,rfl⟩)
 go_ret
 exact Ret.of rfl bel
theorem ltA_c (x y:Alw):decide (cmpP x.key y.key<0)=ltA x y:=cmpP_lt _ _
theorem ltF_c (x y:Frc):decide (cmpP x.key y.key<0)=ltF x y:=cmpP_lt _ _
structure Pol where
 tags:List Bs
 schemes:List Bs
 css:List Bs
 drops:List Bs
 attrs:List Alw
 forces:List Frc
 rel:Bool
 depth:Int
 name:Int
 value:Int
deriving DecidableEq
def neatP (p:Pol):Pol:=⟨neatL ltB p.tags,neatL ltB p.schemes,neatL ltB p.css,neatL ltB p.drops,neatL ltA p.attrs,neatL ltF p.forces,p.rel,p.depth,p.name,p.value⟩
theorem neatP_again (p:Pol):neatP (neatP p)=neatP p:=by
 simp only[neatP,neat_again swoB,neat_again swoA,neat_again swoF]
def inB (n hi:Int):Bool:=decide (1<=n/\n<=hi)
def limB (p:Pol):Bool:=inB p.depth 256&&inB p.name 64&&inB p.value 65536
def fitB (p:Pol):Bool:=decide (p.tags.length<=200/\p.schemes.length<=200/\p.css.length<=200/\p.drops.length<=200/\p.attrs.length<=200/\p.forces.length<=200)
def alwB (a:Alw):Bool:=(decide (a.tag=[42])||wordB a.tag)&&wordB a.name
def frcB (f:Frc):Bool:= !f.value.any oddB&&wordB f.tag&&wordB f.name
def rightP (p:Pol):Bool:=p.tags.all wordB&&p.schemes.all wordB&&p.css.all wordB&&p.drops.all wordB&&p.attrs.all alwB&&p.forces.all frcB&&limB p&&fitB p&&decide (neatP p=p)
def pol0:Pol:=⟨[],[],[],[],[],[],false,64,32,1024⟩
def polZ:Pol:=⟨[],[],[],[],[],[],false,0,0,0⟩
structure Flt where
 at_:Nat
 code:Nat
deriving DecidableEq
structure Ps where
 rest:List Lx
 pol:Pol
 told:List Bs
abbrev Rs (α:Type):=Except Flt α
def atP (en:Nat):List Lx->Nat
 |[]=>en
 |x::_=>x.at_
def isP (k:Nat) (ts:List Bs) (x:Lx):Bool:=decide (x.kind=k)&&(ts.isEmpty||decide (x.text∈ts))
def nextP (k:Nat) (ts:List Bs):List Lx->Bool
 |[]=>false
 |x::_=>isP k ts x
def takeP (en k:Nat) (ts:List Bs):List Lx->Rs (Lx × List Lx)
 |[]=> .error ⟨en,2⟩
 |x::r=>if isP k ts x then .ok (x,r)else .error ⟨x.at_,2⟩
def semiT:Bs:=[59]
def moreP (en:Nat) (l:List Lx):Rs (List Bs × List Lx):=match takeP en 4 [semiT] (l.dropWhile (isP 1 []))with
 | .error f=> .error f
 | .ok (_,q)=> .ok ((l.takeWhile (isP 1 [])).map Lx.text,q)
def wordsP (en:Nat) (l:List Lx):Rs (List Bs × List Lx):=match takeP en 1 [] l with
 | .error f=> .error f
 | .ok (x,r)=>match moreP en r with
  | .error f=> .error f
  | .ok (ws,q)=> .ok (x.text::ws,q)
def onceP (en a:Nat) (what:Bs) (l:List Lx) (told:List Bs):Rs (List Lx × List Bs):=match takeP en 4 [semiT] l with
 | .error f=> .error f
 | .ok (_,q)=>if what∈told then .error ⟨a,5⟩else .ok (q,what::told)
def attrsP (en:Nat) (s:Ps):Rs Ps:=
 if nextP 4 [[42]] s.rest||nextP 1 [] s.rest then
  match s.rest with
  |[]=> .error ⟨en,2⟩
  |x::r=>match takeP en 4 [[58]] r with
   | .error f=> .error f
   | .ok (_,q)=>match wordsP en q with
    | .error f=> .error f
    | .ok (ws,q)=> .ok ⟨q,{s.pol with attrs:=s.pol.attrs++ws.map (fun n=>⟨x.text,n⟩)},s.told⟩
 else .error ⟨atP en s.rest,2⟩
def forceT:Bs:=[102,111,114,99,101]
def limitT:Bs:=[108,105,109,105,116]
def relT:Bs:=[114,101,108,97,116,105,118,101]
def forceP (en a:Nat) (s:Ps):Rs Ps:=match takeP en 1 [] s.rest with
 | .error f=> .error f
 | .ok (t,q)=>match takeP en 1 [] q with
  | .error f=> .error f
  | .ok (n,q)=>match takeP en 3 [] q with
   | .error f=> .error f
   | .ok (v,q)=>match onceP en a (forceT++[32]++t.text++[32]++n.text) q s.told with
    | .error f=> .error f
    | .ok (q,told)=> .ok ⟨q,{s.pol with forces:=s.pol.forces++[⟨t.text,n.text,v.text⟩]},told⟩
def numT (t:Bs):Int:=t.foldl (fun n c=>n*10+((c.toNat:Int)-48)) 0
def depthT:Bs:=[100,101,112,116,104]
def nameT:Bs:=[110,97,109,101]
def valT:Bs:=[118,97,108,117,101]
def setL (kind:Bs) (n:Int) (p:Pol):Pol:=if kind=depthT then {p with depth:=n}else if kind=nameT then {p with name:=n}else {p with value:=n}
def limitP (en a:Nat) (s:Ps):Rs Ps:=match takeP en 1 [depthT,nameT,valT] s.rest with
 | .error f=> .error f
 | .ok (k,q)=>match takeP en 2 [] q with
  | .error f=> .error f
  | .ok (x,q)=>match onceP en a (limitT++[32]++k.text) q s.told with
   | .error f=> .error f
   | .ok (q,told)=>if limB (setL k.text (numT x.text) s.pol)then .ok ⟨q,setL k.text (numT x.text) s.pol,told⟩else .error ⟨x.at_,2⟩
def yesT:Bs:=[121,101,115]
def noT:Bs:=[110,111]
def relP (en a:Nat) (s:Ps):Rs Ps:=match takeP en 1 [yesT,noT] s.rest with
 | .error f=> .error f
 | .ok (x,q)=>match onceP en a relT q s.told with
  | .error f=> .error f
  | .ok (q,told)=> .ok ⟨q,{s.pol with rel:=decide (x.text=yesT)},told⟩
def tagsT:Bs:=[116,97,103,115]
def schemesT:Bs:=[115,99,104,101,109,101,115]
def cssT:Bs:=[99,115,115]
def dropT:Bs:=[100,114,111,112]
def attrsT:Bs:=[97,116,116,114,115]
def kindsT:List Bs:=[tagsT,schemesT,cssT,dropT,attrsT,relT,forceT,limitT]
def listP (en:Nat) (s:Ps) (f:Pol->List Bs->Pol):Rs Ps:=match wordsP en s.rest with
 | .error f=> .error f
 | .ok (ws,q)=> .ok ⟨q,f s.pol ws,s.told⟩
def stmtP (en:Nat) (s:Ps):Rs Ps:=match takeP en 1 kindsT s.rest with
 | .error f=> .error f
 | .ok (x,q)=>
  if x.text=tagsT then listP en ⟨q,s.pol,s.told⟩ fun p ws=>{p with tags:=p.tags++ws}
  else if x.text=schemesT then listP en ⟨q,s.pol,s.told⟩ fun p ws=>{p with schemes:=p.schemes++ws}
  else if x.text=cssT then listP en ⟨q,s.pol,s.told⟩ fun p ws=>{p with css:=p.css++ws}
  else if x.text=dropT then listP en ⟨q,s.pol,s.told⟩ fun p ws=>{p with drops:=p.drops++ws}
  else if x.text=attrsT then attrsP en ⟨q,s.pol,s.told⟩
  else if x.text=relT then relP en x.at_ ⟨q,s.pol,s.told⟩
  else if x.text=forceT then forceP en x.at_ ⟨q,s.pol,s.told⟩
  else limitP en x.at_ ⟨q,s.pol,s.told⟩
theorem takeP_len {en k:Nat} {ts:List Bs} {l r:List Lx} {x:Lx} (h:takeP en k ts l= .ok (x,r)):l=x::r/\isP k ts x=true:=by
 cases l with
 |nil=>cases h
 |cons y q=>
  have h:(if isP k ts y=true then Except.ok (y,q)else .error ⟨y.at_,2⟩:Rs (Lx × List Lx))= .ok (x,r):=h
  by_cases hi:isP k ts y=true
  ·rw[if_pos hi]at h;cases h;exact⟨rfl,hi⟩
  ·rw[if_neg hi]at h;cases h
theorem moreP_len {en:Nat} {l q:List Lx} {ws:List Bs} (h:moreP en l= .ok (ws,q)):q.length<l.length:=by
 unfold moreP at h
 split at h
 ·cases h
 ·next y r ht=>
  cases h
  obtain⟨h1,_⟩:=takeP_len ht
  have h2:(l.dropWhile (isP 1 [])).length<=l.length:=(List.dropWhile_suffix _).length_le
  rw[h1,List.length_cons]at h2;omega
theorem wordsP_len {en:Nat} {l q:List Lx} {ws:List Bs} (h:wordsP en l= .ok (ws,q)):q.length<l.length:=by
 unfold wordsP at h
 split at h
 ·cases h
 ·next x r ht=>
  obtain⟨rfl,_⟩:=takeP_len ht
  split at h
  ·cases h
  ·next hm=>cases h;have:=moreP_len hm;simp only[List.length_cons];omega
theorem onceP_len {en a:Nat} {what:Bs} {l q:List Lx} {told told':List Bs} (h:onceP en a what l told= .ok (q,told')):q.length<l.length/\what∉told/\told'=what::told:=by
 unfold onceP at h
 split at h
 ·cases h
 ·next x r ht=>
  obtain⟨rfl,_⟩:=takeP_len ht
  split at h
  ·cases h
  ·next hw=>cases h;exact⟨by simp,hw,rfl⟩
theorem stmtP_len {en:Nat} {s t:Ps} (h:stmtP en s= .ok t):t.rest.length<s.rest.length:=by
 unfold stmtP at h
 split at h
 ·cases h
 ·next x q ht=>
  obtain⟨h1,_⟩:=takeP_len ht
  rw[h1,List.length_cons]
  have hl: ∀f,listP en ⟨q,s.pol,s.told⟩ f= .ok t->t.rest.length<q.length+1:=fun f h=>by
   unfold listP at h
   split at h
   ·cases h
   ·next hw=>cases h;have:=wordsP_len hw;simp only;simp only at this;omega
  split at h
  ·exact hl _ h
  split at h
  ·exact hl _ h
  split at h
  ·exact hl _ h
  split at h
  ·exact hl _ h
  split at h
  ·unfold attrsP at h
   split at h
   ·split at h
    ·cases h
    ·next y r hq=>
     simp only at hq
     split at h
     ·cases h
     ·next z q2 h2=>
      obtain⟨h3,_⟩:=takeP_len h2
      split at h
      ·cases h
      ·next hw=>cases h;have:=wordsP_len hw;simp only;rw[hq,h3];simp only[List.length_cons];omega
   ·cases h
  split at h
  ·unfold relP at h
   split at h
   ·cases h
   ·next h2=>
    obtain⟨h3,_⟩:=takeP_len h2
    simp only at h3
    split at h
    ·cases h
    ·next ho=>cases h;have:=(onceP_len ho).1;simp only;rw[h3,List.length_cons];omega
  split at h
  ·unfold forceP at h
   split at h
   ·cases h
   ·next h2=>
    obtain⟨h3,_⟩:=takeP_len h2
    simp only at h3
    split at h
    ·cases h
    ·next h4=>
     obtain⟨h5,_⟩:=takeP_len h4
     split at h
     ·cases h
     ·next h6=>
      obtain⟨h7,_⟩:=takeP_len h6
      split at h
      ·cases h
      ·next ho=>cases h;have:=(onceP_len ho).1;simp only;rw[h3,h5,h7];simp only[List.length_cons];omega
  ·unfold limitP at h
   split at h
   ·cases h
   ·next h2=>
    obtain⟨h3,_⟩:=takeP_len h2
    simp only at h3
    split at h
    ·cases h
    ·next h4=>
     obtain⟨h5,_⟩:=takeP_len h4
     split at h
     ·cases h
     ·next ho=>
      split at h
      ·cases h;have:=(onceP_len ho).1;simp only;rw[h3,h5];simp only[List.length_cons];omega
      ·cases h
def runF (en:Nat):Nat->Ps->Rs Ps
 |0,s=> .ok s
 |f+1,s=>match s.rest with
  |[]=> .ok s
  |_::_=>match stmtP en s with
   | .error e=> .error e
   | .ok t=>runF en f t
theorem runF_more (en:Nat): ∀(f g:Nat) (s:Ps),s.rest.length<=f->s.rest.length<=g->runF en f s=runF en g s
 |0,0,_,_,_=>rfl
 |0,g+1,s,h,_=>by
  have:s.rest=[]:=List.eq_nil_of_length_eq_zero (by omega)
  simp only[runF,this]
 |f+1,0,s,_,h=>by
  have:s.rest=[]:=List.eq_nil_of_length_eq_zero (by omega)
  simp only[runF,this]
 |f+1,g+1,s,h1,h2=>by
  unfold runF
  cases hr:s.rest with
  |nil=>rfl
  |cons x r=>
   simp only
   cases ht:stmtP en s with
   |error e=>rfl
   |ok t=>
    simp only
    have:=stmtP_len ht
    exact runF_more en f g t (by omega) (by omega)
def runP (en:Nat) (s:Ps):Rs Ps:=runF en s.rest.length s
theorem runP_nil {en:Nat} {s:Ps} (h:s.rest=[]):runP en s= .ok s:=by
 unfold runP;rw[h];rfl
theorem runP_cons {en:Nat} {s:Ps} (h:s.rest≠[]):runP en s=match stmtP en s with
  | .error e=> .error e
  | .ok t=>runP en t:=by
 unfold runP
 cases hr:s.rest with
 |nil=>exact absurd hr h
 |cons x r=>
  rw[List.length_cons]
  conv=>lhs;unfold runF
  simp only[hr]
  cases ht:stmtP en s with
  |error e=>rfl
  |ok t=>
   simp only
   have:=stmtP_len ht
   rw[hr,List.length_cons]at this
   exact runF_more en _ _ t (by omega) (Nat.le_refl _)
def parsePl (s:Bs):Rs Pol:=
 if 8192<s.length then .error ⟨0,3⟩
 else match scanL 0 s with
  | .bad n=> .error ⟨n,2⟩
  | .ok l=>match runP s.length ⟨l,pol0,[]⟩with
   | .error e=> .error e
   | .ok t=>if fitB (neatP t.pol)then .ok (neatP t.pol)else .error ⟨s.length,3⟩
theorem takeWhile_mem {α:Type} {p:α->Bool} {x:α}: ∀{l:List α},x∈l.takeWhile p->p x=true
 |[],h=>by cases h
 |y::r,h=>by
  rw[List.takeWhile_cons]at h
  split at h
  ·next hy=>
   rcases List.mem_cons.1 h with rfl|h
   ·exact hy
   ·exact takeWhile_mem h
  ·cases h
structure LxOk (en:Nat) (x:Lx):Prop where
 word:x.kind=1->wordB x.text=true
 num:x.kind=2->x.text.all digB=true/\x.text.length<=9
 str:x.kind=3->x.text.any oddB=false
 at_:x.at_<=en
theorem TR.app_ok {x:TR} {p t:Bs} {k n:Nat} (h:x.app p k= .ok t n): ∃t' n',x= .ok t' n'/\t=p++t':=by
 cases x with
 |ok t' n'=>simp only[TR.app,TR.ok.injEq]at h;exact⟨t',n',rfl,h.1.symm⟩
 |bad n=>cases h
 |op=>cases h
theorem strL_clean: ∀(m:Nat) (l t:Bs) (n:Nat),l.length<=m->strL l= .ok t n->t.any oddB=false
 |_,[],t,n,_,h=>by rw[strL.eq_def]at h;cases h
 |0,_::_,_,_,hm,_=>by simp at hm
 |m+1,c::r,t,n,hm,h=>by
  simp only[List.length_cons]at hm
  by_cases h34:c.toNat=34
  ·rw[strL_quote r h34]at h;cases h;rfl
  by_cases h92:c.toNat=92
  ·cases r with
   |nil=>rw[strL_esc_end h92]at h;cases h
   |cons d r=>
    by_cases hd:d.toNat=92\/d.toNat=34
    ·rw[strL_esc r h92 hd]at h
     obtain⟨t',n',h1,rfl⟩:=TR.app_ok h
     have ih:=strL_clean m r t' n' (by simp only[List.length_cons]at hm;omega) h1
     have ho:oddB d=false:=by unfold oddB;rw[decide_eq_false_iff_not];omega
     simp[ho,ih]
    ·rw[strL_esc_bad r h92 hd]at h;cases h
  by_cases ho:oddB c=true
  ·rw[strL_odd r h34 h92 ho]at h;cases h
  ·rw[strL_plain r h34 h92 ho]at h
   obtain⟨t',n',h1,rfl⟩:=TR.app_ok h
   have ih:=strL_clean m r t' n' (by omega) h1
   simp[ho,ih]
theorem piece_facts {l t:Bs} {k n:Nat} (h:pieceL l= .ok k t n):(k=1->wordB t=true)/\(k=2->t.all digB=true/\t.length<=9)/\(k=3->t.any oddB=false):=by
 unfold pieceL at h
 split at h
 ·cases h
 ·next c r=>
  split at h
  ·split at h
   ·next t' n' hs=>
    simp only[PR.ok.injEq]at h
    obtain⟨rfl,rfl,rfl⟩:=h
    exact⟨fun h=>(by cases h),fun h=>(by cases h),fun _=>strL_clean _ r _ _ (Nat.le_refl _) hs⟩
   ·cases h
   ·cases h
  split at h
  ·split at h
   ·next hw=>
    simp only[PR.ok.injEq]at h
    obtain⟨rfl,rfl,rfl⟩:=h
    exact⟨fun _=>hw,fun h=>(by cases h),fun h=>(by cases h)⟩
   ·cases h
  split at h
  ·next hd=>
   split at h
   ·next hl=>
    simp only[PR.ok.injEq]at h
    obtain⟨rfl,rfl,rfl⟩:=h
    refine⟨fun h=>(by cases h),fun _=>⟨?_,by simp only[List.length_cons];omega⟩,fun h=>(by cases h)⟩
    rw[List.all_cons,hd,Bool.true_and,List.all_eq_true]
    intro x hx
    exact takeWhile_mem hx
   ·cases h
  split at h
  ·simp only[PR.ok.injEq]at h
   obtain⟨rfl,rfl,rfl⟩:=h
   exact⟨fun h=>(by cases h),fun h=>(by cases h),fun h=>(by cases h)⟩
  ·cases h
theorem SR.cons_ok {x:Lx} {r:SR} {L:List Lx} (h:r.cons x= .ok L): ∃M,r= .ok M/\L=x::M:=by
 cases r with
 |ok M=>simp only[SR.cons,SR.ok.injEq]at h;exact⟨M,rfl,h.symm⟩
 |bad n=>cases h
theorem SR.cons_bad {x:Lx} {r:SR} {n:Nat} (h:r.cons x= .bad n):r= .bad n:=by
 cases r with
 |ok M=>cases h
 |bad m=>simp only[SR.cons,SR.bad.injEq]at h;rw[h]
theorem scanF_ok: ∀(f a en:Nat) (l:Bs) (L:List Lx),a+l.length<=en->scanF f a l= .ok L-> ∀x∈L,LxOk en x
 |0,_,_,_,L,_,h=>by
  simp only[scanF,SR.ok.injEq]at h
  subst h;intro x hx;cases hx
 |f+1,a,en,l,L,ha,h=>by
  simp only[scanF]at h
  split at h
  ·simp only[SR.ok.injEq]at h
   subst h;intro x hx;cases hx
  ·next c r hr=>
   have hb:=blk_le false l
   have hlr:=congrArg List.length hr
   rw[List.length_drop]at hlr
   split at h
   ·next k t n hp=>
    obtain⟨M,h1,rfl⟩:=SR.cons_ok h
    have hf:=piece_facts hp
    have hle:=(pieceL_le _).1 _ _ _ hp
    intro x hx
    rcases List.mem_cons.1 hx with rfl|hx
    ·exact⟨hf.1,hf.2.1,hf.2.2,by simp only;omega⟩
    ·exact scanF_ok f _ en _ M (by rw[List.length_drop];omega) h1 x hx
   ·cases h
theorem scanF_bad: ∀(f a en:Nat) (l:Bs) (n:Nat),a+l.length<=en->scanF f a l= .bad n->n<=en
 |0,_,_,_,n,_,h=>by simp only[scanF]at h;cases h
 |f+1,a,en,l,n,ha,h=>by
  simp only[scanF]at h
  split at h
  ·cases h
  ·next c r hr=>
   have hb:=blk_le false l
   have hlr:=congrArg List.length hr
   rw[List.length_drop]at hlr
   split at h
   ·next k t m hp=>
    have hle:=(pieceL_le _).1 _ _ _ hp
    exact scanF_bad f _ en _ n (by rw[List.length_drop];omega) (SR.cons_bad h)
   ·next m hp=>
    have hle:=(pieceL_le _).2 _ hp
    simp only[SR.bad.injEq]at h
    omega
structure PolOk (p:Pol):Prop where
 tags: ∀t∈p.tags,wordB t=true
 schemes: ∀t∈p.schemes,wordB t=true
 css: ∀t∈p.css,wordB t=true
 drops: ∀t∈p.drops,wordB t=true
 attrs: ∀a∈p.attrs,alwB a=true
 forces: ∀f∈p.forces,frcB f=true
 lim:limB p=true
theorem pol0_ok:PolOk pol0:=⟨fun _ h=>(by cases h),fun _ h=>(by cases h),fun _ h=>(by cases h),fun _ h=>(by cases h),fun _ h=>(by cases h),fun _ h=>(by cases h),by decide⟩
def AllOk (en:Nat) (l:List Lx):Prop:= ∀x∈l,LxOk en x
theorem AllOk.tail {en:Nat} {x:Lx} {r:List Lx} (h:AllOk en (x::r)):LxOk en x/\AllOk en r:=⟨h x List.mem_cons_self,fun y hy=>h y (List.mem_cons_of_mem _ hy)⟩
theorem at_le {en:Nat} {l:List Lx} (h:AllOk en l):atP en l<=en:=by
 cases l with
 |nil=>exact Nat.le_refl _
 |cons x r=>exact h.tail.1.at_
theorem isP_kind {k:Nat} {ts:List Bs} {x:Lx} (h:isP k ts x=true):x.kind=k/\(ts≠[]->x.text∈ts):=by
 simp only[isP,Bool.and_eq_true,Bool.or_eq_true,decide_eq_true_eq]at h
 refine⟨h.1,fun hn=> ?_⟩
 rcases h.2 with h2|h2
 ·exact absurd (List.isEmpty_iff.1 h2) hn
 ·exact h2
theorem takeP_ok {en k:Nat} {ts:List Bs} {l r:List Lx} {x:Lx} (h:takeP en k ts l= .ok (x,r)) (hl:AllOk en l):LxOk en x/\x.kind=k/\AllOk en r:=by
 obtain⟨rfl,hi⟩:=takeP_len h
 exact⟨hl.tail.1,(isP_kind hi).1,hl.tail.2⟩
theorem takeP_err {en k:Nat} {ts:List Bs} {l:List Lx} {f:Flt} (h:takeP en k ts l= .error f) (hl:AllOk en l):f.at_<=en:=by
 cases l with
 |nil=>cases h;exact Nat.le_refl _
 |cons y q=>
  have h:(if isP k ts y=true then Except.ok (y,q)else .error ⟨y.at_,2⟩:Rs (Lx × List Lx))= .error f:=h
  by_cases hi:isP k ts y=true
  ·rw[if_pos hi]at h;cases h
  ·rw[if_neg hi]at h;cases h;exact hl.tail.1.at_
theorem takeWhile_words {en:Nat} {l:List Lx} (hl:AllOk en l): ∀t∈(l.takeWhile (isP 1 [])).map Lx.text,wordB t=true:=by
 intro t ht
 obtain⟨x,hx,rfl⟩:=List.mem_map.1 ht
 exact(hl x (List.takeWhile_prefix _ |>.subset hx)).word (isP_kind (takeWhile_mem hx)).1
theorem drop_ok {en:Nat} {l:List Lx} (hl:AllOk en l):AllOk en (l.dropWhile (isP 1 [])):=fun x hx=>hl x ((List.dropWhile_suffix _).subset hx)
theorem moreP_ok {en:Nat} {l q:List Lx} {ws:List Bs} (h:moreP en l= .ok (ws,q)) (hl:AllOk en l):(∀t∈ws,wordB t=true)/\AllOk en q:=by
 unfold moreP at h
 split at h
 ·cases h
 ·next y r ht=>
  cases h
  exact⟨takeWhile_words hl,(takeP_ok ht (drop_ok hl)).2.2⟩
theorem moreP_err {en:Nat} {l:List Lx} {f:Flt} (h:moreP en l= .error f) (hl:AllOk en l):f.at_<=en:=by
 unfold moreP at h
 split at h
 ·next ht=>cases h;exact takeP_err ht (drop_ok hl)
 ·cases h
theorem wordsP_ok {en:Nat} {l q:List Lx} {ws:List Bs} (h:wordsP en l= .ok (ws,q)) (hl:AllOk en l):(∀t∈ws,wordB t=true)/\AllOk en q:=by
 unfold wordsP at h
 split at h
 ·cases h
 ·next x r ht=>
  obtain⟨h1,h2,h3⟩:=takeP_ok ht hl
  split at h
  ·cases h
  ·next ws' q' hm=>
   cases h
   obtain⟨h4,h5⟩:=moreP_ok hm h3
   refine⟨fun t ht=> ?_,h5⟩
   rcases List.mem_cons.1 ht with rfl|ht
   ·exact h1.word h2
   ·exact h4 t ht
theorem wordsP_err {en:Nat} {l:List Lx} {f:Flt} (h:wordsP en l= .error f) (hl:AllOk en l):f.at_<=en:=by
 unfold wordsP at h
 split at h
 ·next ht=>cases h;exact takeP_err ht hl
 ·next x r ht=>
  split at h
  ·next hm=>cases h;exact moreP_err hm (takeP_ok ht hl).2.2
  ·cases h
theorem onceP_ok {en a:Nat} {what:Bs} {l q:List Lx} {told told':List Bs} (h:onceP en a what l told= .ok (q,told')) (hl:AllOk en l):AllOk en q:=by
 unfold onceP at h
 split at h
 ·cases h
 ·next x r ht=>
  split at h
  ·cases h
  ·cases h;exact(takeP_ok ht hl).2.2
theorem onceP_err {en a:Nat} {what:Bs} {l:List Lx} {told:List Bs} {f:Flt} (h:onceP en a what l told= .error f) (hl:AllOk en l) (ha:a<=en):f.at_<=en:=by
 unfold onceP at h
 split at h
 ·next ht=>cases h;exact takeP_err ht hl
 ·split at h
  ·cases h;exact ha
  ·cases h
theorem listP_ok {en:Nat} {s t:Ps} {f:Pol->List Bs->Pol} (h:listP en s f= .ok t) (hl:AllOk en s.rest) (hf: ∀ws,(∀t∈ws,wordB t=true)->PolOk (f s.pol ws)):PolOk t.pol/\AllOk en t.rest:=by
 unfold listP at h
 split at h
 ·cases h
 ·next hw=>
  cases h
  obtain⟨h1,h2⟩:=wordsP_ok hw hl
  exact⟨hf _ h1,h2⟩
theorem mem_app {α:Type} {p:α->Prop} {a b:List α} (ha: ∀x∈a,p x) (hb: ∀x∈b,p x): ∀x∈a++b,p x:=fun x hx=>(List.mem_append.1 hx).elim (ha x) (hb x)
theorem stmtP_ok {en:Nat} {s t:Ps} (h:stmtP en s= .ok t) (hp:PolOk s.pol) (hl:AllOk en s.rest):PolOk t.pol/\AllOk en t.rest:=by
 unfold stmtP at h
 split at h
 ·cases h
 ·next x q ht=>
  obtain⟨_,_,hq⟩:=takeP_ok ht hl
  split at h
  ·exact listP_ok h hq fun ws hw=>⟨mem_app hp.tags hw,hp.schemes,hp.css,hp.drops,hp.attrs,hp.forces,hp.lim⟩
  split at h
  ·exact listP_ok h hq fun ws hw=>⟨hp.tags,mem_app hp.schemes hw,hp.css,hp.drops,hp.attrs,hp.forces,hp.lim⟩
  split at h
  ·exact listP_ok h hq fun ws hw=>⟨hp.tags,hp.schemes,mem_app hp.css hw,hp.drops,hp.attrs,hp.forces,hp.lim⟩
  split at h
  ·exact listP_ok h hq fun ws hw=>⟨hp.tags,hp.schemes,hp.css,mem_app hp.drops hw,hp.attrs,hp.forces,hp.lim⟩
  split at h
  ·unfold attrsP at h
   simp only at h
   split at h
   ·next hn=>
    split at h
    ·cases h
    ·next y r=>
     split at h
     ·cases h
     ·next z q2 h2=>
      obtain⟨_,_,hq2⟩:=takeP_ok h2 hq.tail.2
      split at h
      ·cases h
      ·next ws q3 hw=>
       cases h
       obtain⟨hw1,hq3⟩:=wordsP_ok hw hq2
       refine⟨⟨hp.tags,hp.schemes,hp.css,hp.drops,mem_app hp.attrs fun a ha=> ?_,hp.forces,hp.lim⟩,hq3⟩
       obtain⟨m,hm,rfl⟩:=List.mem_map.1 ha
       have hy:(decide (y.text=[42])||wordB y.text)=true:=by
        rw[Bool.or_eq_true]at hn
        rcases hn with hn|hn
        ·have:=(isP_kind (show isP 4 [[42]] y=true from hn)).2 (by simp)
         rw[List.mem_singleton]at this
         simp[this]
        ·have:=hq.tail.1.word (isP_kind (show isP 1 [] y=true from hn)).1
         simp[this]
       show((decide (y.text=[42])||wordB y.text)&&wordB m)=true
       rw[hy,hw1 m hm];rfl
   ·cases h
  split at h
  ·unfold relP at h
   split at h
   ·cases h
   ·next h2=>
    obtain⟨_,_,hq2⟩:=takeP_ok h2 hq
    split at h
    ·cases h
    ·next ho=>
     cases h
     exact⟨⟨hp.tags,hp.schemes,hp.css,hp.drops,hp.attrs,hp.forces,hp.lim⟩,onceP_ok ho hq2⟩
  split at h
  ·unfold forceP at h
   split at h
   ·cases h
   ·next a q2 h2=>
    obtain⟨a1,a2,hq2⟩:=takeP_ok h2 hq
    split at h
    ·cases h
    ·next b q3 h3=>
     obtain⟨b1,b2,hq3⟩:=takeP_ok h3 hq2
     split at h
     ·cases h
     ·next v q4 h4=>
      obtain⟨c1,c2,hq4⟩:=takeP_ok h4 hq3
      split at h
      ·cases h
      ·next ho=>
       cases h
       refine⟨⟨hp.tags,hp.schemes,hp.css,hp.drops,hp.attrs,mem_app hp.forces fun f hf=> ?_,hp.lim⟩,onceP_ok ho hq4⟩
       rw[List.mem_singleton]at hf
       subst hf
       show(!v.text.any oddB&&wordB a.text&&wordB b.text)=true
       rw[c1.str c2,a1.word a2,b1.word b2];rfl
  ·unfold limitP at h
   split at h
   ·cases h
   ·next a q2 h2=>
    obtain⟨_,_,hq2⟩:=takeP_ok h2 hq
    split at h
    ·cases h
    ·next b q3 h3=>
     obtain⟨_,_,hq3⟩:=takeP_ok h3 hq2
     split at h
     ·cases h
     ·next ho=>
      split at h
      ·next hlim=>
       cases h
       refine⟨?_,onceP_ok ho hq3⟩
       have e: ∀n:Int,(setL a.text n s.pol).tags=s.pol.tags/\(setL a.text n s.pol).schemes=s.pol.schemes/\(setL a.text n s.pol).css=s.pol.css/\(setL a.text n s.pol).drops=s.pol.drops/\(setL a.text n s.pol).attrs=s.pol.attrs/\(setL a.text n s.pol).forces=s.pol.forces:=fun n=>by
        unfold setL
        split
        ·exact⟨rfl,rfl,rfl,rfl,rfl,rfl⟩
        ·split<;>exact⟨rfl,rfl,rfl,rfl,rfl,rfl⟩
       obtain⟨e1,e2,e3,e4,e5,e6⟩:=e (numT b.text)
       exact⟨by simp only;rw[e1];exact hp.tags,by simp only;rw[e2];exact hp.schemes,by simp only;rw[e3];exact hp.css,by simp only;rw[e4];exact hp.drops,by simp only;rw[e5];exact hp.attrs,by simp only;rw[e6];exact hp.forces,hlim⟩
      ·cases h
theorem listP_err {en:Nat} {s:Ps} {g:Pol->List Bs->Pol} {f:Flt} (h:listP en s g= .error f) (hl:AllOk en s.rest):f.at_<=en:=by
 unfold listP at h
 split at h
 ·next hw=>cases h;exact wordsP_err hw hl
 ·cases h
theorem stmtP_err {en:Nat} {s:Ps} {f:Flt} (h:stmtP en s= .error f) (hl:AllOk en s.rest):f.at_<=en:=by
 unfold stmtP at h
 split at h
 ·next ht=>cases h;exact takeP_err ht hl
 ·next x q ht=>
  obtain⟨hx,_,hq⟩:=takeP_ok ht hl
  split at h
  ·exact listP_err h hq
  split at h
  ·exact listP_err h hq
  split at h
  ·exact listP_err h hq
  split at h
  ·exact listP_err h hq
  split at h
  ·unfold attrsP at h
   simp only at h
   split at h
   ·split at h
    ·cases h;exact Nat.le_refl _
    ·next y r=>
     split at h
     ·next h2=>cases h;exact takeP_err h2 hq.tail.2
     ·next z q2 h2=>
      obtain⟨_,_,hq2⟩:=takeP_ok h2 hq.tail.2
      split at h
      ·next hw=>cases h;exact wordsP_err hw hq2
      ·cases h
   ·cases h;exact at_le hq
  split at h
  ·unfold relP at h
   split at h
   ·next h2=>cases h;exact takeP_err h2 hq
   ·next h2=>
    obtain⟨_,_,hq2⟩:=takeP_ok h2 hq
    split at h
    ·next ho=>cases h;exact onceP_err ho hq2 hx.at_
    ·cases h
  split at h
  ·unfold forceP at h
   split at h
   ·next h2=>cases h;exact takeP_err h2 hq
   ·next a q2 h2=>
    obtain⟨_,_,hq2⟩:=takeP_ok h2 hq
    split at h
    ·next h3=>cases h;exact takeP_err h3 hq2
    ·next b q3 h3=>
     obtain⟨_,_,hq3⟩:=takeP_ok h3 hq2
     split at h
     ·next h4=>cases h;exact takeP_err h4 hq3
     ·next v q4 h4=>
      obtain⟨_,_,hq4⟩:=takeP_ok h4 hq3
      split at h
      ·next ho=>cases h;exact onceP_err ho hq4 hx.at_
      ·cases h
  ·unfold limitP at h
   split at h
   ·next h2=>cases h;exact takeP_err h2 hq
   ·next a q2 h2=>
    obtain⟨_,_,hq2⟩:=takeP_ok h2 hq
    split at h
    ·next h3=>cases h;exact takeP_err h3 hq2
    ·next b q3 h3=>
     obtain⟨hb,_,hq3⟩:=takeP_ok h3 hq2
     split at h
     ·next ho=>cases h;exact onceP_err ho hq3 hx.at_
     ·split at h
      ·cases h
      ·cases h;exact hb.at_
theorem runF_ok {en:Nat}: ∀(f:Nat) {s t:Ps},runF en f s= .ok t->PolOk s.pol->AllOk en s.rest->PolOk t.pol
 |0,s,t,h,hp,_=>by simp only[runF]at h;cases h;exact hp
 |f+1,s,t,h,hp,hl=>by
  unfold runF at h
  split at h
  ·cases h;exact hp
  ·split at h
   ·cases h
   ·next ht=>obtain⟨h1,h2⟩:=stmtP_ok ht hp hl;exact runF_ok f h h1 h2
theorem runF_err {en:Nat}: ∀(f:Nat) {s:Ps} {e:Flt},runF en f s= .error e->PolOk s.pol->AllOk en s.rest->e.at_<=en
 |0,s,e,h,_,_=>by simp only[runF]at h;cases h
 |f+1,s,e,h,hp,hl=>by
  unfold runF at h
  split at h
  ·cases h
  ·split at h
   ·next ht=>cases h;exact stmtP_err ht hl
   ·next ht=>obtain⟨h1,h2⟩:=stmtP_ok ht hp hl;exact runF_err f h h1 h2
theorem all_true {α:Type} {p:α->Bool} {l:List α} (h: ∀x∈l,p x=true):l.all p=true:=List.all_eq_true.2 h
theorem neat_right {p:Pol} (h:PolOk p) (hf:fitB (neatP p)=true):rightP (neatP p)=true:=by
 unfold rightP
 have h1:=all_true (p:=wordB) fun t ht=>h.tags t (neat_mem swoB (l:=p.tags) ht)
 have h2:=all_true (p:=wordB) fun t ht=>h.schemes t (neat_mem swoB (l:=p.schemes) ht)
 have h3:=all_true (p:=wordB) fun t ht=>h.css t (neat_mem swoB (l:=p.css) ht)
 have h4:=all_true (p:=wordB) fun t ht=>h.drops t (neat_mem swoB (l:=p.drops) ht)
 have h5:=all_true (p:=alwB) fun t ht=>h.attrs t (neat_mem swoA (l:=p.attrs) ht)
 have h6:=all_true (p:=frcB) fun t ht=>h.forces t (neat_mem swoF (l:=p.forces) ht)
 have h7:limB (neatP p)=true:=h.lim
 have h8:decide (neatP (neatP p)=neatP p)=true:=decide_eq_true (neatP_again p)
 rw[hf,h7,h8]
 show((neatL ltB p.tags).all wordB&&(neatL ltB p.schemes).all wordB&&(neatL ltB p.css).all wordB&&(neatL ltB p.drops).all wordB&&(neatL ltA p.attrs).all alwB&&(neatL ltF p.forces).all frcB&&true&&true&&true)=true
 rw[h1,h2,h3,h4,h5,h6];rfl
theorem parse_right {s:Bs} {p:Pol} (h:parsePl s= .ok p):rightP p=true:=by
 unfold parsePl at h
 split at h
 ·cases h
 ·split at h
  ·cases h
  ·next l hl=>
   split at h
   ·cases h
   ·next t ht=>
    split at h
    ·next hf=>
     cases h
     exact neat_right (runF_ok _ ht pol0_ok (scanF_ok _ _ _ _ _ (by omega) hl)) hf
    ·cases h
theorem parse_at {s:Bs} {f:Flt} (h:parsePl s= .error f):f.at_<=s.length:=by
 unfold parsePl at h
 split at h
 ·cases h;exact Nat.zero_le _
 ·split at h
  ·next n hn=>cases h;exact scanF_bad _ _ _ _ _ (by omega) hn
  ·next l hl=>
   split at h
   ·next ht=>cases h;exact runF_err _ ht pol0_ok (scanF_ok _ _ _ _ _ (by omega) hl)
   ·split at h
    ·cases h
    ·cases h;exact Nat.le_refl _
open Go.RowKit
def Cpz (A:Option Addr) (n c:Nat):Prop:=(A=none->c=0)/\n<=c
theorem own_cpz {W:World} {B:Nat} {e:TypeId} {size:Nat} {A:Option Addr} {n c:Nat} {xs:List Value} (h:W.ownsRow B e size (.slice A n c) n xs):Cpz A n c:=by
 obtain⟨_,_,e9,h9⟩:=own_cap h
 cases e9
 exact⟨own_nil h,h9⟩
def RetN (w:World) (n size:Nat) (cells:List Value) (e:Ending) (w':World):Prop:= ∃A c,e= .returned (.slice A n c)/\Below w.heap.size w w'/\Cpz A n c/\Rd w' (.slice A n c) n size cells/\(0<n-> ∀b off s,A=some ⟨b,off,s⟩->w.heap.size<=b)
theorem Rd.part {w:World} {A:Option Addr} {n c size:Nat} {xs:List Value} (h:Rd w (.slice A n c) n size xs) (m:Nat) (hm:m<=n):Rd w (.slice A m c) m size (xs.take (m*size)):=by
 obtain⟨h1,h2,A',c',he,h4⟩:=h
 cases he
 refine⟨?_,by omega,A,c,rfl,fun h0=> ?_⟩
 ·rw[List.length_take,h1,Nat.min_eq_left (Nat.mul_le_mul_right _ hm)]
 ·obtain⟨b,off,h5,h6,h7⟩:=h4 (by omega)
  refine⟨b,off,h5,h6,fun j u hu=>h7 j u ?_⟩
  rw[List.getElem?_take]at hu
  split at hu
  ·exact hu
  ·cases hu
theorem flat_take {α:Type} (cells:α->List Value) (n:Nat) (hn: ∀x,(cells x).length=n) (l:List α) (m:Nat):(l.flatMap cells).take (m*n)=(l.take m).flatMap cells:=by
 induction l generalizing m with
 |nil=>simp
 |cons x r ih=>
  cases m with
  |zero=>simp
  |succ m=>
   rw[List.take_succ_cons,List.flatMap_cons,List.flatMap_cons,show(m+1)*n=n+m*n by rw[Nat.add_mul];omega,List.take_append,hn x,List.take_of_length_le (by rw[hn];omega),show n+m*n-n=m*n by omega,ih]
theorem ev_P (p q:Bs × Bs):ev ltP p q=decide (p=q):=by
 rw[Bool.eq_iff_iff]
 simp only[ev,Bool.and_eq_true,Bool.not_eq_true',decide_eq_true_eq]
 constructor
 ·rintro⟨h1,h2⟩
  simp only[ltP,Bool.or_eq_false_iff,Bool.and_eq_false_iff,decide_eq_false_iff_not]at h1 h2
  have e1:=ltB_tri _ _ h1.1 h2.1
  have a:ltB p.2 q.2=false:=by
   rcases h1.2 with h|h
   ·exact absurd e1 h
   ·exact h
  have b:ltB q.2 p.2=false:=by
   rcases h2.2 with h|h
   ·exact absurd e1.symm h
   ·exact h
  exact Prod.ext e1 (ltB_tri _ _ a b)
 ·rintro rfl;exact⟨swoP.irrefl _,swoP.irrefl _⟩
theorem Rd.empty {w:World} {A:Option Addr} {c size:Nat}:Rd w (.slice A 0 c) 0 size []:=⟨by simp,by omega,A,c,rfl,fun h=>by omega⟩
theorem Rd.none_nil {w:World} {n c size:Nat} {xs:List Value} (h:Rd w (.slice none n c) n size xs):n=0:=by
 rcases Nat.eq_zero_or_pos n with h0|h0
 ·exact h0
 ·obtain⟨_,_,A,c',he,h4⟩:=h
  cases he
  obtain⟨b,off,h5,_⟩:=h4 h0
  cases h5
open Go.RowKit
def Rx (W:World) (bad:Nat->Prop) (v:Value) (n size:Nat) (cells:List Value):Prop:= ∃A c,v= .slice A n c/\Cpz A n c/\Rd W v n size cells/\(0<n-> ∀b off s,A=some ⟨b,off,s⟩-> ¬bad b)
theorem Rd.turnedN {pv:Nat->Prop} {W W':World} {A:Option Addr} {n c size:Nat} {xs:List Value} (h:Rd W (.slice A n c) n size xs) (ht:Turned pv W W') (hA:0<n-> ∀b off s,A=some ⟨b,off,s⟩-> ¬pv b):Rd W' (.slice A n c) n size xs:=by
 obtain⟨h1,h2,A',c',he,h4⟩:=h
 cases he
 refine⟨h1,h2,A,c,rfl,fun hn=> ?_⟩
 obtain⟨b,off,rfl,hb,hc⟩:=h4 hn
 refine⟨b,off,rfl,Nat.lt_of_lt_of_le hb ht.size,fun j u hu=> ?_⟩
 have:=hc j u hu
 unfold World.cell? at this ⊢
 rw[ht.block b hb (hA hn _ _ _ rfl)];exact this
theorem Rx.turned {W W':World} {bad:Nat->Prop} {v:Value} {n size:Nat} {cells:List Value} (h:Rx W bad v n size cells) (ht:Turned bad W W'):Rx W' bad v n size cells:=by
 obtain⟨A,c,rfl,h1,h2,h3⟩:=h
 exact⟨A,c,rfl,h1,h2.turnedN ht h3,h3⟩
theorem Rx.mono {W:World} {bad bad':Nat->Prop} {v:Value} {n size:Nat} {cells:List Value} (h:Rx W bad v n size cells) (hb: ∀b,b<W.heap.size->bad' b->bad b):Rx W bad' v n size cells:=by
 obtain⟨A,c,rfl,h1,h2,h3⟩:=h
 refine⟨A,c,rfl,h1,h2,fun hn b off s he hx=> ?_⟩
 obtain⟨_,_,A',c',e,h4⟩:=h2
 cases e
 obtain⟨b2,off2,h5,h6,_⟩:=h4 hn
 rw[he]at h5
 cases h5
 exact h3 hn _ _ _ he (hb _ h6 hx)
theorem Rx.below {W W':World} {bad:Nat->Prop} {v:Value} {n size:Nat} {cells:List Value} (h:Rx W bad v n size cells) (hb:Below W.heap.size W W'):Rx W' bad v n size cells:=h.turned (Turned.of_below hb)
def fN (p:Pol):Nat->Nat
 |0=>p.tags.length
 |1=>p.schemes.length
 |2=>p.css.length
 |3=>p.drops.length
 |4=>p.attrs.length
 |_=>p.forces.length
def fS:Nat->Nat
 |4=>2
 |5=>3
 |_=>1
def fC (p:Pol):Nat->List Value
 |0=>p.tags.map sv
 |1=>p.schemes.map sv
 |2=>p.css.map sv
 |3=>p.drops.map sv
 |4=>p.attrs.flatMap Alw.cells
 |_=>p.forces.flatMap Frc.cells
def PolV (W:World) (bad:Nat->Prop) (v:Value) (p:Pol):Prop:= ∃v0 v1 v2 v3 v4 v5,v= .agg #[v0,v1,v2,v3,v4,v5,.bool p.rel,.int .i64 p.depth,.int .i64 p.name,.int .i64 p.value]/\
 Rx W bad v0 (fN p 0) 1 (fC p 0)/\Rx W bad v1 (fN p 1) 1 (fC p 1)/\Rx W bad v2 (fN p 2) 1 (fC p 2)/\Rx W bad v3 (fN p 3) 1 (fC p 3)/\Rx W bad v4 (fN p 4) 2 (fC p 4)/\Rx W bad v5 (fN p 5) 3 (fC p 5)
theorem PolV.below {W W':World} {bad:Nat->Prop} {v:Value} {p:Pol} (h:PolV W bad v p) (hb:Below W.heap.size W W'):PolV W' bad v p:=by
 obtain⟨v0,v1,v2,v3,v4,v5,rfl,h0,h1,h2,h3,h4,h5⟩:=h
 exact⟨v0,v1,v2,v3,v4,v5,rfl,h0.below hb,h1.below hb,h2.below hb,h3.below hb,h4.below hb,h5.below hb⟩
theorem PolV.mono {W:World} {bad bad':Nat->Prop} {v:Value} {p:Pol} (h:PolV W bad v p) (hb: ∀b,b<W.heap.size->bad' b->bad b):PolV W bad' v p:=by
 obtain⟨v0,v1,v2,v3,v4,v5,rfl,h0,h1,h2,h3,h4,h5⟩:=h
 exact⟨v0,v1,v2,v3,v4,v5,rfl,h0.mono hb,h1.mono hb,h2.mono hb,h3.mono hb,h4.mono hb,h5.mono hb⟩
def bd (B:Nat) (neat:Prop) (b:Nat):Prop:=(b=B\/b=B+1)\/(neat/\b<B)
def mix (p:Pol) (k j:Nat):Pol:=if j<k then neatP p else p
structure NtI (p:Pol) (B k:Nat) (w W:World):Prop where
 below:Below B w W
 size:B+2<=W.heap.size
 fld: ∀j,j<6-> ∃v,W.cell? ⟨B,j,none⟩=some v/\Rx W (bd B (j<k)) v (fN (mix p k j) j) (fS j) (fC (mix p k j) j)
 c6:W.cell? ⟨B,6,none⟩=some (.bool p.rel)
 c7:W.cell? ⟨B,7,none⟩=some (.int .i64 p.depth)
 c8:W.cell? ⟨B,8,none⟩=some (.int .i64 p.name)
 c9:W.cell? ⟨B,9,none⟩=some (.int .i64 p.value)
 fz: ∀j,W.frozen? ⟨B,j,none⟩=false
 rc: ∀j,j<10-> ∃v,W.cell? ⟨B+1,j,none⟩=some v
 rz: ∀j,W.frozen? ⟨B+1,j,none⟩=false
theorem NtI.step {p:Pol} {B k:Nat} {w W W':World} (h:NtI p B k w W) (hk:k<6) (hb:Below W.heap.size W W') {A:Option Addr} {c:Nat} (hA:Cpz A (fN (neatP p) k) c) (hr:Rd W' (.slice A (fN (neatP p) k) c) (fN (neatP p) k) (fS k) (fC (neatP p) k)) (hA2:0<fN (neatP p) k-> ∀b off s,A=some ⟨b,off,s⟩->W.heap.size<=b):
  NtI p B (k+1) w (W'.setCell ⟨B,k,none⟩ (.slice A (fN (neatP p) k) c)):=by
 have hs:=h.size
 have hs2:=hb.size
 obtain⟨v0,hv0,_⟩:=h.fld k hk
 have hB:B<W.heap.size:=by omega
 have hB1:B+1<W.heap.size:=by omega
 have t1:Turned (fun b=>b=B) W' (W'.setCell ⟨B,k,none⟩ (.slice A (fN (neatP p) k) c)):=Turned.setCell (pv:=fun b=>b=B) (p:=⟨B,k,none⟩) (Turned.refl _ W') (.inr rfl) _
 have t2:Turned (fun b=>b=B) W (W'.setCell ⟨B,k,none⟩ (.slice A (fN (neatP p) k) c)):=(Turned.of_below hb).trans t1
 have old: ∀a:Addr,a.block<W.heap.size->(⟨B,k,none⟩:Addr)≠a-> ∀v,W.cell? a=some v->(W'.setCell ⟨B,k,none⟩ (.slice A (fN (neatP p) k) c)).cell? a=some v:=fun a ha hne v hv=>by
  rw[World.cell?_setCell_other _ _ _ _ hne]
  exact(hb.cell ha).trans hv
 refine⟨h.below.trans (t2.below (by omega) (fun k hk=>by omega)),Nat.le_trans hs t2.size,fun j hj=> ?_,old _ hB (by intro e;cases e;omega) _ h.c6,old _ hB (by intro e;cases e;omega) _ h.c7,old _ hB (by intro e;cases e;omega) _ h.c8,old _ hB (by intro e;cases e;omega) _ h.c9,fun j=> ?_,fun j hj=> ?_,fun j=> ?_⟩
 ·by_cases hjk:j=k
  ·subst hjk
   refine⟨_,World.cell?_setCell_same _ _ _ ((hb.cell hB).trans hv0), ?_⟩
   have hm:mix p (j+1) j=neatP p:=by unfold mix;rw[if_pos (by omega)]
   rw[hm]
   refine⟨A,c,rfl,hA,hr.turnedN t1 (fun hn b off s he hx=> ?_),fun hn b off s he hx=> ?_⟩
   ·have:=hA2 hn b off s he;omega
   ·have:=hA2 hn b off s he
    rcases hx with(hx|hx)|⟨_,hx⟩<;>omega
  ·obtain⟨v,hv,hx⟩:=h.fld j hj
   refine⟨v,old _ hB (by intro e;cases e;exact hjk rfl) _ hv, ?_⟩
   have hm:mix p (k+1) j=mix p k j:=by
    unfold mix
    by_cases hlt:j<k
    ·rw[if_pos hlt,if_pos (by omega)]
    ·rw[if_neg hlt,if_neg (by omega)]
   rw[hm]
   refine(hx.turned (t2.mono fun b hb=> .inl (.inl hb))).mono fun b _ hb=> ?_
   rcases hb with hb|⟨hb1,hb2⟩
   ·exact .inl hb
   ·exact .inr ⟨by omega,hb2⟩
 ·rw[World.frozen?_setCell,World.frozen?_of_block (hb.block B hB)];exact h.fz j
 ·obtain⟨v,hv⟩:=h.rc j hj
  exact⟨v,old _ hB1 (by intro e;cases e) _ hv⟩
 ·rw[World.frozen?_setCell,World.frozen?_of_block (hb.block (B+1) hB1)];exact h.rz j
open Go.RowKit
theorem ins_len {α:Type} (lt:α->α->Bool) (x:α): ∀(O:List α),(insO lt x O).length<=O.length+1
 |[]=>by simp[insO]
 |y::r=>by
  unfold insO
  split
  ·have:=ins_len lt x r;simp only[List.length_cons];omega
  ·split
   ·simp
   ·simp
theorem neat_len {α:Type} (lt:α->α->Bool) (l:List α):(neatL lt l).length<=l.length:=by
 have: ∀(l o:List α),(l.foldl (fun o x=>insO lt x o) o).length<=o.length+l.length:=by
  intro l
  induction l with
  |nil=>intro o;simp
  |cons x l ih=>intro o;have h1:=ih (insO lt x o);have h2:=ins_len lt x o;simp only[List.foldl_cons,List.length_cons]at*;omega
 have:=this l []
 simpa[neatL]using this
theorem Rd.rest {W:World} {g n c size a:Nat} {xs:List Value} (h:Rd W (.slice (some ⟨g,0,none⟩) n c) n size xs) (ha:a<=n):Rd W (.slice (some ⟨g,a*size,none⟩) (n-a) (c-a)) (n-a) size (xs.drop (a*size)):=by
 obtain⟨h1,h2,A,c',he,h4⟩:=h
 cases he
 refine⟨by rw[List.length_drop,h1,Nat.sub_mul],by omega,_,_,rfl,fun h0=> ?_⟩
 obtain⟨b,off,h5,h6,h7⟩:=h4 (by omega)
 cases h5
 refine⟨g,a*size,rfl,h6,fun j u hu=> ?_⟩
 rw[List.getElem?_drop]at hu
 have:=h7 (a*size+j) u hu
 rw[Nat.zero_add]at this
 exact this
theorem Rd.over {W:World} {A:Option Addr} {c n size m:Nat} {xs:List Value} (hm:xs.length=m*size) (h0:n=0) (hmn:m=n):Rd W (.slice A n c) n size xs:=by
 subst hmn h0
 exact⟨hm,by omega,A,c,rfl,fun h=>by omega⟩
open Go.RowKit
attribute [local go_sem] Oper.semAt_some
theorem results_cell1 {fn:Func} {p:Tmp} {ty:TypeId} (h:fn.results= #[.cell p ty]) (tmps:Array Value) (P:Program) (w:World):
  (results fn tmps).run P w=((asAddr (tmps.getD p undef)).run P w).andThen fun a w₁=>(loadVar ty a).run P w₁:=by
 simp only[results,h]
 simp[Sem.run_bind,Result.andThen]
theorem eq_alw (a b c d:ByteArray) (w:World):(Op.equalIn 10000 101 (.agg #[.string a,.string b]) (.agg #[.string c,.string d])).run Tryz.prog w= .ok ((a.toList==c.toList)&&(b.toList==d.toList)) w:=by
 have h2:Tryz.prog.underlying 101=some (.struct (Tryz.prog.fieldsOf 101)):=by kernel_rfl
 have h3:Tryz.prog.stoodInHeld 101=false:=by kernel_rfl
 rw[run_equalIn_agg _ _ _ _ _ h2 h3]
 simp only[Program.fieldsOf,Tryz.underlying101]
 cases h1:(a.toList==c.toList)<;>cases h4:(b.toList==d.toList)<;>simp[go_sem,Tryz.underlying9,h1,h4]
@[go_sem high] theorem eql_alw (a b c d:ByteArray) (w:World):(binOp .eql 101 (.agg #[.string a,.string b]) (.agg #[.string c,.string d])).run Tryz.prog w= .ok (.bool ((a.toList==c.toList)&&(b.toList==d.toList))) w:=by
 rw[run_eql_struct,eq_alw];rfl
@[go_sem high] theorem neq_alw (a b c d:ByteArray) (w:World):(binOp .neq 101 (.agg #[.string a,.string b]) (.agg #[.string c,.string d])).run Tryz.prog w= .ok (.bool (!((a.toList==c.toList)&&(b.toList==d.toList)))) w:=by
 rw[run_neq_struct,eq_alw];rfl
@[go_sem] theorem guard_alw:Tryz.prog.eqGuardType Tryz.prog.depth 101=false:=by kernel_rfl
end Go.Proofs.YtiikamobcmgekaaGreatDoor

