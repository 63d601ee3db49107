/- Regions whose order is open, told by what each operation yields, in whatever order they come up. Over any program. -/
import Derived.Test.YtbhhgbgfaemfdaaGreatDoorKB
namespace Go.Proofs.YtbhhgbgfaemfdaaGreatDoor
open List renaming range→z4x
open Go.RowKit
section
variable {P:Program} {ops:Array Oper} {md:Region.Mode} {Q:Exit->Act->World->Prop} {S:World->Prop} {n:Nat} {d:Nat->Nat} {G:Nat->Value->World->Prop} {a0:Act}
structure zo6 (S:World->Prop) (a0:Act) (n:Nat) (d:Nat->Nat) (a:Act) (W:World):Prop where
 here:S W
 size:a.tmps.size=a0.tmps.size
 defers:a.defers=a0.defers
 base: ∀s,(∀i,i<n->d i≠s)->a.tmps.getD s undef=a0.tmps.getD s undef
def zkd (P:Program) (md:Region.Mode) (ops:Array Oper) (Q:Exit->Act->World->Prop) (S:World->Prop) (a0:Act) (n:Nat) (d:Nat->Nat) (G:Nat->Value->World->Prop) (i:Nat):Prop:=
 ∀a W,zo6 S a0 n d a W->(∀k,Region.waitsFor md ops i k=true->G k (a.tmps.getD (d k) undef) W)->
  ∀K:Act->World->Prop,(∀v W',S W'->Below W.heap.size W W'->G i v W'->K (a.put (some (d i)) v) W')->wpOp P ops Q i K a W
theorem zrn {a:Act} {t:Nat} {v:Value} (h:t<a.tmps.size):(a.put (some t) v).tmps.getD t undef=v:=by simp[Act.put,h]
theorem zio {a:Act} {s t:Nat} {v:Value} (h:t≠s):(a.put (some t) v).tmps.getD s undef=a.tmps.getD s undef:=by simp[Act.put,Array.getElem?_setIfInBounds_ne h]
theorem zm3 {L:Array Bool->Act->World->Prop} (hs:Region.sinkB md ops n=true) (hc:Region.chainB md ops n=true) (hn:n<ops.size)
  (hdep: ∀i oi,i<n->ops[i]? =some oi-> ∀e∈oi.after,Region.binds md e=true->e.on<i) (hdi: ∀i j,i<n->j<n->d i=d j->i=j) (hds: ∀i,i<n->d i<a0.tmps.size)
  (hG: ∀i v W W',i<n->G i v W->Below W.heap.size W W'->G i v W') (hstep: ∀i,i<n->zkd P md ops Q S a0 n d G i)
  (hL: ∀listed a W,HeadInv md ops n listed->(∀i,i<n->listed.getD i false=true)->zo6 S a0 n d a W->(∀i,i<n->G i (a.tmps.getD (d i) undef) W)->L listed a W):
  ∀(m:Nat) (us:List Nat) (listed:Array Bool) (a:Act) (W:World),us.length=m->us.Nodup->(∀i,i∈us↔i<n/\listed.getD i false=false)->HeadInv md ops n listed->zo6 S a0 n d a W->
   (∀i,i<n->listed.getD i false=true->G i (a.tmps.getD (d i) undef) W)->zfi P md ops Q S n L m listed a W:=by
 intro m
 induction m with
 |zero=>
  intro us listed a W hm _ hu inv hr hg
  have hall: ∀i,i<n->listed.getD i false=true:=fun i hi=>by
   cases h:listed.getD i false with
   |true=>rfl
   |false=>have:=(hu i).2 ⟨hi,h⟩;rw[List.eq_nil_of_length_eq_zero hm]at this;cases this
  exact hL listed a W inv hall hr fun i hi=>hg i hi (hall i hi)
 |succ m ih=>
  intro us listed a W hm hnd hu inv hr hg
  have hin: ∀i,i<n->i<listed.size:=fun i hi=>by rw[inv.size];omega
  have key: ∀k,k<n->listed.getD k false=false->Region.ready md ops listed≠[]:=by
   intro k
   induction k using Nat.strongRecOn with
   |_ k ihk=>
    intro hk hun
    obtain⟨ok,hok⟩: ∃ok,ops[k]? =some ok:=⟨ops[k],by simp[Nat.lt_trans hk hn]⟩
    by_cases hall: ∀e∈ok.after,Region.binds md e=true->listed.getD e.on false=true
    ·intro h0
     have:=(mem_ready (md:=md) (ops:=ops)).2 ⟨getD_in (hin k hk) hun,ok,hok,hall⟩
     rw[h0]at this;cases this
    ·obtain⟨e,he⟩:=Classical.not_forall.1 hall
     obtain⟨he1,he⟩:=Classical.not_imp.1 he
     obtain⟨he2,he3⟩:=Classical.not_imp.1 he
     have hlt:=hdep k ok hk hok e he1 he2
     exact ihk e.on hlt (by omega) (by simpa using he3)
  obtain⟨u0,us',rfl⟩: ∃u r,us=u::r:=by
   cases us with
   |nil=>cases hm
   |cons u r=>exact⟨u,r,rfl⟩
  have hu0:=(hu u0).1 List.mem_cons_self
  refine⟨key u0 hu0.1 hu0.2,fun x hx=> ?_⟩
  have hxn:x<n:=by
   rcases Nat.lt_or_ge x n with h|h
   ·exact h
   ·exact absurd hx (tail_waits hs hc hn inv _ u0 rfl hu0.1 (getD_in (hin u0 hu0.1) hu0.2) x h)
  obtain⟨hxun,ox,hox,hxall⟩:=mem_ready.1 hx
  have hxf:listed.getD x false=false:=getD_both hxun
  refine⟨hxn,hstep x hxn a W hr (fun k hk=> ?_) _ fun v W' hS' hb' hv=>⟨hS', ?_⟩⟩
  ·obtain⟨oi,hoi,e,he,hb,rfl⟩:=Region.waitsFor_spec hk
   have heq:oi=ox:=Option.some.inj (hoi.symm.trans hox)
   subst heq
   exact hg e.on (by have:=hdep x oi hxn hox e he hb;omega) (hxall e he hb)
  ·have hxm:x∈u0::us':=(hu x).2 ⟨hxn,hxf⟩
   refine ih ((u0::us').erase x) _ _ _ (by rw[List.length_erase_of_mem hxm,hm];rfl) (hnd.erase x) (fun i=> ?_) (inv.set hx hxn) ⟨hS',by simp[Act.put,hr.size],hr.defers,fun s hs=> ?_⟩ fun i hi hl=> ?_
   ·rw[hnd.mem_erase_iff,hu i]
    constructor
    ·rintro⟨h1,h2,h3⟩
     exact⟨h2,by rw[getD_set_ne false (Ne.symm h1)];exact h3⟩
    ·rintro⟨h2,h3⟩
     have hne:i≠x:=by
      rintro rfl
      simp[hin i h2]at h3
     exact⟨hne,h2,by rw[getD_set_ne false (Ne.symm hne)]at h3;exact h3⟩
   ·rw[zio (hs x hxn)]
    exact hr.base s hs
   ·by_cases hix:i=x
    ·subst hix
     rw[zrn (by rw[hr.size];exact hds i hxn)]
     exact hv
    ·rw[zio (fun h=>hix (hdi x i hxn hi h).symm)]
     rw[getD_set_ne false (Ne.symm hix)]at hl
     exact hG i _ W W' hi (hg i hi hl) hb'
def puts (d:Nat->Nat) (v:Nat->Value) (a0:Act) (m:Nat):Act:=(z4x m).foldl (fun b i=>b.put (some (d i)) (v i)) a0
theorem zwa (v:Nat->Value) (m:Nat):puts d v a0 (m+1)=(puts d v a0 m).put (some (d m)) (v m):=by
 unfold puts
 rw[List.range_succ,List.foldl_append]
 rfl
theorem z1m (v:Nat->Value) (hdi: ∀i j,i<n->j<n->d i=d j->i=j) (hds: ∀i,i<n->d i<a0.tmps.size): ∀m,m<=n->(puts d v a0 m).tmps.size=a0.tmps.size/\(puts d v a0 m).defers=a0.defers/\(∀s,(∀i,i<m->d i≠s)->(puts d v a0 m).tmps.getD s undef=a0.tmps.getD s undef)/\ ∀i,i<m->(puts d v a0 m).tmps.getD (d i) undef=v i:=by
 intro m
 induction m with
 |zero=>exact fun _=>⟨rfl,rfl,fun _ _=>rfl,fun i hi=>absurd hi (Nat.not_lt_zero i)⟩
 |succ m ih=>
  intro hm
  obtain⟨h1,h2,h3,h4⟩:=ih (by omega)
  rw[zwa]
  refine⟨by simp[Act.put,h1],h2,fun s hs=> ?_,fun i hi=> ?_⟩
  ·rw[zio (hs m (by omega))]
   exact h3 s fun i hi=>hs i (by omega)
  ·by_cases him:i=m
   ·subst him
    exact zrn (by rw[h1];exact hds i (by omega))
   ·rw[zio (fun h=>him (hdi m i (by omega) (by omega) h).symm)]
    exact h4 i (by omega)
theorem z0z (t:Array Value) (s:Nat) (h:s<t.size):t[s]=t.getD s undef:=by simp[h]
theorem zqk (l:List Nat) (i:Nat) (h:i<l.length):l.getD i 0=l[i]:=by simp[List.getD_eq_getElem?_getD,h]
theorem zsw {a:Act} {W:World} (hdi: ∀i j,i<n->j<n->d i=d j->i=j) (hds: ∀i,i<n->d i<a0.tmps.size) (h:zo6 S a0 n d a W):a=puts d (fun i=>a.tmps.getD (d i) undef) a0 n:=by
 obtain⟨h1,h2,h3,h4⟩:=z1m (a0:=a0) (fun i=>a.tmps.getD (d i) undef) hdi hds n (Nat.le_refl _)
 have e:a.tmps=(puts d (fun i=>a.tmps.getD (d i) undef) a0 n).tmps:=by
  refine Array.ext (by rw[h1,h.size]) fun s hs1 hs2=> ?_
  rw[z0z _ _ hs1,z0z _ _ hs2]
  by_cases hx: ∃i,i<n/\d i=s
  ·obtain⟨i,hi,rfl⟩:=hx
   rw[h4 i hi]
  ·have hx': ∀i,i<n->d i≠s:=fun i hi e=>hx ⟨i,hi,e⟩
   rw[h.base s hx',h3 s hx']
 have e2:=h.defers.trans h2.symm
 generalize hb:puts d (fun i=>a.tmps.getD (d i) undef) a0 n=b at*
 cases a
 cases b
 simp only at e e2
 rw[e,e2]
def depB (md:Region.Mode) (ops:Array Oper) (n:Nat):Bool:=(z4x n).all fun i=>match ops[i]? with
 |some o=>o.after.all fun e=> !Region.binds md e||decide (e.on<i)
 |none=>true
theorem zxp (h:depB md ops n=true): ∀i oi,i<n->ops[i]? =some oi-> ∀e∈oi.after,Region.binds md e=true->e.on<i:=by
 intro i oi hi ho e he hb
 unfold depB at h
 have:=List.all_eq_true.1 h i (List.mem_range.2 hi)
 rw[ho]at this
 have:=Array.all_eq_true_iff_forall_mem.1 this e he
 simpa[hb]using this
def zvn (ds:List Nat) (size:Nat):Bool:=ds.all (fun x=>decide (x<size))&&decide ds.Nodup
theorem zpj {ds:List Nat} {size:Nat} (h:zvn ds size=true):(∀i j,i<ds.length->j<ds.length->ds.getD i 0=ds.getD j 0->i=j)/\ ∀i,i<ds.length->ds.getD i 0<size:=by
 unfold zvn at h
 simp only[Bool.and_eq_true,List.all_eq_true,decide_eq_true_eq]at h
 refine⟨fun i j hi hj e=> ?_,fun i hi=> ?_⟩
 ·rw[zqk _ _ hi,zqk _ _ hj]at e
  exact(List.getElem_inj h.2).1 e
 ·rw[zqk _ _ hi]
  exact h.1 _ (List.getElem_mem hi)
def zq2 (P:Program) (md:Region.Mode) (ops:Array Oper) (Q:Exit->Act->World->Prop) (S:World->Prop) (a0:Act) (n:Nat) (d:Nat->Nat) (G:Nat->Value->World->Prop):List Nat->Prop
 |[]=>True
 |i::is=>zkd P md ops Q S a0 n d G i/\zq2 P md ops Q S a0 n d G is
theorem zrd: ∀{is:List Nat},zq2 P md ops Q S a0 n d G is-> ∀i∈is,zkd P md ops Q S a0 n d G i
 |_::_,h,_,hi=>by
  rcases List.mem_cons.1 hi with rfl|hi
  ·exact h.1
  ·exact zrd h.2 _ hi
theorem zbh {i:Nat} {o:Oper} (ho:ops[i]? =some o) (hd:o.dst=some (d i)) (hg:o.guard=none)
  (h: ∀a W,zo6 S a0 n d a W->(∀k,Region.waitsFor md ops i k=true->G k (a.tmps.getD (d k) undef) W)-> ∀K:Act->World->Prop,(∀v W',S W'->Below W.heap.size W W'->G i v W'->K (a.put o.dst v) W')->o.wp P a W K Q):zkd P md ops Q S a0 n d G i:=by
 intro a W hr hk K hK
 unfold wpOp
 have hw:Region.wanted o (yielded ops a.tmps)=true:=by simp[Region.wanted,hg]
 simp only[ho,hw,if_true]
 exact .inl (h a W hr hk K fun v W' h1 h2 h3=>by rw[hd];exact hK v W' h1 h2 h3)
theorem zah {i:Nat} {o:Oper} (v:Value) (ho:ops[i]? =some o) (hd:o.dst=some (d i)) (hg:o.guard=none)
  (h: ∀a W,zo6 S a0 n d a W->(∀k,Region.waitsFor md ops i k=true->G k (a.tmps.getD (d k) undef) W)->(execOp a.eval o).run P W= .ok (.value v) W/\G i v W):zkd P md ops Q S a0 n d G i:=by
 refine zbh ho hd hg fun a W hr hk K hK=> ?_
 obtain⟨h1,h2⟩:=h a W hr hk
 unfold Oper.wp
 rw[h1]
 exact hK v W hr.here (Below.refl _ _) h2
end
theorem zae {a:Act} {k:Nat} {v:Value} (h:a.tmps.getD k undef=v):a.tmps[k]?.getD undef=v:=by simpa using h
def gAt (l:List (Value->World->Prop)) (i:Nat):Value->World->Prop:=l.getD i fun _ _=>True
def isV (c:Value):Value->World->Prop:=fun v _=>v=c
def Keeps:List (Value->World->Prop)->Prop
 |[]=>True
 |g::l=>(∀v W W',g v W->Below W.heap.size W W'->g v W')/\Keeps l
theorem zag (c:Value): ∀v W W',isV c v W->Below W.heap.size W W'->isV c v W':=fun _ _ _ h _=>h
theorem ziu: ∀{l:List (Value->World->Prop)},Keeps l-> ∀i v W W',gAt l i v W->Below W.heap.size W W'->gAt l i v W'
 |[],_,_,_,_,_,_,_=>trivial
 |_::_,h,0,v,W,W',hg,hb=>h.1 v W W' hg hb
 |_::_,h,i+1,v,W,W',hg,hb=>ziu h.2 i v W W' hg hb
theorem zem {P:Program} {id:Nat} {ops:List Oper} {Q:Exit->Act->World->Prop} {a:Act} {w:World} (n:Nat) (ds:List Nat) (S:World->Prop) (G:Nat->Value->World->Prop) (hm:P.follows .mixedOrders=true)
  (hs:Region.sinkB .any ops.toArray n=true) (hc:Region.chainB .any ops.toArray n=true) (hn:n<ops.length) (hdep:depB .any ops.toArray n=true) (hds:zvn ds a.tmps.size=true) (hl:ds.length=n)
  (hseq:Region.seqB .any ops.toArray (ops.length-n) n ((z4x ops.length).map fun i=>decide (i<n)).toArray=true) (hS:S w.drew)
  (hG: ∀i v W W',i<n->G i v W->Below W.heap.size W W'->G i v W') (hstep:zq2 P .any ops.toArray Q S a n (fun i=>ds.getD i 0) G (z4x n))
  (h: ∀v W,S W->(∀i,i<n->G i (v i) W)->wpList P ops.toArray Q (ops.drop n) (puts (fun i=>ds.getD i 0) v a n) W):(Code.region id ops.toArray true).wp P Q a w:=by
 obtain⟨hdi,hdz⟩:=zpj hds
 rw[hl]at hdi hdz
 have inv0:HeadInv .any ops.toArray n (Array.replicate ops.length false):=
  ⟨by simp,fun j oj _ hl=>(by rw[getD_replicate_false]at hl;cases hl),fun t _ ht=>getD_in (by simpa using ht) (getD_replicate_false _ _)⟩
 have H:=zm3 (P:=P) (Q:=Q) (S:=S) (a0:=a) (L:=fun listed' a' w'=>Region.seqB .any ops.toArray (ops.length-n) n listed'=true/\wpList P ops.toArray Q (ops.drop n) a' w') hs hc (by simpa using hn) (zxp hdep) hdi hdz hG (fun i hi=>zrd hstep i (List.mem_range.2 hi))
  (fun listed a' W inv hall hr hg=>⟨by
   have:listed=((z4x ops.length).map fun i=>decide (i<n)).toArray:=by
    refine Array.ext (by simp[inv.size]) fun i h1 h2=> ?_
    have g1:listed[i]=listed.getD i false:=by simp[h1]
    rw[g1]
    have hi:i<ops.length:=by simpa using h2
    by_cases hin:i<n
    ·rw[hall i hin];simp[hin]
    ·rw[getD_both (inv.tail i (by omega) (by simpa using hi))];simp[hin]
   rw[this];exact hseq,by
   rw[zsw hdi hdz hr]
   exact h _ W hr.here hg⟩) n (z4x n) (Array.replicate ops.length false) a w.drew (by simp) List.nodup_range (fun i=>by rw[List.mem_range,getD_replicate_false];simp) inv0 ⟨hS,rfl,rfl,fun _ _=>rfl⟩ (fun i _ hl=>by rw[getD_replicate_false]at hl;cases hl)
 have:=zdn (g:=ops.length-n) (fun listed a w hL=>by
  have:=wpAny_of_seq (md:= .any) (Q':=Q) (ops.drop n) n listed a w (fun j=>by simp[List.getElem?_drop]) (by rw[List.length_drop];exact hL.1) hL.2
  rwa[List.length_drop]at this) _ _ _ _ H
 rw[show n+(ops.length-n)=ops.length by omega]at this
 exact wp_region_any hm this
end Go.Proofs.YtbhhgbgfaemfdaaGreatDoor

