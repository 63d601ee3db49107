import Derived.Deep.RegionHeld3
import Derived.Test.YtccjfanpjojbnaaGreatDoorKA
namespace Go.Proofs.YtccjfanpjojbnaaGreatDoor
open Bool renaming and_eq_true→bD
open Go.Ending renaming returned→aL
open List renaming eq_nil_of_length_eq_zero→gD,flatMap_append→nL,flatMap_cons→iF,getElem?_drop→yq,length_append→aZ,length_cons→aY
open Nat renaming le_trans→bG,lt_or_ge→zag
open Go.Value renaming ownBlock→xm,slice→aF
abbrev Bs:=List UInt8
def bB (c:UInt8):Bool:=decide (c.toNat=32\/(9<=c.toNat/\c.toNat<=13/\c.toNat≠11))
def eG (c:UInt8):Bool:=decide (97<=c.toNat/\c.toNat<=122)
def dR (c:UInt8):Bool:=decide (65<=c.toNat/\c.toNat<=90)
def aQ (c:UInt8):Bool:=decide (48<=c.toNat/\c.toNat<=57)
def iW (c:UInt8):Bool:=eG c||aQ c||decide (c.toNat=45)
def iO (c:UInt8):Bool:=decide (c.toNat<32\/127<=c.toNat)
def BV (c:UInt8):Bool:=decide (c.toNat=58\/c.toNat=59\/c.toNat=42)
def bW:Bs->Bool
 |[]=>false
 |c::r=>decide (r.length<64)&&eG c&&r.all iW
inductive TR where
 |ok (t:Bs) (n:Nat)
 |bad (n:Nat)
 |op
def TR.app (pre:Bs) (k:Nat):TR->TR
 | .ok t n=> .ok (pre++t) (n+k)
 | .bad n=> .bad (n+k)
 | .op=> .op
theorem TR.app_app (p q:Bs) (k l:Nat) (x:TR):(x.app q l).app p k=x.app (p++q) (k+l):=by
 cases x<;>simp[TR.app]<;>omega
def eY:Bs->TR
 |[]=> .op
 |c::r=>
  if c.toNat=34 then .ok [] 1
  else if c.toNat=92 then
   match r with
   |d::r'=>if d.toNat=92\/d.toNat=34 then(eY r').app [d] 2 else .bad 0
   |[]=> .bad 0
  else if iO c then .bad 0 else(eY r).app [c] 1
def eC:Bool->Bs->Nat
 |_,[]=>0
 |false,c::r=>if bB c then eC false r+1 else if c.toNat=35 then eC true r+1 else 0
 |true,c::r=>if c.toNat=10 then eC false r+1 else eC true r+1
theorem GL (b:Bool) (l:Bs):eC b l<=l.length:=by
 induction l generalizing b with
 |nil=>cases b<;>simp[eC]
 |cons c r ih=>
  have h1:=ih true;have h2:=ih false;cases b<;>simp only[eC,aY]<;>(repeat' split)<;>omega
inductive PR where
 |ok (kind:Nat) (text:Bs) (n:Nat)
 |bad (n:Nat)
def iA:Bs->PR
 |[]=> .bad 0
 |c::r=>
  if c.toNat=34 then
   match eY r with
   | .ok t n=> .ok 3 t (n+1)
   | .bad n=> .bad (n+1)
   | .op=> .bad 0
  else if eG c then
   if bW (c::r.takeWhile iW)then .ok 1 (c::r.takeWhile iW) (1+(r.takeWhile iW).length)else .bad 0
  else if aQ c then
   if(r.takeWhile aQ).length<9 then .ok 2 (c::r.takeWhile aQ) (1+(r.takeWhile aQ).length)else .bad 0
  else if BV c then .ok 4 [c] 1 else .bad 0
structure Lx where
 kind:Nat
 at_:Nat
 text:Bs
deriving DecidableEq
inductive SR where
 |ok (l:List Lx)
 |bad (n:Nat)
deriving DecidableEq
def SR.cons (x:Lx):SR->SR
 | .ok l=> .ok (x::l)
 | .bad n=> .bad n
def pU:Nat->Nat->Bs->SR
 |0,_,_=> .ok []
 |f+1,a,l=>
  match l.drop (eC false l)with
  |[]=> .ok []
  |r@(_::_)=>
   match iA r with
   | .ok k t n=>(pU f (a+eC false l+n) (r.drop n)).cons ⟨k,a+eC false l,t⟩
   | .bad n=> .bad (a+eC false l+n)
theorem DT {c:UInt8} (r:Bs) (h:c.toNat=34):eY (c::r)= .ok [] 1:=by rw[eY.eq_def];simp only[if_pos h]
theorem DY {c d:UInt8} (r:Bs) (h:c.toNat=92) (hd:d.toNat=92\/d.toNat=34):eY (c::d::r)=(eY r).app [d] 2:=by
 rw[eY.eq_def];simp only[if_neg (show ¬c.toNat=34 by omega),if_pos h,if_pos hd]
theorem DX {c d:UInt8} (r:Bs) (h:c.toNat=92) (hd: ¬(d.toNat=92\/d.toNat=34)):eY (c::d::r)= .bad 0:=by
 rw[eY.eq_def];simp only[if_neg (show ¬c.toNat=34 by omega),if_pos h,if_neg hd]
theorem DW {c:UInt8} (h:c.toNat=92):eY [c]= .bad 0:=by
 rw[eY.eq_def];simp only[if_neg (show ¬c.toNat=34 by omega),if_pos h]
theorem DV {c:UInt8} (r:Bs) (h1: ¬c.toNat=34) (h2: ¬c.toNat=92) (h:iO c=true):eY (c::r)= .bad 0:=by
 rw[eY.eq_def];simp only[if_neg h1,if_neg h2,if_pos h]
theorem DU {c:UInt8} (r:Bs) (h1: ¬c.toNat=34) (h2: ¬c.toNat=92) (h: ¬iO c=true):eY (c::r)=(eY r).app [c] 1:=by
 rw[eY.eq_def];simp only[if_neg h1,if_neg h2,if_neg h]
def TR.fits (m:Nat):TR->Prop
 | .ok _ n=>1<=n/\n<=m
 | .bad n=>n<m
 | .op=>True
theorem TR.fits.app {m:Nat} {x:TR} (h:x.fits m) (p:Bs) (k:Nat):(x.app p k).fits (m+k):=by
 cases x<;>simp only[TR.fits,TR.app]at* <;>omega
theorem R7 (m:Nat) (l:Bs) (h:l.length<=m):(eY l).fits l.length:=by
 induction m generalizing l with
 |zero=>cases l with
  |nil=>exact trivial
  |cons c r=>simp at h
 |succ m ih=>
  cases l with
  |nil=>exact trivial
  |cons c r=>
   simp only[aY]at h;by_cases h1:c.toNat=34
   .rw[DT r h1];simp[TR.fits]
   .by_cases h2:c.toNat=92
    .cases r with
     |nil=>rw[DW h2];simp[TR.fits]
     |cons d r=>
      simp only[aY]at h;by_cases h3:d.toNat=92\/d.toNat=34
      .rw[DY r h2 h3];exact(ih r om).app [d] 2
      .rw[DX r h2 h3];simp[TR.fits]
    .by_cases h3:iO c=true
     .rw[DV r h1 h2 h3];simp[TR.fits]
     .rw[DU r h1 h2 h3];exact(ih r om).app [c] 1
theorem JT (p:UInt8->Bool) (l:Bs):(l.takeWhile p).length<=l.length:=by
 induction l with
 |nil=>simp
 |cons c r ih=>rw[List.takeWhile_cons];split<;>simp<;>omega
def PR.fits (m:Nat):PR->Prop
 | .ok _ _ n=>1<=n/\n<=m
 | .bad n=>n<=m
theorem Dh (l:Bs):(iA l).fits l.length:=by
 cases l with
 |nil=>simp[iA,PR.fits]
 |cons c r=>
  have h1:=R7 _ r (Nat.le_refl _);have h2:=JT iW r;have h3:=JT aQ r;simp only[iA,aY];by_cases c1:c.toNat=34
  .rw[if_pos c1];cases hx:eY r<;>rw[hx]at h1<;>simp only[TR.fits,PR.fits]at* <;>omega
  .rw[if_neg c1];by_cases c2:eG c=true
   .rw[if_pos c2];split<;>simp only[PR.fits]<;>omega
   .rw[if_neg c2];by_cases c3:aQ c=true
    .rw[if_pos c3];split<;>simp only[PR.fits]<;>omega
    .rw[if_neg c3];split<;>simp only[PR.fits]<;>omega
theorem xJ (l:Bs):(∀k t n,iA l= .ok k t n->1<=n/\n<=l.length)/\(∀n,iA l= .bad n->n<=l.length):=by
 have h:=Dh l;exact⟨λk t n e=>by rw[e]at h;exact h,λn e=>by rw[e]at h;exact h⟩
def xF (a:Nat) (l:Bs):SR:=pU (l.length+1) a l
def uU:Bs->Bs
 |[]=>[]
 |c::r=>if c.toNat=34\/c.toNat=92 then 92::c::uU r else c::uU r
def xI (l:Bs):Option Bs:=if l.any iO then none else some (34::uU l++[34])
open Go.RowKit Go.Shelf
def sv (t:Bs):Value:= Value.string ⟨t.toArray⟩
@[go_sem] theorem Tt {P:Program} {w:World} {a:Addr} {md:Mode} (fn:Fn) (first captured:Array Value):(store a (.func fn first captured) md).run P w=stored P w a (.func fn first captured) md:=run_store P w a _ md rfl
@[go_sem] theorem Ts {P:Program} {w:World} {a:Addr} {md:Mode}:(store a .nilFunc md).run P w=stored P w a .nilFunc md:=run_store P w a _ md rfl
def pA (w:World) (n size:Nat) (cells:List Value) (e:Ending) (w':World):Prop:=
 ∃A c X,e=aL (aF A n c)/\w'=w.grow X/\n<=c/\Rd (w.grow X) (aF A n c) n size cells
theorem pA.of {w w':World} {A:Option Addr} {c n size:Nat} {cells:List Value} (hb:Below w.heap.size w w') (hc:n<=c) (hr:Rd w' (aF A n c) n size cells):pA w n size cells (aL (aF A n c)) w':=by
 obtain⟨X,rfl⟩:=cV hb;exact⟨A,c,X,rfl,rfl,hc,hr⟩
theorem dF {W:World} {B:Nat} {e:TypeId} {size:Nat} {v:Value} {n:Nat} {xs:List Value} (h:W.ownsRow B e size v n xs): ∃A c,v=aF A n c/\n<=c:=by
 rcases h.2 with⟨rfl,rfl⟩|⟨g,cap,cur,rfl,hb,hg,hn,hm,hs,ht⟩
 .exact⟨_,_,rfl,by omega⟩
 .exact⟨_,_,rfl,by omega⟩
theorem pA.own {w w':World} {v:Value} {n size B:Nat} {e:TypeId} {cells:List Value} (hb:Below w.heap.size w w') (ho:w'.ownsRow B e size v n cells):pA w n size cells (aL v) w':=by
 have hr:=Rd.own ho;obtain⟨A,c,rfl,hc⟩:=dF ho;exact pA.of hb hc hr
def lQ (w:World) (n size:Nat) (e:TypeId) (cells:List Value) (en:Ending) (w':World):Prop:= ∃v X,en=aL v/\w'=w.grow X/\(w.grow X).ownsRow w.heap.size e size v n cells
theorem lQ.s {w w':World} {n size:Nat} {e:TypeId} {cells:List Value} {en:Ending} (h:lQ w n size e cells en w'):pA w n size cells en w':=by
 obtain⟨v,X,rfl,rfl,ho⟩:=h;exact pA.own (dG w X) ho
theorem lQ.own {w w':World} {v:Value} {n size B:Nat} {e:TypeId} {cells:List Value} (hb:Below w.heap.size w w') (ho:w'.ownsRow B e size v n cells) (hB:w.heap.size<=B):lQ w n size e cells (aL v) w':=by
 obtain⟨X,rfl⟩:=cV hb;refine⟨v,X,rfl,rfl,ho.1, ?_⟩;rcases ho.2 with h|⟨g,cap,cur,h2,h3,h4⟩
 .exact .inl h
 .exact .inr ⟨g,cap,cur,h2,bG hB h3,h4⟩
theorem pS {P:Program} {o:Oper} {a:Act} {next:Act->World->Prop} {Q:Exit->Act->World->Prop} {l:Nat} {args args':Array Value} {W:World} {R:Ending->World->Prop}
  (h:YieldAt Fence.wide 0 P l args W R) (he:args'=args)
  (hk: ∀e W',R e W'->(∃v,e=aL v/\next (a.put o.dst v) W')):Oper.uponIn Fence.wide 0 P o a next Q ((Instr.yield l args').run P W):=by
 obtain⟨fn,tmps,assign,body,hy,hR⟩:=h;rw[he,hy];refine⟨λh=>absurd h (by simp[Fence.wide]),hR.mono λe W' h=> ?_⟩;obtain⟨v,rfl,hn⟩:=hk e W' h;exact hn
theorem Boxed.grow' {W:World} {B:Nat} {t:TypeId} {v:Value} (h:Boxed W B t v) (X:Gr):Boxed (W.grow X) B t v:=((aJ.refl (λ_=>False) W).grow X).boxed h (λh=>h)
theorem Boxed.drew' {W:World} {B:Nat} {t:TypeId} {v:Value} (h:Boxed W B t v):Boxed W.drew B t v:=h
theorem Boxed.oth {W:World} {B:Nat} {t:TypeId} {v:Value} (h:Boxed W B t v) {p:Addr} (hne:B≠p.block) (u:Value):Boxed (W.setCell p u) B t v:=(Below.heap_setCell W p u B hne).trans h
structure vG {α:Type} (w:World) (ob base:Nat) (tS tE:TypeId) (size:Nat) (cells:α->List Value) (pre:List α) (W:World):Prop where
 row: ∃v,Boxed W ob tS v/\W.ownsRow base tE size v pre.length (pre.flatMap cells)
 below:Below w.heap.size w W
theorem vG.turned {α:Type} {w:World} {ob base:Nat} {tS tE:TypeId} {size:Nat} {cells:α->List Value} {pre:List α} {A C:World} {pv:Nat->Prop}
  (h:vG w ob base tS tE size cells pre A) (ht:aJ pv A C) (h1: ¬pv ob) (h2: ∀k,pv k->k<base) (h3: ∀k,pv k->w.heap.size<=k):vG w ob base tS tE size cells pre C:=by
 obtain⟨⟨v,bv,ho⟩,hB⟩:=h;exact⟨⟨v,ht.boxed bv h1,ht.own ho h2⟩,hB.trans (ht.below hB.size h3)⟩
theorem vG.put {α:Type} {w:World} {ob base:Nat} {tS tE:TypeId} {size n':Nat} {cells:α->List Value} {pre:List α} {x:α} {V W':World} {v v':Value}
  (hB:Below w.heap.size w V) (bv:Boxed V ob tS v) (ho:W'.ownsRow base tE size v' n' (pre.flatMap cells++cells x)) (hn:n'=pre.length+1) (ht:aJ (λk=>base<=k) V W') (h1:ob<base) (h2:w.heap.size<=ob):
  aJ (λk=>k=ob\/base<=k) V (W'.setCell ⟨ob,0,none⟩ v')/\vG w ob base tS tE size cells (pre++[x]) (W'.setCell ⟨ob,0,none⟩ v'):=by
 have hT:aJ (λk=>k=ob\/base<=k) V (W'.setCell ⟨ob,0,none⟩ v'):=aJ.setCell (pv:=λk=>k=ob\/base<=k) (ht.mono λk hk=>Or.inr hk) (p:=⟨ob,0,none⟩) (Or.inr (Or.inl rfl)) _;refine⟨hT,⟨_,(ht.boxed bv om).set _, ?_⟩,hB.trans (hT.below hB.size (λk hk=>by omega))⟩;have h3:=(aJ.setCell (pv:=λk=>k=ob) (aJ.refl _ W') (p:=⟨ob,0,none⟩) (Or.inr rfl) v').own ho (λk hk=>by omega);rw[nL,aZ];subst hn;simpa using h3
theorem aJ.next {pv pw:Nat->Prop} {w A C:World} (h:aJ pv w A) (k:aJ pw A C) (hp: ∀i,pw i->i<w.heap.size->pv i):aJ pv w C:=
 ⟨k.os.trans h.os,k.tape.trans h.tape,k.output.trans h.output,bG h.size k.size,λi hi hn=>(k.block i (Nat.lt_of_lt_of_le hi h.size) (λe=>hn (hp i e hi))).trans (h.block i hi hn)⟩
structure tV {α:Type} (pv:Nat->Prop) (w:World) (ob base:Nat) (tS tE:TypeId) (size:Nat) (cells:α->List Value) (pre:List α) (W:World):Prop where
 row: ∃v,Boxed W ob tS v/\W.ownsRow base tE size v pre.length (pre.flatMap cells)
 turned:aJ pv w W
theorem tV.turn {α:Type} {pv:Nat->Prop} {w:World} {ob base:Nat} {tS tE:TypeId} {size:Nat} {cells:α->List Value} {pre:List α} {A C:World} {pw:Nat->Prop}
  (h:tV pv w ob base tS tE size cells pre A) (ht:aJ pw A C) (h1: ¬pw ob) (h2: ∀k,pw k->k<base) (h3: ∀i,pw i->i<w.heap.size->pv i):tV pv w ob base tS tE size cells pre C:=by
 obtain⟨⟨v,bv,ho⟩,hB⟩:=h;exact⟨⟨v,ht.boxed bv h1,ht.own ho h2⟩,hB.next ht h3⟩
theorem tV.put {α:Type} {pv:Nat->Prop} {w:World} {ob base:Nat} {tS tE:TypeId} {size n':Nat} {cells:α->List Value} {pre:List α} {x:α} {V W':World} {v v':Value}
  (hB:aJ pv w V) (bv:Boxed V ob tS v) (ho:W'.ownsRow base tE size v' n' (pre.flatMap cells++cells x)) (hn:n'=pre.length+1) (ht:aJ (λk=>base<=k) V W') (h1:ob<base) (h2:w.heap.size<=ob):
  aJ (λk=>k=ob\/base<=k) V (W'.setCell ⟨ob,0,none⟩ v')/\tV pv w ob base tS tE size cells (pre++[x]) (W'.setCell ⟨ob,0,none⟩ v'):=by
 have hT:aJ (λk=>k=ob\/base<=k) V (W'.setCell ⟨ob,0,none⟩ v'):=aJ.setCell (pv:=λk=>k=ob\/base<=k) (ht.mono λk hk=>Or.inr hk) (p:=⟨ob,0,none⟩) (Or.inr (Or.inl rfl)) _;refine⟨hT,⟨_,(ht.boxed bv om).set _, ?_⟩,hB.next hT (λk hk=>by omega)⟩;have h3:=(aJ.setCell (pv:=λk=>k=ob) (aJ.refl _ W') (p:=⟨ob,0,none⟩) (Or.inr rfl) v').own ho (λk hk=>by omega);rw[nL,aZ];subst hn;simpa using h3
open Go.RowKit
section
variable {F:Fence} {n0:Nat} {P:Program} {ops:Array Oper} {md:Region.Mode} {C:World->Prop}
def AM (F:Fence) (n0:Nat) (P:Program) (md:Region.Mode) (ops:Array Oper) (C:World->Prop) (n:Nat) (L:Array Bool->Act->Prop):Nat->Array Bool->Act->Prop
 |0,listed,a=>L listed a
 |f+1,listed,a=>
  Region.ready md ops listed≠[]/\ ∀i∈Region.ready md ops listed,i<n/\qOpIn F n0 P ops C i (AM F n0 P md ops C n L f (listed.setIfInBounds i true)) a
theorem PC (hro:F.round=none) {n g:Nat} {L:Array Bool->Act->Prop} {Q':Exit->Act->World->Prop} (hL: ∀listed a w,C w->L listed a->wpAnyIn F n0 P md ops Q' g listed a w):
  ∀(f:Nat) (listed:Array Bool) (a:Act) (w:World),C w->AM F n0 P md ops C n L f listed a->wpAnyIn F n0 P md ops Q' (f+g) listed a w
 |0,listed,a,w,hw,h=>by rw[Nat.zero_add];exact hL _ _ _ hw h
 |f+1,listed,a,w,hw,h=>by
  rw[show f+1+g=(f+g)+1 by omega];exact⟨λh0=>absurd h0 h.1,λi hi=>wpOpIn_of_qOpIn hro hw (λa' w' hw' h'=>PC hro hL f _ a' w' hw' h') (h.2 i hi).2⟩
theorem F0 {n i:Nat} {oi:Oper} {v:Value} {L:Array Bool->Act->Prop} (hi:ops[i]? =some oi) (hsel: ∀(j:Nat) (o:Oper) cs b,ops[j]? =some o->o.op≠ .select cs b)
  (hs:Region.sinkB md ops n=true) (hc:Region.chainB md ops n=true) (hn:n<ops.size) (hin:i<n)
  (hdone: ∀listed a,L listed a-> ∀j∈Region.ready md ops listed,n<=j):
  ∀(f:Nat) (listed:Array Bool) (a:Act),HeadInv md ops n listed->
   (∀j oj,ops[j]? =some oj->j≠i->listed.getD j true=false->(∀e∈oj.after,Region.binds md e=true->e.on≠i)->oi.apart ops oj=true)->
   i∈Region.ready md ops listed->YieldsQuiet F n0 P ops C oi v a->
   AM F n0 P md ops C n L f (listed.setIfInBounds i true) (a.put oi.dst v)->AM F n0 P md ops C n L (f+1) listed a:=by
 intro f;induction f with
 |zero=>
  intro listed a inv _ hr hy H;have hun:=(mem_ready.1 hr).1;refine⟨λh=>(by rw[h]at hr;cases hr),λj hj=> ?_⟩;have hjn:j<n:=by
   rcases zag j n with h|h
   .exact h
   .exact absurd hj (tail_waits hs hc hn inv _ i rfl hin hun j h)
  refine⟨hjn, ?_⟩;by_cases hji:j=i
  .subst hji;exact hy.qOpIn hi H
  .have:=hdone _ _ H j (ready_mono hj hji);omega
 |succ f ih=>
  intro listed a inv hfree hr hy H;have hun:=(mem_ready.1 hr).1;refine⟨λh=>(by rw[h]at hr;cases hr),λj hj=> ?_⟩;have hjn:j<n:=by
   rcases zag j n with h|h
   .exact h
   .exact absurd hj (tail_waits hs hc hn inv _ i rfl hin hun j h)
  refine⟨hjn, ?_⟩;by_cases hji:j=i
  .subst hji;exact hy.qOpIn hi H
  .have h1:=(H.2 j (ready_mono hj hji)).2;obtain⟨hjun,oj,hoj,hall⟩:=mem_ready.1 hj;have hnot: ∀e∈oj.after,Region.binds md e=true->e.on≠i:=λe he hb heq=>by
    have h1:=hall e he hb;rw[heq,getD_both hun]at h1;cases h1
   have h2:=qOpIn_put hoj (hfree j oj hoj hji hjun hnot) (λcs b=>hsel i oi cs b hi) (λcs b=>hsel j oj cs b hoj) hy h1;have hfree': ∀k ok,ops[k]? =some ok->k≠i->(listed.setIfInBounds j true).getD k true=false->
     (∀e∈ok.after,Region.binds md e=true->e.on≠i)->oi.apart ops ok=true:=λk ok hk hki hun hno=>by
    refine hfree k ok hk hki ?_ hno;by_cases hjk:j=k
    .subst hjk;exact hjun
    .rw[getD_set_ne true hjk]at hun;exact hun
   refine qOpIn_mono (λa' h3=>ih (listed.setIfInBounds j true) a' (inv.set hj hjn) hfree' (ready_mono hr (Ne.symm hji)) h3.1 ?_) h2;rw[Array.setIfInBounds_comm _ _ hji];exact h3.2
theorem OU {n g:Nat} {Lq:Act->Prop} (hsel:Region.noSelect ops=true) (hs:Region.sinkB md ops n=true) (hc:Region.chainB md ops n=true) (hn:n<ops.size):
  ∀(l:List Oper) (k:Nat) (listed:Array Bool) (a:Act),(∀j,j<l.length->l[j]? =ops[k+j]?)->k+l.length=n->HeadInv md ops n listed->
  Region.lexHead md ops g l.length k listed=true->wpQuietIn F n0 P ops C Lq l a->
  AM F n0 P md ops C n (λlisted' a'=>Region.seqB md ops g n listed'=true/\Lq a') l.length listed a
 |[],k,listed,a,_,hk,_,hB,h=>by
  have:k=n:=by simpa using hk
  subst this;exact⟨by simpa[Region.lexHead]using hB,h⟩
 |o::l,k,listed,a,hl,hk,inv,hB,h=>by
  have h0:ops[k]? =some o:=by simpa using(hl 0 (by simp)).symm
  simp only[aY,Region.lexHead,bD]at hB;obtain⟨⟨hr,hf⟩,hB'⟩:=hB;have hkn:k<n:=by simp only[aY]at hk;omega
  have hr':k∈Region.ready md ops listed:=by simpa using hr
  have hst:qOpIn F n0 P ops C k (wpQuietIn F n0 P ops C Lq l) a:=by unfold qOpIn;simp only[h0];exact h
  obtain⟨v,hy,hK⟩:=yieldsQuiet_of_qOpIn h0 hst;exact F0 h0 (Region.noSelect_spec hsel) hs hc hn hkn (λlisted' a' hL=>seqB_ready hL.1) l.length listed a inv (Region.free_spec h0 hf) hr' hy
   (OU hsel hs hc hn l (k+1) _ _ (λj hj=>by have:=hl (j+1) (by simp;omega);simpa[Nat.add_assoc,Nat.add_comm 1 j]using this) (by simp only[aY]at hk;omega) (inv.set hr' hkn) hB' hK)
end
theorem PB {F:Fence} {n0:Nat} {P:Program} {ops:Array Oper} {md:Region.Mode} {Q':Exit->Act->World->Prop}: ∀(l:List Oper) (k:Nat) (listed:Array Bool) (a:Act) (w:World),(∀j,l[j]? =ops[k+j]?)->
  Region.seqB md ops l.length k listed=true->wpListIn F n0 P ops Q' l a w->wpAnyIn F n0 P md ops Q' l.length listed a w
 |[],_,_,_,_,_,hB,h=>⟨by simpa[Region.seqB]using hB,h⟩
 |o::l,k,listed,a,w,hl,hB,h=>by
  have h0:ops[k]? =some o:=by simpa using(hl 0).symm
  simp only[aY,Region.seqB,bD,decide_eq_true_eq]at hB;refine⟨λh1=>(by rw[hB.1]at h1;cases h1),λi hi=> ?_⟩;rw[hB.1]at hi;have hik:i=k:=by simpa using hi
  subst hik;have hw:wpOpIn F n0 P ops Q' i (wpListIn F n0 P ops Q' l) a w:=by unfold wpOpIn;simp only[h0];exact h
  exact wpOpIn_mono (λa' w' h'=>PB l (i+1) _ a' w' (λj=>by have:=hl (j+1);simpa[Nat.add_assoc,Nat.add_comm 1 j]using this) hB.2 h') hw
theorem OS {F:Fence} {n0:Nat} {P:Program} {id:Nat} {Q:Exit->Act->World->Prop} {a:Act} {w:World} {l:List Oper} (hro:F.round=none) (hm:P.follows .mixedOrders=true) (hB:Region.lexB .any l.toArray=true)
  (h:wpQuietIn F n0 P l.toArray (λw'=> ∃X,w'=w.grow X) (λa'=> ∀w',(∃X,w'=w.grow X)->Q .normal a' w') l a):(Code.region id l.toArray true).wpIn F n0 P Q a w:=
 wpIn_region_quiet (C:=λw'=> ∃X,w'=w.grow X) hro hm hB ⟨⟨#[],w.drawn+1⟩,by simp[World.grow]⟩ (by simpa using h)
theorem DD {F:Fence} {n0:Nat} {P:Program} {id:Nat} {Q:Exit->Act->World->Prop} {a:Act} {w:World} {l:List Oper} (n:Nat) (hro:F.round=none) (hm:P.follows .mixedOrders=true) (hB:Region.lexTailB .any l.toArray n=true)
  (h:wpQuietIn F n0 P l.toArray (λw'=> ∃X,w'=w.grow X) (λa'=> ∀w',(∃X,w'=w.grow X)->wpListIn F n0 P l.toArray Q (l.drop n) a' w') (l.take n) a):(Code.region id l.toArray true).wpIn F n0 P Q a w:=by
 simp only[Region.lexTailB,bD,decide_eq_true_eq]at hB;obtain⟨⟨⟨⟨hsel,hn⟩,hs⟩,hc⟩,hlex⟩:=hB;have hn':n<l.length:=by simpa using hn
 have htl:(l.take n).length=n:=by simp;omega
 have hdl:(l.drop n).length=l.toArray.size-n:=by simp
 have inv0:HeadInv .any l.toArray n (Array.replicate l.toArray.size false):=
  ⟨by simp,λj oj _ hl=>(by rw[getD_replicate_false]at hl;cases hl),λt _ ht=>getD_in (by simpa using ht) (getD_replicate_false _ _)⟩
 have H:=OU (F:=F) (n0:=n0) (md:= .any) (g:=l.toArray.size-n) hsel hs hc hn (l.take n) 0 _ a (λj hj=>by
  have hj':j<n:=by rw[htl]at hj;exact hj
  simp[hj']) (by simpa using htl) inv0 (by rw[htl];exact hlex) h
 refine wpIn_region_any hm ?_;have:=PC hro (Q':=Q) (g:=l.toArray.size-n) (λlisted a' w' hw' hL=>by
  have:=PB (md:= .any) (Q':=Q) (l.drop n) n listed a' w' (λj=>by simp[yq]) (by rw[hdl];exact hL.1) (hL.2 w' hw');rwa[hdl]at this) _ _ _ {w with drawn:=w.drawn+1} ⟨⟨#[],w.drawn+1⟩,by simp[World.grow]⟩ H
 rw[htl,show n+(l.toArray.size-n)=l.toArray.size by omega]at this;exact this
theorem CallsIn.grow_of {P:Program} {f:FuncId} {args:Array Value} {w:World} {X:Gr} {v:Value}
  (h:Calls P f args (w.grow X) (aH v (w.grow X))):CallsIn Fence.wide 0 P f args (w.grow X) λe w''=>e=aL v/\ ∃Y,w''=w.grow Y:=
 Go.callsIn_wide.2 (Calls.grow_of h)
open Go.RowKit Go.Shelf
theorem oY {α:Type} (cells:α->List Value) (n:Nat) (hn: ∀x,(cells x).length=n) (l:List α):(l.flatMap cells).length=l.length*n:=by
 induction l with
 |nil=>simp
 |cons x l ih=>rw[iF,aZ,ih,hn,aY,Nat.add_mul];omega
theorem wH {α:Type} (cells:α->List Value) (n:Nat) (hn: ∀x,(cells x).length=n) (l:List α) (k:Nat) (h:k<l.length) (j:Nat) (hj:j<n):(l.flatMap cells)[k*n+j]? =(cells l[k])[j]? :=by
 induction l generalizing k with
 |nil=>simp at h
 |cons x l ih=>
  rw[iF];cases k with
  |zero=>rw[Nat.zero_mul,Nat.zero_add,List.getElem?_append_left (by rw[hn];exact hj)];rfl
  |succ k=>
   rw[List.getElem?_append_right (by rw[hn,Nat.add_mul];omega),hn,show(k+1)*n+j-n=k*n+j by rw[Nat.add_mul];omega];exact ih k (by simpa using h)
theorem Rd.flat {α:Type} {w:World} {A:Option Addr} {m c n:Nat} {l:List α} {cells:α->List Value} (hn: ∀x,(cells x).length=n) (h:Rd w (aF A m c) l.length n (l.flatMap cells)) (k:Nat) (hk:k<l.length):
  ∃b off,A=some ⟨b,off,none⟩/\b<w.heap.size/\ ∀j u,j<n->(cells l[k])[j]? =some u->w.cell? ⟨b,off+k*n+j,none⟩=some u:=by
 obtain⟨_,_,A',c',e,h4⟩:=h;cases e;obtain⟨b,off,rfl,hb,hc⟩:=h4 om;refine⟨b,off,rfl,hb,λj u hj hu=> ?_⟩;rw[Nat.add_assoc];exact hc _ _ (by rw[wH cells n hn l k hk j hj];exact hu)
theorem xW (a b:Bs):(⟨a.toArray⟩:ByteArray)++⟨b.toArray⟩=⟨(a++b).toArray⟩:=by
 apply yB;rw[ByteArray.data_append];simp
theorem Ef {W:World} {B:Nat} {e:TypeId} {size:Nat} {v:Value} {n:Nat} {xs:List Value} (h:W.ownsRow B e size v n xs) {b:Nat} (hb: ∀k,v.ownBlock=some k->k≠b) (i:Nat) (u:Value):(W.setCell ⟨b,i,none⟩ u).ownsRow B e size v n xs:=by
 refine⟨h.1, ?_⟩;rcases h.2 with⟨h1,h2⟩|⟨g,cap,cur,h1,h2,h3,h4⟩
 .exact Or.inl ⟨h1,h2⟩
 .refine Or.inr ⟨g,cap,cur,h1,h2, ?_,h4⟩;exact(Below.heap_setCell W ⟨b,i,none⟩ u g (hb g (by rw[h1];rfl))).trans h3
open Go.RowKit
theorem UG {w:World} {B:Nat} {e:TypeId} {size:Nat} {v:Value} {n:Nat} {xs:List Value} (h:w.ownsRow B e size v n xs) (o:Obj):(w.alloc o).ownsRow B e size v n xs:=by
 rw[qG];exact jT h _
theorem zL {w:World} {B B2:Nat} {e:TypeId} {size:Nat} {v:Value} {n:Nat} {xs:List Value} (h:w.ownsRow B2 e size v n xs) (hB:B<=B2):w.ownsRow B e size v n xs:=by
 obtain⟨h1,h2|⟨g,cap,cur,h2,h3,h4⟩⟩:=h
 .exact⟨h1,.inl h2⟩
 .exact⟨h1,.inr ⟨g,cap,cur,h2,bG hB h3,h4⟩⟩
theorem UE {W:World} {e:TypeId} {size base B:Nat} (hB:B=W.heap.size) (hb:base<=W.heap.size):(W.alloc (.cells #[] e)).ownsRow base e size (aF (some ⟨B,0,none⟩) 0 0) 0 []:=by
 subst hB;exact zL (lW (c:= #[]) (n:=0) (by simp) (by simp)) hb
theorem xL {w0 W:World} {A:Option Addr} {n c size:Nat} {xs:List Value} (h:Rd w0 (aF A n c) n size xs) (hn:A=none->c=0) (hb:Below w0.heap.size w0 W):
  (aF A n c=aF none 0 0/\n=0)\/ ∃ad c',aF A n c=aF (some ad) n c'/\ ∀j u,xs[j]? =some u->W.cell? (ad.add j)=some u:=by
 obtain⟨h1,_,A',c',h2,h3⟩:=h;cases h2;cases A with
 |none=>
  have h0:n=0:=by
   rcases Nat.eq_zero_or_pos n with h0|h0
   .exact h0
   .obtain⟨b,off,h4,_⟩:=h3 h0;cases h4
  exact .inl ⟨by rw[h0,hn rfl],h0⟩
 |some ad=>
  refine .inr ⟨ad,c,rfl,λj u hu=> ?_⟩;rcases Nat.eq_zero_or_pos n with h0|h0
  .rw[h0,Nat.zero_mul]at h1;rw[gD h1]at hu;simp at hu
  .obtain⟨b,off,h4,h5,h6⟩:=h3 h0;cases h4;have hadd:(⟨b,off,none⟩:Addr).add j=⟨b,off+j,none⟩:=by unfold Addr.add;split<;>simp_all
   rw[hadd];exact(hb.cell h5).trans (h6 j u hu)
theorem aH.flat {P:Program} {f:FuncId} {args:Array Value} {w1:World} {X:Gr} {v:Value} (h:Calls P f args (w1.grow X) (aH v (w1.grow X))):Calls P f args (w1.grow X) (aH v w1):=
 h.mono λ_ _ ⟨h1,Y,h2⟩=>⟨h1,_,h2.trans (jV w1 X Y)⟩
theorem zF {P:Program} {f:FuncId} {args:Array Value} {u:World} {Y:Gr} {v:Value} {Q:Ending->World->Prop} (h:Calls P f args (u.grow Y) (aH v (u.grow Y))) (g: ∀X,Q (aL v) (u.grow X)):Calls P f args (u.grow Y) Q:=zG (aH.flat h) g
theorem aH.flatA {P:Program} {f:FuncId} {args:Array Value} {w1:World} {X:Gr} {o:Obj} {v:Value} (h:Calls P f args ((w1.grow X).alloc o) (aH v ((w1.grow X).alloc o))):Calls P f args ((w1.grow X).alloc o) (aH v w1):=
 h.mono λ_ _ hh=>by
  obtain⟨h1,Y,rfl⟩:=hh;exact⟨h1,_,by rw[qG,jV,jV]⟩
open Go.RowKit
theorem SY {n:Nat} {P:Program} {row:String} {args:Array Value} {w:World} {R:Value->World->Prop} (h:Rows P row args w R):RowsIn Fence.wide n P row args w R:=
 λc cs _=>let⟨v,w',r,s⟩:=h c cs;⟨v,w',r,stepsIn_wide.2 s⟩
theorem E8 {P:Program} {l:Nat} {o:Oper} (hnd: ∀c,o.op≠ .defer c) {a:Act} {w:World} {K:Act->World->Prop} {Q:Exit->Act->World->Prop} (h:o.wp P a w K Q):o.wpIn (Fence.wide.inRound l) 0 P a w K Q:=by
 unfold Oper.wp at h;unfold Oper.wpIn;refine⟨λf _=>trivial, ?_⟩;rw[Oper.semAt_eq _ _ _ hnd];generalize(execOp a.eval o).run P w=r at*;cases r with
 |ok n w'=>
  cases n<;>simp only[Oper.upon]at h<;>simp only[Oper.uponIn]
  case value u=>exact h
  case skip=>exact h
  case defer d=>exact h
  case enter f args=>exact⟨λhd=>by simp[Fence.wide,Fence.inRound]at hd,(callsIn_wide (n:=0-1)).2 h⟩
  case row row args=>exact⟨λhd=>by simp[Fence.wide,Fence.inRound]at hd,SY (n:=0-1) h⟩
 |halt x w'=>
  cases x<;>simp only[Oper.upon]at h<;>simp only[Oper.uponIn];all_goals exact h
theorem E4 {P:Program} {l:Nat} {ops:Array Oper} (hnd: ∀o∈ops,∀c,o.op≠ .defer c) {Q:Exit->Act->World->Prop} (hlo: ¬LetsOut Q) {i:Nat} {K:Act->World->Prop} {a:Act} {w:World} (h:wpOp P ops Q i K a w):wpOpIn (Fence.wide.inRound l) 0 P ops Q i K a w:=by
 unfold wpOp at h;unfold wpOpIn;split
 .rename_i ho;simp only[ho]at h;exact h
 .rename_i o ho;simp only[ho]at h;split
  .rename_i hw;simp only[hw,if_true]at h;rcases h with h|⟨_,h⟩
   .exact E8 (hnd o (Array.mem_of_getElem? ho)) h
   .exact absurd h hlo
  .rename_i hw;simp only[hw]at h;exact⟨λf _=>trivial,h⟩
theorem PA {P:Program} {l:Nat} {ops:Array Oper} {md:Region.Mode} (hnd: ∀o∈ops,∀c,o.op≠ .defer c) {Q:Exit->Act->World->Prop} (hlo: ¬LetsOut Q): ∀(fuel:Nat) (listed:Array Bool) (a:Act) (w:World),wpAny P md ops Q fuel listed a w->wpAnyIn (Fence.wide.inRound l) 0 P md ops Q fuel listed a w
 |0,_,_,_,h=>h
 |fuel+1,_,_,_,h=>⟨h.1,λi hi=>E4 hnd hlo (wpOp_mono (λa' w' h'=>PA hnd hlo fuel _ a' w' h') (h.2 i hi))⟩
def LP (ops:Array Oper):Bool:=ops.all λo=>match o.op with
 | .defer _=>false
 |_=>true
theorem Fk {ops:Array Oper} (h:LP ops=true): ∀o∈ops,∀c,o.op≠ .defer c:=by
 intro o ho c hc;unfold LP at h;rw[Array.all_eq_true_iff_forall_mem]at h;have:=h o ho;rw[hc]at this;cases this
section
variable {P:Program} {ops:Array Oper} {md:Region.Mode} {Q:Exit->Act->World->Prop} {S:World->Prop}
def wV (P:Program) (md:Region.Mode) (ops:Array Oper) (Q:Exit->Act->World->Prop) (S:World->Prop) (n:Nat) (L:Array Bool->Act->World->Prop):Nat->Array Bool->Act->World->Prop
 |0,listed,a,w=>L listed a w
 |f+1,listed,a,w=>Region.ready md ops listed≠[]/\ ∀i∈Region.ready md ops listed,i<n/\wpOp P ops Q i (λa' w'=>S w'/\wV P md ops Q S n L f (listed.setIfInBounds i true) a' w') a w
theorem IK {n g:Nat} {L:Array Bool->Act->World->Prop} (hL: ∀listed a w,L listed a w->wpAny P md ops Q g listed a w):
  ∀(f:Nat) (listed:Array Bool) (a:Act) (w:World),wV P md ops Q S n L f listed a w->wpAny P md ops Q (f+g) listed a w
 |0,listed,a,w,h=>by rw[Nat.zero_add];exact hL _ _ _ h
 |f+1,listed,a,w,h=>by
  rw[show f+1+g=(f+g)+1 by omega];exact⟨λh0=>absurd h0 h.1,λi hi=>wpOp_mono (λa' w' h'=>IK hL f _ a' w' h'.2) (h.2 i hi).2⟩
theorem OX {n i:Nat} {oi:Oper} {v:Value} {L:Array Bool->Act->World->Prop} (hi:ops[i]? =some oi) (hsel: ∀(j:Nat) (o:Oper) cs b,ops[j]? =some o->o.op≠ .select cs b)
  (hQ: ∀c a w,Q (.panic c) (a.put oi.dst v) w->Q (.panic c) a w)
  (hs:Region.sinkB md ops n=true) (hc:Region.chainB md ops n=true) (hn:n<ops.size) (hin:i<n)
  (hdone: ∀listed a w,L listed a w-> ∀j∈Region.ready md ops listed,n<=j):
  ∀(f:Nat) (listed:Array Bool) (a:Act) (w:World),HeadInv md ops n listed->
   (∀j oj,ops[j]? =some oj->j≠i->listed.getD j true=false->(∀e∈oj.after,Region.binds md e=true->e.on≠i)->oi.apart ops oj=true)->
   i∈Region.ready md ops listed->YieldsIf P ops S oi v a->S w->
   wV P md ops Q S n L f (listed.setIfInBounds i true) (a.put oi.dst v) w->wV P md ops Q S n L (f+1) listed a w:=by
 intro f;induction f with
 |zero=>
  intro listed a w inv _ hr hy hS H;have hun:=(mem_ready.1 hr).1;refine⟨λh=>(by rw[h]at hr;cases hr),λj hj=> ?_⟩;have hjn:j<n:=by
   rcases zag j n with h|h
   .exact h
   .exact absurd hj (tail_waits hs hc hn inv _ i rfl hin hun j h)
  refine⟨hjn, ?_⟩;by_cases hji:j=i
  .subst hji;exact hy.wpOp hi hS ⟨hS,H⟩
  .have:=hdone _ _ _ H j (ready_mono hj hji);omega
 |succ f ih=>
  intro listed a w inv hfree hr hy hS H;have hun:=(mem_ready.1 hr).1;refine⟨λh=>(by rw[h]at hr;cases hr),λj hj=> ?_⟩;have hjn:j<n:=by
   rcases zag j n with h|h
   .exact h
   .exact absurd hj (tail_waits hs hc hn inv _ i rfl hin hun j h)
  refine⟨hjn, ?_⟩;by_cases hji:j=i
  .subst hji;exact hy.wpOp hi hS ⟨hS,H⟩
  .have h1:=(H.2 j (ready_mono hj hji)).2;obtain⟨hjun,oj,hoj,hall⟩:=mem_ready.1 hj;have hnot: ∀e∈oj.after,Region.binds md e=true->e.on≠i:=λe he hb heq=>by
    have h1:=hall e he hb;rw[heq,getD_both hun]at h1;cases h1
   have h2:=wpOp_putIf hoj (hfree j oj hoj hji hjun hnot) (λcs b=>hsel i oi cs b hi) (λcs b=>hsel j oj cs b hoj) hQ hy h1;have hfree': ∀k ok,ops[k]? =some ok->k≠i->(listed.setIfInBounds j true).getD k true=false->
     (∀e∈ok.after,Region.binds md e=true->e.on≠i)->oi.apart ops ok=true:=λk ok hk hki hun hno=>by
    refine hfree k ok hk hki ?_ hno;by_cases hjk:j=k
    .subst hjk;exact hjun
    .rw[getD_set_ne true hjk]at hun;exact hun
   refine wpOp_mono (λa' w' h3=>⟨h3.2.1,ih (listed.setIfInBounds j true) a' w' (inv.set hj hjn) hfree' (ready_mono hr (Ne.symm hji)) h3.1 h3.2.1 ?_⟩) h2;rw[Array.setIfInBounds_comm _ _ hji];exact h3.2.2
def dD (P:Program) (ops:Array Oper) (Q:Exit->Act->World->Prop) (S:World->Prop) (L:Act->World->Prop):List (Nat × Bool)->Act->World->Prop
 |[],a,w=>L a w
 |(i,true)::is,a,w=> ∃o v,ops[i]? =some o/\YieldsIf P ops S o v a/\dD P ops Q S L is (a.put o.dst v) w
 |(i,false)::is,a,w=>wpOp P ops Q i (λa' w'=>S w'/\dD P ops Q S L is a' w') a w
def sB (md:Region.Mode) (ops:Array Oper) (n g:Nat):List (Nat × Bool)->Array Bool->Bool
 |[],listed=>Region.seqB md ops g n listed
 |(i,true)::is,listed=>decide (i<n)&&Region.free md ops listed i&&(Region.ready md ops listed).contains i&&sB md ops n g is (listed.setIfInBounds i true)
 |(i,false)::is,listed=>decide (i<n)&&decide (Region.ready md ops listed=[i])&&sB md ops n g is (listed.setIfInBounds i true)
theorem DE {n g:Nat} {L:Act->World->Prop} (hsel:Region.noSelect ops=true) (hs:Region.sinkB md ops n=true) (hc:Region.chainB md ops n=true) (hn:n<ops.size)
  (hQ: ∀c a d v w,Q (.panic c) (a.put d v) w->Q (.panic c) a w):
  ∀(is:List (Nat × Bool)) (listed:Array Bool) (a:Act) (w:World),HeadInv md ops n listed->sB md ops n g is listed=true->S w->dD P ops Q S L is a w->
   wV P md ops Q S n (λlisted' a' w'=>Region.seqB md ops g n listed'=true/\L a' w') is.length listed a w
 |[],listed,a,w,inv,hB,hS,h=>⟨hB,h⟩
 |(i,true)::is,listed,a,w,inv,hB,hS,h=>by
  simp only[sB,bD,decide_eq_true_eq]at hB;obtain⟨⟨⟨hin,hf⟩,hr⟩,hB⟩:=hB;have hr:i∈Region.ready md ops listed:=by simpa using hr
  obtain⟨o,v,ho,hy,h⟩:=h;exact OX ho (Region.noSelect_spec hsel) (λc a w=>hQ c a _ _ w) hs hc hn hin (λlisted' a' w' hL=>seqB_ready hL.1) is.length listed a w inv (Region.free_spec ho hf) hr hy hS
   (DE hsel hs hc hn hQ is _ _ _ (inv.set hr hin) hB hS h)
 |(i,false)::is,listed,a,w,inv,hB,hS,h=>by
  simp only[sB,bD,decide_eq_true_eq]at hB;obtain⟨⟨hin,hr⟩,hB⟩:=hB;refine⟨by rw[hr];simp,λj hj=> ?_⟩;have hji:j=i:=by rw[hr]at hj;simpa using hj
  subst hji;refine⟨hin,wpOp_mono (λa' w' h'=>⟨h'.1,DE hsel hs hc hn hQ is _ _ _ (inv.set hj hin) hB h'.1 h'.2⟩) h⟩
theorem bN {L:Act->World->Prop} {is:List (Nat × Bool)} {i:Nat} {a:Act} {w:World} {o:Oper} {v:Value} (ho:ops[i]? =some o) (hw:Region.wanted o (yielded ops a.tmps)=true)
  (hv: ∀W,S W->(execOp a.eval o).run P W= .ok (.value v) W) (h:dD P ops Q S L is (a.put o.dst v) w):dD P ops Q S L ((i,true)::is) a w:=⟨o,v,ho,.inl ⟨hw,hv⟩,h⟩
theorem cC {L:Act->World->Prop} {is:List (Nat × Bool)} {i:Nat} {a:Act} {w:World} {o:Oper} (ho:ops[i]? =some o) (hw:Region.wanted o (yielded ops a.tmps)=true)
  (h: ∀K:Act->World->Prop,(∀a' w',S w'/\dD P ops Q S L is a' w'->K a' w')->o.wp P a w K Q):dD P ops Q S L ((i,false)::is) a w:=by
 show wpOp P ops Q i _ a w;unfold wpOp;simp only[ho,hw,if_true];exact .inl (h _ λ_ _ h=>h)
theorem IJ {n:Nat} {l:List Oper} {is:List (Nat × Bool)} {a:Act} {w:World} (hsel:Region.noSelect l.toArray=true) (hs:Region.sinkB md l.toArray n=true) (hc:Region.chainB md l.toArray n=true) (hn:n<l.length) (hlen:is.length=n)
  (hQ: ∀c a d v w,Q (.panic c) (a.put d v) w->Q (.panic c) a w) (hB:sB md l.toArray n (l.length-n) is (Array.replicate l.length false)=true) (hS:S w)
  (h:dD P l.toArray Q S (λa' w'=>wpList P l.toArray Q (l.drop n) a' w') is a w):wpAny P md l.toArray Q l.length (Array.replicate l.length false) a w:=by
 have inv0:HeadInv md l.toArray n (Array.replicate l.length false):=
  ⟨by simp,λj oj _ hl=>(by rw[getD_replicate_false]at hl;cases hl),λt _ ht=>getD_in (by simpa using ht) (getD_replicate_false _ _)⟩
 have H:=DE (g:=l.length-n) hsel hs hc (by simpa using hn) hQ is _ a w inv0 hB hS h;have:=IK (g:=l.length-n) (λlisted a' w' hL=>by
  have:=wpAny_of_seq (md:=md) (Q':=Q) (l.drop n) n listed a' w' (λj=>by simp[yq]) (by rw[List.length_drop];exact hL.1) hL.2;rwa[List.length_drop]at this) _ _ _ _ H
 rwa[hlen,show n+(l.length-n)=l.length by omega]at this
end
theorem E7 {P:Program} {l id:Nat} {ops:List Oper} {Q:Exit->Act->World->Prop} {a:Act} {w:World} (n:Nat) (is:List (Nat × Bool)) (S:World->Prop) (hm:P.follows .mixedOrders=true) (hnd:LP ops.toArray=true) (hlo: ¬LetsOut Q)
  (hsel:Region.noSelect ops.toArray=true) (hs:Region.sinkB .any ops.toArray n=true) (hc:Region.chainB .any ops.toArray n=true) (hn:n<ops.length) (hlen:is.length=n)
  (hQ: ∀c a d v w,Q (.panic c) (a.put d v) w->Q (.panic c) a w) (hB:sB .any ops.toArray n (ops.length-n) is (Array.replicate ops.length false)=true) (hS:S w.drew)
  (h:dD P ops.toArray Q S (λa' w'=>wpList P ops.toArray Q (ops.drop n) a' w') is a w.drew):(Code.region id ops.toArray true).wpIn (Fence.wide.inRound l) 0 P Q a w:=by
 refine wpIn_region_any hm (PA (Fk hnd) hlo _ _ _ _ ?_);exact IJ hsel hs hc hn hlen hQ hB hS h
theorem UF {W:World} {B1 B2:Nat} {e1 e2:TypeId} {s1 s2:Nat} {v u:Value} {n m:Nat} {xs ys:List Value} (h1:W.ownsRow B1 e1 s1 v n xs) (h2:W.ownsRow B2 e2 s2 u m ys) (he:e1≠e2): ∀b,v.ownBlock=some b->u.ownBlock≠some b:=by
 intro b hv hu;rcases h1.2 with⟨rfl,_⟩|⟨g,cap,cur,rfl,_,h3,_⟩
 .simp[xm]at hv
 .rcases h2.2 with⟨rfl,_⟩|⟨g2,cap2,cur2,rfl,_,h4,_⟩
  .simp[xm]at hu
  .simp[xm]at hv hu;subst hv hu;rw[h3]at h4;simp only[Option.some.injEq,Obj.cells.injEq]at h4;exact he h4.2.1
theorem ER {W W':World} {eC:Option Nat} (hg:W.grownBy W' eC) {B:Nat} {e:TypeId} {size:Nat} {u:Value} {n:Nat} {xs:List Value} (h:W.ownsRow B e size u n xs) (hne: ∀b,u.ownBlock=some b->eC≠some b):W'.ownsRow B e size u n xs:=by
 refine⟨h.1, ?_⟩;rcases h.2 with h2|⟨g,cap,cur,rfl,h3,h4,h5⟩
 .exact .inl h2
 .exact .inr ⟨g,cap,cur,rfl,h3,(hg.block g (Array.getElem?_eq_some_iff.1 h4).1 (λhb=>hne g rfl hb.symm)).trans h4,h5⟩
theorem QC {W W':World} {eC:Option Nat} (hg:W.grownBy W' eC) {pv:Nat->Prop} (hp: ∀b,eC=some b->pv b):aJ pv W W':=
 ⟨hg.os,hg.tape,hg.output,hg.size,λk hk hn=>hg.block k hk λe=>hn (hp k e.symm)⟩
theorem uG {W:World} {B:Nat} {e:TypeId} {size:Nat} {A:Option Addr} {n c:Nat} {xs:List Value} (h:W.ownsRow B e size (aF A n c) n xs):A=none->c=0:=by
 intro hA;subst hA;rcases h.2 with⟨h2,_⟩|⟨g,cap,cur,h2,_⟩
 .simp only[aF.injEq]at h2;exact h2.2.2
 .simp only[aF.injEq]at h2;cases h2.1
open Go.RowKit
theorem qS {P:Program} {id:Nat} {ops:List Oper} {Q:Exit->Act->World->Prop} {a:Act} {w:World} (n:Nat) (is:List (Nat × Bool)) (S:World->Prop) (hm:P.follows .mixedOrders=true)
  (hsel:Region.noSelect ops.toArray=true) (hs:Region.sinkB .any ops.toArray n=true) (hc:Region.chainB .any ops.toArray n=true) (hn:n<ops.length) (hlen:is.length=n)
  (hQ: ∀c a d v w,Q (.panic c) (a.put d v) w->Q (.panic c) a w) (hB:sB .any ops.toArray n (ops.length-n) is (Array.replicate ops.length false)=true) (hS:S w.drew)
  (h:dD P ops.toArray Q S (λa' w'=>wpList P ops.toArray Q (ops.drop n) a' w') is a w.drew):(Code.region id ops.toArray true).wp P Q a w:=
 wp_region_any hm (IJ hsel hs hc hn hlen hQ hB hS h)
theorem rJ {B:Nat} {a b c:World} (h:Below B a b) (k:Below B b c):Below B a c:=h.trans k
theorem dL {c:Code} {P:Program} {Q:Exit->Act->World->Prop} {a:Act} {w:World} (h: ∀W,W=w->c.wp P Q a W):c.wp P Q a w:=h w rfl
theorem GP {P:Program} {W:World} {ops:Array Oper} {rest:List Oper} {o:Oper} {a:Act} {Q:Exit->Act->World->Prop} (hgd:o.guard=none) (s x:Operand) (t:TypeId)
  (ho:o.op= .call {callee:= .builtin .append,args:= #[s,x],argTypes:= #[t,t]})
  {e:TypeId} {z:Value} {size bytes:Nat} (row:jX P t e z size bytes) (base:Nat) {v:Value} {n:Nat} {xs:List Value} (hs:a.eval s=v) (hown:W.ownsRow base e size v n xs)
  (hb:base<=W.heap.size) (m:Nat) (news:List Value)
  (hx:(a.eval x=aF none 0 0/\m=0)\/ ∃ad c,a.eval x=aF (some ad) m c/\ ∀j u,news[j]? =some u->W.cell? (ad.add j)=some u) (hl:news.length=m*size)
  (h1: ∀u∈news,u.oneCell'=true) (h63:n+m<=maxLen) (hbytes:(n+m)*bytes<=140737488355328)
  (h: ∀v' W',W'.ownsRow base e size v' (n+m) (xs++news)->W.grownBy W' v.ownBlock->wpList P ops Q rest (a.put o.dst v') W'):wpList P ops Q (o::rest) a W:=by
 rcases hx with⟨hx,rfl⟩|⟨ad,c,hx,hnews⟩
 .obtain⟨i,hi,hz0,hz1,hz2⟩:=info_parts row.hi;have:news=[]:=gD (by rw[hl,Nat.zero_mul]);subst this;exact wpList_append_own_none hgd s x t ho base e i size row.ht hi v n xs hs hown hx (h v W (by simpa using hown) (World.grownBy.refl _ _))
 .exact mJ hgd s x t ho row base hs hown hb ad m c news hx hl hnews h1 h63 hbytes h
theorem zK {W W':World} {B:Nat} {e:TypeId} {size:Nat} {v:Value} {n:Nat} {xs:List Value} (h:W.ownsRow B e size v n xs) (hb:Below W.heap.size W W'):W'.ownsRow B e size v n xs:=by
 obtain⟨X,rfl⟩:=cV hb;exact jT h X
open Go.RowKit
theorem E6 {P:Program} {o:Oper} {a:Act} {w:World} {K:Act->World->Prop} {Q:Exit->Act->World->Prop} (h:o.wp P a w K Q):o.wpIn Fence.wide 0 P a w K Q:=by
 unfold Oper.wp at h;unfold Oper.wpIn;refine⟨λf _=>trivial, ?_⟩;show Oper.uponIn _ _ _ _ _ _ _ ((o.semAt none a.eval).run P w);rw[Oper.semAt_none];generalize(execOp a.eval o).run P w=r at*;cases r with
 |ok n w'=>
  cases n<;>simp only[Oper.upon]at h<;>simp only[Oper.uponIn]
  case value u=>exact h
  case skip=>exact h
  case defer d=>exact h
  case enter f args=>exact⟨λhd=>by simp[Fence.wide]at hd,(callsIn_wide (n:=0-1)).2 h⟩
  case row row args=>exact⟨λhd=>by simp[Fence.wide]at hd,SY (n:=0-1) h⟩
 |halt x w'=>
  cases x<;>simp only[Oper.upon]at h<;>simp only[Oper.uponIn];all_goals exact h
theorem E3 {P:Program} {ops:Array Oper} {Q:Exit->Act->World->Prop} (hlo: ¬LetsOut Q) {i:Nat} {K:Act->World->Prop} {a:Act} {w:World} (h:wpOp P ops Q i K a w):wpOpIn Fence.wide 0 P ops Q i K a w:=by
 unfold wpOp at h;unfold wpOpIn;split
 .rename_i ho;simp only[ho]at h;exact h
 .rename_i o ho;simp only[ho]at h;split
  .rename_i hw;simp only[hw,if_true]at h;rcases h with h|⟨_,h⟩
   .exact E6 h
   .exact absurd h hlo
  .rename_i hw;simp only[hw]at h;exact⟨λf _=>trivial,h⟩
theorem OZ {P:Program} {ops:Array Oper} {md:Region.Mode} {Q:Exit->Act->World->Prop} (hlo: ¬LetsOut Q): ∀(fuel:Nat) (listed:Array Bool) (a:Act) (w:World),wpAny P md ops Q fuel listed a w->wpAnyIn Fence.wide 0 P md ops Q fuel listed a w
 |0,_,_,_,h=>h
 |fuel+1,_,_,_,h=>⟨h.1,λi hi=>E3 hlo (wpOp_mono (λa' w' h'=>OZ hlo fuel _ a' w' h') (h.2 i hi))⟩
theorem tW {P:Program} {id:Nat} {ops:List Oper} {Q:Exit->Act->World->Prop} {a:Act} {w:World} (n:Nat) (is:List (Nat × Bool)) (S:World->Prop) (hm:P.follows .mixedOrders=true) (hlo: ¬LetsOut Q)
  (hsel:Region.noSelect ops.toArray=true) (hs:Region.sinkB .any ops.toArray n=true) (hc:Region.chainB .any ops.toArray n=true) (hn:n<ops.length) (hlen:is.length=n)
  (hQ: ∀c a d v w,Q (.panic c) (a.put d v) w->Q (.panic c) a w) (hB:sB .any ops.toArray n (ops.length-n) is (Array.replicate ops.length false)=true) (hS:S w.drew)
  (h:dD P ops.toArray Q S (λa' w'=>wpList P ops.toArray Q (ops.drop n) a' w') is a w.drew):(Code.region id ops.toArray true).wpIn Fence.wide 0 P Q a w:=by
 refine wpIn_region_any hm (OZ hlo _ _ _ _ ?_);exact IJ hsel hs hc hn hlen hQ hB hS h
theorem GJ {P:Program} {n:Nat} {f:FuncId} {args:Array Value} {w:World} {R:Ending->World->Prop} (h:Calls P f args w R):CallsIn Fence.wide n P f args w R:=callsIn_wide.2 h
