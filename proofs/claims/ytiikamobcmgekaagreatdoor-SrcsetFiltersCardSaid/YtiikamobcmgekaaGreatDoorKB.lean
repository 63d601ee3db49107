/- Small laws over any program, more: rows that are collected, regions whose order is open; texts as lists of bytes. -/
import Derived.Sort.QuietThIn
import Derived.Sort.BigQuietIn
import Derived.OwnWalkIn
import Derived.Deep.RegionHeld3
import Derived.Laws.OwnMore
import Derived.OrdersHeld
import Derived.OrdersIn
import Derived.StillTail
import Derived.Laws.AppendOwnNone
import Derived.Test.YtiikamobcmgekaaGreatDoorKA
namespace Go.Proofs.YtiikamobcmgekaaGreatDoor
open Bool renaming and_eq_true→z2z
open List renaming length_append→z2h,length_cons→z2i,length_drop→z2n
abbrev Bs:=List UInt8
def spB (c:UInt8):Bool:=decide (c.toNat=32\/(9<=c.toNat/\c.toNat<=13/\c.toNat≠11))
def lowB (c:UInt8):Bool:=decide (97<=c.toNat/\c.toNat<=122)
def upB (c:UInt8):Bool:=decide (65<=c.toNat/\c.toNat<=90)
def digB (c:UInt8):Bool:=decide (48<=c.toNat/\c.toNat<=57)
def wchB (c:UInt8):Bool:=lowB c||digB c||decide (c.toNat=45)
def oddB (c:UInt8):Bool:=decide (c.toNat<32\/127<=c.toNat)
def mrkB (c:UInt8):Bool:=decide (c.toNat=58\/c.toNat=59\/c.toNat=42)
def zau:Bs->Bool
 |[]=>false
 |c::r=>decide (r.length<64)&&lowB c&&r.all wchB
inductive TR where
 |ok (t:Bs) (n:Nat)
 |bad (n:Nat)
 |op
def TR.app (pre:Bs) (k:Nat):TR->TR
 | .ok t n=> .ok (pre++t) (n+k)
 | .bad n=> .bad (n+k)
 | .op=> .op
theorem TR.app_app (p q:Bs) (k l:Nat) (x:TR):(x.app q l).app p k=x.app (p++q) (k+l):=by
 cases x<;>simp[TR.app]<;>omega
def strL:Bs->TR
 |[]=> .op
 |c::r=>
  if c.toNat=34 then .ok [] 1
  else if c.toNat=92 then
   match r with
   |d::r'=>if d.toNat=92\/d.toNat=34 then(strL r').app [d] 2 else .bad 0
   |[]=> .bad 0
  else if oddB c then .bad 0 else(strL r).app [c] 1
def blk:Bool->Bs->Nat
 |_,[]=>0
 |false,c::r=>if spB c then blk false r+1 else if c.toNat=35 then blk true r+1 else 0
 |true,c::r=>if c.toNat=10 then blk false r+1 else blk true r+1
theorem zsv (b:Bool) (l:Bs):blk b l<=l.length:=by
 induction l generalizing b with
 |nil=>cases b<;>simp[blk]
 |cons c r ih=>
  have h1:=ih true;have h2:=ih false;cases b<;>simp only[blk,z2i]<;>(repeat' split)<;>omega
inductive PR where
 |ok (kind:Nat) (text:Bs) (n:Nat)
 |bad (n:Nat)
def zbj:Bs->PR
 |[]=> .bad 0
 |c::r=>
  if c.toNat=34 then
   match strL r with
   | .ok t n=> .ok 3 t (n+1)
   | .bad n=> .bad (n+1)
   | .op=> .bad 0
  else if lowB c then
   if zau (c::r.takeWhile wchB)then .ok 1 (c::r.takeWhile wchB) (1+(r.takeWhile wchB).length)else .bad 0
  else if digB c then
   if(r.takeWhile digB).length<9 then .ok 2 (c::r.takeWhile digB) (1+(r.takeWhile digB).length)else .bad 0
  else if mrkB c then .ok 4 [c] 1 else .bad 0
structure Lx where
 kind:Nat
 at_:Nat
 text:Bs
deriving DecidableEq
inductive SR where
 |ok (l:List Lx)
 |bad (n:Nat)
deriving DecidableEq
def SR.cons (x:Lx):SR->SR
 | .ok l=> .ok (x::l)
 | .bad n=> .bad n
def zfx:Nat->Nat->Bs->SR
 |0,_,_=> .ok []
 |f+1,a,l=>
  match l.drop (blk false l)with
  |[]=> .ok []
  |r@(_::_)=>
   match zbj r with
   | .ok k t n=>(zfx f (a+blk false l+n) (r.drop n)).cons ⟨k,a+blk false l,t⟩
   | .bad n=> .bad (a+blk false l+n)
theorem ze3 {c:UInt8} (r:Bs) (h:c.toNat=34):strL (c::r)= .ok [] 1:=by rw[strL.eq_def];simp only[if_pos h]
theorem zg5 {c d:UInt8} (r:Bs) (h:c.toNat=92) (hd:d.toNat=92\/d.toNat=34):strL (c::d::r)=(strL r).app [d] 2:=by
 rw[strL.eq_def];simp only[if_neg (show ¬c.toNat=34 by omega),if_pos h,if_pos hd]
theorem zdv {c d:UInt8} (r:Bs) (h:c.toNat=92) (hd: ¬(d.toNat=92\/d.toNat=34)):strL (c::d::r)= .bad 0:=by
 rw[strL.eq_def];simp only[if_neg (show ¬c.toNat=34 by omega),if_pos h,if_neg hd]
theorem zdu {c:UInt8} (h:c.toNat=92):strL [c]= .bad 0:=by
 rw[strL.eq_def];simp only[if_neg (show ¬c.toNat=34 by omega),if_pos h]
theorem zg4 {c:UInt8} (r:Bs) (h1: ¬c.toNat=34) (h2: ¬c.toNat=92) (h:oddB c=true):strL (c::r)= .bad 0:=by
 rw[strL.eq_def];simp only[if_neg h1,if_neg h2,if_pos h]
theorem ze4 {c:UInt8} (r:Bs) (h1: ¬c.toNat=34) (h2: ¬c.toNat=92) (h: ¬oddB c=true):strL (c::r)=(strL r).app [c] 1:=by
 rw[strL.eq_def];simp only[if_neg h1,if_neg h2,if_neg h]
def TR.fits (m:Nat):TR->Prop
 | .ok _ n=>1<=n/\n<=m
 | .bad n=>n<m
 | .op=>True
theorem TR.fits.app {m:Nat} {x:TR} (h:x.fits m) (p:Bs) (k:Nat):(x.app p k).fits (m+k):=by
 cases x<;>simp only[TR.fits,TR.app]at* <;>omega
theorem zv9 (m:Nat) (l:Bs) (h:l.length<=m):(strL l).fits l.length:=by
 induction m generalizing l with
 |zero=>cases l with
  |nil=>exact trivial
  |cons c r=>simp at h
 |succ m ih=>
  cases l with
  |nil=>exact trivial
  |cons c r=>
   simp only[z2i]at h;by_cases h1:c.toNat=34
   ·rw[ze3 r h1];simp[TR.fits]
   ·by_cases h2:c.toNat=92
    ·cases r with
     |nil=>rw[zdu h2];simp[TR.fits]
     |cons d r=>
      simp only[z2i]at h;by_cases h3:d.toNat=92\/d.toNat=34
      ·rw[zg5 r h2 h3];exact(ih r (by omega)).app [d] 2
      ·rw[zdv r h2 h3];simp[TR.fits]
    ·by_cases h3:oddB c=true
     ·rw[zg4 r h1 h2 h3];simp[TR.fits]
     ·rw[ze4 r h1 h2 h3];exact(ih r (by omega)).app [c] 1
theorem zfv (p:UInt8->Bool) (l:Bs):(l.takeWhile p).length<=l.length:=by
 induction l with
 |nil=>simp
 |cons c r ih=>rw[List.takeWhile_cons];split<;>simp<;>omega
def PR.fits (m:Nat):PR->Prop
 | .ok _ _ n=>1<=n/\n<=m
 | .bad n=>n<=m
theorem zqq (l:Bs):(zbj l).fits l.length:=by
 cases l with
 |nil=>simp[zbj,PR.fits]
 |cons c r=>
  have h1:=zv9 _ r (Nat.le_refl _);have h2:=zfv wchB r;have h3:=zfv digB r;simp only[zbj,z2i];by_cases c1:c.toNat=34
  ·rw[if_pos c1];cases hx:strL r<;>rw[hx]at h1<;>simp only[TR.fits,PR.fits]at* <;>omega
  ·rw[if_neg c1];by_cases c2:lowB c=true
   ·rw[if_pos c2];split<;>simp only[PR.fits]<;>omega
   ·rw[if_neg c2];by_cases c3:digB c=true
    ·rw[if_pos c3];split<;>simp only[PR.fits]<;>omega
    ·rw[if_neg c3];split<;>simp only[PR.fits]<;>omega
theorem zc0 (l:Bs):(∀k t n,zbj l= .ok k t n->1<=n/\n<=l.length)/\(∀n,zbj l= .bad n->n<=l.length):=by
 have h:=zqq l;exact⟨fun k t n e=>by rw[e]at h;exact h,fun n e=>by rw[e]at h;exact h⟩
theorem ztk (f g:Nat) (a:Nat) (l:Bs) (hf:l.length<f) (hg:l.length<g):zfx f a l=zfx g a l:=by
 induction f generalizing g a l with
 |zero=>omega
 |succ f ih=>
  cases g with
  |zero=>omega
  |succ g=>
   unfold zfx;split
   ·rfl
   ·rename_i c r hr;have hl:(c::r).length<=l.length:=by rw[<-hr,z2n];omega
    cases hp:zbj (c::r)with
    |ok k t n=>
     have:=(zc0 (c::r)).1 k t n hp;simp only;rw[ih g _ _ (by rw[z2n];omega) (by rw[z2n];omega)]
    |bad n=>rfl
def zd2 (a:Nat) (l:Bs):SR:=zfx (l.length+1) a l
theorem zg8 (a:Nat) (l:Bs):zd2 a l=match l.drop (blk false l)with
  |[]=> .ok []
  |r@(_::_)=>
   match zbj r with
   | .ok k t n=>(zd2 (a+blk false l+n) (r.drop n)).cons ⟨k,a+blk false l,t⟩
   | .bad n=> .bad (a+blk false l+n):=by
 unfold zd2;rw[zfx];split
 ·rfl
 ·rename_i c r hr;have hl:(c::r).length<=l.length:=by rw[<-hr,z2n];omega
  cases hp:zbj (c::r)with
  |ok k t n=>
   have:=(zc0 (c::r)).1 k t n hp;simp only;rw[ztk _ ((List.drop n (c::r)).length+1) _ _ (by rw[z2n];omega) (by omega)]
  |bad n=>rfl
def esc:Bs->Bs
 |[]=>[]
 |c::r=>if c.toNat=34\/c.toNat=92 then 92::c::esc r else c::esc r
def zew (l:Bs):Option Bs:=if l.any oddB then none else some (34::esc l++[34])
open Go.RowKit Go.Shelf
def sv (t:Bs):Value:= .string ⟨t.toArray⟩
@[go_sem] theorem z0z {P:Program} {w:World} {a:Addr} {md:Mode} (fn:Fn) (first captured:Array Value):(store a (.func fn first captured) md).run P w=stored P w a (.func fn first captured) md:=run_store P w a _ md rfl
@[go_sem] theorem zwm {P:Program} {w:World} {a:Addr} {md:Mode}:(store a .nilFunc md).run P w=stored P w a .nilFunc md:=run_store P w a _ md rfl
def RetS (w:World) (n size:Nat) (cells:List Value) (e:Ending) (w':World):Prop:=
 ∃A c X,e= .returned (.slice A n c)/\w'=w.grow X/\n<=c/\Rd (w.grow X) (.slice A n c) n size cells
theorem RetS.of {w w':World} {A:Option Addr} {c n size:Nat} {cells:List Value} (hb:Below w.heap.size w w') (hc:n<=c) (hr:Rd w' (.slice A n c) n size cells):RetS w n size cells (.returned (.slice A n c)) w':=by
 obtain⟨X,rfl⟩:=zao hb;exact⟨A,c,X,rfl,rfl,hc,hr⟩
theorem zah {W:World} {B:Nat} {e:TypeId} {size:Nat} {v:Value} {n:Nat} {xs:List Value} (h:W.ownsRow B e size v n xs): ∃A c,v= .slice A n c/\n<=c:=by
 rcases h.2 with⟨rfl,rfl⟩|⟨g,cap,cur,rfl,hb,hg,hn,hm,hs,ht⟩
 ·exact⟨_,_,rfl,by omega⟩
 ·exact⟨_,_,rfl,by omega⟩
theorem RetS.own {w w':World} {v:Value} {n size B:Nat} {e:TypeId} {cells:List Value} (hb:Below w.heap.size w w') (ho:w'.ownsRow B e size v n cells):RetS w n size cells (.returned v) w':=by
 have hr:=Rd.own ho;obtain⟨A,c,rfl,hc⟩:=zah ho;exact RetS.of hb hc hr
def RetO (w:World) (n size:Nat) (e:TypeId) (cells:List Value) (en:Ending) (w':World):Prop:= ∃v X,en= .returned v/\w'=w.grow X/\(w.grow X).ownsRow w.heap.size e size v n cells
theorem RetO.own {w w':World} {v:Value} {n size B:Nat} {e:TypeId} {cells:List Value} (hb:Below w.heap.size w w') (ho:w'.ownsRow B e size v n cells) (hB:w.heap.size<=B):RetO w n size e cells (.returned v) w':=by
 obtain⟨X,rfl⟩:=zao hb;refine⟨v,X,rfl,rfl,ho.1, ?_⟩;rcases ho.2 with h|⟨g,cap,cur,h2,h3,h4⟩
 ·exact .inl h
 ·exact .inr ⟨g,cap,cur,h2,Nat.le_trans hB h3,h4⟩
theorem zll {P:Program} {o:Oper} {a:Act} {next:Act->World->Prop} {Q:Exit->Act->World->Prop} {l:Nat} {args args':Array Value} {W:World} {R:Ending->World->Prop}
  (h:YieldAt Fence.wide 0 P l args W R) (he:args'=args)
  (hk: ∀e W',R e W'->(∃v,e= .returned v/\next (a.put o.dst v) W')):Oper.uponIn Fence.wide 0 P o a next Q ((Instr.yield l args').run P W):=by
 obtain⟨fn,tmps,assign,body,hy,hR⟩:=h;rw[he,hy];refine⟨fun h=>absurd h (by simp[Fence.wide]),hR.mono fun e W' h=> ?_⟩;obtain⟨v,rfl,hn⟩:=hk e W' h;exact hn
theorem Boxed.grow' {W:World} {B:Nat} {t:TypeId} {v:Value} (h:Boxed W B t v) (X:Gr):Boxed (W.grow X) B t v:=((zab.refl (fun _=>False) W).grow X).boxed h (fun h=>h)
theorem Boxed.drew' {W:World} {B:Nat} {t:TypeId} {v:Value} (h:Boxed W B t v):Boxed W.drew B t v:=h
theorem Boxed.oth {W:World} {B:Nat} {t:TypeId} {v:Value} (h:Boxed W B t v) {p:Addr} (hne:B≠p.block) (u:Value):Boxed (W.setCell p u) B t v:=(Below.heap_setCell W p u B hne).trans h
structure zrr {α:Type} (w:World) (ob base:Nat) (tS tE:TypeId) (size:Nat) (cells:α->List Value) (pre:List α) (W:World):Prop where
 row: ∃v,Boxed W ob tS v/\W.ownsRow base tE size v pre.length (pre.flatMap cells)
 below:Below w.heap.size w W
theorem zrr.turned {α:Type} {w:World} {ob base:Nat} {tS tE:TypeId} {size:Nat} {cells:α->List Value} {pre:List α} {A C:World} {pv:Nat->Prop}
  (h:zrr w ob base tS tE size cells pre A) (ht:zab pv A C) (h1: ¬pv ob) (h2: ∀k,pv k->k<base) (h3: ∀k,pv k->w.heap.size<=k):zrr w ob base tS tE size cells pre C:=by
 obtain⟨⟨v,bv,ho⟩,hB⟩:=h;exact⟨⟨v,ht.boxed bv h1,ht.own ho h2⟩,hB.trans (ht.below hB.size h3)⟩
theorem zrr.put {α:Type} {w:World} {ob base:Nat} {tS tE:TypeId} {size n':Nat} {cells:α->List Value} {pre:List α} {x:α} {V W':World} {v v':Value}
  (hB:Below w.heap.size w V) (bv:Boxed V ob tS v) (ho:W'.ownsRow base tE size v' n' (pre.flatMap cells++cells x)) (hn:n'=pre.length+1) (ht:zab (fun k=>base<=k) V W') (h1:ob<base) (h2:w.heap.size<=ob):
  zab (fun k=>k=ob\/base<=k) V (W'.setCell ⟨ob,0,none⟩ v')/\zrr w ob base tS tE size cells (pre++[x]) (W'.setCell ⟨ob,0,none⟩ v'):=by
 have hT:zab (fun k=>k=ob\/base<=k) V (W'.setCell ⟨ob,0,none⟩ v'):=zab.setCell (pv:=fun k=>k=ob\/base<=k) (ht.mono fun k hk=>Or.inr hk) (p:=⟨ob,0,none⟩) (Or.inr (Or.inl rfl)) _;refine⟨hT,⟨_,(ht.boxed bv (by omega)).set _, ?_⟩,hB.trans (hT.below hB.size (fun k hk=>by omega))⟩;have h3:=(zab.setCell (pv:=fun k=>k=ob) (zab.refl _ W') (p:=⟨ob,0,none⟩) (Or.inr rfl) v').own ho (fun k hk=>by omega);rw[List.flatMap_append,z2h];subst hn;simpa using h3
theorem zab.next {pv pw:Nat->Prop} {w A C:World} (h:zab pv w A) (k:zab pw A C) (hp: ∀i,pw i->i<w.heap.size->pv i):zab pv w C:=
 ⟨k.os.trans h.os,k.tape.trans h.tape,k.output.trans h.output,Nat.le_trans h.size k.size,fun i hi hn=>(k.block i (Nat.lt_of_lt_of_le hi h.size) (fun e=>hn (hp i e hi))).trans (h.block i hi hn)⟩
structure zit {α:Type} (pv:Nat->Prop) (w:World) (ob base:Nat) (tS tE:TypeId) (size:Nat) (cells:α->List Value) (pre:List α) (W:World):Prop where
 row: ∃v,Boxed W ob tS v/\W.ownsRow base tE size v pre.length (pre.flatMap cells)
 turned:zab pv w W
theorem zit.turn {α:Type} {pv:Nat->Prop} {w:World} {ob base:Nat} {tS tE:TypeId} {size:Nat} {cells:α->List Value} {pre:List α} {A C:World} {pw:Nat->Prop}
  (h:zit pv w ob base tS tE size cells pre A) (ht:zab pw A C) (h1: ¬pw ob) (h2: ∀k,pw k->k<base) (h3: ∀i,pw i->i<w.heap.size->pv i):zit pv w ob base tS tE size cells pre C:=by
 obtain⟨⟨v,bv,ho⟩,hB⟩:=h;exact⟨⟨v,ht.boxed bv h1,ht.own ho h2⟩,hB.next ht h3⟩
theorem zit.put {α:Type} {pv:Nat->Prop} {w:World} {ob base:Nat} {tS tE:TypeId} {size n':Nat} {cells:α->List Value} {pre:List α} {x:α} {V W':World} {v v':Value}
  (hB:zab pv w V) (bv:Boxed V ob tS v) (ho:W'.ownsRow base tE size v' n' (pre.flatMap cells++cells x)) (hn:n'=pre.length+1) (ht:zab (fun k=>base<=k) V W') (h1:ob<base) (h2:w.heap.size<=ob):
  zab (fun k=>k=ob\/base<=k) V (W'.setCell ⟨ob,0,none⟩ v')/\zit pv w ob base tS tE size cells (pre++[x]) (W'.setCell ⟨ob,0,none⟩ v'):=by
 have hT:zab (fun k=>k=ob\/base<=k) V (W'.setCell ⟨ob,0,none⟩ v'):=zab.setCell (pv:=fun k=>k=ob\/base<=k) (ht.mono fun k hk=>Or.inr hk) (p:=⟨ob,0,none⟩) (Or.inr (Or.inl rfl)) _;refine⟨hT,⟨_,(ht.boxed bv (by omega)).set _, ?_⟩,hB.next hT (fun k hk=>by omega)⟩;have h3:=(zab.setCell (pv:=fun k=>k=ob) (zab.refl _ W') (p:=⟨ob,0,none⟩) (Or.inr rfl) v').own ho (fun k hk=>by omega);rw[List.flatMap_append,z2h];subst hn;simpa using h3
open Go.RowKit
section
variable {F:Fence} {n0:Nat} {P:Program} {ops:Array Oper} {md:Region.Mode} {C:World->Prop}
def zfs (F:Fence) (n0:Nat) (P:Program) (md:Region.Mode) (ops:Array Oper) (C:World->Prop) (n:Nat) (L:Array Bool->Act->Prop):Nat->Array Bool->Act->Prop
 |0,listed,a=>L listed a
 |f+1,listed,a=>
  Region.ready md ops listed≠[]/\ ∀i∈Region.ready md ops listed,i<n/\qOpIn F n0 P ops C i (zfs F n0 P md ops C n L f (listed.setIfInBounds i true)) a
theorem zfn (hro:F.round=none) {n g:Nat} {L:Array Bool->Act->Prop} {Q':Exit->Act->World->Prop} (hL: ∀listed a w,C w->L listed a->wpAnyIn F n0 P md ops Q' g listed a w):
  ∀(f:Nat) (listed:Array Bool) (a:Act) (w:World),C w->zfs F n0 P md ops C n L f listed a->wpAnyIn F n0 P md ops Q' (f+g) listed a w
 |0,listed,a,w,hw,h=>by rw[Nat.zero_add];exact hL _ _ _ hw h
 |f+1,listed,a,w,hw,h=>by
  rw[show f+1+g=(f+g)+1 by omega];exact⟨fun h0=>absurd h0 h.1,fun i hi=>wpOpIn_of_qOpIn hro hw (fun a' w' hw' h'=>zfn hro hL f _ a' w' hw' h') (h.2 i hi).2⟩
theorem zi8 {n i:Nat} {oi:Oper} {v:Value} {L:Array Bool->Act->Prop} (hi:ops[i]? =some oi) (hsel: ∀(j:Nat) (o:Oper) cs b,ops[j]? =some o->o.op≠ .select cs b)
  (hs:Region.sinkB md ops n=true) (hc:Region.chainB md ops n=true) (hn:n<ops.size) (hin:i<n)
  (hdone: ∀listed a,L listed a-> ∀j∈Region.ready md ops listed,n<=j):
  ∀(f:Nat) (listed:Array Bool) (a:Act),HeadInv md ops n listed->
   (∀j oj,ops[j]? =some oj->j≠i->listed.getD j true=false->(∀e∈oj.after,Region.binds md e=true->e.on≠i)->oi.apart ops oj=true)->
   i∈Region.ready md ops listed->YieldsQuiet F n0 P ops C oi v a->
   zfs F n0 P md ops C n L f (listed.setIfInBounds i true) (a.put oi.dst v)->zfs F n0 P md ops C n L (f+1) listed a:=by
 intro f;induction f with
 |zero=>
  intro listed a inv _ hr hy H;have hun:=(mem_ready.1 hr).1;refine⟨fun h=>(by rw[h]at hr;cases hr),fun j hj=> ?_⟩;have hjn:j<n:=by
   rcases Nat.lt_or_ge j n with h|h
   ·exact h
   ·exact absurd hj (tail_waits hs hc hn inv _ i rfl hin hun j h)
  refine⟨hjn, ?_⟩;by_cases hji:j=i
  ·subst hji;exact hy.qOpIn hi H
  ·have:=hdone _ _ H j (ready_mono hj hji);omega
 |succ f ih=>
  intro listed a inv hfree hr hy H;have hun:=(mem_ready.1 hr).1;refine⟨fun h=>(by rw[h]at hr;cases hr),fun j hj=> ?_⟩;have hjn:j<n:=by
   rcases Nat.lt_or_ge j n with h|h
   ·exact h
   ·exact absurd hj (tail_waits hs hc hn inv _ i rfl hin hun j h)
  refine⟨hjn, ?_⟩;by_cases hji:j=i
  ·subst hji;exact hy.qOpIn hi H
  ·have h1:=(H.2 j (ready_mono hj hji)).2;obtain⟨hjun,oj,hoj,hall⟩:=mem_ready.1 hj;have hnot: ∀e∈oj.after,Region.binds md e=true->e.on≠i:=fun e he hb heq=>by
    have h1:=hall e he hb;rw[heq,getD_both hun]at h1;cases h1
   have h2:=qOpIn_put hoj (hfree j oj hoj hji hjun hnot) (fun cs b=>hsel i oi cs b hi) (fun cs b=>hsel j oj cs b hoj) hy h1;have hfree': ∀k ok,ops[k]? =some ok->k≠i->(listed.setIfInBounds j true).getD k true=false->
     (∀e∈ok.after,Region.binds md e=true->e.on≠i)->oi.apart ops ok=true:=fun k ok hk hki hun hno=>by
    refine hfree k ok hk hki ?_ hno;by_cases hjk:j=k
    ·subst hjk;exact hjun
    ·rw[getD_set_ne true hjk]at hun;exact hun
   refine qOpIn_mono (fun a' h3=>ih (listed.setIfInBounds j true) a' (inv.set hj hjn) hfree' (ready_mono hr (Ne.symm hji)) h3.1 ?_) h2;rw[Array.setIfInBounds_comm _ _ hji];exact h3.2
theorem zgz {n g:Nat} {Lq:Act->Prop} (hsel:Region.noSelect ops=true) (hs:Region.sinkB md ops n=true) (hc:Region.chainB md ops n=true) (hn:n<ops.size):
  ∀(l:List Oper) (k:Nat) (listed:Array Bool) (a:Act),(∀j,j<l.length->l[j]? =ops[k+j]?)->k+l.length=n->HeadInv md ops n listed->
  Region.lexHead md ops g l.length k listed=true->wpQuietIn F n0 P ops C Lq l a->
  zfs F n0 P md ops C n (fun listed' a'=>Region.seqB md ops g n listed'=true/\Lq a') l.length listed a
 |[],k,listed,a,_,hk,_,hB,h=>by
  have:k=n:=by simpa using hk
  subst this;exact⟨by simpa[Region.lexHead]using hB,h⟩
 |o::l,k,listed,a,hl,hk,inv,hB,h=>by
  have h0:ops[k]? =some o:=by simpa using(hl 0 (by simp)).symm
  simp only[z2i,Region.lexHead,z2z]at hB;obtain⟨⟨hr,hf⟩,hB'⟩:=hB;have hkn:k<n:=by simp only[z2i]at hk;omega
  have hr':k∈Region.ready md ops listed:=by simpa using hr
  have hst:qOpIn F n0 P ops C k (wpQuietIn F n0 P ops C Lq l) a:=by unfold qOpIn;simp only[h0];exact h
  obtain⟨v,hy,hK⟩:=yieldsQuiet_of_qOpIn h0 hst;exact zi8 h0 (Region.noSelect_spec hsel) hs hc hn hkn (fun listed' a' hL=>seqB_ready hL.1) l.length listed a inv (Region.free_spec h0 hf) hr' hy
   (zgz hsel hs hc hn l (k+1) _ _ (fun j hj=>by have:=hl (j+1) (by simp;omega);simpa[Nat.add_assoc,Nat.add_comm 1 j]using this) (by simp only[z2i]at hk;omega) (inv.set hr' hkn) hB' hK)
end
theorem zgn {F:Fence} {n0:Nat} {P:Program} {ops:Array Oper} {md:Region.Mode} {Q':Exit->Act->World->Prop}: ∀(l:List Oper) (k:Nat) (listed:Array Bool) (a:Act) (w:World),(∀j,l[j]? =ops[k+j]?)->
  Region.seqB md ops l.length k listed=true->wpListIn F n0 P ops Q' l a w->wpAnyIn F n0 P md ops Q' l.length listed a w
 |[],_,_,_,_,_,hB,h=>⟨by simpa[Region.seqB]using hB,h⟩
 |o::l,k,listed,a,w,hl,hB,h=>by
  have h0:ops[k]? =some o:=by simpa using(hl 0).symm
  simp only[z2i,Region.seqB,z2z,decide_eq_true_eq]at hB;refine⟨fun h1=>(by rw[hB.1]at h1;cases h1),fun i hi=> ?_⟩;rw[hB.1]at hi;have hik:i=k:=by simpa using hi
  subst hik;have hw:wpOpIn F n0 P ops Q' i (wpListIn F n0 P ops Q' l) a w:=by unfold wpOpIn;simp only[h0];exact h
  exact wpOpIn_mono (fun a' w' h'=>zgn l (i+1) _ a' w' (fun j=>by have:=hl (j+1);simpa[Nat.add_assoc,Nat.add_comm 1 j]using this) hB.2 h') hw
theorem zfm {F:Fence} {n0:Nat} {P:Program} {id:Nat} {Q:Exit->Act->World->Prop} {a:Act} {w:World} {l:List Oper} (hro:F.round=none) (hm:P.follows .mixedOrders=true) (hB:Region.lexB .any l.toArray=true)
  (h:wpQuietIn F n0 P l.toArray (fun w'=> ∃X,w'=w.grow X) (fun a'=> ∀w',(∃X,w'=w.grow X)->Q .normal a' w') l a):(Code.region id l.toArray true).wpIn F n0 P Q a w:=
 wpIn_region_quiet (C:=fun w'=> ∃X,w'=w.grow X) hro hm hB ⟨⟨#[],w.drawn+1⟩,by simp[World.grow]⟩ (by simpa using h)
theorem zcr {F:Fence} {n0:Nat} {P:Program} {id:Nat} {Q:Exit->Act->World->Prop} {a:Act} {w:World} {l:List Oper} (n:Nat) (hro:F.round=none) (hm:P.follows .mixedOrders=true) (hB:Region.lexTailB .any l.toArray n=true)
  (h:wpQuietIn F n0 P l.toArray (fun w'=> ∃X,w'=w.grow X) (fun a'=> ∀w',(∃X,w'=w.grow X)->wpListIn F n0 P l.toArray Q (l.drop n) a' w') (l.take n) a):(Code.region id l.toArray true).wpIn F n0 P Q a w:=by
 simp only[Region.lexTailB,z2z,decide_eq_true_eq]at hB;obtain⟨⟨⟨⟨hsel,hn⟩,hs⟩,hc⟩,hlex⟩:=hB;have hn':n<l.length:=by simpa using hn
 have htl:(l.take n).length=n:=by simp;omega
 have hdl:(l.drop n).length=l.toArray.size-n:=by simp
 have inv0:HeadInv .any l.toArray n (Array.replicate l.toArray.size false):=
  ⟨by simp,fun j oj _ hl=>(by rw[getD_replicate_false]at hl;cases hl),fun t _ ht=>getD_in (by simpa using ht) (getD_replicate_false _ _)⟩
 have H:=zgz (F:=F) (n0:=n0) (md:= .any) (g:=l.toArray.size-n) hsel hs hc hn (l.take n) 0 _ a (fun j hj=>by
  have hj':j<n:=by rw[htl]at hj;exact hj
  simp[hj']) (by simpa using htl) inv0 (by rw[htl];exact hlex) h
 refine wpIn_region_any hm ?_;have:=zfn hro (Q':=Q) (g:=l.toArray.size-n) (fun listed a' w' hw' hL=>by
  have:=zgn (md:= .any) (Q':=Q) (l.drop n) n listed a' w' (fun j=>by simp[List.getElem?_drop]) (by rw[hdl];exact hL.1) (hL.2 w' hw');rwa[hdl]at this) _ _ _ {w with drawn:=w.drawn+1} ⟨⟨#[],w.drawn+1⟩,by simp[World.grow]⟩ H
 rw[htl,show n+(l.toArray.size-n)=l.toArray.size by omega]at this;exact this
theorem CallsIn.grow_of {P:Program} {f:FuncId} {args:Array Value} {w:World} {X:Gr} {v:Value}
  (h:Calls P f args (w.grow X) (Ret v (w.grow X))):CallsIn Fence.wide 0 P f args (w.grow X) fun e w''=>e= .returned v/\ ∃Y,w''=w.grow Y:=
 Go.callsIn_wide.2 (Calls.grow_of h)
open Go.RowKit Go.Shelf
theorem zsp {α:Type} (cells:α->List Value) (n:Nat) (hn: ∀x,(cells x).length=n) (l:List α):(l.flatMap cells).length=l.length*n:=by
 induction l with
 |nil=>simp
 |cons x l ih=>rw[List.flatMap_cons,z2h,ih,hn,z2i,Nat.add_mul];omega
theorem zki {α:Type} (cells:α->List Value) (n:Nat) (hn: ∀x,(cells x).length=n) (l:List α) (k:Nat) (h:k<l.length) (j:Nat) (hj:j<n):(l.flatMap cells)[k*n+j]? =(cells l[k])[j]? :=by
 induction l generalizing k with
 |nil=>simp at h
 |cons x l ih=>
  rw[List.flatMap_cons];cases k with
  |zero=>rw[Nat.zero_mul,Nat.zero_add,List.getElem?_append_left (by rw[hn];exact hj)];rfl
  |succ k=>
   rw[List.getElem?_append_right (by rw[hn,Nat.add_mul];omega),hn,show(k+1)*n+j-n=k*n+j by rw[Nat.add_mul];omega];exact ih k (by simpa using h)
theorem Rd.flat {α:Type} {w:World} {A:Option Addr} {m c n:Nat} {l:List α} {cells:α->List Value} (hn: ∀x,(cells x).length=n) (h:Rd w (.slice A m c) l.length n (l.flatMap cells)) (k:Nat) (hk:k<l.length):
  ∃b off,A=some ⟨b,off,none⟩/\b<w.heap.size/\ ∀j u,j<n->(cells l[k])[j]? =some u->w.cell? ⟨b,off+k*n+j,none⟩=some u:=by
 obtain⟨_,_,A',c',e,h4⟩:=h;cases e;obtain⟨b,off,rfl,hb,hc⟩:=h4 (by omega);refine⟨b,off,rfl,hb,fun j u hj hu=> ?_⟩;rw[Nat.add_assoc];exact hc _ _ (by rw[zki cells n hn l k hk j hj];exact hu)
theorem zmb (a b:Bs):(⟨a.toArray⟩:ByteArray)++⟨b.toArray⟩=⟨(a++b).toArray⟩:=by
 apply zgq;rw[ByteArray.data_append];simp
open Go.RowKit
theorem zcp {w:World} {B B2:Nat} {e:TypeId} {size:Nat} {v:Value} {n:Nat} {xs:List Value} (h:w.ownsRow B2 e size v n xs) (hB:B<=B2):w.ownsRow B e size v n xs:=by
 obtain⟨h1,h2|⟨g,cap,cur,h2,h3,h4⟩⟩:=h
 ·exact⟨h1,.inl h2⟩
 ·exact⟨h1,.inr ⟨g,cap,cur,h2,Nat.le_trans hB h3,h4⟩⟩
theorem zd3 {w0 W:World} {A:Option Addr} {n c size:Nat} {xs:List Value} (h:Rd w0 (.slice A n c) n size xs) (hn:A=none->c=0) (hb:Below w0.heap.size w0 W):
  (Value.slice A n c= .slice none 0 0/\n=0)\/ ∃ad c',Value.slice A n c= .slice (some ad) n c'/\ ∀j u,xs[j]? =some u->W.cell? (ad.add j)=some u:=by
 obtain⟨h1,_,A',c',h2,h3⟩:=h;cases h2;cases A with
 |none=>
  have h0:n=0:=by
   rcases Nat.eq_zero_or_pos n with h0|h0
   ·exact h0
   ·obtain⟨b,off,h4,_⟩:=h3 h0;cases h4
  exact .inl ⟨by rw[h0,hn rfl],h0⟩
 |some ad=>
  refine .inr ⟨ad,c,rfl,fun j u hu=> ?_⟩;rcases Nat.eq_zero_or_pos n with h0|h0
  ·rw[h0,Nat.zero_mul]at h1;rw[List.eq_nil_of_length_eq_zero h1]at hu;simp at hu
  ·obtain⟨b,off,h4,h5,h6⟩:=h3 h0;cases h4;have hadd:(⟨b,off,none⟩:Addr).add j=⟨b,off+j,none⟩:=by unfold Addr.add;split<;>simp_all
   rw[hadd];exact(hb.cell h5).trans (h6 j u hu)
theorem Ret.flat {P:Program} {f:FuncId} {args:Array Value} {w1:World} {X:Gr} {v:Value} (h:Calls P f args (w1.grow X) (Ret v (w1.grow X))):Calls P f args (w1.grow X) (Ret v w1):=
 h.mono fun _ _ ⟨h1,Y,h2⟩=>⟨h1,_,h2.trans (zo4 w1 X Y)⟩
open Go.RowKit
theorem zqa {n:Nat} {P:Program} {row:String} {args:Array Value} {w:World} {R:Value->World->Prop} (h:Rows P row args w R):RowsIn Fence.wide n P row args w R:=
 fun c cs _=>let⟨v,w',r,s⟩:=h c cs;⟨v,w',r,stepsIn_wide.2 s⟩
section
variable {P:Program} {ops:Array Oper} {md:Region.Mode} {Q:Exit->Act->World->Prop} {S:World->Prop}
def zgs (P:Program) (md:Region.Mode) (ops:Array Oper) (Q:Exit->Act->World->Prop) (S:World->Prop) (n:Nat) (L:Array Bool->Act->World->Prop):Nat->Array Bool->Act->World->Prop
 |0,listed,a,w=>L listed a w
 |f+1,listed,a,w=>Region.ready md ops listed≠[]/\ ∀i∈Region.ready md ops listed,i<n/\wpOp P ops Q i (fun a' w'=>S w'/\zgs P md ops Q S n L f (listed.setIfInBounds i true) a' w') a w
theorem ze0 {n g:Nat} {L:Array Bool->Act->World->Prop} (hL: ∀listed a w,L listed a w->wpAny P md ops Q g listed a w):
  ∀(f:Nat) (listed:Array Bool) (a:Act) (w:World),zgs P md ops Q S n L f listed a w->wpAny P md ops Q (f+g) listed a w
 |0,listed,a,w,h=>by rw[Nat.zero_add];exact hL _ _ _ h
 |f+1,listed,a,w,h=>by
  rw[show f+1+g=(f+g)+1 by omega];exact⟨fun h0=>absurd h0 h.1,fun i hi=>wpOp_mono (fun a' w' h'=>ze0 hL f _ a' w' h'.2) (h.2 i hi).2⟩
theorem zg0 {n i:Nat} {oi:Oper} {v:Value} {L:Array Bool->Act->World->Prop} (hi:ops[i]? =some oi) (hsel: ∀(j:Nat) (o:Oper) cs b,ops[j]? =some o->o.op≠ .select cs b)
  (hQ: ∀c a w,Q (.panic c) (a.put oi.dst v) w->Q (.panic c) a w)
  (hs:Region.sinkB md ops n=true) (hc:Region.chainB md ops n=true) (hn:n<ops.size) (hin:i<n)
  (hdone: ∀listed a w,L listed a w-> ∀j∈Region.ready md ops listed,n<=j):
  ∀(f:Nat) (listed:Array Bool) (a:Act) (w:World),HeadInv md ops n listed->
   (∀j oj,ops[j]? =some oj->j≠i->listed.getD j true=false->(∀e∈oj.after,Region.binds md e=true->e.on≠i)->oi.apart ops oj=true)->
   i∈Region.ready md ops listed->YieldsIf P ops S oi v a->S w->
   zgs P md ops Q S n L f (listed.setIfInBounds i true) (a.put oi.dst v) w->zgs P md ops Q S n L (f+1) listed a w:=by
 intro f;induction f with
 |zero=>
  intro listed a w inv _ hr hy hS H;have hun:=(mem_ready.1 hr).1;refine⟨fun h=>(by rw[h]at hr;cases hr),fun j hj=> ?_⟩;have hjn:j<n:=by
   rcases Nat.lt_or_ge j n with h|h
   ·exact h
   ·exact absurd hj (tail_waits hs hc hn inv _ i rfl hin hun j h)
  refine⟨hjn, ?_⟩;by_cases hji:j=i
  ·subst hji;exact hy.wpOp hi hS ⟨hS,H⟩
  ·have:=hdone _ _ _ H j (ready_mono hj hji);omega
 |succ f ih=>
  intro listed a w inv hfree hr hy hS H;have hun:=(mem_ready.1 hr).1;refine⟨fun h=>(by rw[h]at hr;cases hr),fun j hj=> ?_⟩;have hjn:j<n:=by
   rcases Nat.lt_or_ge j n with h|h
   ·exact h
   ·exact absurd hj (tail_waits hs hc hn inv _ i rfl hin hun j h)
  refine⟨hjn, ?_⟩;by_cases hji:j=i
  ·subst hji;exact hy.wpOp hi hS ⟨hS,H⟩
  ·have h1:=(H.2 j (ready_mono hj hji)).2;obtain⟨hjun,oj,hoj,hall⟩:=mem_ready.1 hj;have hnot: ∀e∈oj.after,Region.binds md e=true->e.on≠i:=fun e he hb heq=>by
    have h1:=hall e he hb;rw[heq,getD_both hun]at h1;cases h1
   have h2:=wpOp_putIf hoj (hfree j oj hoj hji hjun hnot) (fun cs b=>hsel i oi cs b hi) (fun cs b=>hsel j oj cs b hoj) hQ hy h1;have hfree': ∀k ok,ops[k]? =some ok->k≠i->(listed.setIfInBounds j true).getD k true=false->
     (∀e∈ok.after,Region.binds md e=true->e.on≠i)->oi.apart ops ok=true:=fun k ok hk hki hun hno=>by
    refine hfree k ok hk hki ?_ hno;by_cases hjk:j=k
    ·subst hjk;exact hjun
    ·rw[getD_set_ne true hjk]at hun;exact hun
   refine wpOp_mono (fun a' w' h3=>⟨h3.2.1,ih (listed.setIfInBounds j true) a' w' (inv.set hj hjn) hfree' (ready_mono hr (Ne.symm hji)) h3.1 h3.2.1 ?_⟩) h2;rw[Array.setIfInBounds_comm _ _ hji];exact h3.2.2
def zbq (P:Program) (ops:Array Oper) (Q:Exit->Act->World->Prop) (S:World->Prop) (L:Act->World->Prop):List (Nat × Bool)->Act->World->Prop
 |[],a,w=>L a w
 |(i,true)::is,a,w=> ∃o v,ops[i]? =some o/\YieldsIf P ops S o v a/\zbq P ops Q S L is (a.put o.dst v) w
 |(i,false)::is,a,w=>wpOp P ops Q i (fun a' w'=>S w'/\zbq P ops Q S L is a' w') a w
def rowB (md:Region.Mode) (ops:Array Oper) (n g:Nat):List (Nat × Bool)->Array Bool->Bool
 |[],listed=>Region.seqB md ops g n listed
 |(i,true)::is,listed=>decide (i<n)&&Region.free md ops listed i&&(Region.ready md ops listed).contains i&&rowB md ops n g is (listed.setIfInBounds i true)
 |(i,false)::is,listed=>decide (i<n)&&decide (Region.ready md ops listed=[i])&&rowB md ops n g is (listed.setIfInBounds i true)
theorem zfc {n g:Nat} {L:Act->World->Prop} (hsel:Region.noSelect ops=true) (hs:Region.sinkB md ops n=true) (hc:Region.chainB md ops n=true) (hn:n<ops.size)
  (hQ: ∀c a d v w,Q (.panic c) (a.put d v) w->Q (.panic c) a w):
  ∀(is:List (Nat × Bool)) (listed:Array Bool) (a:Act) (w:World),HeadInv md ops n listed->rowB md ops n g is listed=true->S w->zbq P ops Q S L is a w->
   zgs P md ops Q S n (fun listed' a' w'=>Region.seqB md ops g n listed'=true/\L a' w') is.length listed a w
 |[],listed,a,w,inv,hB,hS,h=>⟨hB,h⟩
 |(i,true)::is,listed,a,w,inv,hB,hS,h=>by
  simp only[rowB,z2z,decide_eq_true_eq]at hB;obtain⟨⟨⟨hin,hf⟩,hr⟩,hB⟩:=hB;have hr:i∈Region.ready md ops listed:=by simpa using hr
  obtain⟨o,v,ho,hy,h⟩:=h;exact zg0 ho (Region.noSelect_spec hsel) (fun c a w=>hQ c a _ _ w) hs hc hn hin (fun listed' a' w' hL=>seqB_ready hL.1) is.length listed a w inv (Region.free_spec ho hf) hr hy hS
   (zfc hsel hs hc hn hQ is _ _ _ (inv.set hr hin) hB hS h)
 |(i,false)::is,listed,a,w,inv,hB,hS,h=>by
  simp only[rowB,z2z,decide_eq_true_eq]at hB;obtain⟨⟨hin,hr⟩,hB⟩:=hB;refine⟨by rw[hr];simp,fun j hj=> ?_⟩;have hji:j=i:=by rw[hr]at hj;simpa using hj
  subst hji;refine⟨hin,wpOp_mono (fun a' w' h'=>⟨h'.1,zfc hsel hs hc hn hQ is _ _ _ (inv.set hj hin) hB h'.1 h'.2⟩) h⟩
theorem zam {L:Act->World->Prop} {is:List (Nat × Bool)} {i:Nat} {a:Act} {w:World} {o:Oper} {v:Value} (ho:ops[i]? =some o) (hw:Region.wanted o (yielded ops a.tmps)=true)
  (hv: ∀W,S W->(execOp a.eval o).run P W= .ok (.value v) W) (h:zbq P ops Q S L is (a.put o.dst v) w):zbq P ops Q S L ((i,true)::is) a w:=⟨o,v,ho,.inl ⟨hw,hv⟩,h⟩
theorem zai {L:Act->World->Prop} {is:List (Nat × Bool)} {i:Nat} {a:Act} {w:World} {o:Oper} (ho:ops[i]? =some o) (hw:Region.wanted o (yielded ops a.tmps)=true)
  (h: ∀K:Act->World->Prop,(∀a' w',S w'/\zbq P ops Q S L is a' w'->K a' w')->o.wp P a w K Q):zbq P ops Q S L ((i,false)::is) a w:=by
 show wpOp P ops Q i _ a w;unfold wpOp;simp only[ho,hw,if_true];exact .inl (h _ fun _ _ h=>h)
theorem znk {n:Nat} {l:List Oper} {is:List (Nat × Bool)} {a:Act} {w:World} (hsel:Region.noSelect l.toArray=true) (hs:Region.sinkB md l.toArray n=true) (hc:Region.chainB md l.toArray n=true) (hn:n<l.length) (hlen:is.length=n)
  (hQ: ∀c a d v w,Q (.panic c) (a.put d v) w->Q (.panic c) a w) (hB:rowB md l.toArray n (l.length-n) is (Array.replicate l.length false)=true) (hS:S w)
  (h:zbq P l.toArray Q S (fun a' w'=>wpList P l.toArray Q (l.drop n) a' w') is a w):wpAny P md l.toArray Q l.length (Array.replicate l.length false) a w:=by
 have inv0:HeadInv md l.toArray n (Array.replicate l.length false):=
  ⟨by simp,fun j oj _ hl=>(by rw[getD_replicate_false]at hl;cases hl),fun t _ ht=>getD_in (by simpa using ht) (getD_replicate_false _ _)⟩
 have H:=zfc (g:=l.length-n) hsel hs hc (by simpa using hn) hQ is _ a w inv0 hB hS h;have:=ze0 (g:=l.length-n) (fun listed a' w' hL=>by
  have:=wpAny_of_seq (md:=md) (Q':=Q) (l.drop n) n listed a' w' (fun j=>by simp[List.getElem?_drop]) (by rw[z2n];exact hL.1) hL.2;rwa[z2n]at this) _ _ _ _ H
 rwa[hlen,show n+(l.length-n)=l.length by omega]at this
end
theorem zxi {W:World} {B1 B2:Nat} {e1 e2:TypeId} {s1 s2:Nat} {v u:Value} {n m:Nat} {xs ys:List Value} (h1:W.ownsRow B1 e1 s1 v n xs) (h2:W.ownsRow B2 e2 s2 u m ys) (he:e1≠e2): ∀b,v.ownBlock=some b->u.ownBlock≠some b:=by
 intro b hv hu;rcases h1.2 with⟨rfl,_⟩|⟨g,cap,cur,rfl,_,h3,_⟩
 ·simp[Value.ownBlock]at hv
 ·rcases h2.2 with⟨rfl,_⟩|⟨g2,cap2,cur2,rfl,_,h4,_⟩
  ·simp[Value.ownBlock]at hu
  ·simp[Value.ownBlock]at hv hu;subst hv hu;rw[h3]at h4;simp only[Option.some.injEq,Obj.cells.injEq]at h4;exact he h4.2.1
theorem zmy {W:World} {B:Nat} {e:TypeId} {size:Nat} {A:Option Addr} {n c:Nat} {xs:List Value} (h:W.ownsRow B e size (.slice A n c) n xs):A=none->c=0:=by
 intro hA;subst hA;rcases h.2 with⟨h2,_⟩|⟨g,cap,cur,h2,_⟩
 ·simp only[Value.slice.injEq]at h2;exact h2.2.2
 ·simp only[Value.slice.injEq]at h2;cases h2.1
open Go.RowKit
theorem zak {P:Program} {id:Nat} {ops:List Oper} {Q:Exit->Act->World->Prop} {a:Act} {w:World} (n:Nat) (is:List (Nat × Bool)) (S:World->Prop) (hm:P.follows .mixedOrders=true)
  (hsel:Region.noSelect ops.toArray=true) (hs:Region.sinkB .any ops.toArray n=true) (hc:Region.chainB .any ops.toArray n=true) (hn:n<ops.length) (hlen:is.length=n)
  (hQ: ∀c a d v w,Q (.panic c) (a.put d v) w->Q (.panic c) a w) (hB:rowB .any ops.toArray n (ops.length-n) is (Array.replicate ops.length false)=true) (hS:S w.drew)
  (h:zbq P ops.toArray Q S (fun a' w'=>wpList P ops.toArray Q (ops.drop n) a' w') is a w.drew):(Code.region id ops.toArray true).wp P Q a w:=
 wp_region_any hm (znk hsel hs hc hn hlen hQ hB hS h)
theorem zck {B:Nat} {a b c:World} (h:Below B a b) (k:Below B b c):Below B a c:=h.trans k
theorem zae {c:Code} {P:Program} {Q:Exit->Act->World->Prop} {a:Act} {w:World} (h: ∀W,W=w->c.wp P Q a W):c.wp P Q a w:=h w rfl
theorem zaw {P:Program} {W:World} {ops:Array Oper} {rest:List Oper} {o:Oper} {a:Act} {Q:Exit->Act->World->Prop} (hgd:o.guard=none) (s x:Operand) (t:TypeId)
  (ho:o.op= .call {callee:= .builtin .append,args:= #[s,x],argTypes:= #[t,t]})
  {e:TypeId} {z:Value} {size bytes:Nat} (row:SlT P t e z size bytes) (base:Nat) {v:Value} {n:Nat} {xs:List Value} (hs:a.eval s=v) (hown:W.ownsRow base e size v n xs)
  (hb:base<=W.heap.size) (m:Nat) (news:List Value)
  (hx:(a.eval x= .slice none 0 0/\m=0)\/ ∃ad c,a.eval x= .slice (some ad) m c/\ ∀j u,news[j]? =some u->W.cell? (ad.add j)=some u) (hl:news.length=m*size)
  (h1: ∀u∈news,u.oneCell'=true) (h63:n+m<=maxLen) (hbytes:(n+m)*bytes<=140737488355328)
  (h: ∀v' W',W'.ownsRow base e size v' (n+m) (xs++news)->W.grownBy W' v.ownBlock->wpList P ops Q rest (a.put o.dst v') W'):wpList P ops Q (o::rest) a W:=by
 rcases hx with⟨hx,rfl⟩|⟨ad,c,hx,hnews⟩
 ·obtain⟨i,hi,hz0,hz1,hz2⟩:=info_parts row.hi;have:news=[]:=List.eq_nil_of_length_eq_zero (by rw[hl,Nat.zero_mul]);subst this;exact wpList_append_own_none hgd s x t ho base e i size row.ht hi v n xs hs hown hx (h v W (by simpa using hown) (World.grownBy.refl _ _))
 ·exact zar hgd s x t ho row base hs hown hb ad m c news hx hl hnews h1 h63 hbytes h
theorem zb5 {W W':World} {B:Nat} {e:TypeId} {size:Nat} {v:Value} {n:Nat} {xs:List Value} (h:W.ownsRow B e size v n xs) (hb:Below W.heap.size W W'):W'.ownsRow B e size v n xs:=by
 obtain⟨X,rfl⟩:=zao hb;exact zdf h X
open Go.RowKit
theorem zi6 {P:Program} {o:Oper} {a:Act} {w:World} {K:Act->World->Prop} {Q:Exit->Act->World->Prop} (h:o.wp P a w K Q):o.wpIn Fence.wide 0 P a w K Q:=by
 unfold Oper.wp at h;unfold Oper.wpIn;refine⟨fun f _=>trivial, ?_⟩;show Oper.uponIn _ _ _ _ _ _ _ ((o.semAt none a.eval).run P w);rw[Oper.semAt_none];generalize(execOp a.eval o).run P w=r at*;cases r with
 |ok n w'=>
  cases n<;>simp only[Oper.upon]at h<;>simp only[Oper.uponIn]
  case value u=>exact h
  case skip=>exact h
  case defer d=>exact h
  case enter f args=>exact⟨fun hd=>by simp[Fence.wide]at hd,(callsIn_wide (n:=0-1)).2 h⟩
  case row row args=>exact⟨fun hd=>by simp[Fence.wide]at hd,zqa (n:=0-1) h⟩
 |halt x w'=>
  cases x<;>simp only[Oper.upon]at h<;>simp only[Oper.uponIn];all_goals exact h
theorem zgr {P:Program} {ops:Array Oper} {Q:Exit->Act->World->Prop} (hlo: ¬LetsOut Q) {i:Nat} {K:Act->World->Prop} {a:Act} {w:World} (h:wpOp P ops Q i K a w):wpOpIn Fence.wide 0 P ops Q i K a w:=by
 unfold wpOp at h;unfold wpOpIn;split
 ·rename_i ho;simp only[ho]at h;exact h
 ·rename_i o ho;simp only[ho]at h;split
  ·rename_i hw;simp only[hw,if_true]at h;rcases h with h|⟨_,h⟩
   ·exact zi6 h
   ·exact absurd h hlo
  ·rename_i hw;simp only[hw]at h;exact⟨fun f _=>trivial,h⟩
theorem zdp {P:Program} {ops:Array Oper} {md:Region.Mode} {Q:Exit->Act->World->Prop} (hlo: ¬LetsOut Q): ∀(fuel:Nat) (listed:Array Bool) (a:Act) (w:World),wpAny P md ops Q fuel listed a w->wpAnyIn Fence.wide 0 P md ops Q fuel listed a w
 |0,_,_,_,h=>h
 |fuel+1,_,_,_,h=>⟨h.1,fun i hi=>zgr hlo (wpOp_mono (fun a' w' h'=>zdp hlo fuel _ a' w' h') (h.2 i hi))⟩
theorem zme {P:Program} {id:Nat} {ops:List Oper} {Q:Exit->Act->World->Prop} {a:Act} {w:World} (n:Nat) (is:List (Nat × Bool)) (S:World->Prop) (hm:P.follows .mixedOrders=true) (hlo: ¬LetsOut Q)
  (hsel:Region.noSelect ops.toArray=true) (hs:Region.sinkB .any ops.toArray n=true) (hc:Region.chainB .any ops.toArray n=true) (hn:n<ops.length) (hlen:is.length=n)
  (hQ: ∀c a d v w,Q (.panic c) (a.put d v) w->Q (.panic c) a w) (hB:rowB .any ops.toArray n (ops.length-n) is (Array.replicate ops.length false)=true) (hS:S w.drew)
  (h:zbq P ops.toArray Q S (fun a' w'=>wpList P ops.toArray Q (ops.drop n) a' w') is a w.drew):(Code.region id ops.toArray true).wpIn Fence.wide 0 P Q a w:=by
 refine wpIn_region_any hm (zdp hlo _ _ _ _ ?_);exact znk hsel hs hc hn hlen hQ hB hS h
end Go.Proofs.YtiikamobcmgekaaGreatDoor

