/- Small laws over any program: worlds that have grown, rows of the call's own, slices that are read, ranges over functions. -/
import Derived.Test.YtiikamobcmgekaaGreatDoorProg
import Derived.WalkKit
import Derived.WalkSpells
import Derived.WalkLawsBesides
import Derived.Deep.QuietTactic
import Derived.BigQuiet
import Derived.StillTail
import Derived.Lib.Hide
import Derived.Laws.AppendOwnNone
import Derived.Laws.IdiomStrings
import Derived.Lib.ConvBytes
import Derived.RangeFuncBox
import Derived.RangeFuncNested
import Derived.RangeFuncLeaves
import Derived.RangeFuncBound
import Derived.RangeFuncCalls
import Derived.Shelf.Abstract
import Derived.Shelf.RegionOpen
import Derived.OwnWalkIn
import Derived.TacticsInMore
import Derived.LoopNIn
import Derived.LoopIn
import Derived.ProofKit
import Derived.Deep.Slices
import Derived.Deep.Fields
import Derived.ChangeSame
import Derived.SizedLaws
import Derived.OpenShut
namespace Go.Proofs.YtiikamobcmgekaaGreatDoor
open Lib renaming bytesCells→z3k
open Nat renaming le_refl→z2k
open Go.RowKit
structure Gr where
 blocks:Array Obj
 drawn:Nat
instance:Inhabited Gr:=⟨⟨#[],0⟩⟩
def _root_.Go.World.grow (w:World) (X:Gr):World:={w with heap:=w.heap++X.blocks,drawn:=X.drawn}
theorem zav (w:World) (X:Gr):Below w.heap.size w (w.grow X):=
 ⟨rfl,rfl,rfl,by simp[World.grow],fun k hk=>by simp[World.grow,Array.getElem?_append,hk]⟩
theorem zao {w w':World} (h:Below w.heap.size w w'): ∃X,w'=w.grow X:=by
 refine⟨⟨w'.heap.extract w.heap.size w'.heap.size,w'.drawn⟩, ?_⟩;obtain⟨hos,ht,ho,hs,hb⟩:=h;cases w with
 |mk heap tape drawn os output=>
 cases w' with
 |mk heap' tape' drawn' os' output'=>
  simp only at hos ht ho hs hb;subst hos ht ho;have he:heap'=heap++heap'.extract heap.size heap'.size:=by
   apply Array.ext_getElem?;intro k;rw[Array.getElem?_append];split
   ·rename_i hk;exact hb k hk
   ·rename_i hk;rw[Array.getElem?_extract];split
    ·congr 1;omega
    ·rename_i hk2;rw[Array.getElem?_eq_none];omega
  show World.mk heap' _ _ _ _=World.mk (heap++heap'.extract heap.size heap'.size) _ _ _ _;rw[<-he]
theorem zo4 (w:World) (X Y:Gr):(w.grow X).grow Y=w.grow ⟨X.blocks++Y.blocks,Y.drawn⟩:=by
 simp[World.grow,Array.append_assoc]
theorem zb6 (w:World):w.grow ⟨#[],w.drawn⟩=w:=by
 cases w;simp[World.grow]
theorem zgi (w:World) (o:Obj):w.alloc o=w.grow ⟨#[o],w.drawn⟩:=by
 show World.mk (w.heap.push o) _ _ _ _=World.mk (w.heap++ #[o]) _ _ _ _;rw[Array.push_eq_append]
theorem zyf (w:World):w.drew=w.grow ⟨#[],w.drawn+1⟩:=by
 show World.mk w.heap _ _ _ _=World.mk (w.heap++ #[]) _ _ _ _;rw[Array.append_empty]
@[go_sem] theorem zem (w:World) (X:Gr):(w.grow X).heap.size=w.heap.size+X.blocks.size:=by simp[World.grow]
@[go_sem] theorem tape_grow (w:World) (X:Gr):(w.grow X).tape=w.tape:=rfl
@[go_sem] theorem os_grow (w:World) (X:Gr):(w.grow X).os=w.os:=rfl
@[go_sem] theorem z1p (w:World) (X:Gr):(w.grow X).output=w.output:=rfl
@[go_sem] theorem z05 (w:World) (X:Gr):(w.grow X).drew=w.grow ⟨X.blocks,X.drawn+1⟩:=rfl
def zqt (X:Gr) (n:Nat) (a:Addr):Option Value:=
 match X.blocks[a.block-n]? with
 |some (.cells c _ _)=>if a.spot.isSome then none else c[a.off]?
 |_=>none
def zoy (X:Gr) (n:Nat) (a:Addr):Bool:=
 match X.blocks[a.block-n]? with
 |some (.cells _ _ (lo,hi))=>lo<=a.off&&a.off<hi
 |_=>false
theorem zhp (w:World) (X:Gr) (k:Nat) (h:w.heap.size<=k):(w.grow X).heap[k]? =X.blocks[k-w.heap.size]? :=by
 show(w.heap++X.blocks)[k]? =_;rw[Array.getElem?_append,if_neg (by omega)]
@[go_sem] theorem zma (w:World) (X:Gr) (a:Addr):(w.grow X).cell? a=if a.block<w.heap.size then w.cell? a else zqt X w.heap.size a:=by
 split
 ·rename_i h;exact(zav w X).cell h
 ·rename_i h;unfold World.cell? zqt;rw[zhp w X _ (by omega)];generalize X.blocks[a.block-w.heap.size]? =o;rcases o with _|o<;>first|rfl|(cases o<;>rfl)
@[go_sem] theorem z02 (w:World) (X:Gr) (a:Addr):(w.grow X).frozen? a=if a.block<w.heap.size then w.frozen? a else zoy X w.heap.size a:=by
 split
 ·rename_i h;exact(zav w X).frozen h
 ·rename_i h;unfold World.frozen? zoy;rw[zhp w X _ (by omega)];generalize X.blocks[a.block-w.heap.size]? =o;rcases o with _|o<;>first|rfl|(cases o<;>rfl)
@[go_sem] theorem lt_grown {a b:Nat} {X:Gr} (h:a<b):(a<b+X.blocks.size)=True:=eq_true (by omega)
@[go_sem] theorem le_grown {a b:Nat} {X:Gr} (h:a<=b):(a<=b+X.blocks.size)=True:=eq_true (by omega)
@[go_sem] theorem eq_grown {a b:Nat} {X:Gr} (h:a<b):(a=b+X.blocks.size)=False:=eq_false (by omega)
@[go_sem] theorem grown_eq {a b:Nat} {X:Gr} (h:a<b):(b+X.blocks.size=a)=False:=eq_false (by omega)
@[go_sem] theorem lt_p1 (a:Nat):(a<a+1)=True:=eq_true (by omega)
@[go_sem] theorem le_p1 (a:Nat):(a<=a+1)=True:=eq_true (by omega)
@[go_sem] theorem eq_p1 (a:Nat):(a=a+1)=False:=eq_false (by omega)
@[go_sem] theorem p1_eq (a:Nat):(a+1=a)=False:=eq_false (by omega)
@[go_sem] theorem lt_p2 (a:Nat):(a<a+1+1)=True:=eq_true (by omega)
@[go_sem] theorem le_p2 (a:Nat):(a<=a+1+1)=True:=eq_true (by omega)
@[go_sem] theorem eq_p2 (a:Nat):(a=a+1+1)=False:=eq_false (by omega)
@[go_sem] theorem p2_eq (a:Nat):(a+1+1=a)=False:=eq_false (by omega)
@[go_sem] theorem lt_p3 (a:Nat):(a<a+1+1+1)=True:=eq_true (by omega)
@[go_sem] theorem le_p3 (a:Nat):(a<=a+1+1+1)=True:=eq_true (by omega)
@[go_sem] theorem eq_p3 (a:Nat):(a=a+1+1+1)=False:=eq_false (by omega)
@[go_sem] theorem p3_eq (a:Nat):(a+1+1+1=a)=False:=eq_false (by omega)
@[go_sem] theorem lt_p4 (a:Nat):(a<a+1+1+1+1)=True:=eq_true (by omega)
@[go_sem] theorem le_p4 (a:Nat):(a<=a+1+1+1+1)=True:=eq_true (by omega)
@[go_sem] theorem eq_p4 (a:Nat):(a=a+1+1+1+1)=False:=eq_false (by omega)
@[go_sem] theorem p4_eq (a:Nat):(a+1+1+1+1=a)=False:=eq_false (by omega)
@[go_sem] theorem lt_p5 (a:Nat):(a<a+1+1+1+1+1)=True:=eq_true (by omega)
@[go_sem] theorem le_p5 (a:Nat):(a<=a+1+1+1+1+1)=True:=eq_true (by omega)
@[go_sem] theorem eq_p5 (a:Nat):(a=a+1+1+1+1+1)=False:=eq_false (by omega)
@[go_sem] theorem p5_eq (a:Nat):(a+1+1+1+1+1=a)=False:=eq_false (by omega)
@[go_sem] theorem lt_p6 (a:Nat):(a<a+1+1+1+1+1+1)=True:=eq_true (by omega)
@[go_sem] theorem le_p6 (a:Nat):(a<=a+1+1+1+1+1+1)=True:=eq_true (by omega)
@[go_sem] theorem eq_p6 (a:Nat):(a=a+1+1+1+1+1+1)=False:=eq_false (by omega)
@[go_sem] theorem p6_eq (a:Nat):(a+1+1+1+1+1+1=a)=False:=eq_false (by omega)
@[go_sem] theorem lt_p7 (a:Nat):(a<a+1+1+1+1+1+1+1)=True:=eq_true (by omega)
@[go_sem] theorem le_p7 (a:Nat):(a<=a+1+1+1+1+1+1+1)=True:=eq_true (by omega)
@[go_sem] theorem eq_p7 (a:Nat):(a=a+1+1+1+1+1+1+1)=False:=eq_false (by omega)
@[go_sem] theorem p7_eq (a:Nat):(a+1+1+1+1+1+1+1=a)=False:=eq_false (by omega)
@[go_sem] theorem lt_p8 (a:Nat):(a<a+1+1+1+1+1+1+1+1)=True:=eq_true (by omega)
@[go_sem] theorem le_p8 (a:Nat):(a<=a+1+1+1+1+1+1+1+1)=True:=eq_true (by omega)
@[go_sem] theorem eq_p8 (a:Nat):(a=a+1+1+1+1+1+1+1+1)=False:=eq_false (by omega)
@[go_sem] theorem p8_eq (a:Nat):(a+1+1+1+1+1+1+1+1=a)=False:=eq_false (by omega)
@[go_sem] theorem lt_p9 (a:Nat):(a<a+1+1+1+1+1+1+1+1+1)=True:=eq_true (by omega)
@[go_sem] theorem le_p9 (a:Nat):(a<=a+1+1+1+1+1+1+1+1+1)=True:=eq_true (by omega)
@[go_sem] theorem eq_p9 (a:Nat):(a=a+1+1+1+1+1+1+1+1+1)=False:=eq_false (by omega)
@[go_sem] theorem p9_eq (a:Nat):(a+1+1+1+1+1+1+1+1+1=a)=False:=eq_false (by omega)
@[go_sem] theorem lt_p10 (a:Nat):(a<a+1+1+1+1+1+1+1+1+1+1)=True:=eq_true (by omega)
@[go_sem] theorem le_p10 (a:Nat):(a<=a+1+1+1+1+1+1+1+1+1+1)=True:=eq_true (by omega)
@[go_sem] theorem eq_p10 (a:Nat):(a=a+1+1+1+1+1+1+1+1+1+1)=False:=eq_false (by omega)
@[go_sem] theorem p10_eq (a:Nat):(a+1+1+1+1+1+1+1+1+1+1=a)=False:=eq_false (by omega)
@[go_sem] theorem lt_p11 (a:Nat):(a<a+1+1+1+1+1+1+1+1+1+1+1)=True:=eq_true (by omega)
@[go_sem] theorem le_p11 (a:Nat):(a<=a+1+1+1+1+1+1+1+1+1+1+1)=True:=eq_true (by omega)
@[go_sem] theorem eq_p11 (a:Nat):(a=a+1+1+1+1+1+1+1+1+1+1+1)=False:=eq_false (by omega)
@[go_sem] theorem p11_eq (a:Nat):(a+1+1+1+1+1+1+1+1+1+1+1=a)=False:=eq_false (by omega)
@[go_sem] theorem lt_p12 (a:Nat):(a<a+1+1+1+1+1+1+1+1+1+1+1+1)=True:=eq_true (by omega)
@[go_sem] theorem le_p12 (a:Nat):(a<=a+1+1+1+1+1+1+1+1+1+1+1+1)=True:=eq_true (by omega)
@[go_sem] theorem eq_p12 (a:Nat):(a=a+1+1+1+1+1+1+1+1+1+1+1+1)=False:=eq_false (by omega)
@[go_sem] theorem p12_eq (a:Nat):(a+1+1+1+1+1+1+1+1+1+1+1+1=a)=False:=eq_false (by omega)
@[go_sem] theorem zn4 (w:World) (X:Gr) (a:Addr) (v:Value) (h:a.block<w.heap.size):(w.grow X).setCell a v=(w.setCell a v).grow X:=by
 unfold World.grow World.setCell;simp only[World.mk.injEq,and_true];apply Array.ext_getElem?;intro k;simp only[Array.getElem?_modify,Array.getElem?_append,Array.size_modify];by_cases hk:k<w.heap.size
 ·simp[hk]
 ·have: ¬a.block=k:=by omega
  simp[hk,this]
@[go_sem] theorem zti (w:World) (o:Obj) (a:Addr) (v:Value) (h:a.block<w.heap.size):(w.alloc o).setCell a v=(w.setCell a v).alloc o:=by
 rw[zgi,zn4 w _ a v h,zgi];rfl
theorem zyl {w:World} {X:Gr} {a:Addr} {v:Value} (h:w.cell? a=some v):(w.grow X).cell? a=some v:=by
 rw[zma w X a,if_pos (World.block_lt_of_cell? w a h)];exact h
theorem ztx {w:World} {X:Gr} {g o:Nat} {r:Option Value} (hg:w.heap.size<=g) (h:(w.grow X).cell? ⟨g,o,none⟩=r):zqt X w.heap.size ⟨g,o,none⟩=r:=by
 rw[zma,if_neg (by show ¬g<_;omega)]at h;exact h
theorem zm6 {w:World} {o:Obj} {n:Nat} (h:n=w.heap.size):(w.alloc o).heap[n]? =some o:=by rw[h];exact heap_alloc_new w o
theorem zm5 (w:World) (X:Gr) {g:Nat} {o:Obj} (h:w.heap[g]? =some o):(w.grow X).heap[g]? =some o:=by
 rw[(zav w X).block g (Array.getElem?_eq_some_iff.1 h).1];exact h
theorem Below.grow {B:Nat} {a w:World} (h:Below B a w) (hB:B<=w.heap.size) (X:Gr):Below B a (w.grow X):=
 h.trans ((zav w X).mono hB)
theorem Below.drewN {B:Nat} {a w:World} (h:Below B a w) (n:Nat):Below B a (w.drewN n):=h.trans ⟨rfl,rfl,rfl,z2k _,fun _ _=>rfl⟩
theorem bel {B:Nat} {a w:World} (h:Below B a w:=by(repeat with_reducible first|exact Below.refl _ _|refine Below.drew ?_|refine Below.drewN ?_ _|refine Below.alloc ?_ ?_ _|refine Below.grow ?_ ?_ _|refine Below.setCell ?_ ?_ _);all_goals first|omega|(simp[go_sem]<;>omega)):Below B a w:=h
def Ret (v:Value) (w:World) (e:Ending) (w':World):Prop:=e= .returned v/\ ∃X,w'=w.grow X
theorem Ret.of {v u:Value} {w w':World} (hv:u=v) (h:Below w.heap.size w w'):Ret v w (.returned u) w':=⟨by rw[hv],zao h⟩
theorem Ret.same {v u:Value} {w:World} (hv:u=v):Ret v w (.returned u) w:=⟨by rw[hv],_,(zb6 w).symm⟩
theorem Calls.grow_of {P:Program} {f:FuncId} {args:Array Value} {w:World} {X:Gr} {v:Value}
  (h:Calls P f args (w.grow X) (Ret v (w.grow X))):Calls P f args (w.grow X) fun e w''=>e= .returned v/\ ∃Y,w''=w.grow Y:=
 h.mono fun _ _ ⟨he,m,hm⟩=>⟨he,_,hm.trans (zo4 w X m)⟩
theorem zad {P:Program} {id:Nat} {Q:Exit->Act->World->Prop} {a:Act} {w:World} {l:List Oper} (hm:P.follows .mixedOrders=true) (hB:Region.lexB .any l.toArray=true)
  (h:wpQuiet P l.toArray (fun w'=> ∃X,w'=w.grow X) (fun a'=> ∀w',(∃X,w'=w.grow X)->Q .normal a' w') l a):(Code.region id l.toArray true).wp P Q a w:=
 wp_region_quiet (C:=fun w'=> ∃X,w'=w.grow X) hm hB ⟨⟨#[],w.drawn+1⟩,by simp[World.grow]⟩ (by simpa using h)
structure SlT (P:Program) (t e:TypeId) (z:Value) (size bytes:Nat):Prop where
 ht:P.underlying t=some (.slice e)
 hi:(P.info? e).map (fun i=>(i.zero,i.size,i.bytes))=some (some z,size,bytes)
 hzs:z.cells.size=size
 hsz:0<size
theorem zbx {P:Program} {W:World} {ops:Array Oper} {rest:List Oper} {o:Oper} {a:Act} {Q:Exit->Act->World->Prop} (hgd:o.guard=none) (s x:Operand) (t:TypeId)
  (ho:o.op= .call {callee:= .builtin .append,args:= #[s,x],argTypes:= #[t,t]})
  {e:TypeId} {z:Value} {size bytes:Nat} (row:SlT P t e z size bytes) (w0:World) {v:Value} {n:Nat} {xs:List Value} (hs:a.eval s=v) (hown:W.ownsRow w0.heap.size e size v n xs)
  (hb:Below w0.heap.size w0 W) (ad:Addr) (m c:Nat) (news:List Value) (hx:a.eval x= .slice (some ad) m c) (hl:news.length=m*size)
  (hnews: ∀j u,news[j]? =some u->W.cell? (ad.add j)=some u) (h1: ∀u∈news,u.oneCell'=true) (h63:n+m<=maxLen) (hbytes:(n+m)*bytes<=140737488355328)
  (h: ∀v' X,(w0.grow X).ownsRow w0.heap.size e size v' (n+m) (xs++news)->(v'= .slice none 0 0↔v= .slice none 0 0/\m=0)->wpList P ops Q rest (a.put o.dst v') (w0.grow X)):wpList P ops Q (o::rest) a W:=by
 obtain⟨i,hi,hz0,hz1,hz2⟩:=info_parts row.hi;refine wpList_append_own W hgd s x t ho w0.heap.size e i z size bytes row.ht hi hz0 hz1 hz2 row.hzs row.hsz v n xs hs hown ad m c news hx hl hnews h1 h63 hbytes hb.size ?_;intro v' w' h2 h3 h4;have hbw:Below w0.heap.size w0 w':=hb.grown h3 hb.size (fun k hk=>(hown.lt k hk).1);obtain⟨X,rfl⟩:=zao hbw;exact h v' X h2 h4
theorem zdf {w:World} {B:Nat} {e:TypeId} {size:Nat} {v:Value} {n:Nat} {xs:List Value} (h:w.ownsRow B e size v n xs) (X:Gr):(w.grow X).ownsRow B e size v n xs:=
 h.kept (row:=none) ⟨rfl,rfl,rfl,by simp[World.grow],fun k hk _=>(zav w X).block k hk⟩ (by cases hv:v.ownBlock<;>simp)
theorem zxh {w:World} {B:Nat} {e:TypeId} {size:Nat} {v:Value} {n:Nat} {xs:List Value} (h:w.ownsRow B e size v n xs):
  xs.length=n*size/\ ∃a cap,v= .slice a n cap/\n<=maxLen/\(n=0\/ ∃b,a=some ⟨b,0,none⟩/\B<=b/\b<w.heap.size/\ ∀j u,xs[j]? =some u->w.cell? ⟨b,j,none⟩=some u):=by
 refine⟨h.1, ?_⟩;rcases h.2 with⟨rfl,rfl⟩|⟨g,cap,cur,rfl,hb,hg,hn,hm,hs,ht⟩
 ·exact⟨none,0,rfl,by unfold maxLen;omega,Or.inl rfl⟩
 ·refine⟨_,cap,rfl,by omega,Or.inr ⟨g,rfl,hb,(Array.getElem?_eq_some_iff.1 hg).1,fun j u hu=> ?_⟩⟩;have:=h.cells (g:=g) rfl j u hu;have e:(⟨g,0,none⟩:Addr).add j=⟨g,j,none⟩:=by unfold Addr.add;split<;>simp_all
  rwa[e]at this
theorem zz7 {W:World} {b:Nat} {c:Array Value} {k:Nat} {ad:Addr} (hc: ∀i,i<k->W.cell? ⟨b,i,none⟩=c[i]?) (hk:c.size=k) (he:ad=⟨b,0,none⟩): ∀j u,c.toList[j]? =some u->W.cell? (ad.add j)=some u:=by
 intro j u hu;subst he;have e:(⟨b,0,none⟩:Addr).add j=⟨b,j,none⟩:=by unfold Addr.add;split<;>simp_all
 have hj:j<k:=by have:=(List.getElem?_eq_some_iff.1 hu).1;simpa[hk]using this
 rw[e,hc j hj];simpa using hu
theorem zaf {W:World} {c:Array Value} {t:TypeId} {ad:Addr} (he:ad=⟨W.heap.size,0,none⟩): ∀j u,c.toList[j]? =some u->(W.alloc (.cells c t)).cell? (ad.add j)=some u:=
 zz7 (k:=c.size) (fun i _=>by simp[go_sem]) rfl he
section
variable {P:Program} {ops:Array Oper} {md:Region.Mode} {C:World->Prop}
def zi9 (P:Program) (md:Region.Mode) (ops:Array Oper) (C:World->Prop) (n:Nat) (L:Array Bool->Act->Prop):Nat->Array Bool->Act->Prop
 |0,listed,a=>L listed a
 |f+1,listed,a=>
  Region.ready md ops listed≠[]/\ ∀i∈Region.ready md ops listed,i<n/\qOp P ops C i (zi9 P md ops C n L f (listed.setIfInBounds i true)) a
theorem zgm {n g:Nat} {L:Array Bool->Act->Prop} {Q':Exit->Act->World->Prop} (hL: ∀listed a w,C w->L listed a->wpAny P md ops Q' g listed a w):
  ∀(f:Nat) (listed:Array Bool) (a:Act) (w:World),C w->zi9 P md ops C n L f listed a->wpAny P md ops Q' (f+g) listed a w
 |0,listed,a,w,hw,h=>by rw[Nat.zero_add];exact hL _ _ _ hw h
 |f+1,listed,a,w,hw,h=>by
  rw[show f+1+g=(f+g)+1 by omega];exact⟨fun h0=>absurd h0 h.1,fun i hi=>wpOp_of_qOp hw (fun a' w' hw' h'=>zgm hL f _ a' w' hw' h') (h.2 i hi).2⟩
theorem zmf {n i:Nat} {oi:Oper} {v:Value} {L:Array Bool->Act->Prop} (hi:ops[i]? =some oi) (hsel: ∀(j:Nat) (o:Oper) cs b,ops[j]? =some o->o.op≠ .select cs b)
  (hs:Region.sinkB md ops n=true) (hc:Region.chainB md ops n=true) (hn:n<ops.size) (hin:i<n)
  (hdone: ∀listed a,L listed a-> ∀j∈Region.ready md ops listed,n<=j):
  ∀(f:Nat) (listed:Array Bool) (a:Act),HeadInv md ops n listed->
   (∀j oj,ops[j]? =some oj->j≠i->listed.getD j true=false->(∀e∈oj.after,Region.binds md e=true->e.on≠i)->oi.apart ops oj=true)->
   i∈Region.ready md ops listed->YieldsIn P ops C oi v a->
   zi9 P md ops C n L f (listed.setIfInBounds i true) (a.put oi.dst v)->zi9 P md ops C n L (f+1) listed a:=by
 intro f;induction f with
 |zero=>
  intro listed a inv _ hr hy H;have hun:=(mem_ready.1 hr).1;refine⟨fun h=>(by rw[h]at hr;cases hr),fun j hj=> ?_⟩;have hjn:j<n:=by
   rcases Nat.lt_or_ge j n with h|h
   ·exact h
   ·exact absurd hj (tail_waits hs hc hn inv _ i rfl hin hun j h)
  refine⟨hjn, ?_⟩;by_cases hji:j=i
  ·subst hji;exact hy.qOp hi H
  ·have:=hdone _ _ H j (ready_mono hj hji);omega
 |succ f ih=>
  intro listed a inv hfree hr hy H;have hun:=(mem_ready.1 hr).1;refine⟨fun h=>(by rw[h]at hr;cases hr),fun j hj=> ?_⟩;have hjn:j<n:=by
   rcases Nat.lt_or_ge j n with h|h
   ·exact h
   ·exact absurd hj (tail_waits hs hc hn inv _ i rfl hin hun j h)
  refine⟨hjn, ?_⟩;by_cases hji:j=i
  ·subst hji;exact hy.qOp hi H
  ·have h1:=(H.2 j (ready_mono hj hji)).2;obtain⟨hjun,oj,hoj,hall⟩:=mem_ready.1 hj;have hnot: ∀e∈oj.after,Region.binds md e=true->e.on≠i:=fun e he hb heq=>by
    have h1:=hall e he hb;rw[heq,getD_both hun]at h1;cases h1
   have h2:=qOp_put hoj (hfree j oj hoj hji hjun hnot) (fun cs b=>hsel i oi cs b hi) (fun cs b=>hsel j oj cs b hoj) hy h1;have hfree': ∀k ok,ops[k]? =some ok->k≠i->(listed.setIfInBounds j true).getD k true=false->
     (∀e∈ok.after,Region.binds md e=true->e.on≠i)->oi.apart ops ok=true:=fun k ok hk hki hun hno=>by
    refine hfree k ok hk hki ?_ hno;by_cases hjk:j=k
    ·subst hjk;exact hjun
    ·rw[getD_set_ne true hjk]at hun;exact hun
   refine qOp_mono (fun a' h3=>ih (listed.setIfInBounds j true) a' (inv.set hj hjn) hfree' (ready_mono hr (Ne.symm hji)) h3.1 ?_) h2;rw[Array.setIfInBounds_comm _ _ hji];exact h3.2
theorem zi7 {n g:Nat} {Lq:Act->Prop} (hsel:Region.noSelect ops=true) (hs:Region.sinkB md ops n=true) (hc:Region.chainB md ops n=true) (hn:n<ops.size):
  ∀(l:List Oper) (k:Nat) (listed:Array Bool) (a:Act),(∀j,j<l.length->l[j]? =ops[k+j]?)->k+l.length=n->HeadInv md ops n listed->
  Region.lexHead md ops g l.length k listed=true->wpQuiet P ops C Lq l a->
  zi9 P md ops C n (fun listed' a'=>Region.seqB md ops g n listed'=true/\Lq a') l.length listed a
 |[],k,listed,a,_,hk,_,hB,h=>by
  have:k=n:=by simpa using hk
  subst this;exact⟨by simpa[Region.lexHead]using hB,h⟩
 |o::l,k,listed,a,hl,hk,inv,hB,h=>by
  have h0:ops[k]? =some o:=by simpa using(hl 0 (by simp)).symm
  simp only[List.length_cons,Region.lexHead,Bool.and_eq_true]at hB;obtain⟨⟨hr,hf⟩,hB'⟩:=hB;have hkn:k<n:=by simp only[List.length_cons]at hk;omega
  have hr':k∈Region.ready md ops listed:=by simpa using hr
  have hst:qOp P ops C k (wpQuiet P ops C Lq l) a:=by unfold qOp;simp only[h0];exact h
  obtain⟨v,hy,hK⟩:=yieldsIn_of_qOp h0 hst;exact zmf h0 (Region.noSelect_spec hsel) hs hc hn hkn (fun listed' a' hL=>seqB_ready hL.1) l.length listed a inv (Region.free_spec h0 hf) hr' hy
   (zi7 hsel hs hc hn l (k+1) _ _ (fun j hj=>by have:=hl (j+1) (by simp;omega);simpa[Nat.add_assoc,Nat.add_comm 1 j]using this) (by simp only[List.length_cons]at hk;omega) (inv.set hr' hkn) hB' hK)
end
theorem zef {P:Program} {id:Nat} {Q:Exit->Act->World->Prop} {a:Act} {w:World} {l:List Oper} (n:Nat) (hm:P.follows .mixedOrders=true) (hB:Region.lexTailB .any l.toArray n=true)
  (h:wpQuiet P l.toArray (fun w'=> ∃X,w'=w.grow X) (fun a'=> ∀w',(∃X,w'=w.grow X)->wpList P l.toArray Q (l.drop n) a' w') (l.take n) a):(Code.region id l.toArray true).wp P Q a w:=by
 simp only[Region.lexTailB,Bool.and_eq_true,decide_eq_true_eq]at hB;obtain⟨⟨⟨⟨hsel,hn⟩,hs⟩,hc⟩,hlex⟩:=hB;have hn':n<l.length:=by simpa using hn
 have htl:(l.take n).length=n:=by simp;omega
 have hdl:(l.drop n).length=l.toArray.size-n:=by simp
 have inv0:HeadInv .any l.toArray n (Array.replicate l.toArray.size false):=
  ⟨by simp,fun j oj _ hl=>(by rw[getD_replicate_false]at hl;cases hl),fun t _ ht=>getD_in (by simpa using ht) (getD_replicate_false _ _)⟩
 have H:=zi7 (md:= .any) (g:=l.toArray.size-n) hsel hs hc hn (l.take n) 0 _ a (fun j hj=>by
  have hj':j<n:=by rw[htl]at hj;exact hj
  simp[hj']) (by simpa using htl) inv0 (by rw[htl];exact hlex) h
 refine wp_region_any hm ?_;have:=zgm (Q':=Q) (g:=l.toArray.size-n) (fun listed a' w' hw' hL=>by
  have:=wpAny_of_seq (md:= .any) (Q':=Q) (l.drop n) n listed a' w' (fun j=>by simp[List.getElem?_drop]) (by rw[hdl];exact hL.1) (hL.2 w' hw');rwa[hdl]at this) _ _ _ {w with drawn:=w.drawn+1} ⟨⟨#[],w.drawn+1⟩,by simp[World.grow]⟩ H
 rw[htl,show n+(l.toArray.size-n)=l.toArray.size by omega]at this;exact this
open Go.RowKit
open Go.RowKit
def Rd (w:World) (v:Value) (n size:Nat) (xs:List Value):Prop:=
 xs.length=n*size/\n<=9223372036854775807/\ ∃A c,v= .slice A n c/\(0<n-> ∃b off,A=some ⟨b,off,none⟩/\b<w.heap.size/\ ∀j u,xs[j]? =some u->w.cell? ⟨b,off+j,none⟩=some u)
theorem Rd.grow {w:World} {v:Value} {n size:Nat} {xs:List Value} (h:Rd w v n size xs) (X:Gr):Rd (w.grow X) v n size xs:=by
 obtain⟨h1,h2,A,c,h3,h4⟩:=h;refine⟨h1,h2,A,c,h3,fun hn=> ?_⟩;obtain⟨b,off,h5,h6,h7⟩:=h4 hn;exact⟨b,off,h5,by simp[World.grow];omega,fun j u hu=>zyl (h7 j u hu)⟩
theorem Rd.below {w w':World} {v:Value} {n size:Nat} {xs:List Value} (h:Rd w v n size xs) {B:Nat} (hb:Below w.heap.size w w') (_hB:B=w.heap.size):Rd w' v n size xs:=by
 obtain⟨X,rfl⟩:=zao hb;exact h.grow X
theorem Rd.alloc {w:World} {v:Value} {n size:Nat} {xs:List Value} (h:Rd w v n size xs) (o:Obj):Rd (w.alloc o) v n size xs:=by
 rw[zgi];exact h.grow _
theorem Rd.drew {w:World} {v:Value} {n size:Nat} {xs:List Value} (h:Rd w v n size xs):Rd w.drew v n size xs:=by
 rw[zyf];exact h.grow _
theorem Rd.nil (w:World) (size:Nat):Rd w (.slice none 0 0) 0 size []:=⟨by simp,by omega,none,0,rfl,fun h=>by omega⟩
theorem Rd.own {w:World} {B:Nat} {e:TypeId} {size:Nat} {v:Value} {n:Nat} {xs:List Value} (h:w.ownsRow B e size v n xs):Rd w v n size xs:=by
 obtain⟨h1,a,cap,rfl,hm,hc⟩:=zxh h;refine⟨h1,by unfold maxLen at hm;omega,a,cap,rfl,fun hn=> ?_⟩;rcases hc with hc|⟨b,rfl,_,hb,hc⟩
 ·omega
 ·exact⟨b,0,rfl,hb,fun j u hu=>by rw[Nat.zero_add];exact hc j u hu⟩
def bv (c:UInt8):Value:= .int .u8 c.toNat
theorem Rd.str {P:Program} {w:World} {v:Value} {l:List UInt8} (h:Rd w v l.length 1 (l.map bv)) (src dst e:TypeId) (hs:P.underlying src=some (.slice e)) (he:P.underlying e=some (.int .u8)) (hd:P.underlying dst=some .string):
  (convert src dst v).run P w= .ok (.string ⟨l.toArray⟩) w:=by
 obtain⟨h1,h2,A,c,rfl,h4⟩:=h;by_cases hn:0<l.length
 ·obtain⟨b,off,rfl,_,h5⟩:=h4 hn;refine run_convert_bytes_back w src dst e ⟨b,off,none⟩ c l hs he hd fun j hj=> ?_;have:=h5 j (bv l[j]) (by simp[hj]);have e:(⟨b,off,none⟩:Addr).add j=⟨b,off+j,none⟩:=by unfold Addr.add;split<;>simp_all
  rw[e];exact this
 ·obtain rfl:l=[]:=List.eq_nil_of_length_eq_zero (by omega);cases A with
  |none=>
   rw[List.length_nil,run_convert_bytes_string w src dst e none 0 c hs he hd];rfl
  |some a=>
   have:=run_convert_bytes_back (P:=P) w src dst e a c [] hs he hd fun j hj=>by simp at hj
   simpa using this
def zcm (w:World) (e:TypeId) (s:ByteArray):Gr:=⟨#[.cells (z3k w e s) e ((z3k w e s).size,(z3k w e s).size+1)],w.drawn+1⟩
theorem zf6 {P:Program} (w:World) (src dst e:TypeId) (s:ByteArray) {u:TypeDesc} (hs:P.underlying src=some u) (hd:P.underlying dst=some (.slice e)) (he:P.underlying e=some (.int .u8)):
  (convert src dst (.string s)).run P w= .ok (.slice (some ⟨w.heap.size,0,none⟩) s.size (grownCap w s.size 0 e)) (w.grow (zcm w e s)):=by
 rw[Lib.run_convert_string_bytes w src dst e s hs hd he];have h1:Below w.heap.size w (Lib.bytesWorld w e s):=⟨rfl,rfl,rfl,by rw[Lib.bytesWorld_size];omega,fun k hk=>Lib.bytesWorld_at_old w e s k hk⟩;obtain⟨X,hX⟩:=zao h1;have hb:X=zcm w e s:=by
  have h2:=Lib.bytesWorld_at_new w e s;have h3:=Lib.bytesWorld_size w e s;have h4:(Lib.bytesWorld w e s).drawn=w.drawn+1:=rfl;rw[hX]at h2 h3 h4;obtain⟨bl,dr⟩:=X;simp only[World.grow,Array.size_append]at h2 h3 h4;have h5:bl.size=1:=by omega
  rw[Array.getElem?_append_right (z2k _),Nat.sub_self]at h2;unfold zcm;congr 1;apply Array.ext_getElem?;intro i;cases i with
  |zero=>rw[h2];rfl
  |succ i=>rw[Array.getElem?_eq_none (by omega),Array.getElem?_eq_none (by simp)]
 rw[hX,hb]
theorem zfl (w:World) (e:TypeId) (s:ByteArray) (k:Nat) (h:k<s.size):(w.grow (zcm w e s)).cell? ⟨w.heap.size,k,none⟩=some (.int .u8 (s[k].toNat:Int)):=by
 have hb:(w.grow (zcm w e s)).heap[w.heap.size]? =some (.cells (z3k w e s) e ((z3k w e s).size,(z3k w e s).size+1)):=by
  simp only[World.grow];rw[Array.getElem?_append_right (z2k _),Nat.sub_self];rfl
 unfold World.cell?;simp only[hb];have h1:k<(s.data.map fun b=>Value.int .u8 b.toNat).size:=by simpa using h
 simp only[z3k,Array.getElem?_append,if_pos h1,Option.isSome_none];simp[Array.getElem?_map,Array.getElem?_eq_getElem (show k<s.data.size from h)];rfl
theorem zsu (w:World) (e:TypeId) (s:ByteArray) (c:Nat) (hm:s.size<=9223372036854775807):Rd (w.grow (zcm w e s)) (.slice (some ⟨w.heap.size,0,none⟩) s.size c) s.size 1 (s.data.toList.map bv):=by
 refine⟨by rw[List.length_map,Array.length_toList];show s.size=_;omega,hm,_,c,rfl,fun hn=>⟨w.heap.size,0,rfl,by simp[World.grow,zcm],fun j u hu=> ?_⟩⟩;have hj:j<s.size:=by have:=(List.getElem?_eq_some_iff.1 hu).1;rw[List.length_map,Array.length_toList]at this;exact this
 rw[Nat.zero_add,zfl w e s j hj];rw[List.getElem?_map,List.getElem?_eq_getElem (by simpa using hj)]at hu;simp at hu;rw[<-hu];rfl
open Go.RowKit Go.Shelf
@[go_sem] theorem wide_fn (k:FuncId):Fence.wide.fn k=True:=rfl
@[go_sem] theorem wide_depth:Fence.wide.depth=none:=rfl
@[go_sem] theorem round_fn (l:Nat) (k:FuncId):(Fence.wide.inRound l).fn k=True:=rfl
@[go_sem] theorem z1m (l:Nat):(Fence.wide.inRound l).depth=none:=rfl
structure zab (pv:Nat->Prop) (W W':World):Prop where
 os:W'.os=W.os
 tape:W'.tape=W.tape
 output:W'.output=W.output
 size:W.heap.size<=W'.heap.size
 block: ∀k,k<W.heap.size-> ¬pv k->W'.heap[k]? =W.heap[k]?
theorem zab.refl (pv:Nat->Prop) (W:World):zab pv W W:=⟨rfl,rfl,rfl,z2k _,fun _ _ _=>rfl⟩
theorem zab.trans {pv:Nat->Prop} {A B C:World} (h:zab pv A B) (k:zab pv B C):zab pv A C:=
 ⟨k.os.trans h.os,k.tape.trans h.tape,k.output.trans h.output,Nat.le_trans h.size k.size,fun i hi hn=>(k.block i (Nat.lt_of_lt_of_le hi h.size) hn).trans (h.block i hi hn)⟩
theorem zab.mono {pv pw:Nat->Prop} {A B:World} (h:zab pv A B) (hp: ∀k,pv k->pw k):zab pw A B:=
 ⟨h.os,h.tape,h.output,h.size,fun i hi hn=>h.block i hi (fun e=>hn (hp i e))⟩
theorem zab.of_below {pv:Nat->Prop} {A B:World} (h:Below A.heap.size A B):zab pv A B:=⟨h.os,h.tape,h.output,h.size,fun k hk _=>h.block k hk⟩
theorem zab.alloc {pv:Nat->Prop} {A B:World} (h:zab pv A B) (o:Obj):zab pv A (B.alloc o):=h.trans (zab.of_below ((Below.refl _ _).alloc (z2k _) o))
theorem zab.grow {pv:Nat->Prop} {A B:World} (h:zab pv A B) (X:Gr):zab pv A (B.grow X):=h.trans (zab.of_below (zav _ X))
theorem zab.drew {pv:Nat->Prop} {A B:World} (h:zab pv A B):zab pv A B.drew:=⟨h.os,h.tape,h.output,h.size,h.block⟩
theorem zab.setCell {pv:Nat->Prop} {A B:World} (h:zab pv A B) {p:Addr} (hp:A.heap.size<=p.block\/pv p.block) (v:Value):zab pv A (B.setCell p v):=
 ⟨h.os,h.tape,h.output,by simpa using h.size,fun k hk hn=>(Below.heap_setCell B p v k (fun e=>by subst e;rcases hp with hp|hp;omega;exact hn hp)).trans (h.block k hk hn)⟩
theorem zab.putObj {pv:Nat->Prop} {A B:World} (h:zab pv A B) {l:Nat} (hp:A.heap.size<=l\/pv l) (o:Obj):zab pv A (B.putObj l o):=
 ⟨h.os,h.tape,h.output,by simpa using h.size,fun k hk hn=>(World.putObj_heap_other (fun e=>by subst e;rcases hp with hp|hp;omega;exact hn hp)).trans (h.block k hk hn)⟩
theorem tur {pv:Nat->Prop} {A w:World} (h:zab pv A w:=by repeat(first|with_reducible exact zab.refl _ _|with_reducible assumption|with_reducible refine zab.alloc ?_ _|with_reducible refine zab.grow ?_ _|with_reducible refine zab.drew ?_|(with_reducible refine zab.setCell ?_ (by first|(refine Or.inr ?_;show _\/_;simp<;>omega)|(refine Or.inr ?_;show _=_;rfl)|(refine Or.inl ?_;simp[go_sem]<;>omega)) _))):zab pv A w:=h
theorem zab.boxed {pv:Nat->Prop} {A B:World} (h:zab pv A B) {b:Nat} {t:TypeId} {v:Value} (hb:Boxed A b t v) (hn: ¬pv b):Boxed B b t v:=(h.block b hb.lt hn).trans hb
theorem zab.below {pv:Nat->Prop} {A B:World} (h:zab pv A B) {m:Nat} (hm:m<=A.heap.size) (hp: ∀k,pv k->m<=k):Below m A B:=
 ⟨h.os,h.tape,h.output,h.size,fun k hk=>h.block k (Nat.lt_of_lt_of_le hk hm) (fun e=>by have:=hp k e;omega)⟩
theorem zab.own {pv:Nat->Prop} {A C:World} (h:zab pv A C) {B:Nat} {e:TypeId} {size:Nat} {v:Value} {n:Nat} {xs:List Value} (ho:A.ownsRow B e size v n xs) (hn: ∀k,pv k->k<B):C.ownsRow B e size v n xs:=by
 refine⟨ho.1, ?_⟩;rcases ho.2 with⟨h1,h2⟩|⟨g,cap,cur,h1,h2,h3,h4⟩
 ·exact Or.inl ⟨h1,h2⟩
 ·exact Or.inr ⟨g,cap,cur,h1,h2,(h.block g (Array.getElem?_eq_some_iff.1 h3).1 (fun e=>by have:=hn g e;omega)).trans h3,h4⟩
theorem zab.of_own {W W':World} {v:Value} {B:Nat} {e:TypeId} {size n:Nat} {xs:List Value} (hg:W.grownBy W' v.ownBlock) (ho:W.ownsRow B e size v n xs):zab (fun k=>B<=k) W W':=
 ⟨hg.os,hg.tape,hg.output,hg.size,fun k hk hn=>hg.block k hk fun e=>by
  rcases ho.2 with⟨rfl,_⟩|⟨g,cap,cur,rfl,hb,_⟩
  ·simp[Value.ownBlock]at e
  ·simp[Value.ownBlock]at e;exact hn (by omega)⟩
theorem zd9 {F:Fence} {n0:Nat} {P:Program} {W:World} {ops:Array Oper} {rest:List Oper} {o:Oper} {a:Act} {Q:Exit->Act->World->Prop} (hgd:o.guard=none) (s x:Operand) (t:TypeId)
  (ho:o.op= .call {callee:= .builtin .append,args:= #[s,x],argTypes:= #[t,t]})
  {e:TypeId} {z:Value} {size bytes:Nat} (row:SlT P t e z size bytes) (base:Nat) {v:Value} {n:Nat} {xs:List Value} (hs:a.eval s=v) (hown:W.ownsRow base e size v n xs)
  (hb:base<=W.heap.size) (ad:Addr) (m c:Nat) (news:List Value) (hx:a.eval x= .slice (some ad) (m+1) c) (hl:news.length=(m+1)*size)
  (hnews: ∀j u,news[j]? =some u->W.cell? (ad.add j)=some u) (h1: ∀u∈news,u.oneCell'=true) (h63:n+(m+1)<=maxLen) (hbytes:(n+(m+1))*bytes<=140737488355328)
  (h: ∀g cap W',W'.ownsRow base e size (.slice (some ⟨g,0,none⟩) (n+m+1) cap) (n+m+1) (xs++news)->zab (fun k=>base<=k) W W'->wpListIn F n0 P ops Q rest (a.put o.dst (.slice (some ⟨g,0,none⟩) (n+m+1) cap)) W'):wpListIn F n0 P ops Q (o::rest) a W:=by
 obtain⟨i,hi,hz0,hz1,hz2⟩:=info_parts row.hi;refine wpListIn_append_own W hgd s x t ho base e i z size bytes row.ht hi hz0 hz1 hz2 row.hzs row.hsz v n xs hs hown ad (m+1) c news hx hl hnews h1 h63 hbytes hb ?_;intro v' w' h2 h3 _;obtain⟨g,cap,rfl⟩:=ownsRow_succ (k:=n+m) h2;exact h g cap w' h2 (zab.of_own h3 hown)
variable {P:Program} {α:Type}
def zmd (P:Program) (gf:Nat) (lb:Array Value) (encs:α->Array Value) (pv bw:Nat->Prop) (xs:List α) (W:World):Prop:=
 ∀(l:Nat) (J Jx:List α->World->Prop),(∀pre A B,J pre A->zab pv A B->J pre B)->
  (∀pre x A,(pre++[x])<+:xs->J pre A->YieldAt Fence.wide 0 P l (encs x) A fun e A'=>(e= .returned (.bool true)/\J (pre++[x]) A'/\zab bw A A')\/(e= .returned (.bool false)/\Jx (pre++[x]) A'))->
  J [] W->CallsIn Fence.wide 0 P gf (#[.func (.yield l) #[] #[]]++lb) W fun e W'=>(∃v,e= .returned v)/\(J xs W'\/ ∃pre x,(pre++[x])<+:xs/\Jx (pre++[x]) W')
def rpost (bw:Nat->Prop) (I:List α->World->Prop) (Ix:Code->List α->World->Prop) (xs:List α) (W:World):Exit->Act->World->Prop
 | .normal,_,W'=>zab bw W W'/\I xs W'
 | .ret,_,W'=>zab bw W W'/\Ix .ret xs W'
 | .exit id,_,W'=>zab bw W W'/\Ix (.exit id) xs W'
 |_,_,_=>False
theorem ziu {g:Operand} {ps:Array Tmp} {assign body:Code} {Q:Exit->Act->World->Prop} {a:Act} {w:World} {gf:Nat} {lb:Array Value} {B:Nat} (hB:w.heap.size=B)
  (hg:a.eval g= .func (.func gf) #[] lb) (eg:Enters P gf) {encs:α->Array Value} (hps: ∀x,(encs x).size=ps.size) {xs:List α}
  (pv bw:Nat->Prop) (hpv: ∀k,pv k->k<B) (hbw: ∀k,bw k->k≠B/\k≠B+1)
  (I:List α->World->Prop) (Ix:Code->List α->World->Prop)
  (hI: ∀pre A C,I pre A->zab (fun k=>pv k\/k=B\/k=B+1) A C->I pre C)
  (hIx: ∀c pre A C,Ix c pre A->zab (fun k=>k=B\/k=B+1) A C->Ix c pre C) (h0:I [] w)
  (hiter: ∀o1 o2,zmd P gf lb encs pv (fun k=>bw k\/k=B+1) xs ((w.alloc o1).alloc o2))
  (hround: ∀l pre x A,(pre++[x])<+:xs->I pre A->B+2<=A.heap.size->
   assign.wpIn (Fence.wide.inRound l) 0 P (Exit.then (fun a1 A1=>zab (fun _=>False) A A1/\ ∀A2,zab (fun k=>k=B+1) A1 A2->I pre A2->A2.heap.size=A1.heap.size->
    body.wpIn (Fence.wide.inRound l) 0 P (rpost bw I Ix (pre++[x]) A2) a1 A2) (fun _ _ _=>False))
    {tmps:=(ps.zip (encs x)).foldl (fun t (p,v)=>t.setIfInBounds p v) a.tmps,defers:=[]} A)
  (hdone: ∀W,I xs W->W.heap[B]? =some (.deferred (some []))->Q .normal {a with defers:={target:= .collected B,args:= #[]}::a.defers} W)
  (hstop: ∀c pre x W,(pre++[x])<+:xs->Ix c (pre++[x]) W->W.heap[B]? =some (.deferred (some []))->c.wpIn Fence.wide 0 P Q {a with defers:={target:= .collected B,args:= #[]}::a.defers} W):
  (Code.rangeFunc g ps assign body).wpIn Fence.wide 0 P Q a w:=by
 subst hB;refine wpIn_rangeFunc fun fn hfn=> ?_;obtain⟨rec,hrec⟩: ∃rec:LoopState->Option Code->Loop,rec=fun st pe=>{state:=st,pending:=pe,fn,tmps:=a.tmps,params:=ps,assign,body,defers:=w.heap.size}:=⟨_,rfl⟩;obtain⟨W1,hW1⟩: ∃W1,(w.alloc (.deferred (some []))).alloc (.loop (rec .ready none))=W1:=⟨_,rfl⟩;have hlt1:w.heap.size+2=W1.heap.size:=by rw[<-hW1];simp
 have hL1:W1.heap[w.heap.size+1]? =some (.loop (rec .ready none)):=by
  rw[<-hW1];have h:=World.alloc_heap_new (w.alloc (.deferred (some []))) (.loop (rec .ready none));rwa[World.size_alloc]at h
 have hK1:W1.heap[w.heap.size]? =some (.deferred (some [])):=by
  rw[<-hW1,Below.heap_alloc _ _ _ (by simp)];exact World.alloc_heap_new w _
 have hT1:zab (fun k=>pv k\/k=w.heap.size\/k=w.heap.size+1) w W1:=by rw[<-hW1];exact((zab.refl _ _).alloc _).alloc _
 refine⟨w.heap.size+1,[{target:= .collected w.heap.size,args:= #[]}],W1,{target:= .fn (.func gf) lb,args:= #[.func (.yield (w.heap.size+1)) #[] #[]]},W1,gf,#[.func (.yield (w.heap.size+1)) #[] #[]]++lb,W1, ?_, ?_, ?_, ?_,(fun h=>absurd h (by simp[Fence.wide])), ?_⟩
 ·rw[<-hW1,hrec];exact run_enterLoop_outer _ _ _ _ _
 ·simp only[resolve,hg];simp[go_sem]
 ·intro _ _;exact trivial
 ·have:=eg (#[.func (.yield (w.heap.size+1)) #[] #[]]++lb) W1;simp[invoke,go_sem,this]
 ·have hit:=hiter (.deferred (some [])) (.loop (rec .ready none)) (w.heap.size+1)
   (fun pre A=>I pre A/\A.heap[w.heap.size+1]? =some (.loop (rec .ready none))/\A.heap[w.heap.size]? =some (.deferred (some [])))
   (fun pre A=> ∃c,Ix c pre A/\A.heap[w.heap.size+1]? =some (.loop (rec .done (some c)))/\A.heap[w.heap.size]? =some (.deferred (some [])))
   ?stable ?round (by rw[hW1];exact⟨hI _ _ _ h0 hT1,hL1,hK1⟩)
  ·rw[hW1]at hit;refine hit.mono ?_;rintro e W2 ⟨⟨v,rfl⟩,(⟨hi,hl,hk⟩|⟨pre,x,hx,c,hi,hl,hk⟩)⟩
   ·refine⟨none,_,by have:=run_endLoop (P:=P) hl (by rw[hrec];simp);rw[hrec]at this;exact this, ?_⟩;exact hdone _ (hI _ _ _ hi ((zab.refl _ _).putObj (Or.inr (Or.inr (Or.inr rfl))) _)) ((World.putObj_heap_other (by omega)).trans hk)
   ·refine⟨some c,_,by have:=run_endLoop (P:=P) hl (by rw[hrec];simp);rw[hrec]at this;exact this, ?_⟩;exact hstop _ _ _ _ hx (hIx _ _ _ _ hi ((zab.refl _ _).putObj (Or.inr (Or.inr rfl)) _)) ((World.putObj_heap_other (by omega)).trans hk)
  case stable=>
   rintro pre A B ⟨hi,hl,hk⟩ ht;have hlt:w.heap.size+1<A.heap.size:=(Array.getElem?_eq_some_iff.1 hl).1;refine⟨hI _ _ _ hi (ht.mono fun k hk=>Or.inl hk),(ht.block _ hlt fun h=> ?_).trans hl,(ht.block _ (by omega) fun h=> ?_).trans hk⟩
   ·have:=hpv _ h;omega
   ·have:=hpv _ h;omega
  case round=>
   rintro pre x A hx ⟨hi,hl,hk⟩;have hlt:w.heap.size+1<A.heap.size:=(Array.getElem?_eq_some_iff.1 hl).1;have hy:=run_yield (P:=P) (args:=encs x) hl (by rw[hrec];exact hps x);rw[hrec]at hy;refine⟨fn,_,assign,body,hy,roundIn_of_wpIn hfn (wpIn_mono (hround (w.heap.size+1) pre x A hx hi (by omega)) ?_)⟩;intro e a1 A1 hq;cases e with
   |normal=>
    obtain⟨ht1,hbody⟩:=hq;have hl1:A1.heap[w.heap.size+1]? =some (.loop (rec .ready none)):=(ht1.block _ hlt (fun h=>h)).trans hl;have hk1:A1.heap[w.heap.size]? =some (.deferred (some [])):=(ht1.block _ (by omega) (fun h=>h)).trans hk;have hltA1:w.heap.size+1<A1.heap.size:=(Array.getElem?_eq_some_iff.1 hl1).1;refine⟨_,run_beginRound hl1 (by rw[hrec]), ?_⟩;have ht2:zab (fun k=>k=w.heap.size+1) A1 (A1.putObj (w.heap.size+1) (.loop {rec .ready none with state:= .busy})):=zab.putObj (pv:=fun k=>k=w.heap.size+1) (zab.refl _ _) (Or.inr rfl) _;have ht12:zab (fun k=>k=w.heap.size+1) A (A1.putObj (w.heap.size+1) (.loop {rec .ready none with state:= .busy})):=(ht1.mono (fun k h=>h.elim)).trans ht2;have hl2:(A1.putObj (w.heap.size+1) (.loop {rec .ready none with state:= .busy})).heap[w.heap.size+1]? =some (.loop {rec .ready none with state:= .busy}):=World.putObj_heap_same hltA1;have hk2:(A1.putObj (w.heap.size+1) (.loop {rec .ready none with state:= .busy})).heap[w.heap.size]? =some (.deferred (some [])):=(World.putObj_heap_other (by omega)).trans hk1;have hb:=hbody _ ht2 (hI _ _ _ hi (ht12.mono fun k h=>Or.inr (Or.inr h))) (by simp);refine wpIn_mono hb ?_;have fin: ∀(jump:Option Code) (A3:World),zab bw (A1.putObj (w.heap.size+1) (.loop {rec .ready none with state:= .busy})) A3->
      (Instr.endRound (w.heap.size+1) jump).run P A3= .ok (.bool jump.isNone) (A3.putObj (w.heap.size+1) (.loop (rec (if jump.isNone then .ready else .done) jump)))/\
      (A3.putObj (w.heap.size+1) (.loop (rec (if jump.isNone then .ready else .done) jump))).heap[w.heap.size+1]? =some (.loop (rec (if jump.isNone then .ready else .done) jump))/\
      (A3.putObj (w.heap.size+1) (.loop (rec (if jump.isNone then .ready else .done) jump))).heap[w.heap.size]? =some (.deferred (some [])):=fun jump A3 ht3=>by
     have hl3:=(ht3.block _ (by simpa using hltA1) (fun h=>(hbw _ h).2 rfl)).trans hl2;have hk3:=(ht3.block _ (by simp;omega) (fun h=>(hbw _ h).1 rfl)).trans hk2;have:=run_endRound (P:=P) jump hl3;rw[hrec]at this ⊢;exact⟨this,World.putObj_heap_same (Array.getElem?_eq_some_iff.1 hl3).1,(World.putObj_heap_other (by omega)).trans hk3⟩
    have fill: ∀(A3:World) (o:Obj),zab (fun k=>k=w.heap.size\/k=w.heap.size+1) A3 (A3.putObj (w.heap.size+1) o):=fun A3 o=>(zab.refl _ _).putObj (Or.inr (Or.inr rfl)) _;intro e a3 A3 hp;cases e with
    |normal=>
     obtain⟨ht3,hi3⟩:=hp;obtain⟨hr,hl4,hk4⟩:=fin none A3 ht3;refine⟨_,_,hr,Or.inl ⟨rfl,⟨hI _ _ _ hi3 ((fill _ _).mono fun k h=>Or.inr h),hl4,hk4⟩, ?_⟩⟩;exact(ht12.mono fun k h=>Or.inr h).trans ((ht3.mono fun k h=>Or.inl h).trans ((zab.refl _ _).putObj (Or.inr (Or.inr rfl)) _))
    |ret=>
     obtain⟨ht3,hi3⟩:=hp;obtain⟨hr,hl4,hk4⟩:=fin (some .ret) A3 ht3;exact⟨_,_,hr,Or.inr ⟨rfl,.ret,hIx _ _ _ _ hi3 (fill _ _),hl4,hk4⟩⟩
    |exit id=>
     obtain⟨ht3,hi3⟩:=hp;obtain⟨hr,hl4,hk4⟩:=fin (some (.exit id)) A3 ht3;exact⟨_,_,hr,Or.inr ⟨rfl,.exit id,hIx _ _ _ _ hi3 (fill _ _),hl4,hk4⟩⟩
    |goto t=>exact hp.elim
    |panic ch=>exact hp.elim
    |outgrown=>exact hp.elim
   |ret=>exact hq.elim
   |exit id=>exact hq.elim
   |goto t=>exact hq.elim
   |panic ch=>exact hq.elim
   |outgrown=>exact hq.elim
open Go.RowKit
def zby (W:World) (nb:Nat) (e:TypeId) (s:ByteArray):Prop:=
 ∃C m,W.heap[nb]? =some (.cells C e (m,m+1))/\ ∀k (h:k<s.size),C[k]? =some (.int .u8 (s[k].toNat:Int))
theorem zby.cell {W:World} {nb:Nat} {e:TypeId} {s:ByteArray} (h:zby W nb e s) (k:Nat) (hk:k<s.size):W.cell? ⟨nb,k,none⟩=some (.int .u8 (s[k].toNat:Int)):=by
 obtain⟨C,m,h1,h2⟩:=h;simp[World.cell?,h1,h2 k hk]
theorem zby.lt {W:World} {nb:Nat} {e:TypeId} {s:ByteArray} (h:zby W nb e s):nb<W.heap.size:=by
 obtain⟨C,m,h1,_⟩:=h;exact(Array.getElem?_eq_some_iff.1 h1).1
theorem zby.new (W:World) (e:TypeId) (s:ByteArray):zby (W.grow (zcm W e s)) W.heap.size e s:=by
 refine⟨_,_,by simp only[World.grow];rw[Array.getElem?_append_right (z2k _),Nat.sub_self];rfl,fun k hk=> ?_⟩;have h:=zfl W e s k hk;unfold World.cell? at h;have hb:(W.grow (zcm W e s)).heap[W.heap.size]? =some (.cells (z3k W e s) e ((z3k W e s).size,(z3k W e s).size+1)):=by
  simp only[World.grow];rw[Array.getElem?_append_right (z2k _),Nat.sub_self];rfl
 simpa[hb]using h
theorem zby.grow {W:World} {nb:Nat} {e:TypeId} {s:ByteArray} (h:zby W nb e s) (X:Gr):zby (W.grow X) nb e s:=by
 have hl:=h.lt;obtain⟨C,m,h1,h2⟩:=h;exact⟨C,m,((zav W X).block nb hl).trans h1,h2⟩
theorem zby.alloc {W:World} {nb:Nat} {e:TypeId} {s:ByteArray} (h:zby W nb e s) (o:Obj):zby (W.alloc o) nb e s:=by
 rw[zgi];exact h.grow _
theorem zby.kept {W W':World} {nb:Nat} {e:TypeId} {s:ByteArray} (h:zby W nb e s) {v:Value} {B:Nat} {e':TypeId} {size n:Nat} {xs:List Value} (ho:W.ownsRow B e' size v n xs) (hg:W.grownBy W' v.ownBlock):zby W' nb e s:=by
 have hl:=h.lt;obtain⟨C,m,h1,h2⟩:=h;refine⟨C,m,(hg.block nb hl fun e=> ?_).trans h1,h2⟩;rcases ho.2 with⟨rfl,_⟩|⟨g,cap,cur,rfl,_,hh,_⟩
 ·simp[Value.ownBlock]at e
 ·simp[Value.ownBlock]at e;subst e;rw[h1]at hh;simp at hh
theorem zcv {B0:Nat} {W W':World} {v:Value} {B:Nat} {e:TypeId} {size n:Nat} {xs:List Value} (ho:W.ownsRow B e size v n xs) (hg:W.grownBy W' v.ownBlock) (hB:B0<=B) (hw:B0<=W.heap.size):Below B0 W W':=
 (Below.refl B0 W).grown hg hw fun k hk=>by have:=(ho.lt k hk).1;omega
theorem zaq {w V W':World} {v:Value} {e:TypeId} {size n:Nat} {xs:List Value} (hg:V.grownBy W' v.ownBlock) (ho:V.ownsRow w.heap.size e size v n xs) (h:Below w.heap.size w V):Hid (Below w.heap.size w W'):=
 h.trans (zcv ho hg (z2k _) h.size)
theorem zar {P:Program} {W:World} {ops:Array Oper} {rest:List Oper} {o:Oper} {a:Act} {Q:Exit->Act->World->Prop} (hgd:o.guard=none) (s x:Operand) (t:TypeId)
  (ho:o.op= .call {callee:= .builtin .append,args:= #[s,x],argTypes:= #[t,t]})
  {e:TypeId} {z:Value} {size bytes:Nat} (row:SlT P t e z size bytes) (base:Nat) {v:Value} {n:Nat} {xs:List Value} (hs:a.eval s=v) (hown:W.ownsRow base e size v n xs)
  (hb:base<=W.heap.size) (ad:Addr) (m c:Nat) (news:List Value) (hx:a.eval x= .slice (some ad) m c) (hl:news.length=m*size)
  (hnews: ∀j u,news[j]? =some u->W.cell? (ad.add j)=some u) (h1: ∀u∈news,u.oneCell'=true) (h63:n+m<=maxLen) (hbytes:(n+m)*bytes<=140737488355328)
  (h: ∀v' W',W'.ownsRow base e size v' (n+m) (xs++news)->W.grownBy W' v.ownBlock->wpList P ops Q rest (a.put o.dst v') W'):wpList P ops Q (o::rest) a W:=by
 obtain⟨i,hi,hz0,hz1,hz2⟩:=info_parts row.hi;exact wpList_append_own W hgd s x t ho base e i z size bytes row.ht hi hz0 hz1 hz2 row.hzs row.hsz v n xs hs hown ad m c news hx hl hnews h1 h63 hbytes hb fun v' w' h2 h3 _=>h v' w' h2 h3
theorem za5 {W:World} {e:TypeId} {c:Array Value} {n size:Nat} (hc:c.size=n*size) (hn:n<=maxLen):(W.alloc (.cells c e)).ownsRow W.heap.size e size (.slice (some ⟨W.heap.size,0,none⟩) n n) n c.toList:=
 ⟨by simp[hc],.inr ⟨W.heap.size,n,c,rfl,z2k _,heap_alloc_new W _,z2k _,hn,hc,by rw[List.take_of_length_le];simp[hc]⟩⟩
theorem zac {w a b:World} (h:Below w.heap.size w a) (k:Below a.heap.size a b):Below w.heap.size w b:=h.trans (k.mono h.size)
open Go.ChangeShapes Go.WideShapes Go.Deep
section
variable {P:Program} {H:Type} {enc:TypeId × Value->H} {w:World} {base:Nat} {spare:Nat->Bool} {held:Bool}
end
theorem zgq {a b:ByteArray} (h:a.data.toList=b.data.toList):a=b:=by
 obtain⟨⟨x⟩⟩:=a;obtain⟨⟨y⟩⟩:=b;simp at h;rw[h]
theorem zhs (a b:ByteArray):(a.toList==b.toList)=decide (a.data.toList=b.data.toList):=by
 rw[ByteArray.toList_eq,ByteArray.toList_eq,Bool.eq_iff_iff];simp
theorem ba_bnq (a b:ByteArray):(a.toList !=b.toList)= !decide (a.data.toList=b.data.toList):=by
 rw[bne,zhs]
theorem zf7 (a:ByteArray):a.toList.isEmpty=decide (a.data.toList=[]):=by
 rw[ByteArray.toList_eq,Bool.eq_iff_iff];simp
theorem zro {a:ByteArray} (h:0<a.size):a.toList.isEmpty=false:=by
 rw[zf7];simp;intro h2;simp[ByteArray.size,h2]at h
theorem mxd:Tryz.prog.follows .mixedOrders=true:=by kernel_rfl
end Go.Proofs.YtiikamobcmgekaaGreatDoor
theorem Go.Proofs.YtiikamobcmgekaaGreatDoor.KS.isS:True:=⟨⟩
theorem Go.Proofs.YtiikamobcmgekaaGreatDoor.KA.isA:True:=⟨⟩
theorem Go.Proofs.YtiikamobcmgekaaGreatDoor.KF.isF:True:=⟨⟩
theorem Go.Proofs.YtiikamobcmgekaaGreatDoor.hv {p q:Prop} (a:p) (b:p->q):q:=b a
