import Derived.Test.YtccjfanpjojbnaaGreatDoorProg
import Derived.WalkSpells
import Derived.WalkLawsBesides
import Derived.StillTail
import Derived.Lib.Hide
import Derived.Laws.AppendOwnNone
import Derived.Lib.ConvBytes
import Derived.RangeFuncNested
import Derived.RangeFuncBound
import Derived.Shelf.RegionOpen
import Derived.OwnWalkIn
import Derived.LoopNIn
import Derived.LoopIn
import Derived.ProofKit
import Derived.Deep.Fields
import Derived.OpenShut
namespace Go.Proofs.YtccjfanpjojbnaaGreatDoor
theorem kr {p:Prop} (h:p:=by kernel_rfl):p:=h
theorem om {p:Prop} (h:p:=by omega):p:=h
theorem dc {p:Prop} (h:p:=by decide):p:=h
theorem cqk {a:Type} {x y:a} (h:x=y:=by kernel_rfl):some x=some y:=congrArg some h
theorem ee {p:Prop} (h:p:=by intro W hW;simp[execOp,go_sem]):p:=h
open Go.Ending renaming returned→aL
open Lib renaming bytesCells→nP
open List renaming eq_nil_of_length_eq_zero→gD,getElem?_eq_getElem→eV,getElem?_eq_some_iff→gV,length_cons→aY
open Nat renaming le_refl→bA,lt_of_lt_of_le→bQ,sub_self→zaf
open Go.Value renaming bool→aI,ownBlock→xm,slice→aF
open Go.RowKit
structure Gr where
 blocks:Array Obj
 drawn:Nat
instance:Inhabited Gr:=⟨⟨#[],0⟩⟩
def _root_.Go.World.grow (w:World) (X:Gr):World:={w with heap:=w.heap++X.blocks,drawn:=X.drawn}
theorem dG (w:World) (X:Gr):Below w.heap.size w (w.grow X):=
 ⟨rfl,rfl,rfl,by simp[World.grow],λk hk=>by simp[World.grow,Array.getElem?_append,hk]⟩
theorem cV {w w':World} (h:Below w.heap.size w w'): ∃X,w'=w.grow X:=by
 refine⟨⟨w'.heap.extract w.heap.size w'.heap.size,w'.drawn⟩, ?_⟩;obtain⟨hos,ht,ho,hs,hb⟩:=h;cases w with
 |mk heap tape drawn os output=>
 cases w' with
 |mk heap' tape' drawn' os' output'=>
  simp only at hos ht ho hs hb;subst hos ht ho;have he:heap'=heap++heap'.extract heap.size heap'.size:=by
   apply Array.ext_getElem?;intro k;rw[Array.getElem?_append];split
   .rename_i hk;exact hb k hk
   .rename_i hk;rw[Array.getElem?_extract];split
    .congr 1;omega
    .rename_i hk2;rw[Array.getElem?_eq_none];omega
  show World.mk heap' _ _ _ _=World.mk (heap++heap'.extract heap.size heap'.size) _ _ _ _;rw[<-he]
theorem jV (w:World) (X Y:Gr):(w.grow X).grow Y=w.grow ⟨X.blocks++Y.blocks,Y.drawn⟩:=by
 simp[World.grow,Array.append_assoc]
theorem kW (w:World):w.grow ⟨#[],w.drawn⟩=w:=by
 cases w;simp[World.grow]
theorem qG (w:World) (o:Obj):w.alloc o=w.grow ⟨#[o],w.drawn⟩:=by
 show World.mk (w.heap.push o) _ _ _ _=World.mk (w.heap++ #[o]) _ _ _ _;rw[Array.push_eq_append]
theorem Nv (w:World):w.drew=w.grow ⟨#[],w.drawn+1⟩:=by
 show World.mk w.heap _ _ _ _=World.mk (w.heap++ #[]) _ _ _ _;rw[Array.append_empty]
@[go_sem] theorem nR (w:World) (X:Gr):(w.grow X).heap.size=w.heap.size+X.blocks.size:=by simp[World.grow]
@[go_sem] theorem Tq (w:World) (X:Gr):(w.grow X).tape=w.tape:=rfl
@[go_sem] theorem Ul (w:World) (X:Gr):(w.grow X).os=w.os:=rfl
@[go_sem] theorem Uk (w:World) (X:Gr):(w.grow X).output=w.output:=rfl
@[go_sem] theorem Wt (w:World) (X:Gr):(w.grow X).drew=w.grow ⟨X.blocks,X.drawn+1⟩:=rfl
def LS (X:Gr) (n:Nat) (a:Addr):Option Value:=
 match X.blocks[a.block-n]? with
 |some (.cells c _ _)=>if a.spot.isSome then none else c[a.off]?
 |_=>none
def LR (X:Gr) (n:Nat) (a:Addr):Bool:=
 match X.blocks[a.block-n]? with
 |some (.cells _ _ (lo,hi))=>lo<=a.off&&a.off<hi
 |_=>false
theorem XA (w:World) (X:Gr) (k:Nat) (h:w.heap.size<=k):(w.grow X).heap[k]? =X.blocks[k-w.heap.size]? :=by
 show(w.heap++X.blocks)[k]? =_;rw[Array.getElem?_append,if_neg (by omega)]
@[go_sem] theorem ZE (w:World) (X:Gr) (a:Addr):(w.grow X).cell? a=if a.block<w.heap.size then w.cell? a else LS X w.heap.size a:=by
 split
 .rename_i h;exact(dG w X).cell h
 .rename_i h;unfold World.cell? LS;rw[XA w X _ (by omega)];generalize X.blocks[a.block-w.heap.size]? =o;rcases o with _|o<;>first|rfl|(cases o<;>rfl)
@[go_sem] theorem Kx (w:World) (X:Gr) (a:Addr):(w.grow X).frozen? a=if a.block<w.heap.size then w.frozen? a else LR X w.heap.size a:=by
 split
 .rename_i h;exact(dG w X).frozen h
 .rename_i h;unfold World.frozen? LR;rw[XA w X _ (by omega)];generalize X.blocks[a.block-w.heap.size]? =o;rcases o with _|o<;>first|rfl|(cases o<;>rfl)
@[go_sem] theorem Ve {a b:Nat} {X:Gr} (h:a<b):(a<b+X.blocks.size)=True:=eq_true (by omega)
@[go_sem] theorem Vr {a b:Nat} {X:Gr} (h:a<=b):(a<=b+X.blocks.size)=True:=eq_true (by omega)
@[go_sem] theorem Ws {a b:Nat} {X:Gr} (h:a<b):(a=b+X.blocks.size)=False:=eq_false (by omega)
@[go_sem] theorem Vy {a b:Nat} {X:Gr} (h:a<b):(b+X.blocks.size=a)=False:=eq_false (by omega)
@[go_sem] theorem Vd (a:Nat):(a<a+1)=True:=eq_true (by omega)
@[go_sem] theorem Vq (a:Nat):(a<=a+1)=True:=eq_true (by omega)
@[go_sem] theorem Wr (a:Nat):(a=a+1)=False:=eq_false (by omega)
@[go_sem] theorem Ug (a:Nat):(a+1=a)=False:=eq_false (by omega)
@[go_sem] theorem Uz (a:Nat):(a<a+1+1)=True:=eq_true (by omega)
@[go_sem] theorem Vm (a:Nat):(a<=a+1+1)=True:=eq_true (by omega)
@[go_sem] theorem Wn (a:Nat):(a=a+1+1)=False:=eq_false (by omega)
@[go_sem] theorem Uf (a:Nat):(a+1+1=a)=False:=eq_false (by omega)
@[go_sem] theorem Uy (a:Nat):(a<a+1+1+1)=True:=eq_true (by omega)
@[go_sem] theorem Vl (a:Nat):(a<=a+1+1+1)=True:=eq_true (by omega)
@[go_sem] theorem Wm (a:Nat):(a=a+1+1+1)=False:=eq_false (by omega)
@[go_sem] theorem Ue (a:Nat):(a+1+1+1=a)=False:=eq_false (by omega)
@[go_sem] theorem Ux (a:Nat):(a<a+1+1+1+1)=True:=eq_true (by omega)
@[go_sem] theorem Vk (a:Nat):(a<=a+1+1+1+1)=True:=eq_true (by omega)
@[go_sem] theorem Wl (a:Nat):(a=a+1+1+1+1)=False:=eq_false (by omega)
@[go_sem] theorem Ud (a:Nat):(a+1+1+1+1=a)=False:=eq_false (by omega)
@[go_sem] theorem Uw (a:Nat):(a<a+1+1+1+1+1)=True:=eq_true (by omega)
@[go_sem] theorem Vj (a:Nat):(a<=a+1+1+1+1+1)=True:=eq_true (by omega)
@[go_sem] theorem Wk (a:Nat):(a=a+1+1+1+1+1)=False:=eq_false (by omega)
@[go_sem] theorem Uc (a:Nat):(a+1+1+1+1+1=a)=False:=eq_false (by omega)
@[go_sem] theorem Uv (a:Nat):(a<a+1+1+1+1+1+1)=True:=eq_true (by omega)
@[go_sem] theorem Vi (a:Nat):(a<=a+1+1+1+1+1+1)=True:=eq_true (by omega)
@[go_sem] theorem Wj (a:Nat):(a=a+1+1+1+1+1+1)=False:=eq_false (by omega)
@[go_sem] theorem Ub (a:Nat):(a+1+1+1+1+1+1=a)=False:=eq_false (by omega)
@[go_sem] theorem Uu (a:Nat):(a<a+1+1+1+1+1+1+1)=True:=eq_true (by omega)
@[go_sem] theorem Vh (a:Nat):(a<=a+1+1+1+1+1+1+1)=True:=eq_true (by omega)
@[go_sem] theorem Wi (a:Nat):(a=a+1+1+1+1+1+1+1)=False:=eq_false (by omega)
@[go_sem] theorem Ua (a:Nat):(a+1+1+1+1+1+1+1=a)=False:=eq_false (by omega)
@[go_sem] theorem Ut (a:Nat):(a<a+1+1+1+1+1+1+1+1)=True:=eq_true (by omega)
@[go_sem] theorem Vg (a:Nat):(a<=a+1+1+1+1+1+1+1+1)=True:=eq_true (by omega)
@[go_sem] theorem Wh (a:Nat):(a=a+1+1+1+1+1+1+1+1)=False:=eq_false (by omega)
@[go_sem] theorem Tz (a:Nat):(a+1+1+1+1+1+1+1+1=a)=False:=eq_false (by omega)
@[go_sem] theorem Us (a:Nat):(a<a+1+1+1+1+1+1+1+1+1)=True:=eq_true (by omega)
@[go_sem] theorem Vf (a:Nat):(a<=a+1+1+1+1+1+1+1+1+1)=True:=eq_true (by omega)
@[go_sem] theorem Wg (a:Nat):(a=a+1+1+1+1+1+1+1+1+1)=False:=eq_false (by omega)
@[go_sem] theorem Ty (a:Nat):(a+1+1+1+1+1+1+1+1+1=a)=False:=eq_false (by omega)
@[go_sem] theorem Vc (a:Nat):(a<a+1+1+1+1+1+1+1+1+1+1)=True:=eq_true (by omega)
@[go_sem] theorem Vp (a:Nat):(a<=a+1+1+1+1+1+1+1+1+1+1)=True:=eq_true (by omega)
@[go_sem] theorem Wq (a:Nat):(a=a+1+1+1+1+1+1+1+1+1+1)=False:=eq_false (by omega)
@[go_sem] theorem Uj (a:Nat):(a+1+1+1+1+1+1+1+1+1+1=a)=False:=eq_false (by omega)
@[go_sem] theorem Vb (a:Nat):(a<a+1+1+1+1+1+1+1+1+1+1+1)=True:=eq_true (by omega)
@[go_sem] theorem Vo (a:Nat):(a<=a+1+1+1+1+1+1+1+1+1+1+1)=True:=eq_true (by omega)
@[go_sem] theorem Wp (a:Nat):(a=a+1+1+1+1+1+1+1+1+1+1+1)=False:=eq_false (by omega)
@[go_sem] theorem Ui (a:Nat):(a+1+1+1+1+1+1+1+1+1+1+1=a)=False:=eq_false (by omega)
@[go_sem] theorem Va (a:Nat):(a<a+1+1+1+1+1+1+1+1+1+1+1+1)=True:=eq_true (by omega)
@[go_sem] theorem Vn (a:Nat):(a<=a+1+1+1+1+1+1+1+1+1+1+1+1)=True:=eq_true (by omega)
@[go_sem] theorem Wo (a:Nat):(a=a+1+1+1+1+1+1+1+1+1+1+1+1)=False:=eq_false (by omega)
@[go_sem] theorem Uh (a:Nat):(a+1+1+1+1+1+1+1+1+1+1+1+1=a)=False:=eq_false (by omega)
@[go_sem] theorem l7 (w:World) (X:Gr) (a:Addr) (v:Value) (h:a.block<w.heap.size):(w.grow X).setCell a v=(w.setCell a v).grow X:=by
 unfold World.grow World.setCell;simp only[World.mk.injEq,and_true];apply Array.ext_getElem?;intro k;simp only[Array.getElem?_modify,Array.getElem?_append,Array.size_modify];by_cases hk:k<w.heap.size
 .simp[hk]
 .have: ¬a.block=k:=by omega
  simp[hk,this]
@[go_sem] theorem Tr (w:World) (o:Obj) (a:Addr) (v:Value) (h:a.block<w.heap.size):(w.alloc o).setCell a v=(w.setCell a v).alloc o:=by
 rw[qG,l7 w _ a v h,qG];rfl
theorem xV {w:World} {X:Gr} {a:Addr} {v:Value} (h:w.cell? a=some v):(w.grow X).cell? a=some v:=by
 rw[ZE w X a,if_pos (World.block_lt_of_cell? w a h)];exact h
theorem vY {w:World} {X:Gr} {g o:Nat} {r:Option Value} (hg:w.heap.size<=g) (h:(w.grow X).cell? ⟨g,o,none⟩=r):LS X w.heap.size ⟨g,o,none⟩=r:=by
 rw[ZE,if_neg (by show ¬g<_;omega)]at h;exact h
theorem UW {w:World} {X:Gr} {g o:Nat} {r:Bool} (hg:w.heap.size<=g) (h:(w.grow X).frozen? ⟨g,o,none⟩=r):LR X w.heap.size ⟨g,o,none⟩=r:=by
 rw[Kx,if_neg (by show ¬g<_;omega)]at h;exact h
theorem Ko {w:World} {o:Obj} {n:Nat} (h:n=w.heap.size):(w.alloc o).heap[n]? =some o:=by rw[h];exact heap_alloc_new w o
theorem WZ (w:World) (X:Gr) {g:Nat} {o:Obj} (h:w.heap[g]? =some o):(w.grow X).heap[g]? =some o:=by
 rw[(dG w X).block g (Array.getElem?_eq_some_iff.1 h).1];exact h
theorem Below.grow {B:Nat} {a w:World} (h:Below B a w) (hB:B<=w.heap.size) (X:Gr):Below B a (w.grow X):=
 h.trans ((dG w X).mono hB)
theorem Below.drewN {B:Nat} {a w:World} (h:Below B a w) (n:Nat):Below B a (w.drewN n):=h.trans ⟨rfl,rfl,rfl,bA _,λ_ _=>rfl⟩
theorem aG {B:Nat} {a w:World} (h:Below B a w:=by(repeat with_reducible first|exact Below.refl _ _|refine Below.drew ?_|refine Below.drewN ?_ _|refine Below.alloc ?_ ?_ _|refine Below.grow ?_ ?_ _|refine Below.setCell ?_ ?_ _);all_goals first|omega|(simp[go_sem]<;>omega)):Below B a w:=h
def aH (v:Value) (w:World) (e:Ending) (w':World):Prop:=e=aL v/\ ∃X,w'=w.grow X
theorem aH.of {v u:Value} {w w':World} (hv:u=v) (h:Below w.heap.size w w'):aH v w (aL u) w':=⟨by rw[hv],cV h⟩
theorem zQ {P:Program} {f:FuncId} {args:Array Value} {w u:World} {p:Ending->World->Prop} {E:Ending} {Q:Ending->World->Prop} (h:Calls P f args w p) (g:Q E u) (k: ∀e w',p e w'->e=E/\w'=u:=by intro e w' h;first|exact h|exact⟨h.1,h.2.symm⟩):Calls P f args w Q:=h.mono λe w' h=>by rw[(k e w' h).1,(k e w' h).2];exact g
theorem zG {P:Program} {f:FuncId} {args:Array Value} {w u:World} {v:Value} {Q:Ending->World->Prop} (h:Calls P f args w (aH v u)) (g: ∀X,Q (aL v) (u.grow X)):Calls P f args w Q:=h.mono λ_ _ ⟨he,X,hX⟩=>by rw[he,hX];exact g X
theorem aH.same {v u:Value} {w:World} (hv:u=v):aH v w (aL u) w:=⟨by rw[hv],_,(kW w).symm⟩
theorem Calls.grow_of {P:Program} {f:FuncId} {args:Array Value} {w:World} {X:Gr} {v:Value}
  (h:Calls P f args (w.grow X) (aH v (w.grow X))):Calls P f args (w.grow X) λe w''=>e=aL v/\ ∃Y,w''=w.grow Y:=
 h.mono λ_ _ ⟨he,m,hm⟩=>⟨he,_,hm.trans (jV w X m)⟩
theorem dV {P:Program} {id:Nat} {Q:Exit->Act->World->Prop} {a:Act} {w:World} {l:List Oper} (hm:P.follows .mixedOrders=true) (hB:Region.lexB .any l.toArray=true)
  (h:wpQuiet P l.toArray (λw'=> ∃X,w'=w.grow X) (λa'=> ∀w',(∃X,w'=w.grow X)->Q .normal a' w') l a):(Code.region id l.toArray true).wp P Q a w:=
 wp_region_quiet (C:=λw'=> ∃X,w'=w.grow X) hm hB ⟨⟨#[],w.drawn+1⟩,by simp[World.grow]⟩ (by simpa using h)
structure jX (P:Program) (t e:TypeId) (z:Value) (size bytes:Nat):Prop where
 ht:P.underlying t=some (.slice e)
 hi:(P.info? e).map (λi=>(i.zero,i.size,i.bytes))=some (some z,size,bytes)
 hzs:z.cells.size=size
 hsz:0<size
theorem rK {P:Program} {W:World} {ops:Array Oper} {rest:List Oper} {o:Oper} {a:Act} {Q:Exit->Act->World->Prop} (hgd:o.guard=none) (s x:Operand) (t:TypeId)
  (ho:o.op= .call {callee:= .builtin .append,args:= #[s,x],argTypes:= #[t,t]})
  {e:TypeId} {z:Value} {size bytes:Nat} (row:jX P t e z size bytes) (w0:World) {v:Value} {n:Nat} {xs:List Value} (hs:a.eval s=v) (hown:W.ownsRow w0.heap.size e size v n xs)
  (hb:Below w0.heap.size w0 W) (ad:Addr) (m c:Nat) (news:List Value) (hx:a.eval x=aF (some ad) m c) (hl:news.length=m*size)
  (hnews: ∀j u,news[j]? =some u->W.cell? (ad.add j)=some u) (h1: ∀u∈news,u.oneCell'=true) (h63:n+m<=maxLen) (hbytes:(n+m)*bytes<=140737488355328)
  (h: ∀v' X,(w0.grow X).ownsRow w0.heap.size e size v' (n+m) (xs++news)->(v'=aF none 0 0↔v=aF none 0 0/\m=0)->wpList P ops Q rest (a.put o.dst v') (w0.grow X)):wpList P ops Q (o::rest) a W:=by
 obtain⟨i,hi,hz0,hz1,hz2⟩:=info_parts row.hi;refine wpList_append_own W hgd s x t ho w0.heap.size e i z size bytes row.ht hi hz0 hz1 hz2 row.hzs row.hsz v n xs hs hown ad m c news hx hl hnews h1 h63 hbytes hb.size ?_;intro v' w' h2 h3 h4;have hbw:Below w0.heap.size w0 w':=hb.grown h3 hb.size (λk hk=>(hown.lt k hk).1);obtain⟨X,rfl⟩:=cV hbw;exact h v' X h2 h4
theorem jT {w:World} {B:Nat} {e:TypeId} {size:Nat} {v:Value} {n:Nat} {xs:List Value} (h:w.ownsRow B e size v n xs) (X:Gr):(w.grow X).ownsRow B e size v n xs:=
 h.kept (row:=none) ⟨rfl,rfl,rfl,by simp[World.grow],λk hk _=>(dG w X).block k hk⟩ (by cases hv:v.ownBlock<;>simp)
theorem LH {w:World} {B:Nat} {e:TypeId} {size:Nat} {v:Value} {n:Nat} {xs:List Value} (h:w.ownsRow B e size v n xs):
  xs.length=n*size/\ ∃a cap,v=aF a n cap/\n<=maxLen/\(n=0\/ ∃b,a=some ⟨b,0,none⟩/\B<=b/\b<w.heap.size/\ ∀j u,xs[j]? =some u->w.cell? ⟨b,j,none⟩=some u):=by
 refine⟨h.1, ?_⟩;rcases h.2 with⟨rfl,rfl⟩|⟨g,cap,cur,rfl,hb,hg,hn,hm,hs,ht⟩
 .exact⟨none,0,rfl,by unfold maxLen;omega,Or.inl rfl⟩
 .refine⟨_,cap,rfl,by omega,Or.inr ⟨g,rfl,hb,(Array.getElem?_eq_some_iff.1 hg).1,λj u hu=> ?_⟩⟩;have:=h.cells (g:=g) rfl j u hu;have e:(⟨g,0,none⟩:Addr).add j=⟨g,j,none⟩:=by unfold Addr.add;split<;>simp_all
  rwa[e]at this
theorem Fq {W:World} {b:Nat} {c:Array Value} {k:Nat} {ad:Addr} (hc: ∀i,i<k->W.cell? ⟨b,i,none⟩=c[i]?) (hk:c.size=k) (he:ad=⟨b,0,none⟩): ∀j u,c.toList[j]? =some u->W.cell? (ad.add j)=some u:=by
 intro j u hu;subst he;have e:(⟨b,0,none⟩:Addr).add j=⟨b,j,none⟩:=by unfold Addr.add;split<;>simp_all
 have hj:j<k:=by have:=(gV.1 hu).1;simpa[hk]using this
 rw[e,hc j hj];simpa using hu
theorem eR {W:World} {c:Array Value} {t:TypeId} {ad:Addr} (he:ad=⟨W.heap.size,0,none⟩): ∀j u,c.toList[j]? =some u->(W.alloc (.cells c t)).cell? (ad.add j)=some u:=
 Fq (k:=c.size) (λi _=>by simp[go_sem]) rfl he
section
variable {P:Program} {ops:Array Oper} {md:Region.Mode} {C:World->Prop}
def AN (P:Program) (md:Region.Mode) (ops:Array Oper) (C:World->Prop) (n:Nat) (L:Array Bool->Act->Prop):Nat->Array Bool->Act->Prop
 |0,listed,a=>L listed a
 |f+1,listed,a=>
  Region.ready md ops listed≠[]/\ ∀i∈Region.ready md ops listed,i<n/\qOp P ops C i (AN P md ops C n L f (listed.setIfInBounds i true)) a
theorem OY {n g:Nat} {L:Array Bool->Act->Prop} {Q':Exit->Act->World->Prop} (hL: ∀listed a w,C w->L listed a->wpAny P md ops Q' g listed a w):
  ∀(f:Nat) (listed:Array Bool) (a:Act) (w:World),C w->AN P md ops C n L f listed a->wpAny P md ops Q' (f+g) listed a w
 |0,listed,a,w,hw,h=>by rw[Nat.zero_add];exact hL _ _ _ hw h
 |f+1,listed,a,w,hw,h=>by
  rw[show f+1+g=(f+g)+1 by omega];exact⟨λh0=>absurd h0 h.1,λi hi=>wpOp_of_qOp hw (λa' w' hw' h'=>OY hL f _ a' w' hw' h') (h.2 i hi).2⟩
theorem E9 {n i:Nat} {oi:Oper} {v:Value} {L:Array Bool->Act->Prop} (hi:ops[i]? =some oi) (hsel: ∀(j:Nat) (o:Oper) cs b,ops[j]? =some o->o.op≠ .select cs b)
  (hs:Region.sinkB md ops n=true) (hc:Region.chainB md ops n=true) (hn:n<ops.size) (hin:i<n)
  (hdone: ∀listed a,L listed a-> ∀j∈Region.ready md ops listed,n<=j):
  ∀(f:Nat) (listed:Array Bool) (a:Act),HeadInv md ops n listed->
   (∀j oj,ops[j]? =some oj->j≠i->listed.getD j true=false->(∀e∈oj.after,Region.binds md e=true->e.on≠i)->oi.apart ops oj=true)->
   i∈Region.ready md ops listed->YieldsIn P ops C oi v a->
   AN P md ops C n L f (listed.setIfInBounds i true) (a.put oi.dst v)->AN P md ops C n L (f+1) listed a:=by
 intro f;induction f with
 |zero=>
  intro listed a inv _ hr hy H;have hun:=(mem_ready.1 hr).1;refine⟨λh=>(by rw[h]at hr;cases hr),λj hj=> ?_⟩;have hjn:j<n:=by
   rcases Nat.lt_or_ge j n with h|h
   .exact h
   .exact absurd hj (tail_waits hs hc hn inv _ i rfl hin hun j h)
  refine⟨hjn, ?_⟩;by_cases hji:j=i
  .subst hji;exact hy.qOp hi H
  .have:=hdone _ _ H j (ready_mono hj hji);omega
 |succ f ih=>
  intro listed a inv hfree hr hy H;have hun:=(mem_ready.1 hr).1;refine⟨λh=>(by rw[h]at hr;cases hr),λj hj=> ?_⟩;have hjn:j<n:=by
   rcases Nat.lt_or_ge j n with h|h
   .exact h
   .exact absurd hj (tail_waits hs hc hn inv _ i rfl hin hun j h)
  refine⟨hjn, ?_⟩;by_cases hji:j=i
  .subst hji;exact hy.qOp hi H
  .have h1:=(H.2 j (ready_mono hj hji)).2;obtain⟨hjun,oj,hoj,hall⟩:=mem_ready.1 hj;have hnot: ∀e∈oj.after,Region.binds md e=true->e.on≠i:=λe he hb heq=>by
    have h1:=hall e he hb;rw[heq,getD_both hun]at h1;cases h1
   have h2:=qOp_put hoj (hfree j oj hoj hji hjun hnot) (λcs b=>hsel i oi cs b hi) (λcs b=>hsel j oj cs b hoj) hy h1;have hfree': ∀k ok,ops[k]? =some ok->k≠i->(listed.setIfInBounds j true).getD k true=false->
     (∀e∈ok.after,Region.binds md e=true->e.on≠i)->oi.apart ops ok=true:=λk ok hk hki hun hno=>by
    refine hfree k ok hk hki ?_ hno;by_cases hjk:j=k
    .subst hjk;exact hjun
    .rw[getD_set_ne true hjk]at hun;exact hun
   refine qOp_mono (λa' h3=>ih (listed.setIfInBounds j true) a' (inv.set hj hjn) hfree' (ready_mono hr (Ne.symm hji)) h3.1 ?_) h2;rw[Array.setIfInBounds_comm _ _ hji];exact h3.2
theorem OT {n g:Nat} {Lq:Act->Prop} (hsel:Region.noSelect ops=true) (hs:Region.sinkB md ops n=true) (hc:Region.chainB md ops n=true) (hn:n<ops.size):
  ∀(l:List Oper) (k:Nat) (listed:Array Bool) (a:Act),(∀j,j<l.length->l[j]? =ops[k+j]?)->k+l.length=n->HeadInv md ops n listed->
  Region.lexHead md ops g l.length k listed=true->wpQuiet P ops C Lq l a->
  AN P md ops C n (λlisted' a'=>Region.seqB md ops g n listed'=true/\Lq a') l.length listed a
 |[],k,listed,a,_,hk,_,hB,h=>by
  have:k=n:=by simpa using hk
  subst this;exact⟨by simpa[Region.lexHead]using hB,h⟩
 |o::l,k,listed,a,hl,hk,inv,hB,h=>by
  have h0:ops[k]? =some o:=by simpa using(hl 0 (by simp)).symm
  simp only[aY,Region.lexHead,Bool.and_eq_true]at hB;obtain⟨⟨hr,hf⟩,hB'⟩:=hB;have hkn:k<n:=by simp only[aY]at hk;omega
  have hr':k∈Region.ready md ops listed:=by simpa using hr
  have hst:qOp P ops C k (wpQuiet P ops C Lq l) a:=by unfold qOp;simp only[h0];exact h
  obtain⟨v,hy,hK⟩:=yieldsIn_of_qOp h0 hst;exact E9 h0 (Region.noSelect_spec hsel) hs hc hn hkn (λlisted' a' hL=>seqB_ready hL.1) l.length listed a inv (Region.free_spec h0 hf) hr' hy
   (OT hsel hs hc hn l (k+1) _ _ (λj hj=>by have:=hl (j+1) (by simp;omega);simpa[Nat.add_assoc,Nat.add_comm 1 j]using this) (by simp only[aY]at hk;omega) (inv.set hr' hkn) hB' hK)
end
theorem AL {P:Program} {id:Nat} {Q:Exit->Act->World->Prop} {a:Act} {w:World} {l:List Oper} (n:Nat) (hm:P.follows .mixedOrders=true) (hB:Region.lexTailB .any l.toArray n=true)
  (h:wpQuiet P l.toArray (λw'=> ∃X,w'=w.grow X) (λa'=> ∀w',(∃X,w'=w.grow X)->wpList P l.toArray Q (l.drop n) a' w') (l.take n) a):(Code.region id l.toArray true).wp P Q a w:=by
 simp only[Region.lexTailB,Bool.and_eq_true,decide_eq_true_eq]at hB;obtain⟨⟨⟨⟨hsel,hn⟩,hs⟩,hc⟩,hlex⟩:=hB;have hn':n<l.length:=by simpa using hn
 have htl:(l.take n).length=n:=by simp;omega
 have hdl:(l.drop n).length=l.toArray.size-n:=by simp
 have inv0:HeadInv .any l.toArray n (Array.replicate l.toArray.size false):=
  ⟨by simp,λj oj _ hl=>(by rw[getD_replicate_false]at hl;cases hl),λt _ ht=>getD_in (by simpa using ht) (getD_replicate_false _ _)⟩
 have H:=OT (md:= .any) (g:=l.toArray.size-n) hsel hs hc hn (l.take n) 0 _ a (λj hj=>by
  have hj':j<n:=by rw[htl]at hj;exact hj
  simp[hj']) (by simpa using htl) inv0 (by rw[htl];exact hlex) h
 refine wp_region_any hm ?_;have:=OY (Q':=Q) (g:=l.toArray.size-n) (λlisted a' w' hw' hL=>by
  have:=wpAny_of_seq (md:= .any) (Q':=Q) (l.drop n) n listed a' w' (λj=>by simp[List.getElem?_drop]) (by rw[hdl];exact hL.1) (hL.2 w' hw');rwa[hdl]at this) _ _ _ {w with drawn:=w.drawn+1} ⟨⟨#[],w.drawn+1⟩,by simp[World.grow]⟩ H
 rw[htl,show n+(l.toArray.size-n)=l.toArray.size by omega]at this;exact this
open Go.RowKit
theorem Rw {P:Program} {W:World} {ops:Array Oper} {rest:List Oper} {o:Oper} {a:Act} {Q:Exit->Act->World->Prop} (hgd:o.guard=none) (s x:Operand) (t:TypeId)
  (ho:o.op= .call {callee:= .builtin .append,args:= #[s,x],argTypes:= #[t,t]})
  {e:TypeId} {z:Value} {size bytes:Nat} (row:jX P t e z size bytes) (w0:World) {v:Value} {n:Nat} {xs:List Value} (hs:a.eval s=v) (hown:W.ownsRow w0.heap.size e size v n xs)
  (hb:Below w0.heap.size w0 W) (m:Nat) (news:List Value)
  (hx:(a.eval x=aF none 0 0/\m=0)\/ ∃ad c,a.eval x=aF (some ad) m c/\ ∀j u,news[j]? =some u->W.cell? (ad.add j)=some u) (hl:news.length=m*size)
  (h1: ∀u∈news,u.oneCell'=true) (h63:n+m<=maxLen) (hbytes:(n+m)*bytes<=140737488355328)
  (h: ∀v' X,(w0.grow X).ownsRow w0.heap.size e size v' (n+m) (xs++news)->wpList P ops Q rest (a.put o.dst v') (w0.grow X)):wpList P ops Q (o::rest) a W:=by
 rcases hx with⟨hx,rfl⟩|⟨ad,c,hx,hnews⟩
 .obtain⟨i,hi,hz0,hz1,hz2⟩:=info_parts row.hi;have:news=[]:=gD (by rw[hl,Nat.zero_mul]);subst this;refine wpList_append_own_none hgd s x t ho w0.heap.size e i size row.ht hi v n xs hs hown hx ?_;obtain⟨X,hX⟩:=cV hb;subst hX;exact h v X (by simpa using hown)
 .exact rK hgd s x t ho row w0 hs hown hb ad m c news hx hl hnews h1 h63 hbytes λv' X h2 _=>h v' X h2
open Go.RowKit
def Rd (w:World) (v:Value) (n size:Nat) (xs:List Value):Prop:=
 xs.length=n*size/\n<=9223372036854775807/\ ∃A c,v=aF A n c/\(0<n-> ∃b off,A=some ⟨b,off,none⟩/\b<w.heap.size/\ ∀j u,xs[j]? =some u->w.cell? ⟨b,off+j,none⟩=some u)
theorem Rd.grow {w:World} {v:Value} {n size:Nat} {xs:List Value} (h:Rd w v n size xs) (X:Gr):Rd (w.grow X) v n size xs:=by
 obtain⟨h1,h2,A,c,h3,h4⟩:=h;refine⟨h1,h2,A,c,h3,λhn=> ?_⟩;obtain⟨b,off,h5,h6,h7⟩:=h4 hn;exact⟨b,off,h5,by simp[World.grow];omega,λj u hu=>xV (h7 j u hu)⟩
theorem Rd.below {w w':World} {v:Value} {n size:Nat} {xs:List Value} (h:Rd w v n size xs) {B:Nat} (hb:Below w.heap.size w w') (_hB:B=w.heap.size):Rd w' v n size xs:=by
 obtain⟨X,rfl⟩:=cV hb;exact h.grow X
theorem Rd.alloc {w:World} {v:Value} {n size:Nat} {xs:List Value} (h:Rd w v n size xs) (o:Obj):Rd (w.alloc o) v n size xs:=by
 rw[qG];exact h.grow _
theorem Rd.drew {w:World} {v:Value} {n size:Nat} {xs:List Value} (h:Rd w v n size xs):Rd w.drew v n size xs:=by
 rw[Nv];exact h.grow _
theorem Rd.nil (w:World) (size:Nat):Rd w (aF none 0 0) 0 size []:=⟨by simp,by omega,none,0,rfl,λh=>by omega⟩
theorem Rd.own {w:World} {B:Nat} {e:TypeId} {size:Nat} {v:Value} {n:Nat} {xs:List Value} (h:w.ownsRow B e size v n xs):Rd w v n size xs:=by
 obtain⟨h1,a,cap,rfl,hm,hc⟩:=LH h;refine⟨h1,by unfold maxLen at hm;omega,a,cap,rfl,λhn=> ?_⟩;rcases hc with hc|⟨b,rfl,_,hb,hc⟩
 .omega
 .exact⟨b,0,rfl,hb,λj u hu=>by rw[Nat.zero_add];exact hc j u hu⟩
def bv (c:UInt8):Value:= .int .u8 c.toNat
theorem Rd.str {P:Program} {w:World} {v:Value} {l:List UInt8} (h:Rd w v l.length 1 (l.map bv)) (src dst e:TypeId) (hs:P.underlying src=some (.slice e)) (he:P.underlying e=some (.int .u8)) (hd:P.underlying dst=some .string):
  (convert src dst v).run P w= .ok (Value.string ⟨l.toArray⟩) w:=by
 obtain⟨h1,h2,A,c,rfl,h4⟩:=h;by_cases hn:0<l.length
 .obtain⟨b,off,rfl,_,h5⟩:=h4 hn;refine run_convert_bytes_back w src dst e ⟨b,off,none⟩ c l hs he hd λj hj=> ?_;have:=h5 j (bv l[j]) (by simp[hj]);have e:(⟨b,off,none⟩:Addr).add j=⟨b,off+j,none⟩:=by unfold Addr.add;split<;>simp_all
  rw[e];exact this
 .obtain rfl:l=[]:=gD (by omega);cases A with
  |none=>
   rw[List.length_nil,run_convert_bytes_string w src dst e none 0 c hs he hd];rfl
  |some a=>
   have:=run_convert_bytes_back (P:=P) w src dst e a c [] hs he hd λj hj=>by simp at hj
   simpa using this
def kZ (w:World) (e:TypeId) (s:ByteArray):Gr:=⟨#[.cells (nP w e s) e ((nP w e s).size,(nP w e s).size+1)],w.drawn+1⟩
theorem AC {P:Program} (w:World) (src dst e:TypeId) (s:ByteArray) {u:TypeDesc} (hs:P.underlying src=some u) (hd:P.underlying dst=some (.slice e)) (he:P.underlying e=some (.int .u8)):
  (convert src dst (Value.string s)).run P w= .ok (aF (some ⟨w.heap.size,0,none⟩) s.size (grownCap w s.size 0 e)) (w.grow (kZ w e s)):=by
 rw[Lib.run_convert_string_bytes w src dst e s hs hd he];have h1:Below w.heap.size w (Lib.bytesWorld w e s):=⟨rfl,rfl,rfl,by rw[Lib.bytesWorld_size];omega,λk hk=>Lib.bytesWorld_at_old w e s k hk⟩;obtain⟨X,hX⟩:=cV h1;have hb:X=kZ w e s:=by
  have h2:=Lib.bytesWorld_at_new w e s;have h3:=Lib.bytesWorld_size w e s;have h4:(Lib.bytesWorld w e s).drawn=w.drawn+1:=rfl;rw[hX]at h2 h3 h4;obtain⟨bl,dr⟩:=X;simp only[World.grow,Array.size_append]at h2 h3 h4;have h5:bl.size=1:=by omega
  rw[Array.getElem?_append_right (bA _),zaf]at h2;unfold kZ;congr 1;apply Array.ext_getElem?;intro i;cases i with
  |zero=>rw[h2];rfl
  |succ i=>rw[Array.getElem?_eq_none (by omega),Array.getElem?_eq_none (by simp)]
 rw[hX,hb]
theorem CU (w:World) (e:TypeId) (s:ByteArray) (k:Nat) (h:k<s.size):(w.grow (kZ w e s)).cell? ⟨w.heap.size,k,none⟩=some (.int .u8 (s[k].toNat:Int)):=by
 have hb:(w.grow (kZ w e s)).heap[w.heap.size]? =some (.cells (nP w e s) e ((nP w e s).size,(nP w e s).size+1)):=by
  simp only[World.grow];rw[Array.getElem?_append_right (bA _),zaf];rfl
 unfold World.cell?;simp only[hb];have h1:k<(s.data.map λb=>Value.int .u8 b.toNat).size:=by simpa using h
 simp only[nP,Array.getElem?_append,if_pos h1,Option.isSome_none];simp[Array.getElem?_map,Array.getElem?_eq_getElem (show k<s.data.size from h)];rfl
theorem NT (w:World) (e:TypeId) (s:ByteArray) (c:Nat) (hm:s.size<=9223372036854775807):Rd (w.grow (kZ w e s)) (aF (some ⟨w.heap.size,0,none⟩) s.size c) s.size 1 (s.data.toList.map bv):=by
 refine⟨by rw[List.length_map,Array.length_toList];show s.size=_;omega,hm,_,c,rfl,λhn=>⟨w.heap.size,0,rfl,by simp[World.grow,kZ],λj u hu=> ?_⟩⟩;have hj:j<s.size:=by have:=(gV.1 hu).1;rw[List.length_map,Array.length_toList]at this;exact this
 rw[Nat.zero_add,CU w e s j hj];rw[List.getElem?_map,eV (by simpa using hj)]at hu;simp at hu;rw[<-hu];rfl
open Go.RowKit Go.Shelf
@[go_sem] theorem To (k:FuncId):Fence.wide.fn k=True:=rfl
@[go_sem] theorem Tp:Fence.wide.depth=none:=rfl
@[go_sem] theorem Tw (l:Nat) (k:FuncId):(Fence.wide.inRound l).fn k=True:=rfl
@[go_sem] theorem Tx (l:Nat):(Fence.wide.inRound l).depth=none:=rfl
structure aJ (pv:Nat->Prop) (W W':World):Prop where
 os:W'.os=W.os
 tape:W'.tape=W.tape
 output:W'.output=W.output
 size:W.heap.size<=W'.heap.size
 block: ∀k,k<W.heap.size-> ¬pv k->W'.heap[k]? =W.heap[k]?
theorem aJ.refl (pv:Nat->Prop) (W:World):aJ pv W W:=⟨rfl,rfl,rfl,bA _,λ_ _ _=>rfl⟩
theorem aJ.trans {pv:Nat->Prop} {A B C:World} (h:aJ pv A B) (k:aJ pv B C):aJ pv A C:=
 ⟨k.os.trans h.os,k.tape.trans h.tape,k.output.trans h.output,Nat.le_trans h.size k.size,λi hi hn=>(k.block i (bQ hi h.size) hn).trans (h.block i hi hn)⟩
theorem aJ.mono {pv pw:Nat->Prop} {A B:World} (h:aJ pv A B) (hp: ∀k,pv k->pw k):aJ pw A B:=
 ⟨h.os,h.tape,h.output,h.size,λi hi hn=>h.block i hi (λe=>hn (hp i e))⟩
theorem aJ.of_below {pv:Nat->Prop} {A B:World} (h:Below A.heap.size A B):aJ pv A B:=⟨h.os,h.tape,h.output,h.size,λk hk _=>h.block k hk⟩
theorem aJ.alloc {pv:Nat->Prop} {A B:World} (h:aJ pv A B) (o:Obj):aJ pv A (B.alloc o):=h.trans (aJ.of_below ((Below.refl _ _).alloc (bA _) o))
theorem aJ.grow {pv:Nat->Prop} {A B:World} (h:aJ pv A B) (X:Gr):aJ pv A (B.grow X):=h.trans (aJ.of_below (dG _ X))
theorem aJ.drew {pv:Nat->Prop} {A B:World} (h:aJ pv A B):aJ pv A B.drew:=⟨h.os,h.tape,h.output,h.size,h.block⟩
theorem aJ.setCell {pv:Nat->Prop} {A B:World} (h:aJ pv A B) {p:Addr} (hp:A.heap.size<=p.block\/pv p.block) (v:Value):aJ pv A (B.setCell p v):=
 ⟨h.os,h.tape,h.output,by simpa using h.size,λk hk hn=>(Below.heap_setCell B p v k (λe=>by subst e;rcases hp with hp|hp;omega;exact hn hp)).trans (h.block k hk hn)⟩
theorem aJ.putObj {pv:Nat->Prop} {A B:World} (h:aJ pv A B) {l:Nat} (hp:A.heap.size<=l\/pv l) (o:Obj):aJ pv A (B.putObj l o):=
 ⟨h.os,h.tape,h.output,by simpa using h.size,λk hk hn=>(World.putObj_heap_other (λe=>by subst e;rcases hp with hp|hp;omega;exact hn hp)).trans (h.block k hk hn)⟩
theorem iX {pv:Nat->Prop} {A w:World} (h:aJ pv A w:=by repeat(first|with_reducible exact aJ.refl _ _|with_reducible assumption|with_reducible refine aJ.alloc ?_ _|with_reducible refine aJ.grow ?_ _|with_reducible refine aJ.drew ?_|(with_reducible refine aJ.setCell ?_ (by first|(refine Or.inr ?_;show _\/_;simp<;>omega)|(refine Or.inr ?_;show _=_;rfl)|(refine Or.inl ?_;simp[go_sem]<;>omega)) _))):aJ pv A w:=h
theorem aJ.boxed {pv:Nat->Prop} {A B:World} (h:aJ pv A B) {b:Nat} {t:TypeId} {v:Value} (hb:Boxed A b t v) (hn: ¬pv b):Boxed B b t v:=(h.block b hb.lt hn).trans hb
theorem aJ.below {pv:Nat->Prop} {A B:World} (h:aJ pv A B) {m:Nat} (hm:m<=A.heap.size) (hp: ∀k,pv k->m<=k):Below m A B:=
 ⟨h.os,h.tape,h.output,h.size,λk hk=>h.block k (bQ hk hm) (λe=>by have:=hp k e;omega)⟩
theorem aJ.own {pv:Nat->Prop} {A C:World} (h:aJ pv A C) {B:Nat} {e:TypeId} {size:Nat} {v:Value} {n:Nat} {xs:List Value} (ho:A.ownsRow B e size v n xs) (hn: ∀k,pv k->k<B):C.ownsRow B e size v n xs:=by
 refine⟨ho.1, ?_⟩;rcases ho.2 with⟨h1,h2⟩|⟨g,cap,cur,h1,h2,h3,h4⟩
 .exact Or.inl ⟨h1,h2⟩
 .exact Or.inr ⟨g,cap,cur,h1,h2,(h.block g (Array.getElem?_eq_some_iff.1 h3).1 (λe=>by have:=hn g e;omega)).trans h3,h4⟩
theorem aJ.of_own {W W':World} {v:Value} {B:Nat} {e:TypeId} {size n:Nat} {xs:List Value} (hg:W.grownBy W' v.ownBlock) (ho:W.ownsRow B e size v n xs):aJ (λk=>B<=k) W W':=
 ⟨hg.os,hg.tape,hg.output,hg.size,λk hk hn=>hg.block k hk λe=>by
  rcases ho.2 with⟨rfl,_⟩|⟨g,cap,cur,rfl,hb,_⟩
  .simp[xm]at e
  .simp[xm]at e;exact hn (by omega)⟩
theorem CW {F:Fence} {n0:Nat} {P:Program} {W:World} {ops:Array Oper} {rest:List Oper} {o:Oper} {a:Act} {Q:Exit->Act->World->Prop} (hgd:o.guard=none) (s x:Operand) (t:TypeId)
  (ho:o.op= .call {callee:= .builtin .append,args:= #[s,x],argTypes:= #[t,t]})
  {e:TypeId} {z:Value} {size bytes:Nat} (row:jX P t e z size bytes) (base:Nat) {v:Value} {n:Nat} {xs:List Value} (hs:a.eval s=v) (hown:W.ownsRow base e size v n xs)
  (hb:base<=W.heap.size) (ad:Addr) (m c:Nat) (news:List Value) (hx:a.eval x=aF (some ad) (m+1) c) (hl:news.length=(m+1)*size)
  (hnews: ∀j u,news[j]? =some u->W.cell? (ad.add j)=some u) (h1: ∀u∈news,u.oneCell'=true) (h63:n+(m+1)<=maxLen) (hbytes:(n+(m+1))*bytes<=140737488355328)
  (h: ∀g cap W',W'.ownsRow base e size (aF (some ⟨g,0,none⟩) (n+m+1) cap) (n+m+1) (xs++news)->aJ (λk=>base<=k) W W'->wpListIn F n0 P ops Q rest (a.put o.dst (aF (some ⟨g,0,none⟩) (n+m+1) cap)) W'):wpListIn F n0 P ops Q (o::rest) a W:=by
 obtain⟨i,hi,hz0,hz1,hz2⟩:=info_parts row.hi;refine wpListIn_append_own W hgd s x t ho base e i z size bytes row.ht hi hz0 hz1 hz2 row.hzs row.hsz v n xs hs hown ad (m+1) c news hx hl hnews h1 h63 hbytes hb ?_;intro v' w' h2 h3 _;obtain⟨g,cap,rfl⟩:=ownsRow_succ (k:=n+m) h2;exact h g cap w' h2 (aJ.of_own h3 hown)
variable {P:Program} {α:Type}
def yM (P:Program) (gf:Nat) (lb:Array Value) (encs:α->Array Value) (pv bw:Nat->Prop) (xs:List α) (W:World):Prop:=
 ∀(l:Nat) (J Jx:List α->World->Prop),(∀pre A B,J pre A->aJ pv A B->J pre B)->
  (∀pre x A,(pre++[x])<+:xs->J pre A->YieldAt Fence.wide 0 P l (encs x) A λe A'=>(e=aL (aI true)/\J (pre++[x]) A'/\aJ bw A A')\/(e=aL (aI false)/\Jx (pre++[x]) A'))->
  J [] W->CallsIn Fence.wide 0 P gf (#[.func (.yield l) #[] #[]]++lb) W λe W'=>(∃v,e=aL v)/\(J xs W'\/ ∃pre x,(pre++[x])<+:xs/\Jx (pre++[x]) W')
def Am (bw:Nat->Prop) (I:List α->World->Prop) (Ix:Code->List α->World->Prop) (xs:List α) (W:World):Exit->Act->World->Prop
 | .normal,_,W'=>aJ bw W W'/\I xs W'
 | .ret,_,W'=>aJ bw W W'/\Ix .ret xs W'
 | .exit id,_,W'=>aJ bw W W'/\Ix (.exit id) xs W'
 |_,_,_=>False
theorem yO {g:Operand} {ps:Array Tmp} {assign body:Code} {Q:Exit->Act->World->Prop} {a:Act} {w:World} {gf:Nat} {lb:Array Value} {B:Nat} (hB:w.heap.size=B)
  (hg:a.eval g= .func (.func gf) #[] lb) (eg:Enters P gf) {encs:α->Array Value} (hps: ∀x,(encs x).size=ps.size) {xs:List α}
  (pv bw:Nat->Prop) (hpv: ∀k,pv k->k<B) (hbw: ∀k,bw k->k≠B/\k≠B+1)
  (I:List α->World->Prop) (Ix:Code->List α->World->Prop)
  (hI: ∀pre A C,I pre A->aJ (λk=>pv k\/k=B\/k=B+1) A C->I pre C)
  (hIx: ∀c pre A C,Ix c pre A->aJ (λk=>k=B\/k=B+1) A C->Ix c pre C) (h0:I [] w)
  (hiter: ∀o1 o2,yM P gf lb encs pv (λk=>bw k\/k=B+1) xs ((w.alloc o1).alloc o2))
  (hround: ∀l pre x A,(pre++[x])<+:xs->I pre A->B+2<=A.heap.size->
   assign.wpIn (Fence.wide.inRound l) 0 P (Exit.then (λa1 A1=>aJ (λ_=>False) A A1/\ ∀A2,aJ (λk=>k=B+1) A1 A2->I pre A2->A2.heap.size=A1.heap.size->
    body.wpIn (Fence.wide.inRound l) 0 P (Am bw I Ix (pre++[x]) A2) a1 A2) (λ_ _ _=>False))
    {tmps:=(ps.zip (encs x)).foldl (λt (p,v)=>t.setIfInBounds p v) a.tmps,defers:=[]} A)
  (hdone: ∀W,I xs W->W.heap[B]? =some (.deferred (some []))->Q .normal {a with defers:={target:= .collected B,args:= #[]}::a.defers} W)
  (hstop: ∀c pre x W,(pre++[x])<+:xs->Ix c (pre++[x]) W->W.heap[B]? =some (.deferred (some []))->c.wpIn Fence.wide 0 P Q {a with defers:={target:= .collected B,args:= #[]}::a.defers} W):
  (Code.rangeFunc g ps assign body).wpIn Fence.wide 0 P Q a w:=by
 subst hB;refine wpIn_rangeFunc λfn hfn=> ?_;obtain⟨rec,hrec⟩: ∃rec:LoopState->Option Code->Loop,rec=λst pe=>{state:=st,pending:=pe,fn,tmps:=a.tmps,params:=ps,assign,body,defers:=w.heap.size}:=⟨_,rfl⟩;obtain⟨W1,hW1⟩: ∃W1,(w.alloc (.deferred (some []))).alloc (.loop (rec .ready none))=W1:=⟨_,rfl⟩;have hlt1:w.heap.size+2=W1.heap.size:=by rw[<-hW1];simp
 have hL1:W1.heap[w.heap.size+1]? =some (.loop (rec .ready none)):=by
  rw[<-hW1];have h:=World.alloc_heap_new (w.alloc (.deferred (some []))) (.loop (rec .ready none));rwa[World.size_alloc]at h
 have hK1:W1.heap[w.heap.size]? =some (.deferred (some [])):=by
  rw[<-hW1,Below.heap_alloc _ _ _ (by simp)];exact World.alloc_heap_new w _
 have hT1:aJ (λk=>pv k\/k=w.heap.size\/k=w.heap.size+1) w W1:=by rw[<-hW1];exact((aJ.refl _ _).alloc _).alloc _
 refine⟨w.heap.size+1,[{target:= .collected w.heap.size,args:= #[]}],W1,{target:= .fn (.func gf) lb,args:= #[.func (.yield (w.heap.size+1)) #[] #[]]},W1,gf,#[.func (.yield (w.heap.size+1)) #[] #[]]++lb,W1, ?_, ?_, ?_, ?_,(λh=>absurd h (by simp[Fence.wide])), ?_⟩
 .rw[<-hW1,hrec];exact run_enterLoop_outer _ _ _ _ _
 .simp only[resolve,hg];simp[go_sem]
 .intro _ _;exact trivial
 .have:=eg (#[.func (.yield (w.heap.size+1)) #[] #[]]++lb) W1;simp[invoke,go_sem,this]
 .have hit:=hiter (.deferred (some [])) (.loop (rec .ready none)) (w.heap.size+1)
   (λpre A=>I pre A/\A.heap[w.heap.size+1]? =some (.loop (rec .ready none))/\A.heap[w.heap.size]? =some (.deferred (some [])))
   (λpre A=> ∃c,Ix c pre A/\A.heap[w.heap.size+1]? =some (.loop (rec .done (some c)))/\A.heap[w.heap.size]? =some (.deferred (some [])))
   ?stable ?round (by rw[hW1];exact⟨hI _ _ _ h0 hT1,hL1,hK1⟩)
  .rw[hW1]at hit;refine hit.mono ?_;rintro e W2 ⟨⟨v,rfl⟩,(⟨hi,hl,hk⟩|⟨pre,x,hx,c,hi,hl,hk⟩)⟩
   .refine⟨none,_,by have:=run_endLoop (P:=P) hl (by rw[hrec];simp);rw[hrec]at this;exact this, ?_⟩;exact hdone _ (hI _ _ _ hi ((aJ.refl _ _).putObj (Or.inr (Or.inr (Or.inr rfl))) _)) ((World.putObj_heap_other (by omega)).trans hk)
   .refine⟨some c,_,by have:=run_endLoop (P:=P) hl (by rw[hrec];simp);rw[hrec]at this;exact this, ?_⟩;exact hstop _ _ _ _ hx (hIx _ _ _ _ hi ((aJ.refl _ _).putObj (Or.inr (Or.inr rfl)) _)) ((World.putObj_heap_other (by omega)).trans hk)
  case stable=>
   rintro pre A B ⟨hi,hl,hk⟩ ht;have hlt:w.heap.size+1<A.heap.size:=(Array.getElem?_eq_some_iff.1 hl).1;refine⟨hI _ _ _ hi (ht.mono λk hk=>Or.inl hk),(ht.block _ hlt λh=> ?_).trans hl,(ht.block _ (by omega) λh=> ?_).trans hk⟩
   .have:=hpv _ h;omega
   .have:=hpv _ h;omega
  case round=>
   rintro pre x A hx ⟨hi,hl,hk⟩;have hlt:w.heap.size+1<A.heap.size:=(Array.getElem?_eq_some_iff.1 hl).1;have hy:=run_yield (P:=P) (args:=encs x) hl (by rw[hrec];exact hps x);rw[hrec]at hy;refine⟨fn,_,assign,body,hy,roundIn_of_wpIn hfn (wpIn_mono (hround (w.heap.size+1) pre x A hx hi (by omega)) ?_)⟩;intro e a1 A1 hq;cases e with
   |normal=>
    obtain⟨ht1,hbody⟩:=hq;have hl1:A1.heap[w.heap.size+1]? =some (.loop (rec .ready none)):=(ht1.block _ hlt (λh=>h)).trans hl;have hk1:A1.heap[w.heap.size]? =some (.deferred (some [])):=(ht1.block _ (by omega) (λh=>h)).trans hk;have hltA1:w.heap.size+1<A1.heap.size:=(Array.getElem?_eq_some_iff.1 hl1).1;refine⟨_,run_beginRound hl1 (by rw[hrec]), ?_⟩;have ht2:aJ (λk=>k=w.heap.size+1) A1 (A1.putObj (w.heap.size+1) (.loop {rec .ready none with state:= .busy})):=aJ.putObj (pv:=λk=>k=w.heap.size+1) (aJ.refl _ _) (Or.inr rfl) _;have ht12:aJ (λk=>k=w.heap.size+1) A (A1.putObj (w.heap.size+1) (.loop {rec .ready none with state:= .busy})):=(ht1.mono (λk h=>h.elim)).trans ht2;have hl2:(A1.putObj (w.heap.size+1) (.loop {rec .ready none with state:= .busy})).heap[w.heap.size+1]? =some (.loop {rec .ready none with state:= .busy}):=World.putObj_heap_same hltA1;have hk2:(A1.putObj (w.heap.size+1) (.loop {rec .ready none with state:= .busy})).heap[w.heap.size]? =some (.deferred (some [])):=(World.putObj_heap_other (by omega)).trans hk1;have hb:=hbody _ ht2 (hI _ _ _ hi (ht12.mono λk h=>Or.inr (Or.inr h))) (by simp);refine wpIn_mono hb ?_;have fin: ∀(jump:Option Code) (A3:World),aJ bw (A1.putObj (w.heap.size+1) (.loop {rec .ready none with state:= .busy})) A3->
      (Instr.endRound (w.heap.size+1) jump).run P A3= .ok (aI jump.isNone) (A3.putObj (w.heap.size+1) (.loop (rec (if jump.isNone then .ready else .done) jump)))/\
      (A3.putObj (w.heap.size+1) (.loop (rec (if jump.isNone then .ready else .done) jump))).heap[w.heap.size+1]? =some (.loop (rec (if jump.isNone then .ready else .done) jump))/\
      (A3.putObj (w.heap.size+1) (.loop (rec (if jump.isNone then .ready else .done) jump))).heap[w.heap.size]? =some (.deferred (some [])):=λjump A3 ht3=>by
     have hl3:=(ht3.block _ (by simpa using hltA1) (λh=>(hbw _ h).2 rfl)).trans hl2;have hk3:=(ht3.block _ (by simp;omega) (λh=>(hbw _ h).1 rfl)).trans hk2;have:=run_endRound (P:=P) jump hl3;rw[hrec]at this ⊢;exact⟨this,World.putObj_heap_same (Array.getElem?_eq_some_iff.1 hl3).1,(World.putObj_heap_other (by omega)).trans hk3⟩
    have fill: ∀(A3:World) (o:Obj),aJ (λk=>k=w.heap.size\/k=w.heap.size+1) A3 (A3.putObj (w.heap.size+1) o):=λA3 o=>(aJ.refl _ _).putObj (Or.inr (Or.inr rfl)) _;intro e a3 A3 hp;cases e with
    |normal=>
     obtain⟨ht3,hi3⟩:=hp;obtain⟨hr,hl4,hk4⟩:=fin none A3 ht3;refine⟨_,_,hr,Or.inl ⟨rfl,⟨hI _ _ _ hi3 ((fill _ _).mono λk h=>Or.inr h),hl4,hk4⟩, ?_⟩⟩;exact(ht12.mono λk h=>Or.inr h).trans ((ht3.mono λk h=>Or.inl h).trans ((aJ.refl _ _).putObj (Or.inr (Or.inr rfl)) _))
    |ret=>
     obtain⟨ht3,hi3⟩:=hp;obtain⟨hr,hl4,hk4⟩:=fin (some .ret) A3 ht3;exact⟨_,_,hr,Or.inr ⟨rfl,.ret,hIx _ _ _ _ hi3 (fill _ _),hl4,hk4⟩⟩
    |exit id=>
     obtain⟨ht3,hi3⟩:=hp;obtain⟨hr,hl4,hk4⟩:=fin (some (.exit id)) A3 ht3;exact⟨_,_,hr,Or.inr ⟨rfl,.exit id,hIx _ _ _ _ hi3 (fill _ _),hl4,hk4⟩⟩
    |goto t=>exact hp.elim
    |panic ch=>exact hp.elim
    |outgrown=>exact hp.elim
   |ret=>exact hq.elim
   |exit id=>exact hq.elim
   |goto t=>exact hq.elim
   |panic ch=>exact hq.elim
   |outgrown=>exact hq.elim
open Go.RowKit
def iV (W:World) (nb:Nat) (e:TypeId) (s:ByteArray):Prop:=
 ∃C m,W.heap[nb]? =some (.cells C e (m,m+1))/\ ∀k (h:k<s.size),C[k]? =some (.int .u8 (s[k].toNat:Int))
theorem iV.cell {W:World} {nb:Nat} {e:TypeId} {s:ByteArray} (h:iV W nb e s) (k:Nat) (hk:k<s.size):W.cell? ⟨nb,k,none⟩=some (.int .u8 (s[k].toNat:Int)):=by
 obtain⟨C,m,h1,h2⟩:=h;simp[World.cell?,h1,h2 k hk]
theorem iV.lt {W:World} {nb:Nat} {e:TypeId} {s:ByteArray} (h:iV W nb e s):nb<W.heap.size:=by
 obtain⟨C,m,h1,_⟩:=h;exact(Array.getElem?_eq_some_iff.1 h1).1
theorem iV.new (W:World) (e:TypeId) (s:ByteArray):iV (W.grow (kZ W e s)) W.heap.size e s:=by
 refine⟨_,_,by simp only[World.grow];rw[Array.getElem?_append_right (bA _),zaf];rfl,λk hk=> ?_⟩;have h:=CU W e s k hk;unfold World.cell? at h;have hb:(W.grow (kZ W e s)).heap[W.heap.size]? =some (.cells (nP W e s) e ((nP W e s).size,(nP W e s).size+1)):=by
  simp only[World.grow];rw[Array.getElem?_append_right (bA _),zaf];rfl
 simpa[hb]using h
theorem iV.grow {W:World} {nb:Nat} {e:TypeId} {s:ByteArray} (h:iV W nb e s) (X:Gr):iV (W.grow X) nb e s:=by
 have hl:=h.lt;obtain⟨C,m,h1,h2⟩:=h;exact⟨C,m,((dG W X).block nb hl).trans h1,h2⟩
theorem iV.alloc {W:World} {nb:Nat} {e:TypeId} {s:ByteArray} (h:iV W nb e s) (o:Obj):iV (W.alloc o) nb e s:=by
 rw[qG];exact h.grow _
theorem iV.kept {W W':World} {nb:Nat} {e:TypeId} {s:ByteArray} (h:iV W nb e s) {v:Value} {B:Nat} {e':TypeId} {size n:Nat} {xs:List Value} (ho:W.ownsRow B e' size v n xs) (hg:W.grownBy W' v.ownBlock):iV W' nb e s:=by
 have hl:=h.lt;obtain⟨C,m,h1,h2⟩:=h;refine⟨C,m,(hg.block nb hl λe=> ?_).trans h1,h2⟩;rcases ho.2 with⟨rfl,_⟩|⟨g,cap,cur,rfl,_,hh,_⟩
 .simp[xm]at e
 .simp[xm]at e;subst e;rw[h1]at hh;simp at hh
theorem xZ {B0:Nat} {W W':World} {v:Value} {B:Nat} {e:TypeId} {size n:Nat} {xs:List Value} (ho:W.ownsRow B e size v n xs) (hg:W.grownBy W' v.ownBlock) (hB:B0<=B) (hw:B0<=W.heap.size):Below B0 W W':=
 (Below.refl B0 W).grown hg hw λk hk=>by have:=(ho.lt k hk).1;omega
theorem sE {w V W':World} {v:Value} {e:TypeId} {size n:Nat} {xs:List Value} (hg:V.grownBy W' v.ownBlock) (ho:V.ownsRow w.heap.size e size v n xs) (h:Below w.heap.size w V):Hid (Below w.heap.size w W'):=
 h.trans (xZ ho hg (bA _) h.size)
theorem mJ {P:Program} {W:World} {ops:Array Oper} {rest:List Oper} {o:Oper} {a:Act} {Q:Exit->Act->World->Prop} (hgd:o.guard=none) (s x:Operand) (t:TypeId)
  (ho:o.op= .call {callee:= .builtin .append,args:= #[s,x],argTypes:= #[t,t]})
  {e:TypeId} {z:Value} {size bytes:Nat} (row:jX P t e z size bytes) (base:Nat) {v:Value} {n:Nat} {xs:List Value} (hs:a.eval s=v) (hown:W.ownsRow base e size v n xs)
  (hb:base<=W.heap.size) (ad:Addr) (m c:Nat) (news:List Value) (hx:a.eval x=aF (some ad) m c) (hl:news.length=m*size)
  (hnews: ∀j u,news[j]? =some u->W.cell? (ad.add j)=some u) (h1: ∀u∈news,u.oneCell'=true) (h63:n+m<=maxLen) (hbytes:(n+m)*bytes<=140737488355328)
  (h: ∀v' W',W'.ownsRow base e size v' (n+m) (xs++news)->W.grownBy W' v.ownBlock->wpList P ops Q rest (a.put o.dst v') W'):wpList P ops Q (o::rest) a W:=by
 obtain⟨i,hi,hz0,hz1,hz2⟩:=info_parts row.hi;exact wpList_append_own W hgd s x t ho base e i z size bytes row.ht hi hz0 hz1 hz2 row.hzs row.hsz v n xs hs hown ad m c news hx hl hnews h1 h63 hbytes hb λv' w' h2 h3 _=>h v' w' h2 h3
theorem lW {W:World} {e:TypeId} {c:Array Value} {n size:Nat} (hc:c.size=n*size) (hn:n<=maxLen):(W.alloc (.cells c e)).ownsRow W.heap.size e size (aF (some ⟨W.heap.size,0,none⟩) n n) n c.toList:=
 ⟨by simp[hc],.inr ⟨W.heap.size,n,c,rfl,bA _,heap_alloc_new W _,bA _,hn,hc,by rw[List.take_of_length_le];simp[hc]⟩⟩
theorem aP {w a b:World} (h:Below w.heap.size w a) (k:Below a.heap.size a b):Below w.heap.size w b:=h.trans (k.mono h.size)
open Go.ChangeShapes Go.WideShapes Go.Deep
section
variable {P:Program} {H:Type} {enc:TypeId × Value->H} {w:World} {base:Nat} {spare:Nat->Bool} {held:Bool}
theorem Ei {t e:TypeId} {fs:Array Field} {n:Nat} (ht:P.underlying t=some (.slice e)) (hs:P.underlying e=some (.struct fs)) (hone:oneCellFields P fs=true) (hC:P.cellsOf e=n) (hn:fs.size=n) (hp:0<n)
  {fuel:Nat} {a:Option Addr} {len cap:Nat} {x:DataW H × List MemPlace} (h:DataW.trod enc P w base spare held fuel t [aF a len cap]=some x):
  len<=9223372036854775807/\(0<len-> ∃b off,a=some ⟨b,off,none⟩/\ ∀i,i<len-> ∀j f,fs[j]? =some f-> ∃v,w.cell? ⟨b,off+(i*n+j),none⟩=some v/\ ∃fu y,DataW.trod enc P w base spare held fu f.type [v]=some y):=by
 rcases open_slice ht h with⟨hcs,_⟩|⟨ad,len',cap',m,n',D,Pl,hcs,hb,hl,hm,hmm,hx,hi⟩
 .simp at hcs;obtain⟨rfl,rfl,rfl⟩:=hcs;exact⟨by omega,λh=>by omega⟩
 .simp at hcs;obtain⟨rfl,rfl,rfl⟩:=hcs;have hlen:len<=9223372036854775807:=by unfold maxLen at hm;omega
  have hml:len<=m:=by rw[hmm];split<;>omega
  have key: ∀i,i<m-> ∀j f,fs[j]? =some f-> ∃v,w.cell? (ad.add (i*n+j))=some v/\ ∃fu y,DataW.trod enc P w base spare held fu f.type [v]=some y:=by
   intro i him j f hj;obtain⟨cs',hc,ht'⟩:=hi i him;rw[hC]at hc;obtain⟨ys,n2,hn2,hy,hlen',hyl,hf⟩:=DataW.trod_struct hs ht';obtain⟨_,hcl,hat⟩:=World.cells?_some hc;obtain⟨ho,hk⟩:=hone_of hone j f hj;have hjl:j<n:=by rw[<-hn];exact(Array.getElem?_eq_some_iff.1 hj).1
   have hcell:=hat j hjl;have hv:cs'[j]? =some (cs'[j]'(by omega)):=eV (by omega);have h1:=hf j f hj;rw[ho,hk]at h1;have hone':(cs'.drop j).take 1=[cs'[j]'(by omega)]:=by
    rw[List.drop_eq_getElem_cons (by omega)];rfl
   rw[hone']at h1;have hys:ys[j]? =some (ys[j]'(by rw[hyl,hn];exact hjl)):=eV (by rw[hyl,hn];exact hjl);rw[hys]at h1;refine⟨cs'[j]'(by omega), ?_,_,_,h1⟩;rw[<-Go.Deep.add_add,hcell,hv]
  refine⟨hlen,λh0=> ?_⟩;obtain⟨b,off,spot⟩:=ad;have h0m:0<m:=by omega
  have hj0:0<fs.size:=by omega
  obtain⟨v0,hv0,_⟩:=key 0 h0m 0 _ (Array.getElem?_eq_getElem hj0);have hspot:spot=none:=by simpa[Addr.add]using World.cell?_spot hv0
  subst hspot;refine⟨b,off,rfl,λi hi j f hj=> ?_⟩;obtain⟨v,hv,hr⟩:=key i (by omega) j f hj;refine⟨v, ?_,hr⟩;have e:(⟨b,off,none⟩:Addr).add (i*n+j)=⟨b,off+(i*n+j),none⟩:=by unfold Addr.add;split<;>simp_all
  rw[<-e];exact hv
theorem Qh {α:Type} [Inhabited α] {n:Nat} {p:Nat->α->Prop} (h: ∀i,i<n-> ∃x,p i x): ∃l:List α,l.length=n/\ ∀i (hi:i<l.length),p i l[i]:=by
 classical
 refine⟨(List.range n).map λi=>if h: ∃x,p i x then Classical.choose h else default,by simp,λi hi=> ?_⟩;simp only[List.length_map,List.length_range]at hi;simp only[List.getElem_map,List.getElem_range];rw[dif_pos (h i hi)];exact Classical.choose_spec (h i hi)
end
theorem yB {a b:ByteArray} (h:a.data.toList=b.data.toList):a=b:=by
 obtain⟨⟨x⟩⟩:=a;obtain⟨⟨y⟩⟩:=b;simp at h;rw[h]
theorem nD (a b:ByteArray):(a.toList==b.toList)=decide (a.data.toList=b.data.toList):=by
 rw[ByteArray.toList_eq,ByteArray.toList_eq,Bool.eq_iff_iff];simp
theorem Rk (a b:ByteArray):(a.toList !=b.toList)= !decide (a.data.toList=b.data.toList):=by
 rw[bne,nD]
theorem tN (a:ByteArray):a.toList.isEmpty=decide (a.data.toList=[]):=by
 rw[ByteArray.toList_eq,Bool.eq_iff_iff];simp
theorem GN {a:ByteArray} (h:0<a.size):a.toList.isEmpty=false:=by
 rw[tN];simp;intro h2;simp[ByteArray.size,h2]at h
theorem bX:Tryz.prog.follows .mixedOrders=true:=by kernel_rfl
end Go.Proofs.YtccjfanpjojbnaaGreatDoor
theorem Go.Proofs.YtccjfanpjojbnaaGreatDoor.KS.isS:True:=⟨⟩
theorem Go.Proofs.YtccjfanpjojbnaaGreatDoor.KA.isA:True:=⟨⟩
theorem Go.Proofs.YtccjfanpjojbnaaGreatDoor.KF.isF:True:=⟨⟩
theorem Go.Proofs.YtccjfanpjojbnaaGreatDoor.hv {p q:Prop} (a:p) (b:p->q):q:=b a
