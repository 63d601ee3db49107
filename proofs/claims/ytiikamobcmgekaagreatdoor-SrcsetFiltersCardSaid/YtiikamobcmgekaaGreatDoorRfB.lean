/- The walks of the reference's parser: once, wants, list. -/
import Derived.BigRegion
import Derived.Test.YtiikamobcmgekaaGreatDoorR2
import Derived.Test.YtiikamobcmgekaaGreatDoorR4
import Derived.Test.YtiikamobcmgekaaGreatDoorRG
namespace Go.Proofs.YtiikamobcmgekaaGreatDoor
open Lib renaming hid→z2c
open List renaming drop_append_of_le_length→z4z,drop_eq_getElem_cons→z2m,drop_eq_nil_of_le→z2o,getElem?_eq_getElem→z2q,length_cons→z2i,length_nil→z28,takeWhile_cons_of_neg→z4d,takeWhile_cons_of_pos→z3d
open Go.Proofs.Tryz renaming prog→z2f
set_option maxRecDepth 100000
set_option maxHeartbeats 2000000
inductive St where
 |nm (k tag:Bs) (ws:List Bs)
 |sg (k x y z:Bs)
deriving DecidableEq
def St.app:St->Pol->Pol
 | .nm k tag ws,p=>addK k tag p ws
 | .sg k x y z,p=>if k=relT then {p with rel:=decide (x=yesT)}else if k=zbg then {p with forces:=p.forces++[⟨x,y,z⟩]}else setL x (numT y) p
def St.key:St->Option Bs
 | .nm _ _ _=>none
 | .sg k x y _=>some (if k=relT then relT else if k=zbg then zbg++[32]++x++[32]++y else zbp++[32]++x)
def synR (k:Bs) (l:List Lx):Option (St × Nat):=
 if k=relT then(if(!isR l 1 1 yesT&& !isR l 1 1 noT)=true then none else match zb3 l [1]with
  |some _=>none
  |none=>some (.sg k (zas l 1) [] [],3))
 else if k=zbg then match zb3 l [1,1,3]with
  |some _=>none
  |none=>some (.sg k (zas l 1) (zas l 2) (zas l 3),5)
 else if(!isR l 1 1 zcc&&(!isR l 1 1 zdx&& !isR l 1 1 valT))=true then none
 else match zb3 l [1,2]with
  |some _=>none
  |none=>some (.sg k (zas l 1) (zas l 2) [],4)
def nmS (k:Bs) (l:List Lx):Option (St × Nat):=match zil k l with
 | .error _=>none
 | .ok (tag,b)=>match zbo l b with
  | .error _=>none
  | .ok ws=>some (.nm k tag ws,b+ws.length+1)
def oneR (l:List Lx):Option (St × Nat):=if zdy l∈ze2 then nmS (zdy l) l else if zdy l∈zdt then synR (zdy l) l else none
inductive zkq:List Lx->List St->Prop where
 |nil:zkq [] []
 |cons {l:List Lx} {st:St} {n:Nat} {ss:List St} (h:oneR l=some (st,n)) (hr:zkq (l.drop n) ss):zkq l (st::ss)
theorem zh9 {l:List Lx} {i k:Nat} {t:Bs} (h:isR l i k t=true):i<l.length:=by
 unfold isR at h;rcases Nat.lt_or_ge i l.length with h1|h1
 ·exact h1
 ·rw[z2o h1]at h;cases h
theorem zss {l r:List Lx} {i:Nat} (h:i<l.length):(l++r).drop i=l[i]::(l.drop (i+1)++r):=by
 rw[z4z (by omega),z2m h];rfl
theorem zer {l:List Lx} (r:List Lx) {i:Nat} (h:i<l.length) (k:Nat) (t:Bs):isR (l++r) i k t=isR l i k t:=by
 unfold isR;rw[zss h,z2m h];rfl
theorem zeh {l:List Lx} (r:List Lx) {i:Nat} (h:i<l.length):zas (l++r) i=zas l i:=by
 unfold zas;rw[zss h,z2m h]
theorem zcw {l:List Lx} (r:List Lx): ∀(ks:List Nat) (i:Nat),zcf l i ks=none->i+ks.length<l.length/\zcf (l++r) i ks=none
 |[],i,h=>by
  unfold zcf at h;split at h
  ·next hi=>
   have:=zh9 hi;refine⟨by simpa using this, ?_⟩;unfold zcf;rw[zer r this,if_pos hi]
  ·cases h
 |k::ks,i,h=>by
  unfold zcf at h;split at h
  ·next hi=>
   obtain⟨h1,h2⟩:=zcw r ks (i+1) h;refine⟨by rw[z2i];omega, ?_⟩;unfold zcf;rw[zer r (zh9 hi),if_pos hi,h2]
  ·cases h
theorem zg2 {α:Type} {p:α->Bool}: ∀{q:List α} (r:List α),(q.takeWhile p).length<q.length->(q++r).takeWhile p=q.takeWhile p
 |[],r,h=>by simp at h
 |x::q,r,h=>by
  by_cases hx:p x=true
  ·rw[z3d hx]at h ⊢;rw[List.cons_append,z3d hx,zg2 r (by simpa using h)]
  ·rw[z4d hx,List.cons_append,z4d hx]
theorem ztz {l:List Lx} (r:List Lx) {b:Nat} {ws:List Bs} (h:zbo l b= .ok ws):b+ws.length+1<=l.length/\zbo (l++r) b= .ok ws:=by
 unfold zbo at h;split at h
 ·cases h
 ·next hn=>
  cases h;have hi:isR l (b+(zaz l b).length) 4 zbr=true:=by
   cases hc:isR l (b+(zaz l b).length) 4 zbr with
   |true=>rfl
   |false=>exact absurd (.inr hc) hn
  have hlen:=zh9 hi;have hw:zaz (l++r) b=zaz l b:=by
   unfold zaz at hlen ⊢;rw[List.length_map]at hlen;rw[z4z (by omega),zg2 r (by rw[List.length_drop];omega)]
  refine⟨by omega, ?_⟩;unfold zbo;rw[hw,zer r hlen,if_neg hn]
theorem zxx {l:List Lx} (r:List Lx) {k t:Bs} {b:Nat} (h:zil k l= .ok (t,b)):zil k (l++r)= .ok (t,b):=by
 unfold zil at h ⊢;by_cases hk:k=zbd
 ·rw[if_pos hk]at h ⊢;unfold zuc at h ⊢;split at h
  ·cases h
  ·next t' ht=>
   split at ht
   ·cases ht
   ·next h1=>
    split at ht
    ·cases ht
    ·next h2=>
     have h2:isR l 2 4 [58]=true:=by
      cases hc:isR l 2 4 [58]with
      |true=>rfl
      |false=>exact absurd hc h2
     have hl:=zh9 h2;rw[zer r (by omega),zer r (by omega),zer r hl,zeh r (by omega),if_neg h1,if_neg (by rw[h2];decide)];cases ht;exact h
 ·rw[if_neg hk]at h ⊢;exact h
theorem zz2 {l:List Lx} (r:List Lx) {st:St} {n:Nat} (h:oneR l=some (st,n)):n<=l.length/\oneR (l++r)=some (st,n):=by
 have hk:zdy (l++r)=zdy l:=by
  cases l with
  |nil=>cases h
  |cons x q=>rfl
 unfold oneR at h ⊢;rw[hk];by_cases h5:zdy l∈ze2
 ·rw[if_pos h5]at h ⊢;unfold nmS at h ⊢;split at h
  ·cases h
  ·next t b hb=>
   rw[zxx r hb];simp only;split at h
   ·cases h
   ·next ws hw=>
    obtain⟨h1,h2⟩:=ztz r hw;rw[h2];cases h;exact⟨h1,rfl⟩
 ·rw[if_neg h5]at h ⊢;by_cases h3:zdy l∈zdt
  ·rw[if_pos h3]at h ⊢;unfold synR at h ⊢;by_cases h1:zdy l=relT
   ·rw[if_pos h1]at h ⊢;split at h
    ·cases h
    ·next hy=>
     split at h
     ·cases h
     ·next hw=>
      obtain⟨a1,a2⟩:=zcw r [1] 1 hw;simp only[z2i,z28]at a1;cases h;refine⟨by omega, ?_⟩;rw[zer r (by omega),zer r (by omega),if_neg hy,zeh r (by omega)];have:zb3 (l++r) [1]=none:=a2;rw[this]
   ·rw[if_neg h1]at h ⊢;by_cases h2:zdy l=zbg
    ·rw[if_pos h2]at h ⊢;split at h
     ·cases h
     ·next hw=>
      obtain⟨a1,a2⟩:=zcw r [1,1,3] 1 hw;simp only[z2i,z28]at a1;cases h;refine⟨by omega, ?_⟩;have:zb3 (l++r) [1,1,3]=none:=a2;rw[this,zeh r (by omega),zeh r (by omega),zeh r (by omega)]
    ·rw[if_neg h2]at h ⊢;split at h
     ·cases h
     ·next hy=>
      split at h
      ·cases h
      ·next hw=>
       obtain⟨a1,a2⟩:=zcw r [1,2] 1 hw;simp only[z2i,z28]at a1;cases h;refine⟨by omega, ?_⟩;rw[zer r (by omega),zer r (by omega),zer r (by omega),if_neg hy,zeh r (by omega),zeh r (by omega)];have:zb3 (l++r) [1,2]=none:=a2;rw[this]
  ·rw[if_neg h3]at h;cases h
theorem zkq.app {l m:List Lx} {ss ts:List St} (h:zkq l ss) (g:zkq m ts):zkq (l++m) (ss++ts):=by
 induction h with
 |nil=>exact g
 | @cons l st n ss ho hr ih=>
  obtain⟨h1,h2⟩:=zz2 m ho;refine .cons h2 ?_;rw[z4z h1];exact ih
open Go.RowKit
attribute [local go_sem] Oper.semAt_some
def rC (j:Nat):Nat:=if j=6 then 10 else j
def rS (j:Nat):Nat:=if j=6 then 1 else fS j
def rN (s:Ps) (j:Nat):Nat:=if j=6 then s.told.length else fN s.pol j
def rX (s:Ps) (j:Nat):List Value:=if j=6 then s.told.reverse.map sv else fC s.pol j
structure RPar (en B:Nat) (s:Ps) (W:World):Prop where
 rest: ∃A c,W.cell? ⟨B,11,none⟩=some (.slice A s.rest.length c)/\s.rest.length<=c/\Rx W (fun b=>B<=b) (.slice A s.rest.length c) s.rest.length 3 (za6 s.rest)
 end_:W.cell? ⟨B,12,none⟩=some (.int .i64 en)
 fz: ∀j,W.frozen? ⟨B,j,none⟩=false
 row: ∀j,j<7-> ∃v,W.cell? ⟨B,rC j,none⟩=some v/\W.ownsRow (B+1) (fT j) (rS j) v (rN s j) (rX s j)
 apart: ∀i j v u b,i<7->j<7->i≠j->W.cell? ⟨B,rC i,none⟩=some v->W.cell? ⟨B,rC j,none⟩=some u->v.ownBlock=some b->u.ownBlock≠some b
 c6:W.cell? ⟨B,6,none⟩=some (.bool s.pol.rel)
 c7:W.cell? ⟨B,7,none⟩=some (.int .i64 s.pol.depth)
 c8:W.cell? ⟨B,8,none⟩=some (.int .i64 s.pol.name)
 c9:W.cell? ⟨B,9,none⟩=some (.int .i64 s.pol.value)
theorem rC_lt {j:Nat} (h:j<7):rC j<6\/rC j=10:=by unfold rC;split<;>omega
theorem zoo {i j:Nat} (hi:i<7) (hj:j<7) (h:i≠j):rC i≠rC j:=by unfold rC;split<;>split<;>omega
theorem RPar.lt {en B:Nat} {s:Ps} {W:World} (h:RPar en B s W):B<W.heap.size:=World.block_lt_of_cell? W _ h.end_
theorem RPar.turned {en B:Nat} {s:Ps} {W W':World} {pv:Nat->Prop} (h:RPar en B s W) (ht:zab pv W W') (h1: ∀b,pv b->B<b) (h2: ∀j v b,j<7->W.cell? ⟨B,rC j,none⟩=some v->v.ownBlock=some b-> ¬pv b):RPar en B s W':=by
 have hb:=ht.block B h.lt (fun hx=>Nat.lt_irrefl _ (h1 _ hx));have hc: ∀i,W'.cell? ⟨B,i,none⟩=W.cell? ⟨B,i,none⟩:=fun i=>World.cell?_of_block hb;obtain⟨A,c,e1,e2,e3⟩:=h.rest;refine⟨⟨A,c,(hc _).trans e1,e2, ?_⟩,(hc _).trans h.end_,fun j=>(World.frozen?_of_block hb).trans (h.fz j),fun j hj=> ?_,fun i j v u b hi hj hij hv hu=>h.apart i j v u b hi hj hij ((hc _).symm.trans hv) ((hc _).symm.trans hu),(hc _).trans h.c6,(hc _).trans h.c7,(hc _).trans h.c8,(hc _).trans h.c9⟩
 ·obtain⟨A',c',e4,e5,e6,e7⟩:=e3;cases e4;exact⟨A,c,rfl,e5,e6.turnedN ht (fun hn b off s hA hx=>e7 hn b off s hA (Nat.le_of_lt (h1 _ hx))),e7⟩
 ·obtain⟨v,hv,ho⟩:=h.row j hj;exact⟨v,(hc _).trans hv,za4 ht ho (fun b hb=>h2 j v b hj hv hb)⟩
theorem RPar.grown {en B:Nat} {s:Ps} {W W':World} (h:RPar en B s W) (hb:Below W.heap.size W W'):RPar en B s W':=
 h.turned (pv:=fun b=>W.heap.size<=b) ⟨hb.os,hb.tape,hb.output,hb.size,fun k hk _=>hb.block k hk⟩ (fun b hx=>Nat.lt_of_lt_of_le h.lt hx) (fun j v b hj hv hb hx=>by
  obtain⟨u,hu,ho⟩:=h.row j hj;rw[hv]at hu;cases hu;have:=(ho.lt b hb).2;omega)
theorem RPar.put {en B j:Nat} {s s':Ps} {W W1:World} {v v':Value} (h:RPar en B s W) (hj:j<7) (hv:W.cell? ⟨B,rC j,none⟩=some v) (hT:zab (fun b=>v.ownBlock=some b) W W1) (ho:W1.ownsRow (B+1) (fT j) (rS j) v' (rN s' j) (rX s' j))
  (hat:v'.ownBlock=v.ownBlock\/ ∃g,v'.ownBlock=some g/\W.heap.size<=g) (hp: ∀i,i<7->i≠j->rN s' i=rN s i/\rX s' i=rX s i) (hr:s'.rest=s.rest) (h6:s'.pol.rel=s.pol.rel) (h7:s'.pol.depth=s.pol.depth) (h8:s'.pol.name=s.pol.name) (h9:s'.pol.value=s.pol.value):
  RPar en B s' (W1.setCell ⟨B,rC j,none⟩ v')/\Below B W (W1.setCell ⟨B,rC j,none⟩ v')/\zab (fun b=>v.ownBlock=some b\/b=B) W (W1.setCell ⟨B,rC j,none⟩ v')/\ ∀i,i≠rC j->(W1.setCell ⟨B,rC j,none⟩ v').cell? ⟨B,i,none⟩=W.cell? ⟨B,i,none⟩:=by
 have hl:=h.lt;obtain⟨v9,hv9,hov⟩:=h.row j hj;rw[hv]at hv9;cases hv9;have hvb: ∀b,v.ownBlock=some b->B+1<=b:=fun b hb=>(hov.lt b hb).1;have hb1:=hT.block B hl (fun hb=>by have:=hvb _ hb;omega);have hc: ∀i,W1.cell? ⟨B,i,none⟩=W.cell? ⟨B,i,none⟩:=fun i=>World.cell?_of_block hb1;have hjc:=rC_lt hj;have hs: ∀i,i≠rC j->(W1.setCell ⟨B,rC j,none⟩ v').cell? ⟨B,i,none⟩=W.cell? ⟨B,i,none⟩:=fun i hi=>by
  rw[World.cell?_setCell_other _ _ _ _ (by intro e;cases e;exact hi rfl)];exact hc i
 have hsj:(W1.setCell ⟨B,rC j,none⟩ v').cell? ⟨B,rC j,none⟩=some v':=World.cell?_setCell_same _ _ _ ((hc _).trans hv);have hTs:zab (fun b=>v.ownBlock=some b\/b=B) W (W1.setCell ⟨B,rC j,none⟩ v'):=zab.setCell (pv:=fun b=>v.ownBlock=some b\/b=B) (p:=⟨B,rC j,none⟩) (hT.mono fun b hb=> .inl hb) (.inr (.inr rfl)) _;have hT1:zab (fun b=>b=B) W1 (W1.setCell ⟨B,rC j,none⟩ v'):=zab.setCell (pv:=fun b=>b=B) (p:=⟨B,rC j,none⟩) (zab.refl _ W1) (.inr rfl) _;refine⟨⟨?_, ?_,fun i=> ?_,fun i hi=> ?_,fun i k u1 u2 b hi hk hik hu1 hu2 hb=> ?_, ?_, ?_, ?_, ?_⟩,hTs.below (by omega) (fun k hk=>hk.elim (fun hk=>by have:=hvb k hk;omega) (fun hk=>by omega)),hTs,hs⟩
 ·rw[hr];obtain⟨A,c,h1,h2,h3⟩:=h.rest;refine⟨A,c,(hs 11 (by omega)).trans h1,h2,h3.turned (hTs.mono fun b hb=> ?_)⟩;rcases hb with hb|hb
  ·have:=hvb b hb;omega
  ·omega
 ·exact(hs 12 (by omega)).trans h.end_
 ·rw[World.frozen?_setCell,World.frozen?_of_block hb1];exact h.fz i
 ·by_cases hij:i=j
  ·subst hij;exact⟨v',hsj,za4 hT1 ho (fun b hb hx=>by have:=(ho.lt b hb).1;omega)⟩
  ·obtain⟨u,hu,hou⟩:=h.row i hi;refine⟨u,(hs _ (zoo hi hj hij)).trans hu, ?_⟩;obtain⟨e1,e2⟩:=hp i hi hij;rw[e1,e2];refine za4 hTs hou (fun b hb hx=> ?_);rcases hx with hx|hx
   ·exact h.apart i j u v b hi hj hij hu hv hb hx
   ·have:=(hou.lt b hb).1;omega
 ·by_cases hij:i=j
  ·subst hij;rw[hsj]at hu1;cases hu1;rw[hs _ (zoo hk hi (fun e=>hik e.symm))]at hu2;obtain⟨u,hu,hou⟩:=h.row k hk;rw[hu]at hu2;cases hu2;intro hb2;rcases hat with hat|⟨g,hat,hg⟩
   ·exact h.apart i k v _ b hi hk hik hv hu (hat ▸ hb) hb2
   ·rw[hat]at hb;cases hb;have:=(hou.lt _ hb2).2;omega
  ·by_cases hkj:k=j
   ·subst hkj;rw[hsj]at hu2;cases hu2;rw[hs _ (zoo hi hk hik)]at hu1;obtain⟨u,hu,hou⟩:=h.row i hi;rw[hu]at hu1;cases hu1;intro hb2;rcases hat with hat|⟨g,hat,hg⟩
    ·exact h.apart i k _ v b hi hk hik hu hv hb (hat ▸ hb2)
    ·rw[hat]at hb2;cases hb2;have:=(hou.lt _ hb).2;omega
   ·rw[hs _ (zoo hi hj hij)]at hu1;rw[hs _ (zoo hk hj hkj)]at hu2;exact h.apart i k u1 u2 b hi hk hik hu1 hu2 hb
 ·rw[h6];exact(hs 6 (by omega)).trans h.c6
 ·rw[h7];exact(hs 7 (by omega)).trans h.c7
 ·rw[h8];exact(hs 8 (by omega)).trans h.c8
 ·rw[h9];exact(hs 9 (by omega)).trans h.c9
theorem RPar.setOne {en B i:Nat} {s s':Ps} {W:World} {u v:Value} (h:RPar en B s W) (hi:6<=i/\i<=9\/i=11) (hu:W.cell? ⟨B,i,none⟩=some u) (hN: ∀j,j<7->rN s' j=rN s j/\rX s' j=rX s j)
  (hr:if i=11 then ∃A c,v= .slice A s'.rest.length c/\s'.rest.length<=c/\Rx W (fun b=>B<=b) v s'.rest.length 3 (za6 s'.rest)else s'.rest=s.rest)
  (h6:if i=6 then v= .bool s'.pol.rel else s'.pol.rel=s.pol.rel) (h7:if i=7 then v= .int .i64 s'.pol.depth else s'.pol.depth=s.pol.depth) (h8:if i=8 then v= .int .i64 s'.pol.name else s'.pol.name=s.pol.name) (h9:if i=9 then v= .int .i64 s'.pol.value else s'.pol.value=s.pol.value):
  RPar en B s' (W.setCell ⟨B,i,none⟩ v)/\Below B W (W.setCell ⟨B,i,none⟩ v):=by
 have hl:=h.lt;have hT:zab (fun b=>b=B) W (W.setCell ⟨B,i,none⟩ v):=zab.setCell (pv:=fun b=>b=B) (p:=⟨B,i,none⟩) (zab.refl _ W) (.inr rfl) _;have hs: ∀k,k≠i->(W.setCell ⟨B,i,none⟩ v).cell? ⟨B,k,none⟩=W.cell? ⟨B,k,none⟩:=fun k hk=>World.cell?_setCell_other _ _ _ _ (by intro e;cases e;exact hk rfl);have hsi:(W.setCell ⟨B,i,none⟩ v).cell? ⟨B,i,none⟩=some v:=World.cell?_setCell_same _ _ _ hu;have hrc: ∀j,j<7->rC j≠i:=fun j hj=>by rcases rC_lt hj with h|h<;>omega
 refine⟨⟨?_,(hs 12 (by omega)).trans h.end_,fun k=> ?_,fun j hj=> ?_,fun j k u1 u2 b hj hk hjk hu1 hu2=> ?_, ?_, ?_, ?_, ?_⟩,hT.below (by omega) (fun k hk=>by omega)⟩
 ·by_cases h11:i=11
  ·rw[if_pos h11]at hr;obtain⟨A,c,rfl,h1,h2⟩:=hr;subst h11;exact⟨A,c,hsi,h1,h2.turned (hT.mono fun b hb=>by omega)⟩
  ·rw[if_neg h11]at hr;rw[hr];obtain⟨A,c,h1,h2,h3⟩:=h.rest;exact⟨A,c,(hs 11 (fun e=>h11 e.symm)).trans h1,h2,h3.turned (hT.mono fun b hb=>by omega)⟩
 ·rw[World.frozen?_setCell];exact h.fz k
 ·obtain⟨u,hu,hou⟩:=h.row j hj;obtain⟨e1,e2⟩:=hN j hj;rw[e1,e2];exact⟨u,(hs _ (hrc j hj)).trans hu,za4 hT hou (fun b hb hx=>by have:=(hou.lt b hb).1;omega)⟩
 ·rw[hs _ (hrc j hj)]at hu1;rw[hs _ (hrc k hk)]at hu2;exact h.apart j k u1 u2 b hj hk hjk hu1 hu2
 ·by_cases e:i=6
  ·rw[if_pos e]at h6;subst e;rw[hsi,h6]
  ·rw[if_neg e]at h6;rw[h6];exact(hs 6 (fun x=>e x.symm)).trans h.c6
 ·by_cases e:i=7
  ·rw[if_pos e]at h7;subst e;rw[hsi,h7]
  ·rw[if_neg e]at h7;rw[h7];exact(hs 7 (fun x=>e x.symm)).trans h.c7
 ·by_cases e:i=8
  ·rw[if_pos e]at h8;subst e;rw[hsi,h8]
  ·rw[if_neg e]at h8;rw[h8];exact(hs 8 (fun x=>e x.symm)).trans h.c8
 ·by_cases e:i=9
  ·rw[if_pos e]at h9;subst e;rw[hsi,h9]
  ·rw[if_neg e]at h9;rw[h9];exact(hs 9 (fun x=>e x.symm)).trans h.c9
theorem lx_len (x:Lx):x.cells.length=3:=rfl
theorem Rd.lxAt {w:World} {A:Option Addr} {n c:Nat} {l:List Lx} (h:Rd w (.slice A n c) l.length 3 (za6 l)) (i:Nat) (hi:i<l.length): ∃b off,A=some ⟨b,off,none⟩/\b<w.heap.size/\w.cell? ⟨b,off+i*3,none⟩=some (.int .i64 l[i].kind)/\w.cell? ⟨b,off+i*3+1,none⟩=some (.int .i64 l[i].at_)/\w.cell? ⟨b,off+i*3+2,none⟩=some (.string ⟨l[i].text.toArray⟩):=by
 obtain⟨_,_,A',c',e,h4⟩:=h;cases e;obtain⟨b,off,rfl,hb,hc⟩:=h4 (by omega);have h9:=fun j hj=>z0j Lx.cells 3 lx_len l i j hi hj;refine⟨b,off,rfl,hb, ?_, ?_, ?_⟩
 ·have:=hc (i*3+0) _ (h9 0 (by omega));simpa using this
 ·have:=hc (i*3+1) _ (h9 1 (by omega));rw[<-Nat.add_assoc]at this;exact this
 ·have:=hc (i*3+2) _ (h9 2 (by omega));rw[<-Nat.add_assoc]at this;exact this
theorem atR_in {en:Nat} {l:List Lx} {i:Nat} (h:i<l.length):atR en l i=l[i].at_:=by
 unfold atR;rw[z2m h];rfl
theorem z15 {en:Nat} {l:List Lx} {i:Nat} (h:l.length<=i):atR en l i=en:=by
 unfold atR;rw[z2o h];rfl
theorem z01 {l:List Lx} {i k:Nat} {t:Bs} (h:i<l.length):isR l i k t=(decide (l[i].kind=k)&&(decide (t=[])||decide (l[i].text=t))):=by
 unfold isR;rw[z2m h];show isP k (tsR t) l[i]=_;unfold isP tsR;by_cases ht:t=[]
 ·rw[if_pos ht,decide_eq_true ht];simp
 ·rw[if_neg ht,decide_eq_false ht];simp
theorem zm4 {l:List Lx} {i k:Nat} {t:Bs} (h:l.length<=i):isR l i k t=false:=by
 unfold isR;rw[z2o h];rfl
theorem ze1 (en B:Nat) (s:Ps) (W:World) (h:RPar en B s W) (i:Nat):Calls z2f 57 #[.pointer (some ⟨B,0,none⟩),.int .i64 i] W fun e w'=>e= .returned (.int .i64 (atR en s.rest i))/\W=w':=by
 obtain⟨A,c,hc,_,A',c',he,_,hr,_⟩:=h.rest;cases he;have he:=h.end_;by_cases hlt:i<s.rest.length
 ·obtain⟨b,off,rfl,hb,x0,x1,x2⟩:=Rd.lxAt hr i hlt;rw[atR_in hlt];generalize s.rest[i].at_=xa at*;generalize s.rest[i].kind=xk at*;generalize(⟨s.rest[i].text.toArray⟩:ByteArray)=xt at*;generalize s.rest.length=n at*;clear hr h;go_enter Tryz.func57,Tryz.ntmps57;go_wp2_with fail
  go_ret;exact⟨rfl,rfl⟩
 ·rw[z15 (by omega)];generalize s.rest.length=n at*;clear hr h;go_enter Tryz.func57,Tryz.ntmps57;go_wp2_with fail
  go_ret;exact⟨rfl,rfl⟩
theorem zdd (en B:Nat) (s:Ps) (W:World) (h:RPar en B s W) (i k:Nat) (t:Bs):Calls z2f 142 #[.pointer (some ⟨B,0,none⟩),.int .i64 i,.int .i64 k,.string ⟨t.toArray⟩] W fun e w'=>e= .returned (.bool (isR s.rest i k t))/\W=w':=by
 obtain⟨A,c,hc,_,A',c',he,_,hr,_⟩:=h.rest;cases he;by_cases hlt:i<s.rest.length
 ·obtain⟨b,off,rfl,hb,x0,x1,x2⟩:=Rd.lxAt hr i hlt;rw[z01 hlt];have ht0:((⟨t.toArray⟩:ByteArray).toList==([]:Bs))=decide (t=[]):=by rw[ByteArray.toList_eq];show(t==[])=_;rw[Bool.eq_iff_iff];simp
  have ht1:((⟨s.rest[i].text.toArray⟩:ByteArray).toList==(⟨t.toArray⟩:ByteArray).toList)=decide (s.rest[i].text=t):=by rw[zhs]
  generalize s.rest[i].at_=xa at*;generalize s.rest[i].kind=xk at*;generalize decide (s.rest[i].text=t)=D2 at*;generalize decide (t=[])=D1 at*;generalize(⟨s.rest[i].text.toArray⟩:ByteArray)=xt at*;generalize(⟨t.toArray⟩:ByteArray)=ts at*;generalize s.rest.length=n at*;clear hr h;by_cases hk:xk=k
  ·subst hk;cases D1<;>cases D2;all_goals
    go_enter Tryz.func142,Tryz.ntmps142;go_wp2_with fail
    go_ret;exact⟨by simp,rfl⟩
  ·have hkb:((xk:Int)==(k:Int))=false:=by simp;omega
   rw[decide_eq_false hk];clear hk;go_enter Tryz.func142,Tryz.ntmps142;go_wp2_with fail
   go_ret;exact⟨by simp,rfl⟩
 ·rw[zm4 (by omega)];generalize s.rest.length=n at*;clear hr h;go_enter Tryz.func142,Tryz.ntmps142;go_wp2_with fail
  go_ret;exact⟨rfl,rfl⟩
def zfq (s:Ps) (what:Bs):Ps:=⟨s.rest,s.pol,what::s.told⟩
theorem znu (s:Ps) (what:Bs):rN (zfq s what) 6=rN s 6+1/\rX (zfq s what) 6=rX s 6++[sv what]:=⟨rfl,by simp[rX,zfq]⟩
theorem ztc (s:Ps) (what:Bs) (i:Nat) (hi:i≠6):rN (zfq s what) i=rN s i/\rX (zfq s what) i=rX s i:=by
 unfold rN rX;rw[if_neg hi,if_neg hi,if_neg hi,if_neg hi];exact⟨rfl,rfl⟩
theorem zjx (en B:Nat) (what:Bs) (s:Ps) (W:World) (h:RPar en B s W) (hs:s.told.length<=20000):
  Calls z2f 145 #[.pointer (some ⟨B,0,none⟩),.string ⟨what.toArray⟩] W fun e w'=>e= .returned (.bool (decide (what∈s.told)))/\RPar en B (if what∈s.told then s else zfq s what) w'/\Below B W w'/\zab (fun b=>b=B\/ ∃v,W.cell? ⟨B,10,none⟩=some v/\v.ownBlock=some b) W w'/\ ∀i,i≠10->w'.cell? ⟨B,i,none⟩=W.cell? ⟨B,i,none⟩:=by
 have hmx:=mxd;have HP:=z2c h;have hlt:=h.lt;obtain⟨v,hv,ho⟩:=h.row 6 (by omega);have hv10:W.cell? ⟨B,10,none⟩=some v:=hv;have ho6:W.ownsRow (B+1) 9 1 v s.told.reverse.length (s.told.reverse.map sv):=by rw[List.length_reverse];exact ho
 have hf:=h.fz 10;obtain⟨A,c,rfl,_⟩:=zah ho6;have HO:=z2c ho6;have HR:=z2c (Rd.own ho6);have HMem:Hid (decide (what∈s.told)=decide (what∈s.told.reverse)):=by show _=_;rw[decide_eq_decide];simp
 have HVb:=z2c hv;obtain⟨T,hT⟩: ∃T,s.told.reverse=T:=⟨_,rfl⟩;have hTl:T.length=s.told.length:=by rw[<-hT];simp
 rw[hT]at HR HO HMem hv10;obtain⟨n,hn⟩: ∃n,T.length=n:=⟨_,rfl⟩;have HN:=z2c hn;have hn9:n<=20000:=by omega
 rw[hn]at HR HO hv10;have HV6:=z2c (show W.cell? ⟨B,rC 6,none⟩=some (.slice A n c)from hv10);have HTn:Hid (n=s.told.length):=by show _=_;omega
 have HTX:Hid (T.map sv=s.told.reverse.map sv):=by show _=_;rw[hT]
 clear h ho hv ho6 hT hTl hn HVb;have HS:Hid (sv what= .string ⟨what.toArray⟩):=rfl;obtain⟨DD,hDD⟩: ∃D,decide (what∈s.told)=D:=⟨_,rfl⟩;obtain⟨SS,hSS⟩: ∃S,(if what∈s.told then s else zfq s what)=S:=⟨_,rfl⟩;rw[hDD]at HMem ⊢;rw[hSS];have HDD:=z2c hDD;have HSS:=z2c hSS;clear hDD hSS;go_enter Tryz.func145,Tryz.ntmps145;go_wp2_with fail
 go_loopw [5] (fun i wr=> ∃k:Nat,k<=n/\i= .int .i64 (k:Nat)/\Hid (decide (what∈T)=decide (what∈T.drop k))/\wr=W) (fun i _=>n-(intOf i).toNat)
 case atStart=>exact⟨0,by omega,rfl,by show _=_;rw[List.drop_zero],rfl⟩
 case round=>
  obtain⟨k,hk,rfl,HK,rfl⟩:=hrel;by_cases hlt2:k<n
  ·have hkl:k<T.length:=by rw[HN.out];exact hlt2
   obtain⟨t,hx⟩: ∃t,T[k]=t:=⟨_,rfl⟩;have hr9:Rd wr (.slice A T.length c) T.length 1 (T.map sv):=by rw[HN.out];exact HR.out
   obtain⟨b,o,rfl,hb,x0⟩:=Rd.atS hr9 k t (by rw[<-hx];exact z2q hkl);have HD:Hid (T.drop k=t::T.drop (k+1)):=by show _=_;rw[<-hx];exact z2m hkl
   simp only[sv]at x0;have hq:((⟨t.toArray⟩:ByteArray).toList==(⟨what.toArray⟩:ByteArray).toList)=decide (t=what):=by rw[zhs]
   clear hx hr9;generalize(⟨t.toArray⟩:ByteArray)=ts at*;generalize(⟨what.toArray⟩:ByteArray)=ws at*;by_cases he:t=what
   ·have HT:Hid (DD=true):=by show _=_;rw[HMem.out,HK.out,HD.out,he];simp
    rw[decide_eq_true he]at hq;clear HK HD he;go_wp2_with fail
    go_ret;exact⟨by rw[HT.out];rfl,by rw[<-HSS.out,if_pos (of_decide_eq_true (HDD.out.trans HT.out))];exact HP.out,Below.refl _ _,zab.refl _ _,fun _ _=>rfl⟩
   ·have HT:Hid (decide (what∈T)=decide (what∈T.drop (k+1))):=by show _=_;rw[HK.out,HD.out,decide_eq_decide,List.mem_cons];exact⟨fun h=>h.elim (fun e=>absurd e.symm he) id,.inr⟩
    rw[decide_eq_false he]at hq;clear HK HD he;go_wp2_with fail
    go_roundw
    case rel=>exact⟨k+1,by omega,by go_num,HT.out,by first|rfl|trivial⟩
    case measure=>simp[intOf];omega
  ·have HT:Hid (DD=false):=by
    show _=_;rw[HMem.out,HK.out,z2o (by rw[HN.out];omega)];simp
   clear HK;generalize(⟨what.toArray⟩:ByteArray)=ws at*;go_wp2_with(at_builtin;refine zpp (v:= .slice A n c) rfl _ _ 47 rfl sltS (B+1) rfl (HO.out.alloc _) (by simp[go_sem]<;>omega) ⟨_,0,none⟩ 1 1 [.string ws] rfl rfl (zaf (c:= #[.string ws]) (by simp[go_sem])) (by simp[Value.oneCell']) (by unfold maxLen;omega) (by omega) ?_;intro v6 W6 ho6 hg6 hat6;obtain⟨A6,c6,rfl,_⟩:=zah ho6;have hb5:Below wr.heap.size wr (wr.alloc (.cells #[.string ws] 9)):=bel;have hgT:zab (fun b=>(Value.slice A n c).ownBlock=some b) (wr.alloc (.cells #[.string ws] 9)) W6:=⟨hg6.os,hg6.tape,hg6.output,hg6.size,fun k hk hn=>hg6.block k hk (fun e=>hn e.symm)⟩;have hnM: ¬(Value.slice A n c).ownBlock=some B:=(fun e=>by have:=(HO.out.lt _ e).1;omega);have hM5:B<(wr.alloc (.cells #[.string ws] 9)).heap.size:=(by have:=hb5.size;omega);have k6:=(World.cell?_of_block (a:=⟨B,10,none⟩) (hgT.block _ hM5 hnM)).trans ((hb5.cell hlt).trans hv10);have kf:=(World.frozen?_of_block (a:=⟨B,10,none⟩) (hgT.block _ hM5 hnM)).trans ((World.frozen?_of_block (hb5.block _ hlt)).trans hf);have HT6:=z2c ((zab.of_below hb5).trans hgT);have HO6:=z2c ho6;have HA6:=z2c hat6;clear hg6 hgT hnM hM5 ho6 hat6 hb5)
   go_ret;have hno:what∉s.told:=of_decide_eq_false (HDD.out.trans HT.out);rw[HT.out,<-HSS.out,if_neg hno];have h9:=HP.out.put (j:=6) (s':=zfq s what) (by omega) HV6.out HT6.out (by rw[(znu s what).1,(znu s what).2];show World.ownsRow _ _ _ _ _ (s.told.length+1) (s.told.reverse.map sv++[sv what]);rw[<-HTn.out,<-HTX.out,HS.out];exact HO6.out) (HA6.out.imp (fun h=>h) (fun h=>⟨_,h,by have:=(bel:Below wr.heap.size wr (wr.alloc (.cells #[.string ws] 9))).size;omega⟩)) (fun i hi hij=>ztc s what i hij) rfl rfl rfl rfl rfl;exact⟨rfl,h9.1,h9.2.1,h9.2.2.1.mono (fun b hb=>hb.elim (fun h=> .inr ⟨_,hv10,h⟩) .inl),h9.2.2.2⟩
def ivN (k:Nat):Value:= .int .i64 k
theorem Rd.atI {w:World} {A:Option Addr} {n c:Nat} {l:List Nat} (h:Rd w (.slice A n c) l.length 1 (l.map ivN)) (k:Nat) (hk:k<l.length): ∃b o,A=some ⟨b,o,none⟩/\b<w.heap.size/\w.cell? ⟨b,o+k,none⟩=some (.int .i64 (l[k]:Nat)):=by
 obtain⟨_,_,A',c',e,h4⟩:=h;cases e;obtain⟨b,off,rfl,hb,hc⟩:=h4 (by omega);exact⟨b,off,rfl,hb,hc k _ (by simp[hk,ivN])⟩
theorem zgy {W:World} {c:Array Value} {e:TypeId} {n B:Nat} {ts:List Nat} (hB:B=W.heap.size) (he:c=(ts.map ivN).toArray) (hn:n=ts.length) (h9:ts.length<=1000):Rd (W.alloc (.cells c e)) (.slice (some ⟨B,0,none⟩) n n) ts.length 1 (ts.map ivN):=by
 subst hB he hn;have:=Rd.own (za5 (W:=W) (e:=e) (c:=(ts.map ivN).toArray) (n:=ts.length) (size:=1) (by simp) (by unfold maxLen;omega));simpa using this
def z1a:Option Nat->Int
 |none=> -1
 |some i=>i
theorem zpw {l:List Lx} {i k:Nat} {ks:List Nat} (h:isR l i k []=true):zcf l i (k::ks)=zcf l (i+1) ks:=by
 unfold zcf;rw[if_pos h];cases ks<;>rfl
theorem zpv {l:List Lx} {i k:Nat} {ks:List Nat} (h:isR l i k []=false):zcf l i (k::ks)=some i:=by
 unfold zcf;rw[if_neg (by rw[h];decide)]
theorem zhy (en B:Nat) (s:Ps) (W:World) (h:RPar en B s W) (v:Value) (ks:List Nat) (hv:Rd W v ks.length 1 (ks.map ivN)) (h9:ks.length<=1000):
  Calls z2f 144 #[.pointer (some ⟨B,0,none⟩),v] W fun e w'=>e= .returned (.int .i64 (z1a (zb3 s.rest ks)))/\W=w':=by
 obtain⟨A,c,rfl⟩: ∃A c,v= .slice A ks.length c:=by obtain⟨_,_,A,c,e,_⟩:=hv;exact⟨A,c,e⟩
 have HR:=z2c hv;have HP:=z2c h;obtain⟨R,hR⟩: ∃R,zb3 s.rest ks=R:=⟨_,rfl⟩;have HE:Hid (R=zcf s.rest (0+1) (ks.drop 0)):=by show _=_;rw[<-hR,List.drop_zero];rfl
 rw[hR];obtain⟨n,hn⟩: ∃n,ks.length=n:=⟨_,rfl⟩;have HN:=z2c hn;rw[hn]at h9 HR ⊢;clear hv hR hn h;go_enter Tryz.func144,Tryz.ntmps144;go_wp2_with fail
 go_loopw [5] (fun i wr=> ∃k:Nat,k<=n/\i= .int .i64 (k:Nat)/\Hid (R=zcf s.rest (k+1) (ks.drop k))/\wr=W) (fun i _=>n-(intOf i).toNat)
 case atStart=>exact⟨0,by omega,rfl,HE.out,rfl⟩
 case round=>
  clear HE;obtain⟨k,hk,rfl,HK,rfl⟩:=hrel;by_cases hlt:k<n
  ·have hkl:k<ks.length:=by rw[HN.out];exact hlt
   have hr9:Rd wr (.slice A ks.length c) ks.length 1 (ks.map ivN):=by rw[HN.out];exact HR.out
   obtain⟨b,o,rfl,hb,x0⟩:=Rd.atI hr9 k hkl;have HD:Hid (ks.drop k=ks[k]::ks.drop (k+1)):=z2m hkl;have HI:=z2c (show Calls z2f 142 #[.pointer (some ⟨B,0,none⟩),.int .i64 ((k:Int)+1),.int .i64 (ks[k]:Nat),.string ⟨#[]⟩] wr _ from zdd en B s wr HP.out (k+1) ks[k] []);generalize ks[k]=kd at*;clear hr9;cases hi:isR s.rest (k+1) kd []with
   |true=>
    rw[hi]at HI;have HT:Hid (R=zcf s.rest (k+1+1) (ks.drop (k+1))):=by show _=_;rw[HK.out,HD.out,zpw hi]
    clear HK HD hi;go_wp2_with(go_at_call 142;(with_reducible refine HI.out.mono ?_);rintro e w' ⟨rfl,rfl⟩)
    go_roundw
    case rel=>exact⟨k+1,by omega,by go_num,HT.out,by first|rfl|trivial⟩
    case measure=>simp[intOf];omega
   |false=>
    rw[hi]at HI;have HT:Hid (R=some (k+1)):=by show _=_;rw[HK.out,HD.out,zpv hi]
    clear HK HD hi;go_wp2_with(go_at_call 142;(with_reducible refine HI.out.mono ?_);rintro e w' ⟨rfl,rfl⟩)
    go_ret;exact⟨by rw[HT.out];simp[z1a],rfl⟩
  ·have hkn:k=n:=by omega
   have HT:Hid (R=if isR s.rest (n+1) 4 zbr then none else some (n+1)):=by
    show _=_;rw[HK.out,z2o (by rw[HN.out];omega),hkn];rfl
   have HI:=z2c (show Calls z2f 142 #[.pointer (some ⟨B,0,none⟩),.int .i64 ((n:Int)+1),.int .i64 4,.string ⟨#[59]⟩] wr _ from zdd en B s wr HP.out (n+1) 4 zbr);clear HK hkn;cases hi:isR s.rest (n+1) 4 zbr with
   |true=>
    rw[hi]at HI HT;have HT2:Hid (R=none):=HT.out;clear HT hi;go_wp2_with(go_at_call 142;(with_reducible refine HI.out.mono ?_);rintro e w' ⟨rfl,rfl⟩)
    go_ret;exact⟨by rw[HT2.out];rfl,rfl⟩
   |false=>
    rw[hi]at HI HT;have HT2:Hid (R=some (n+1)):=HT.out;clear HT hi;go_wp2_with(go_at_call 142;(with_reducible refine HI.out.mono ?_);rintro e w' ⟨rfl,rfl⟩)
    go_ret;exact⟨by rw[HT2.out];simp[z1a],rfl⟩
theorem znv {α:Type} {p:α->Bool} {q:List α} {k:Nat} (h:q.take k=(q.takeWhile p).take k) (hk:k<q.length) (hp:p q[k]=true) (hl:k<=(q.takeWhile p).length):k+1<=(q.takeWhile p).length:=by
 induction q generalizing k with
 |nil=>simp at hk
 |cons x r ih=>
  by_cases hx:p x=true
  ·rw[z3d hx]at h hl ⊢;cases k with
   |zero=>simp
   |succ k=>
    simp only[List.take_succ_cons,List.cons.injEq,true_and,z2i,List.getElem_cons_succ]at h hk hp hl ⊢;have:=ih h (by omega) hp (by omega);omega
  ·rw[z4d hx]at h hl ⊢;simp only[z28,Nat.le_zero]at hl;subst hl;exact absurd hp hx
theorem zkt {α:Type} {p:α->Bool} {q:List α} {k:Nat} (hl:k<=(q.takeWhile p).length) (hp: ∀h:k<q.length,p q[k]=false):(q.takeWhile p).length=k:=by
 induction q generalizing k with
 |nil=>simp at hl ⊢;omega
 |cons x r ih=>
  by_cases hx:p x=true
  ·rw[z3d hx]at hl ⊢;cases k with
   |zero=>have:=hp (by simp);simp at this;rw[hx]at this;cases this
   |succ k=>
    simp only[z2i]at hl ⊢;rw[ih (k:=k) (by omega) (fun h=>by have:=hp (by simp;omega);simpa using this)]
  ·rw[z4d hx]at hl ⊢;simp at hl ⊢;omega
theorem zgo {α:Type} (p:α->Bool) (q:List α) (k:Nat) (hl:k<=(q.takeWhile p).length):(q.takeWhile p).take k=q.take k:=by
 obtain⟨t,ht⟩:=List.takeWhile_prefix p (l:=q);conv=>rhs;rw[<-ht]
 rw[List.take_append_of_le_length hl]
theorem zfy (en B:Nat) (s:Ps) (W:World) (h:RPar en B s W) (b0:Nat) (h9:s.rest.length<=20000) (hb9:b0<=20000):
  Calls z2f 143 #[.pointer (some ⟨B,0,none⟩),.int .i64 b0] W fun e w'=> ∃v,e= .returned (.tuple #[v,.int .i64 (b0+(zaz s.rest b0).length:Nat)])/\w'.ownsRow W.heap.size 9 1 v (zaz s.rest b0).length ((zaz s.rest b0).map sv)/\Below W.heap.size W w':=by
 have hmx:=mxd;have HP:=z2c h;have hlt:=h.lt;obtain⟨Q,hQ⟩: ∃Q,(s.rest.drop b0).takeWhile (isP 1 [])=Q:=⟨_,rfl⟩;have hw:zaz s.rest b0=Q.map Lx.text:=by unfold zaz;rw[hQ]
 rw[hw,List.length_map];have hQl:Q.length<=s.rest.length-b0:=by rw[<-hQ];have:=(List.takeWhile_prefix (isP 1 []) (l:=s.rest.drop b0)).length_le;rw[List.length_drop]at this;exact this
 have HQ:=z2c hQ;clear hQ hw h;obtain⟨m,hm⟩: ∃m,Q.length=m:=⟨_,rfl⟩;have HM:=z2c hm;rw[hm]at hQl ⊢;clear hm;go_enter Tryz.func143,Tryz.ntmps143;go_wp2_with fail
 go_loopw [6,7] (fun v i wr=> ∃k i0:Nat,k<=m/\i= .int .i64 (i0:Nat)/\Hid (i0=b0+k)/\Hid (wr.ownsRow W.heap.size 9 1 v k ((Q.take k).map fun x=>sv x.text))/\Hid (Below W.heap.size W wr)) (fun _ i _=>b0+m-(intOf i).toNat)
 case atStart=>exact⟨0,b0,by omega,rfl,rfl,by show World.ownsRow _ _ _ _ _ _ _;exact World.ownsRow_nil _ _ _ _,by show Below _ _ _;exact bel⟩
 case round=>
  obtain⟨k,i0,hk,rfl,HI0,HO,HB⟩:=hrel;have hi9:i0<=40000:=by have:=HI0.out;omega
  have HPr:=z2c (HP.out.grown HB.out);have hsz:=HB.out.size;obtain⟨AL,cL,rfl,_⟩:=zah HO.out;have HI:=z2c (show Calls z2f 142 #[.pointer (some ⟨B,0,none⟩),.int .i64 (i0:Nat),.int .i64 1,.string ⟨#[]⟩] wr _ from zdd en B s wr HPr.out i0 1 []);have HIe:Hid (isR s.rest i0 1 []=za2 1 [] ((s.rest.drop b0).drop k)):=by show za2 1 (tsR []) (s.rest.drop i0)=_;rw[List.drop_drop,<-HI0.out];rfl
  cases hi:isR s.rest i0 1 []with
  |true=>
   have hlt2:i0<s.rest.length:=by
    rcases Nat.lt_or_ge i0 s.rest.length with h|h
    ·exact h
    ·rw[zm4 h]at hi;cases hi
   have hkq:k<(s.rest.drop b0).length:=by rw[List.length_drop];have:=HI0.out;omega
   have hpk:isP 1 [] (s.rest.drop b0)[k]=true:=by
    have:=HIe.out;rw[hi,z2m hkq]at this;exact this.symm
   have hk1:k+1<=m:=by
    rw[<-HM.out,<-HQ.out];refine znv ?_ hkq hpk ?_
    ·rw[zgo _ _ _ (by rw[HQ.out,HM.out];exact hk)]
    ·rw[HQ.out,HM.out];exact hk
   have hx:Q[k]'(by rw[HM.out];omega)=s.rest[i0]:=by
    have h1:Q[k]? =(s.rest.drop b0)[k]? :=by
     have h2:=zgo (isP 1 []) (s.rest.drop b0) (k+1) (by rw[HQ.out,HM.out];exact hk1);have h3:=congrArg (fun q=>q[k]?) h2;simp only[List.getElem?_take,Nat.lt_succ_self,if_true]at h3;rw[<-HQ.out];exact h3
    rw[z2q (by rw[HM.out];omega),z2q hkq]at h1;have h4:=Option.some.inj h1;rw[h4,List.getElem_drop];simp only[HI0.out]
   rw[hi]at HI;obtain⟨A,c,hc,_,A',c',he,_,hr,_⟩:=HPr.out.rest;cases he;obtain⟨b,off,rfl,hb,x0,x1,x2⟩:=Rd.lxAt hr i0 hlt2;have HTk:Hid ((Q.take (k+1)).map (fun x=>sv x.text)=(Q.take k).map (fun x=>sv x.text)++[.string ⟨s.rest[i0].text.toArray⟩]):=by
    show _=_;rw[List.take_succ_eq_append_getElem (by rw[HM.out];omega),List.map_append,hx];rfl
   generalize(⟨s.rest[i0].text.toArray⟩:ByteArray)=ts at*;generalize s.rest[i0].kind=xk at*;generalize s.rest[i0].at_=xa at*;obtain⟨N,hN⟩: ∃N,s.rest.length=N:=⟨_,rfl⟩;rw[hN]at hc hlt2 hr;clear hi HIe hx hpk hkq hr hN;go_wp2_with(first|(go_at_call 142;(with_reducible refine HI.out.mono ?_);rintro e w' ⟨rfl,rfl⟩)|(at_builtin;refine zar rfl _ _ 47 rfl sltS W.heap.size rfl (HO.out.alloc _) (by simp[go_sem]<;>omega) ⟨_,0,none⟩ 1 1 [.string ts] rfl rfl (zaf (c:= #[.string ts]) (by simp[go_sem])) (by simp[Value.oneCell']) (by unfold maxLen;omega) (by omega) ?_;intro v6 W6 ho6 hg6;have HO6:=z2c ho6;have HB6:=zaq (size:=1) hg6 (HO.out.alloc _) (HB.out.alloc hsz _);clear ho6 hg6))
   go_roundw
   case rel=>exact⟨k+1,i0+1,by omega,by go_num,by show _=_;have:=HI0.out;omega,by show World.ownsRow _ _ _ _ _ _ _;rw[HTk.out];exact HO6.out,HB6.out⟩
   case measure=>have:=HI0.out;simp[intOf];omega
  |false=>
   have hkm:m=k:=by
    rw[<-HM.out,<-HQ.out];refine zkt (by rw[HQ.out,HM.out];exact hk) (fun h=> ?_);have:=HIe.out;rw[hi,z2m h]at this;exact this.symm
   rw[hi]at HI;have HTk:Hid (Q.take k=Q):=List.take_of_length_le (by rw[HM.out];omega);subst hkm;clear hi HIe;go_wp2_with(go_at_call 142;(with_reducible refine HI.out.mono ?_);rintro e w' ⟨rfl,rfl⟩)
   go_ret2;rw[HTk.out]at HO;refine⟨.slice AL m cL,by rw[HI0.out];rfl, ?_,HB.out⟩;have:=HO.out;rw[List.map_map];exact this
end Go.Proofs.YtiikamobcmgekaaGreatDoor
