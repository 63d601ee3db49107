/- The walks of what is wrong with a policy; of what a tag has always. -/
import Derived.Lib.SliceRun
import Derived.Test.YtiikamobcmgekaaGreatDoorShelf
import Derived.WalkKit
import Derived.Maps.OwnOps
import Derived.Maps.OwnSet
import Derived.Maps.AppendAt
import Derived.StringKeys
import Derived.DeepKeys4
import Derived.BigRegion
import Derived.Deep.CutBlock
import Derived.Deep.DeepCutAuto
import Derived.Test.YtiikamobcmgekaaGreatDoorKB
import Derived.Test.YtiikamobcmgekaaGreatDoorPA
namespace Go.Proofs.YtiikamobcmgekaaGreatDoor
open Bool renaming and_eq_true→z2z
open Lib renaming hid→z2c
open List renaming any_cons→z3h,drop_eq_getElem_cons→z2m,drop_eq_nil_of_le→z2o,getElem?_eq_some_iff→z24,getElem_mem→z26,getElem_of_mem→z32,mem_append→z3g,mem_cons→z3n,mem_of_getElem?→z53,mem_singleton→z23,not_mem_nil→z5p,pairwise_iff_getElem→z4f
open Nat renaming le_trans→z2j,lt_of_lt_of_le→z2g
open Tryz renaming prog→z2f,underlying101→z6d
set_option maxRecDepth 100000
set_option maxHeartbeats 6400000
open Go.RowKit
open Go.ChangeMaps Go.MapKept
open Go.WideMaps (KeyLaw)
section
variable {P:Program} {k e t:TypeId} {W:World} {b clock:Nat} {es:Array MapEntry} {key val:Value} {kl:Lit}
theorem ziz (K:KeyLaw P k) (ht:P.underlying t=some (.map k e)) {z:Value} (hz:(zeroValue e).run P W= .ok z W) (hb:W.heap[b]? =some (.map es clock)) (hks: ∀x∈es.toList,∃l,keyOf P k x.key=some l) (hkey:keyOf P k key=some kl):
  ((∀x∈es.toList,x.key≠key)/\(Instr.lookup t (.map (some b)) key true).run P W= .ok (.tuple #[z,.bool false]) W/\(Instr.lookup t (.map (some b)) key false).run P W= .ok z W)\/
  ∃x∈es.toList,x.key=key/\(Instr.lookup t (.map (some b)) key true).run P W= .ok (.tuple #[x.val,.bool true]) W/\(Instr.lookup t (.map (some b)) key false).run P W= .ok x.val W:=by
 rcases K.find W hkey es.toList hks with⟨h1,h2⟩|⟨j,e0,h1,h2,h3⟩
 ·exact .inl ⟨h2,by simp[Instr.lookup,run_underlying ht,MapKept.run_getObj_map hb,K.check W _ hkey,h1,hz,Result.andThen],by simp[Instr.lookup,run_underlying ht,MapKept.run_getObj_map hb,K.check W _ hkey,h1,hz,Result.andThen]⟩
 ·exact .inr ⟨e0,z53 h2,h3,by simp[Instr.lookup,run_underlying ht,MapKept.run_getObj_map hb,K.check W _ hkey,h1,Result.andThen],by simp[Instr.lookup,run_underlying ht,MapKept.run_getObj_map hb,K.check W _ hkey,h1,Result.andThen]⟩
theorem zo2 (K:KeyLaw P k) (ht:P.underlying t=some (.map k e)) (hb:W.heap[b]? =some (.map es clock)) (hks: ∀x∈es.toList,∃l,keyOf P k x.key=some l) (hkey:keyOf P k key=some kl):
  ∃es' clock',(Instr.mapUpdate t (.map (some b)) key val).run P W= .ok () (setBlock W b (.map es' clock'))/\
   (((∀x∈es.toList,x.key≠key)/\ ∃n,es'.toList=es.toList++[⟨key,val,n⟩])\/ ∃(j:Nat) (e0:MapEntry),es.toList[j]? =some e0/\e0.key=key/\es'.toList=es.toList.set j {e0 with key:=key,val:=val}):=by
 rcases K.find W hkey es.toList hks with⟨h1,h2⟩|⟨j,e0,h1,h2,h3⟩
 ·exact⟨es.push ⟨key,val,clock⟩,clock+1,by simp[Instr.mapUpdate,run_underlying ht,MapKept.run_getObj_map hb,K.check W false hkey,h1,MapKept.run_setObj_map _ hb,Result.andThen,setBlock],.inl ⟨h2,clock,by simp⟩⟩
 ·have hj:es[j]? =some e0:=by simpa using h2
  exact⟨es.modify j (fun e'=>{e' with key:=key,val:=val}),clock,by simp[Instr.mapUpdate,run_underlying ht,MapKept.run_getObj_map hb,K.check W false hkey,h1,hj,h3,K.stays W hkey,MapKept.run_setObj_map _ hb,Result.andThen,setBlock],.inr ⟨j,e0,h2,h3,by rw[Array.toList_modify,modify_eq_set _ _ _ _ h2]⟩⟩
theorem zn3 (hb:W.heap[b]? =some (.map es clock)) (o:Obj):W.grownBy (setBlock W b o) (some b):=
 ⟨rfl,rfl,rfl,by simp[setBlock],fun i _ hi=>heap_setBlock_other hb _ (fun e1=>hi (by rw[e1]))⟩
def zcn (P:Program) (k:TypeId) (W:World) (b:Nat) (ks:List Value):Prop:= ∃es clock,W.heap[b]? =some (.map es clock)/\(∀x∈es.toList,x.val= .agg #[])/\(∀x∈es.toList,∃l,keyOf P k x.key=some l)/\ ∀v,(∃x∈es.toList,x.key=v)↔v∈ks
theorem zcn.new {ks:List Value} (h:W.heap[b]? =some (.map #[] 0)) (hk:ks=[]):zcn P k W b ks:=⟨#[],0,h,by simp,by simp,by simp[hk]⟩
theorem zcn.kept {ks:List Value} {W':World} (h:zcn P k W b ks) (hb:W'.heap[b]? =W.heap[b]?):zcn P k W' b ks:=by
 obtain⟨es,c,h1,h2⟩:=h;exact⟨es,c,hb.trans h1,h2⟩
theorem zcn.lt {ks:List Value} (h:zcn P k W b ks):b<W.heap.size:=by
 obtain⟨es,c,h1,_⟩:=h;exact(Array.getElem?_eq_some_iff.1 h1).1
theorem zcn.below {ks:List Value} {W':World} (h:zcn P k W b ks) (hb:Below W.heap.size W W'):zcn P k W' b ks:=h.kept (hb.block b h.lt)
theorem zcn.look {ks:List Value} (h:zcn P k W b ks) (K:KeyLaw P k) (ht:P.underlying t=some (.map k e)) (hz:(zeroValue e).run P W= .ok (.agg #[]) W) (hkey:keyOf P k key=some kl) {B:Bool} (hB:B=true↔key∈ks):
  (Instr.lookup t (.map (some b)) key true).run P W= .ok (.tuple #[.agg #[],.bool B]) W:=by
 obtain⟨es,c,h1,h2,h3,h4⟩:=h;rcases ziz K ht hz h1 h3 hkey with⟨h5,h6,_⟩|⟨x,hx,h5,h6,_⟩
 ·have:B=false:=by
   cases B
   ·rfl
   ·obtain⟨x,hx,e1⟩:=(h4 key).2 (hB.1 rfl);exact absurd e1 (h5 x hx)
  rw[h6,this]
 ·have:B=true:=hB.2 ((h4 key).1 ⟨x,hx,h5⟩);rw[h6,this,h2 x hx]
theorem zcn.put {ks:List Value} (h:zcn P k W b ks) (K:KeyLaw P k) (ht:P.underlying t=some (.map k e)) (hkey:keyOf P k key=some kl):
  ∃W',(Instr.mapUpdate t (.map (some b)) key (.agg #[])).run P W= .ok () W'/\zcn P k W' b (ks++[key])/\W.grownBy W' (some b):=by
 obtain⟨es,c,h1,h2,h3,h4⟩:=h;obtain⟨es',c',h5,h6⟩:=zo2 (val:= .agg #[]) K ht h1 h3 hkey;refine⟨_,h5,⟨es',c',heap_setBlock_same h1 _, ?_⟩,zn3 h1 _⟩;rcases h6 with⟨_,n,e1⟩|⟨j,e0,hj,ek,e1⟩
 ·rw[e1];refine⟨?_, ?_,fun v=> ?_⟩
  ·intro x hx;rcases z3g.1 hx with hx|hx
   ·exact h2 x hx
   ·rw[z23.1 hx]
  ·intro x hx;rcases z3g.1 hx with hx|hx
   ·exact h3 x hx
   ·rw[z23.1 hx];exact⟨_,hkey⟩
  ·rw[z3g,z23,<-h4 v];constructor
   ·rintro⟨x,hx,e2⟩;rcases z3g.1 hx with hx|hx
    ·exact .inl ⟨x,hx,e2⟩
    ·rw[z23.1 hx]at e2;exact .inr e2.symm
   ·rintro(⟨x,hx,e2⟩|e2)
    ·exact⟨x,z3g.2 (.inl hx),e2⟩
    ·exact⟨_,z3g.2 (.inr (z23.2 rfl)),e2.symm⟩
 ·have hsame:es'.toList=es.toList:=by
   rw[e1];have he0:({e0 with key:=key,val:= .agg #[]}:MapEntry)=e0:=by
    have:=h2 e0 (z53 hj);cases e0;simp only at this ek;subst this ek;rfl
   rw[he0];apply List.ext_getElem?;intro i;rw[List.getElem?_set];split
   ·next hi=>subst hi;rw[hj,if_pos (z24.1 hj).1]
   ·rfl
  rw[hsame];refine⟨h2,h3,fun v=> ?_⟩;rw[h4 v,z3g,z23];constructor
  ·exact .inl
  ·rintro(h|h)
   ·exact h
   ·rw[h];exact(h4 key).1 ⟨e0,z53 hj,ek⟩
end
theorem zld {P:Program} {k e:TypeId} {w:World} {ops:Array Oper} {rest:List Oper} {o:Oper} {a:Act} {Q:Exit->Act->World->Prop} (hg:o.guard=none) (m x v:Operand) (t:TypeId) (hop:o.op=Op.mapUpdate t m x v)
  (b:Nat) (ks:List Value) (h:zcn P k w b ks) (K:KeyLaw P k) (ht:P.underlying t=some (.map k e)) (hm:a.eval m= .map (some b)) {key:Value} {kl:Lit} (hx:a.eval x=key) (hv:a.eval v= .agg #[]) (hkey:keyOf P k key=some kl)
  (hK: ∀w',zcn P k w' b (ks++[key])->w.grownBy w' (some b)->wpList P ops Q rest (a.put o.dst undef) w'):wpList P ops Q (o::rest) a w:=by
 refine wpList_plain hg fun K' hK'=> ?_;obtain⟨w',hrun,r1,r2⟩:=h.put K ht hkey;unfold Oper.wp;simp[execOp,hop,hm,hx,hv,hrun,Result.andThen];exact hK' _ _ (hK w' r1 r2)
theorem zsw {B b:Nat} {a w w':World} (h:Below B a w) (hg:w.grownBy w' (some b)) (hb:B<=b) (hB:B<=w.heap.size):Below B a w':=
 h.trans ⟨hg.os,hg.tape,hg.output,hg.size,fun j hj=>hg.block j (by omega) (fun e=>by have:=Option.some.inj e;omega)⟩
theorem zks {P:Program} {W:World} {o:Oper} {a:Act} {K:Act->World->Prop} {Q:Exit->Act->World->Prop} (s x:Operand) (t:TypeId)
  (ho:o.op= .call {callee:= .builtin .append,args:= #[s,x],argTypes:= #[t,t]})
  {e:TypeId} {z:Value} {size bytes:Nat} (row:SlT P t e z size bytes) (base:Nat) {v:Value} {n:Nat} {xs:List Value} (hs:a.eval s=v) (hown:W.ownsRow base e size v n xs)
  (hb:base<=W.heap.size) (ad:Addr) (m c:Nat) (news:List Value) (hx:a.eval x= .slice (some ad) m c) (hl:news.length=m*size)
  (hnews: ∀j u,news[j]? =some u->W.cell? (ad.add j)=some u) (h1: ∀u∈news,u.oneCell'=true) (h63:n+m<=maxLen) (hbytes:(n+m)*bytes<=140737488355328)
  (h: ∀v' W',W'.ownsRow base e size v' (n+m) (xs++news)->W.grownBy W' v.ownBlock->(v'.ownBlock=v.ownBlock\/v'.ownBlock=some W.heap.size)->K (a.put o.dst v') W'):o.wp P a W K Q:=by
 obtain⟨i,hi,hz0,hz1,hz2⟩:=info_parts row.hi;obtain⟨v',w',hr,h2,h3,_,h5⟩:=run_append_own_at (P:=P) W base t o.type e i z size bytes row.ht hi hz0 hz1 hz2 row.hzs row.hsz v n xs hown ad m c news hl hnews h1 h63 hbytes hb;unfold Oper.wp execOp;simp only[ho,resolve,invoke,builtin,Sem.run_bind,Sem.run_pure,Result.andThen_ok,List.map_toArray,List.map_cons,List.map_nil,hs,hx,hr];exact h v' w' h2 h3 h5
theorem zij {P:Program} {w:World} {ops:Array Oper} {rest:List Oper} {o:Oper} {a:Act} {Q:Exit->Act->World->Prop} (hg:o.guard=none) (m x v:Operand) (t:TypeId) (hop:o.op=Op.mapUpdate t m x v)
  {mv key val:Value} {w':World} (hm:a.eval m=mv) (hx:a.eval x=key) (hv:a.eval v=val) (hrun:(Instr.mapUpdate t mv key val).run P w= .ok () w') (hK:wpList P ops Q rest (a.put o.dst undef) w'):wpList P ops Q (o::rest) a w:=by
 refine wpList_plain hg fun K' hK'=> ?_;unfold Oper.wp;simp[execOp,hop,hm,hx,hv,hrun,Result.andThen];exact hK' _ _ hK
section
variable {P:Program} {k e t tA:TypeId} {W:World} {b base size:Nat} {α:Type} {kf:α->Bs} {cells:α->List Value}
def grpL (kf:α->Bs) (l:List α) (u:Bs):List α:=l.filter fun x=>decide (kf x=u)
theorem zso (l:List α) (x:α) (u:Bs):grpL kf (l++[x]) u=if kf x=u then grpL kf l u++[x]else grpL kf l u:=by
 unfold grpL;rw[List.filter_append];by_cases h:kf x=u
 ·rw[if_pos h,List.filter_cons_of_pos (by simp[h]),List.filter_nil]
 ·rw[if_neg h,List.filter_cons_of_neg (by simp[h]),List.filter_nil,List.append_nil]
structure z0x (P:Program) (k tA:TypeId) (size:Nat) (kf:α->Bs) (cells:α->List Value) (W:World) (base:Nat) (l:List α) (es:List MapEntry):Prop where
 keys: ∀x∈es,∃l,keyOf P k x.key=some l
 rows: ∀x∈es,∃u,x.key=sv u/\grpL kf l u≠[]/\W.ownsRow base tA size x.val (grpL kf l u).length ((grpL kf l u).flatMap cells)
 all: ∀u,grpL kf l u≠[]-> ∃x∈es,x.key=sv u
 apart:es.Pairwise fun x y=>x.key≠y.key/\ ∀g,x.val.ownBlock=some g->y.val.ownBlock≠some g
def GrpM (P:Program) (k tA:TypeId) (size:Nat) (kf:α->Bs) (cells:α->List Value) (W:World) (b base:Nat) (l:List α):Prop:=b<base/\ ∃es clock,W.heap[b]? =some (.map es clock)/\z0x P k tA size kf cells W base l es.toList
theorem zv5 {a c:Bs} (h:sv a=sv c):a=c:=by
 have h1:=congrArg (fun v=>match v with| .string s=>s.data.toList|_=>[]) h;simpa[sv]using h1
theorem GrpM.new (h:W.heap[b]? =some (.map #[] 0)) (hb:b<base):GrpM P k tA size kf cells W b base []:=⟨hb,#[],0,h,⟨by simp,by simp,fun u h=>absurd rfl h,by simp⟩⟩
theorem GrpM.lt {l:List α} (h:GrpM P k tA size kf cells W b base l):b<W.heap.size:=by
 obtain⟨_,es,c,h1,_⟩:=h;exact(Array.getElem?_eq_some_iff.1 h1).1
theorem z0x.grown {l:List α} {es:List MapEntry} {W':World} (h:z0x P k tA size kf cells W base l es) (hg:W.grownBy W' none):z0x P k tA size kf cells W' base l es:=
 ⟨h.keys,fun x hx=>by obtain⟨u,h1,h2,h3⟩:=h.rows x hx;exact⟨u,h1,h2,h3.kept hg (Classical.em _)⟩,h.all,h.apart⟩
theorem GrpM.grown {l:List α} {W':World} (h:GrpM P k tA size kf cells W b base l) (hg:W.grownBy W' none):GrpM P k tA size kf cells W' b base l:=by
 have hl:=h.lt;obtain⟨h0,es,c,h1,h2⟩:=h;exact⟨h0,es,c,(hg.block b hl (by simp)).trans h1,h2.grown hg⟩
theorem GrpM.below {l:List α} {W':World} (h:GrpM P k tA size kf cells W b base l) (hb:Below W.heap.size W W'):GrpM P k tA size kf cells W' b base l:=
 h.grown ⟨hb.os,hb.tape,hb.output,hb.size,fun i hi _=>hb.block i hi⟩
theorem GrpM.look {l:List α} (h:GrpM P k tA size kf cells W b base l) (_hn: ∀x,(cells x).length=size) (K:KeyLaw P k) (ht:P.underlying t=some (.map k e)) (hz: ∀W',(zeroValue e).run P W'= .ok (.slice none 0 0) W') (u:Bs) {kl:Lit} (hkey:keyOf P k (sv u)=some kl):
  ∃v,(∀W':World,W'.heap[b]? =W.heap[b]? ->(Instr.lookup t (.map (some b)) (sv u) false).run P W'= .ok v W')/\W.ownsRow base tA size v (grpL kf l u).length ((grpL kf l u).flatMap cells)/\
   ∀(x:α) (v':Value) (W1:World),kf x=u->W1.ownsRow base tA size v' ((grpL kf l u).length+1) ((grpL kf l u).flatMap cells++cells x)->W.grownBy W1 v.ownBlock->(v'.ownBlock=v.ownBlock\/ ∃g,v'.ownBlock=some g/\W.heap.size<=g)->
    ∃W2,(Instr.mapUpdate t (.map (some b)) (sv u) v').run P W1= .ok () W2/\GrpM P k tA size kf cells W2 b base (l++[x])/\W1.grownBy W2 (some b):=by
 have hlt:=h.lt;obtain⟨h0,es,c,h1,h2⟩:=h;have hflat: ∀x,(grpL kf l u++[x]).flatMap cells=(grpL kf l u).flatMap cells++cells x:=fun x=>by rw[List.flatMap_append,List.flatMap_cons,List.flatMap_nil,List.append_nil]
 have step: ∀v,W.ownsRow base tA size v (grpL kf l u).length ((grpL kf l u).flatMap cells)->(∀y∈es.toList,y.key≠sv u-> ∀g,v.ownBlock=some g->y.val.ownBlock≠some g)->
   ∀(x:α) (v':Value) (W1:World),kf x=u->W1.ownsRow base tA size v' ((grpL kf l u).length+1) ((grpL kf l u).flatMap cells++cells x)->W.grownBy W1 v.ownBlock->(v'.ownBlock=v.ownBlock\/ ∃g,v'.ownBlock=some g/\W.heap.size<=g)->
    ∃W2,(Instr.mapUpdate t (.map (some b)) (sv u) v').run P W1= .ok () W2/\GrpM P k tA size kf cells W2 b base (l++[x])/\W1.grownBy W2 (some b):=by
  intro v hv hap x v' W1 hx hv' hg hat;have hvb:v.ownBlock≠some b:=fun e1=>by have:=(hv.lt b e1).1;omega
  have hb1:W1.heap[b]? =some (.map es c):=(hg.block b hlt (fun e1=>hvb e1.symm)).trans h1;obtain⟨es',c',h5,h6⟩:=zo2 (val:=v') K ht hb1 h2.keys hkey;have hg2:=zn3 hb1 (.map es' c');refine⟨_,h5,⟨h0,es',c',heap_setBlock_same hb1 _, ?_⟩,hg2⟩;have hgx:grpL kf (l++[x]) u=grpL kf l u++[x]:=by rw[zso,if_pos hx]
  have hgo: ∀u',u'≠u->grpL kf (l++[x]) u'=grpL kf l u':=fun u' hu=>by rw[zso,if_neg (by rw[hx];exact fun e1=>hu e1.symm)]
  have hnew:(setBlock W1 b (.map es' c')).ownsRow base tA size v' (grpL kf (l++[x]) u).length ((grpL kf (l++[x]) u).flatMap cells):=by
   rw[hgx,hflat,List.length_append];refine hv'.kept hg2 (.inr fun e1=> ?_);have:=(hv'.lt b e1).1;omega
  have hold: ∀y∈es.toList,y.key≠sv u-> ∃u',y.key=sv u'/\grpL kf (l++[x]) u'≠[]/\(setBlock W1 b (.map es' c')).ownsRow base tA size y.val (grpL kf (l++[x]) u').length ((grpL kf (l++[x]) u').flatMap cells):=by
   intro y hy hyk;obtain⟨u',e1,e2,e3⟩:=h2.rows y hy;have hu:u'≠u:=fun e4=>hyk (by rw[e1,e4]);refine⟨u',e1,by rw[hgo u' hu];exact e2, ?_⟩;rw[hgo u' hu];refine(e3.kept hg (.inr fun e4=> ?_)).kept hg2 (.inr fun e4=> ?_)
   ·cases hvo:v.ownBlock with
    |none=>
     rw[hvo]at e4;obtain⟨_,hc⟩:=e3;rcases hc with⟨_,hc⟩|⟨g,cap,cur,hc,_⟩
     ·exact e2 (List.length_eq_zero_iff.1 hc)
     ·rw[hc]at e4;cases e4
    |some g=>exact hap y hy hyk g hvo (by rw[e4,hvo])
   ·have:=(e3.lt b e4).1;omega
  have hap': ∀y∈es.toList,y.key≠sv u-> ∀g,v'.ownBlock=some g->y.val.ownBlock≠some g:=by
   intro y hy hyk g hg' hy';obtain⟨u',e1,e2,e3⟩:=h2.rows y hy;rcases hat with e4|⟨g2,e4,e5⟩
   ·exact hap y hy hyk g (by rw[<-e4];exact hg') hy'
   ·rw[hg']at e4;cases e4;have:=(e3.lt g hy').2;omega
  rcases h6 with⟨hno,n,e1⟩|⟨j,e0,hj,ek,e1⟩
  ·rw[e1];refine⟨?_, ?_, ?_, ?_⟩
   ·intro y hy;rcases z3g.1 hy with hy|hy
    ·exact h2.keys y hy
    ·rw[z23.1 hy];exact⟨_,hkey⟩
   ·intro y hy;rcases z3g.1 hy with hy|hy
    ·exact hold y hy (hno y hy)
    ·rw[z23.1 hy];exact⟨u,rfl,by rw[hgx];simp,hnew⟩
   ·intro u' hu';by_cases hu:u'=u
    ·exact⟨_,z3g.2 (.inr (z23.2 rfl)),by rw[hu]⟩
    ·rw[hgo u' hu]at hu';obtain⟨y,hy,e2⟩:=h2.all u' hu';exact⟨y,z3g.2 (.inl hy),e2⟩
   ·refine List.pairwise_append.2 ⟨h2.apart,List.pairwise_singleton _ _,fun y hy z hz=> ?_⟩;rw[z23.1 hz];exact⟨hno y hy,fun g hg1 hg2=>hap' y hy (hno y hy) g hg2 hg1⟩
  ·rw[e1];have hjl:j<es.toList.length:=(z24.1 hj).1;have hpw:=z4f.1 h2.apart;have hej:es.toList[j]=e0:=(z24.1 hj).2;have hne: ∀i (hi:i<es.toList.length),i≠j->es.toList[i].key≠sv u:=by
    intro i hi hij e2;rcases Nat.lt_or_gt_of_ne hij with h7|h7
    ·have:=(hpw i j hi hjl h7).1;rw[hej,e2,ek]at this;exact this rfl
    ·have:=(hpw j i hjl hi h7).1;rw[hej,e2,ek]at this;exact this rfl
   have who: ∀y∈es.toList.set j {e0 with key:=sv u,val:=v'},y={e0 with key:=sv u,val:=v'}\/(y∈es.toList/\y.key≠sv u):=by
    intro y hy;obtain⟨i,hi,ex⟩:=z32 hy;rw[List.getElem_set]at ex;split at ex
    ·exact Or.inl ex.symm
    ·rename_i hij;have hi':i<es.toList.length:=by simpa using hi
     exact Or.inr ⟨ex ▸ z26 hi',ex ▸ hne i hi' (fun e2=>hij e2.symm)⟩
   refine⟨?_, ?_, ?_, ?_⟩
   ·intro y hy;rcases who y hy with rfl|⟨hy,_⟩
    ·exact⟨_,hkey⟩
    ·exact h2.keys y hy
   ·intro y hy;rcases who y hy with rfl|⟨hy,hk⟩
    ·exact⟨u,rfl,by rw[hgx];simp,hnew⟩
    ·exact hold y hy hk
   ·intro u' hu';by_cases hu:u'=u
    ·exact⟨_,List.mem_set hjl _,by rw[hu]⟩
    ·rw[hgo u' hu]at hu';obtain⟨y,hy,e2⟩:=h2.all u' hu';obtain⟨i,hi,ex⟩:=z32 hy;have hij:i≠j:=fun e3=>by
      subst e3;rw[hej]at ex;rw[<-ex,ek]at e2;exact hu (zv5 e2).symm
     refine⟨y, ?_,e2⟩;rw[<-ex];have:=z26 (l:=es.toList.set j {e0 with key:=sv u,val:=v'}) (n:=i) (by simpa using hi);rwa[List.getElem_set_ne (fun e3=>hij e3.symm)]at this
   ·refine z4f.2 fun i i2 hi hi2 hlt2=> ?_;have hi':i<es.toList.length:=by simpa using hi
    have hi2':i2<es.toList.length:=by simpa using hi2
    rw[List.getElem_set,List.getElem_set];by_cases hij:j=i
    ·subst hij;rw[if_pos rfl,if_neg (by omega)];have hk:=hne i2 hi2' (by omega);exact⟨fun e2=>hk e2.symm,fun g hg1 hg2=>hap' _ (z26 hi2') hk g hg1 hg2⟩
    ·by_cases hij2:j=i2
     ·subst hij2;rw[if_neg hij,if_pos rfl];have hk:=hne i hi' (by omega);exact⟨hk,fun g hg1 hg2=>hap' _ (z26 hi') hk g hg2 hg1⟩
     ·rw[if_neg hij,if_neg hij2];exact hpw i i2 hi' hi2' hlt2
 have one: ∀y∈es.toList,∀z∈es.toList,y.key=z.key->y=z:=by
  intro y hy z hz' hk;have hpw:=z4f.1 h2.apart;obtain⟨i,hi,ex⟩:=z32 hy;obtain⟨i2,hi2,ex2⟩:=z32 hz';rcases Nat.lt_trichotomy i i2 with h7|h7|h7
  ·have:=(hpw i i2 hi hi2 h7).1;rw[ex,ex2]at this;exact absurd hk this
  ·subst h7;exact ex.symm.trans ex2
  ·have:=(hpw i2 i hi2 hi h7).1;rw[ex,ex2]at this;exact absurd hk.symm this
 rcases ziz K ht (hz W) h1 h2.keys hkey with⟨h5,_,_⟩|⟨y,hy,h5,_,_⟩
 ·have hem:grpL kf l u=[]:=by
   cases hg:grpL kf l u with
   |nil=>rfl
   |cons x r=>
    obtain⟨y,hy,e2⟩:=h2.all u (by rw[hg];exact List.cons_ne_nil _ _);exact absurd e2 (h5 y hy)
  have hv:W.ownsRow base tA size (.slice none 0 0) (grpL kf l u).length ((grpL kf l u).flatMap cells):=by rw[hem];exact World.ownsRow_nil _ _ _ _
  refine⟨_,fun W' hb'=> ?_,hv,step _ hv fun y _ _ g hg=>(by cases hg)⟩;rcases ziz K ht (hz W') (hb'.trans h1) h2.keys hkey with⟨_,_,h6⟩|⟨y,hy,h6,_,_⟩
  ·exact h6
  ·exact absurd h6 (h5 y hy)
 ·obtain⟨u',e1,e2,e3⟩:=h2.rows y hy;have hu:u'=u:=zv5 (e1.symm.trans h5);subst hu;refine⟨y.val,fun W' hb'=> ?_,e3,step _ e3 fun z hz hk g hg hg'=> ?_⟩
  ·rcases ziz K ht (hz W') (hb'.trans h1) h2.keys hkey with⟨h6,_,_⟩|⟨y2,hy2,h6,_,h7⟩
   ·exact absurd h5 (h6 y hy)
   ·rw[h7,one y2 hy2 y hy (h6.trans h5.symm)]
  have hpw:=z4f.1 h2.apart;obtain⟨i,hi,ex⟩:=z32 hy;obtain⟨i2,hi2,ex2⟩:=z32 hz;rcases Nat.lt_trichotomy i i2 with h7|h7|h7
  ·have:=(hpw i i2 hi hi2 h7).2 g;rw[ex,ex2]at this;exact this hg hg'
  ·subst h7;rw[ex]at ex2;exact hk (by rw[<-ex2];exact h5)
  ·have:=(hpw i2 i hi2 hi h7).2 g;rw[ex,ex2]at this;exact this hg' hg
end
open Go.RowKit
section
variable {P:Program} {ops:Array Oper} {md:Region.Mode} {Q:Exit->Act->World->Prop} {S:World->Prop}
def nots (is:List Nat):List (Nat × Bool):=is.map fun i=>(i,false)
def wpFl (P:Program) (ops:Array Oper) (Q:Exit->Act->World->Prop) (S:World->Prop) (L:Act->World->Prop) (j:Nat):List Nat->Act->World->Prop
 |[],a,w=>wpOp P ops Q j (fun a' w'=>S w'/\L a' w') a w
 |i::is,a,w=>wpOp P ops Q i (fun a' w'=>S w'/\wpFl P ops Q S L j is a' w') a w/\wpOp P ops Q j (fun a' w'=>S w'/\zbq P ops Q S L (nots (i::is)) a' w') a w
def flB (md:Region.Mode) (ops:Array Oper) (n g j:Nat):List Nat->Array Bool->Bool
 |[],listed=>decide (j<n)&&decide (Region.ready md ops listed=[j])&&rowB md ops n g [] (listed.setIfInBounds j true)
 |i::is,listed=>decide (i<n)&&decide (j<n)&&((Region.ready md ops listed).all (fun x=>x==i||x==j)&& !(Region.ready md ops listed).isEmpty)&&(flB md ops n g j is (listed.setIfInBounds i true)&&rowB md ops n g (nots (i::is)) (listed.setIfInBounds j true))
theorem zle {n g j:Nat} {L:Act->World->Prop} (hsel:Region.noSelect ops=true) (hs:Region.sinkB md ops n=true) (hc:Region.chainB md ops n=true) (hn:n<ops.size)
  (hQ: ∀c a d v w,Q (.panic c) (a.put d v) w->Q (.panic c) a w):
  ∀(is:List Nat) (listed:Array Bool) (a:Act) (w:World),HeadInv md ops n listed->flB md ops n g j is listed=true->S w->wpFl P ops Q S L j is a w->
   zgs P md ops Q S n (fun listed' a' w'=>Region.seqB md ops g n listed'=true/\L a' w') (is.length+1) listed a w
 |[],listed,a,w,inv,hB,hS,h=>by
  simp only[flB,z2z,decide_eq_true_eq]at hB;obtain⟨⟨hjn,hr⟩,hB⟩:=hB;refine⟨by rw[hr];simp,fun x hx=> ?_⟩;have hxj:x=j:=by rw[hr]at hx;simpa using hx
  subst hxj;exact⟨hjn,wpOp_mono (fun a' w' h'=>⟨h'.1,hB,h'.2⟩) h⟩
 |i::is,listed,a,w,inv,hB,hS,h=>by
  simp only[flB,z2z,decide_eq_true_eq,List.all_eq_true,Bool.or_eq_true,beq_iff_eq,Bool.not_eq_true',List.isEmpty_eq_false_iff]at hB;obtain⟨⟨⟨hin,hjn⟩,hall,hne⟩,hB1,hB2⟩:=hB;refine⟨hne,fun x hx=> ?_⟩;rcases hall x hx with rfl|rfl
  ·exact⟨hin,wpOp_mono (fun a' w' h'=>⟨h'.1,zle hsel hs hc hn hQ is _ _ _ (inv.set hx hin) hB1 h'.1 h'.2⟩) h.1⟩
  ·refine⟨hjn,wpOp_mono (fun a' w' h'=>⟨h'.1, ?_⟩) h.2⟩;have:=zfc hsel hs hc hn hQ (nots (i::is)) _ a' w' (inv.set hx hjn) hB2 h'.1 h'.2;simpa[nots]using this
def zi5 (P:Program) (ops:Array Oper) (Q:Exit->Act->World->Prop) (S:World->Prop) (L:Act->World->Prop) (j:Nat) (is:List Nat):List Nat->Act->World->Prop
 |[],a,w=>wpFl P ops Q S L j is a w
 |i::rs,a,w=> ∃o v,ops[i]? =some o/\YieldsIf P ops S o v a/\zi5 P ops Q S L j is rs (a.put o.dst v) w
def zwx (md:Region.Mode) (ops:Array Oper) (n g j:Nat) (is:List Nat):List Nat->Array Bool->Bool
 |[],listed=>flB md ops n g j is listed
 |i::rs,listed=>decide (i<n)&&Region.free md ops listed i&&(Region.ready md ops listed).contains i&&zwx md ops n g j is rs (listed.setIfInBounds i true)
theorem zid {n g j:Nat} {L:Act->World->Prop} (is:List Nat) (hsel:Region.noSelect ops=true) (hs:Region.sinkB md ops n=true) (hc:Region.chainB md ops n=true) (hn:n<ops.size)
  (hQ: ∀c a d v w,Q (.panic c) (a.put d v) w->Q (.panic c) a w):
  ∀(rs:List Nat) (listed:Array Bool) (a:Act) (w:World),HeadInv md ops n listed->zwx md ops n g j is rs listed=true->S w->zi5 P ops Q S L j is rs a w->
   zgs P md ops Q S n (fun listed' a' w'=>Region.seqB md ops g n listed'=true/\L a' w') (rs.length+(is.length+1)) listed a w
 |[],listed,a,w,inv,hB,hS,h=>by
  rw[List.length_nil,Nat.zero_add];exact zle hsel hs hc hn hQ is listed a w inv hB hS h
 |i::rs,listed,a,w,inv,hB,hS,h=>by
  simp only[zwx,z2z,decide_eq_true_eq]at hB;obtain⟨⟨⟨hin,hf⟩,hr⟩,hB⟩:=hB;have hr:i∈Region.ready md ops listed:=by simpa using hr
  obtain⟨o,v,ho,hy,h⟩:=h;rw[List.length_cons,show rs.length+1+(is.length+1)=rs.length+(is.length+1)+1 by omega];exact zg0 ho (Region.noSelect_spec hsel) (fun c a w=>hQ c a _ _ w) hs hc hn hin (fun listed' a' w' hL=>seqB_ready hL.1) _ listed a w inv (Region.free_spec ho hf) hr hy hS
   (zid is hsel hs hc hn hQ rs _ _ _ (inv.set hr hin) hB hS h)
theorem zsy {n j:Nat} {l:List Oper} {is rs:List Nat} {L:Act->World->Prop} {a:Act} {w:World} (hsel:Region.noSelect l.toArray=true) (hs:Region.sinkB md l.toArray n=true) (hc:Region.chainB md l.toArray n=true) (hn:n<l.length) (hlen:rs.length+(is.length+1)=n)
  (hQ: ∀c a d v w,Q (.panic c) (a.put d v) w->Q (.panic c) a w) (hB:zwx md l.toArray n (l.length-n) j is rs (Array.replicate l.length false)=true) (hS:S w)
  (hL: ∀a' w',L a' w'->wpList P l.toArray Q (l.drop n) a' w')
  (h:zi5 P l.toArray Q S L j is rs a w):wpAny P md l.toArray Q l.length (Array.replicate l.length false) a w:=by
 have inv0:HeadInv md l.toArray n (Array.replicate l.length false):=
  ⟨by simp,fun j oj _ hl=>(by rw[getD_replicate_false]at hl;cases hl),fun t _ ht=>getD_in (by simpa using ht) (getD_replicate_false _ _)⟩
 have H:=zid (g:=l.length-n) is hsel hs hc (by simpa using hn) hQ rs _ a w inv0 hB hS h;have:=ze0 (g:=l.length-n) (fun listed a' w' hL'=>by
  have:=wpAny_of_seq (md:=md) (Q':=Q) (l.drop n) n listed a' w' (fun j=>by simp[List.getElem?_drop]) (by rw[List.length_drop];exact hL'.1) (hL _ _ hL'.2);rwa[List.length_drop]at this) _ _ _ _ H
 rwa[hlen,show n+(l.length-n)=l.length by omega]at this
theorem zja {L:Act->World->Prop} {j i:Nat} {is:List Nat} {a:Act} {w:World} {o oj:Oper} (ho:ops[i]? =some o) (hw:Region.wanted o (yielded ops a.tmps)=true) (hj:ops[j]? =some oj) (hwj:Region.wanted oj (yielded ops a.tmps)=true)
  (h: ∀K:Act->World->Prop,(∀a' w',S w'/\wpFl P ops Q S L j is a' w'->K a' w')->o.wp P a w K Q)
  (hf: ∀K:Act->World->Prop,(∀a' w',S w'/\zbq P ops Q S L (nots (i::is)) a' w'->K a' w')->oj.wp P a w K Q):wpFl P ops Q S L j (i::is) a w:=by
 constructor
 ·unfold wpOp;simp only[ho,hw,if_true];exact .inl (h _ fun _ _ h=>h)
 ·unfold wpOp;simp only[hj,hwj,if_true];exact .inl (hf _ fun _ _ h=>h)
theorem zve {L:Act->World->Prop} {j:Nat} {a:Act} {w:World} {oj:Oper} (hj:ops[j]? =some oj) (hwj:Region.wanted oj (yielded ops a.tmps)=true)
  (hf: ∀K:Act->World->Prop,(∀a' w',S w'/\L a' w'->K a' w')->oj.wp P a w K Q):wpFl P ops Q S L j [] a w:=by
 unfold wpFl wpOp;simp only[hj,hwj,if_true];exact .inl (hf _ fun _ _ h=>h)
theorem zal {L:Act->World->Prop} {is:List (Nat × Bool)} {i:Nat} {a:Act} {w:World} {o:Oper} {v:Value} (d:Nat) (ho:ops[i]? =some o) (hd:o.dst=some d) (hw:Region.wanted o (yielded ops a.tmps)=true)
  (hv: ∀W,S W->(execOp a.eval o).run P W= .ok (.value v) W) (h:zbq P ops Q S L is (a.put (some d) v) w):zbq P ops Q S L ((i,true)::is) a w:=zam ho hw hv (hd ▸ h)
theorem zay {L:Act->World->Prop} {j:Nat} {is rs:List Nat} {i:Nat} {a:Act} {w:World} {o:Oper} {v:Value} (d:Nat) (ho:ops[i]? =some o) (hd:o.dst=some d) (hw:Region.wanted o (yielded ops a.tmps)=true)
  (hv: ∀W,S W->(execOp a.eval o).run P W= .ok (.value v) W) (h:zi5 P ops Q S L j is rs (a.put (some d) v) w):zi5 P ops Q S L j is (i::rs) a w:=⟨o,v,ho,.inl ⟨hw,hv⟩,hd ▸ h⟩
end
theorem zkr {P:Program} {id:Nat} {ops:List Oper} {Q:Exit->Act->World->Prop} {a:Act} {w:World} (n j:Nat) (is rs:List Nat) (S:World->Prop) (hm:P.follows .mixedOrders=true)
  (hsel:Region.noSelect ops.toArray=true) (hs:Region.sinkB .any ops.toArray n=true) (hc:Region.chainB .any ops.toArray n=true) (hn:n<ops.length) (hlen:rs.length+(is.length+1)=n)
  (hQ: ∀c a d v w,Q (.panic c) (a.put d v) w->Q (.panic c) a w) (hB:zwx .any ops.toArray n (ops.length-n) j is rs (Array.replicate ops.length false)=true) (hS:S w.drew)
  (h:zi5 P ops.toArray Q S (fun a' w'=>wpList P ops.toArray Q (ops.drop n) a' w') j is rs a w.drew):(Code.region id ops.toArray true).wp P Q a w:=
 wp_region_any hm (zsy hsel hs hc hn hlen hQ hB hS (fun _ _ h=>h) h)
def zyg:List Bs:=["script","style","xmp","iframe","noembed","noframes","noscript","plaintext","svg","math","template","textarea","title","frameset","frame","object","embed","base"].map (fun s=>s.toUTF8.data.toList)
def jsT:Bs:=[106,97,118,97,115,99,114,105,112,116]
def vbT:Bs:=[118,98,115,99,114,105,112,116]
def dataT:Bs:=[100,97,116,97]
def runsL:List Bs:=[jsT,vbT,dataT]
def zp5:Bs:=[115,114,99,100,111,99]
def zcz (t:Bs):Bool:=decide (t∈zyg)
def zhz (t:Bs):Bool:=decide (t∈runsL)
def onB:Bs->Bool
 |a::b::_=>decide (a=111/\b=110)
 |_=>false
def zbk (t:Bs):Bool:=decide (t=zp5)||onB t
def tagR (p:Pol) (t:Bs):Bool:=decide (t∈p.tags)
def schR (p:Pol) (t:Bs):Bool:=decide (t∈p.schemes)
def zhr (p:Pol) (t:Bs):Bool:=decide (t∈p.drops)
def zh3 (p:Pol) (f:Frc):Bool:=decide (p.name<(f.name.length:Int))||decide (p.value<(f.value.length:Int))
def zfh (p:Pol) (t:Bs):Bool:=decide (p.name<(t.length:Int))
def badB (p:Pol):Bool:=p.tags.any zcz||(p.attrs.any (fun a=>zbk a.name)||(p.forces.any (fun f=>zbk f.name)||p.schemes.any zhz))
def zfr (p:Pol):Nat:=
 if badB p=true then 6
 else if p.tags.any (zhr p)=true then 5
 else if(p.forces.any (fun f=> !tagR p f.tag)||p.attrs.any (fun a=> !decide (a.tag=[42])&& !tagR p a.tag))=true then 4
 else if(p.forces.any (zh3 p)||p.tags.any (zfh p))=true then 1
 else 0
def newR (p:Pol):Nat:=if zco p=true then zfr p else 1
def ziq (s:Bs):Rs Pol:=match zbb s with
 | .error f=> .error f
 | .ok p=>if zfr p=0 then .ok p else .error ⟨s.length,zfr p⟩
theorem zko {s:Bs} {p:Pol} (h:zbb s= .ok p):ziq s=if newR p=0 then .ok p else .error ⟨s.length,newR p⟩:=by
 unfold ziq newR;rw[h,if_pos (zgv h)]
def zhc (p:Pol):Nat:=
 if p.tags.any zcz=true then 6 else if p.attrs.any (fun a=>zbk a.name)=true then 6
 else if p.forces.any (fun f=>zbk f.name)=true then 6 else if p.schemes.any zhz=true then 6
 else if p.tags.any (zhr p)=true then 5
 else if p.forces.any (fun f=> !tagR p f.tag)=true then 4 else if p.attrs.any (fun a=> !decide (a.tag=[42])&& !tagR p a.tag)=true then 4
 else if p.tags.any (zfh p)=true then 1 else if p.forces.any (zh3 p)=true then 1 else 0
theorem zqo (p:Pol):zhc p=zfr p:=by
 unfold zhc zfr badB;cases p.tags.any zcz<;>cases p.attrs.any (fun a=>zbk a.name)<;>cases p.forces.any (fun f=>zbk f.name)<;>cases p.schemes.any zhz<;>try rfl
 cases p.tags.any (zhr p)<;>try rfl
 cases p.forces.any (fun f=> !tagR p f.tag)<;>cases p.attrs.any (fun a=> !decide (a.tag=[42])&& !tagR p a.tag)<;>try rfl
 cases p.tags.any (zfh p)<;>cases p.forces.any (zh3 p)<;>rfl
open Go.RowKit
open Go.WideMaps (KeyLaw)
attribute [local go_sem] Oper.semAt_some
theorem zx2:laidOutB z2f=true:=by kernel_rfl
theorem zp0:KeyLaw z2f 9:=WideMaps.string_law (by kernel_rfl)
theorem z16:KeyLaw z2f 101:=deep_law_laid zx2 (m:=2) (by omega) (of_decide_eq_true (by kernel_rfl)) (by kernel_rfl) (by kernel_rfl)
theorem zp1 {t:Bs} (h:t.length<=maxLen):keyOf z2f 9 (sv t)=some (.string t):=by
 have:=WideMaps.keyOf_string_mk (P:=z2f) (k:=9) (by kernel_rfl) (s:=⟨t.toArray⟩) (by show t.toArray.size<=_;simpa using h);simpa[sv]using this
theorem z0q (d:Nat) (x y:ByteArray) (hx:x.size<=maxLen) (hy:y.size<=maxLen):z2f.keyLits (d+2) 101 [.string x,.string y]=some [.string x.data.toList,.string y.data.toList]:=by
 have hs: ∀z:ByteArray,z.size<=maxLen->z2f.keyLits (d+1) 9 [.string z]=some [.string z.data.toList]:=fun z hz=>by
  unfold Program.keyLits;rw[Tryz.underlying9];simp[hz]
 have c1:z2f.cellsOf 9=1:=by kernel_rfl
 have c2:z2f.cellsOf 101=2:=by kernel_rfl
 unfold Program.keyLits;rw[z6d];simp[c1,c2,hs x hx,hs y hy]
theorem z17 (a n:Bs) (ha:a.length<=maxLen) (hn:n.length<=maxLen): ∃l,keyOf z2f 101 (.agg #[sv a,sv n])=some l:=by
 have h:=fun d=>z0q d ⟨a.toArray⟩ ⟨n.toArray⟩ (by show a.toArray.size<=_;simpa using ha) (by show n.toArray.size<=_;simpa using hn);have hk:z2f.keyType 101=true:=by kernel_rfl
 have hc:z2f.cellsOf 101=2:=by kernel_rfl
 have hf:Value.formed z2f 101 (.agg #[sv a,sv n])=true:=by
  unfold Value.formed;simp[z6d,hc]
 obtain⟨d,hd⟩: ∃d,z2f.types.size+1=d+2:=⟨z2f.types.size-1,by have:0<z2f.types.size:=of_decide_eq_true (by kernel_rfl);omega⟩;unfold keyOf;rw[z6d];simp only[hk,hf,hd,Bool.and_self,if_true];refine⟨.string (keyBytes [.string a,.string n]), ?_⟩;have e:(Value.agg #[sv a,sv n]).cells.toList=[.string ⟨a.toArray⟩,.string ⟨n.toArray⟩]:=rfl;rw[e,h d];rfl
theorem zze (W:World):(zeroValue 151).run z2f W= .ok (.agg #[]) W:=by kernel_rfl
theorem zm8 (b:Nat) (ks:List Bs) (t:Bs) (w:World) (h:zcn z2f 9 w b (ks.map sv)) (ht:t.length<=maxLen):Calls z2f 42 #[.map (some b),sv t] w (Ret (.bool (decide (t∈ks))) w):=by
 obtain⟨D,hD⟩: ∃D,decide (t∈ks)=D:=⟨_,rfl⟩;have hB:D=true↔sv t∈ks.map sv:=by
  rw[<-hD,decide_eq_true_eq,List.mem_map];exact⟨fun h=>⟨t,h,rfl⟩,fun⟨u,hu,e⟩=>zv5 e ▸ hu⟩
 have HL:=z2c (show(Instr.lookup 79 (.map (some b)) (sv t) true).run z2f w= .ok (.tuple #[.agg #[],.bool D]) w from h.look zp0 Tryz.underlying79 (zze w) (zp1 ht) hB);rw[hD];clear hD hB h ht;generalize sv t=v at*;go_enter Tryz.func42,Tryz.ntmps42;go_wp2_with(simp[go_sem,HL.out])
 go_ret;exact Ret.of rfl bel
open Go.RowKit
attribute [local go_sem] Oper.semAt_some
def RetM (k:TypeId) (w:World) (ks:List Value) (e:Ending) (w':World):Prop:= ∃b,e= .returned (.map (some b))/\Below w.heap.size w w'/\w.heap.size<=b/\zcn z2f k w' b ks
theorem ziw (v:Value) (l:List Bs) (w:World) (h:Rd w v l.length 1 (l.map sv)) (hl: ∀t∈l,t.length<=maxLen):Calls z2f 52 #[v] w (RetM 9 w (l.map sv)):=by
 have hmm:= @run_makeMap z2f;obtain⟨_,hm,A,c,rfl,h4⟩:=h;obtain⟨n,hn⟩: ∃n,l.length=n:=⟨_,rfl⟩;have HN:=z2c hn;rw[hn]at hm h4 ⊢;clear hn;have H4:=z2c h4;have HL:=z2c hl;clear h4 hl;go_enter Tryz.func52,Tryz.ntmps52;go_wp2_with fail
 refine zae fun W0 hW0=> ?_;obtain⟨B,hB⟩: ∃B,w.heap.size=B:=⟨_,rfl⟩;rw[hB];have HK0:Hid (zcn z2f 9 W0 B ((l.take 0).map sv)):=by rw[hW0];exact zcn.new (by rw[<-hB];exact heap_alloc_new w _) (by simp)
 have HB0:Hid (Below w.heap.size w W0):=by show Below _ _ _;rw[hW0];exact bel
 clear hW0;go_loopw [9] (fun i wr=> ∃k:Nat,k<=n/\i= .int .i64 (k:Nat)/\Hid (zcn z2f 9 wr B ((l.take k).map sv))/\Hid (Below w.heap.size w wr)) (fun i _=>n-(intOf i).toNat)
 case atStart=>exact⟨0,by omega,rfl,HK0.out,HB0.out⟩
 case round=>
  clear HK0 HB0;obtain⟨k,hk,rfl,HK,HBw⟩:=hrel;by_cases hlt:k<n
  ·obtain⟨b,off,rfl,hb,hc⟩:=H4.out (by omega);have hkl:k<l.length:=by rw[HN.out];exact hlt
   have hcw:=(HBw.out.cell (p:=⟨b,off+k,none⟩) hb).trans (hc k (sv l[k]) (by simp[hkl]));have hbr:b<wr.heap.size:=z2g hb HBw.out.size;have HT:Hid (l.take (k+1)=l.take k++[l[k]]):=List.take_succ_eq_append_getElem hkl;have HKey:=z2c (zp1 (HL.out l[k] (z26 hkl)));clear hc;generalize l[k]=t at*;have hwB:w.heap.size<=wr.heap.size:=HBw.out.size;generalize hv:sv t=u at*;go_wp2_with(at_mapUpdate;(refine zld rfl _ _ _ 79 rfl B _ HK.out zp0 Tryz.underlying79 rfl rfl rfl HKey.out ?_);intro W2 hk2 hg2;have HK2:=z2c hk2;have HB2:=z2c (zsw HBw.out hg2 (Nat.le_of_eq hB) hwB);clear hk2 hg2)
   go_roundw
   case rel=>exact⟨k+1,by omega,by go_num,by show zcn _ _ _ _ _;rw[HT.out,List.map_append,List.map_singleton,hv];exact HK2.out,HB2.out⟩
   case measure=>simp[intOf];omega
  ·have hkn:k=n:=by omega
   have HT:Hid (l.take k=l):=List.take_of_length_le (by rw[HN.out];omega);go_wp2_with fail
   go_ret;exact⟨B,rfl,HBw.out,Nat.le_of_eq hB,by have:=HK.out;rwa[HT.out]at this⟩
open Go.RowKit
attribute [local go_sem] Oper.semAt_some
theorem zbh {α:Type} (cells:α->List Value) (n:Nat) (hn: ∀x,(cells x).length=n) (l:List α) (k j:Nat) (hk:k<l.length) (hj:j<n):(l.flatMap cells)[k*n+j]? =(cells l[k])[j]? :=by
 induction l generalizing k with
 |nil=>simp at hk
 |cons x r ih=>
  cases k with
  |zero=>simp only[List.flatMap_cons,Nat.zero_mul,Nat.zero_add,List.getElem_cons_zero];rw[List.getElem?_append_left (by rw[hn];exact hj)]
  |succ k=>
   simp only[List.flatMap_cons,List.getElem_cons_succ];rw[List.getElem?_append_right (by rw[hn,Nat.add_mul];omega),hn,show(k+1)*n+j-n=k*n+j by rw[Nat.add_mul];omega];exact ih k (by simpa using hk)
theorem zzq (v:Value) (l:List Alw) (w:World) (h:Rd w v l.length 2 (l.flatMap Alw.cells)) (hl: ∀x∈l,x.tag.length<=maxLen/\x.name.length<=maxLen):Calls z2f 53 #[v] w (RetM 101 w (l.map Alw.agg)):=by
 have hmm:= @run_makeMap z2f;obtain⟨_,hm,A,c,rfl,h4⟩:=h;obtain⟨n,hn⟩: ∃n,l.length=n:=⟨_,rfl⟩;have HN:=z2c hn;rw[hn]at hm h4 ⊢;clear hn;have H4:=z2c h4;have HL:=z2c hl;clear h4 hl;go_enter Tryz.func53,Tryz.ntmps53;go_wp2_with fail
 refine zae fun W0 hW0=> ?_;obtain⟨B,hB⟩: ∃B,w.heap.size=B:=⟨_,rfl⟩;rw[hB];have HK0:Hid (zcn z2f 101 W0 B ((l.take 0).map Alw.agg)):=by rw[hW0];exact zcn.new (by rw[<-hB];exact heap_alloc_new w _) (by simp)
 have HB0:Hid (Below w.heap.size w W0):=by show Below _ _ _;rw[hW0];exact bel
 clear hW0;go_loopw [9] (fun i wr=> ∃k:Nat,k<=n/\i= .int .i64 (k:Nat)/\Hid (zcn z2f 101 wr B ((l.take k).map Alw.agg))/\Hid (Below w.heap.size w wr)) (fun i _=>n-(intOf i).toNat)
 case atStart=>exact⟨0,by omega,rfl,HK0.out,HB0.out⟩
 case round=>
  clear HK0 HB0;obtain⟨k,hk,rfl,HK,HBw⟩:=hrel;by_cases hlt:k<n
  ·obtain⟨b,off,rfl,hb,hc⟩:=H4.out (by omega);have hkl:k<l.length:=by rw[HN.out];exact hlt
   obtain⟨x,hx⟩: ∃x,l[k]=x:=⟨_,rfl⟩;have x0:wr.cell? ⟨b,off+k*2,none⟩=some (.string ⟨x.tag.toArray⟩):=(HBw.out.cell (p:=⟨b,off+k*2,none⟩) hb).trans (hc (k*2+0) (sv x.tag) (by rw[zbh Alw.cells 2 (fun _=>rfl) l k 0 hkl (by omega),hx];rfl));have x1:wr.cell? ⟨b,off+k*2+1,none⟩=some (.string ⟨x.name.toArray⟩):=(HBw.out.cell (p:=⟨b,off+k*2+1,none⟩) hb).trans ((congrArg (fun i=>w.cell? ⟨b,i,none⟩) (by omega)).trans (hc (k*2+1) (sv x.name) (by rw[zbh Alw.cells 2 (fun _=>rfl) l k 1 hkl (by omega),hx];rfl)));have hbr:b<wr.heap.size:=z2g hb HBw.out.size;have HT:Hid (l.take (k+1)=l.take k++[x]):=by show _=_;rw[List.take_succ_eq_append_getElem hkl,hx]
   obtain⟨kl,hkl2⟩:=z17 x.tag x.name (HL.out x (hx ▸ z26 hkl)).1 (HL.out x (hx ▸ z26 hkl)).2;have HKey:=z2c (show keyOf z2f 101 (.agg #[.string ⟨x.tag.toArray⟩,.string ⟨x.name.toArray⟩])=some kl from hkl2);have HAg:Hid (x.agg= .agg #[.string ⟨x.tag.toArray⟩,.string ⟨x.name.toArray⟩]):=rfl;clear hc hx hkl hkl2;have hwB:w.heap.size<=wr.heap.size:=HBw.out.size;generalize(⟨x.tag.toArray⟩:ByteArray)=a1 at*;generalize(⟨x.name.toArray⟩:ByteArray)=a2 at*;go_upto_region 5 with fail
   refine zae fun W1 hW1=> ?_;have hb1:Below wr.heap.size wr W1:=by rw[hW1];exact bel
   obtain⟨B1,hB1⟩: ∃B,wr.heap.size=B:=⟨_,rfl⟩;have c0:W1.cell? ⟨B1,0,none⟩=some (.string a1):=by rw[hW1,<-hB1];simp[go_sem]
   have c1:W1.cell? ⟨B1,1,none⟩=some (.string a2):=by rw[hW1,<-hB1];simp[go_sem]
   have hBW:B1<W1.heap.size:=by rw[hW1,<-hB1];simp
   have HK1:=z2c (HK.out.below hb1);have HB1:=z2c (HBw.out.trans (hb1.mono hwB));have hw1:=HB1.out.size;rw[hB1];clear hW1 hb1 HK HBw;go_wp2_with(at_mapUpdate;(refine zld rfl _ _ _ 80 rfl B _ HK1.out z16 Tryz.underlying80 rfl rfl rfl HKey.out ?_);intro W2 hk2 hg2;have HK2:=z2c hk2;have HB2:=z2c (zsw HB1.out hg2 (Nat.le_of_eq hB) hw1);clear hk2 hg2)
   go_roundw
   case rel=>exact⟨k+1,by omega,by go_num,by show zcn _ _ _ _ _;rw[HT.out,List.map_append,List.map_singleton,HAg.out];exact HK2.out,HB2.out⟩
   case measure=>simp[intOf];omega
  ·have hkn:k=n:=by omega
   have HT:Hid (l.take k=l):=List.take_of_length_le (by rw[HN.out];omega);go_wp2_with fail
   go_ret;exact⟨B,rfl,HBw.out,Nat.le_of_eq hB,by have:=HK.out;rwa[HT.out]at this⟩
open Go.RowKit
attribute [local go_sem] Oper.semAt_some
def znj {α:Type} (g:Nat) (fs lb:Array Value) (enc:α->Value) (p:α->Bool) (l:List α) (w:World):Prop:=(∀args w,(callFunc g args).run z2f w= .ok (.enter g args) w)/\ ∀t∈l,∀W,Below w.heap.size w W->Calls z2f g (fs.push (enc t)++lb) W (Ret (.bool (p t)) W)
theorem znj.later {α:Type} {g:Nat} {fs lb:Array Value} {enc:α->Value} {p:α->Bool} {l:List α} {w W:World} (h:znj g fs lb enc p l w) (hb:Below w.heap.size w W):znj g fs lb enc p l W:=
 ⟨h.1,fun t ht W' hb'=>h.2 t ht W' (hb.trans (hb'.mono hb.size))⟩
theorem zue (v:Value) (l:List Bs) (g:Nat) (fs lb:Array Value) (p:Bs->Bool) (w:World) (h:Rd w v l.length 1 (l.map sv)) (hp:znj g fs lb sv p l w):
  Calls z2f 207 #[v,.func (.func g) fs lb] w fun e w'=> ∃i:Int,e= .returned (.int .i64 i)/\decide (0<=i)=l.any p/\Below w.heap.size w w':=by
 obtain⟨eg,hp⟩:=hp;have hp:=z2c hp;obtain⟨_,hm,A,c,rfl,h4⟩:=h;obtain⟨n,hn⟩: ∃n,l.length=n:=⟨_,rfl⟩;have HN:=z2c hn;rw[hn]at hm h4 ⊢;clear hn;have H4:=z2c h4;clear h4;go_enter Tryz.func207,Tryz.ntmps207;go_wp2_with fail
 go_loopw [8] (fun i wr=> ∃k:Nat,k<=n/\i= .int .i64 (k:Nat)/\Hid (l.any p=(l.drop k).any p)/\Hid (Below w.heap.size w wr)) (fun i _=>n-(intOf i).toNat)
 case atStart=>exact⟨0,by omega,rfl,by show _=_;rw[List.drop_zero],by show Below _ _ _;exact bel⟩
 case round=>
  obtain⟨k,hk,rfl,HK,HB⟩:=hrel;by_cases hlt:k<n
  ·obtain⟨b,off,rfl,hb,hc⟩:=H4.out (by omega);have hkl:k<l.length:=by rw[HN.out];exact hlt
   obtain⟨x,hx⟩: ∃x,l[k]=x:=⟨_,rfl⟩;have x0:wr.cell? ⟨b,off+k,none⟩=some (sv x):=(HB.out.cell (p:=⟨b,off+k,none⟩) hb).trans (hc k (sv x) (by simp[hkl,hx]));have hbr:b<wr.heap.size:=z2g hb HB.out.size;have HD:Hid (l.drop k=x::l.drop (k+1)):=by show _=_;rw[z2m hkl,hx]
   have HP:=z2c (hp.out x (hx ▸ z26 hkl));clear hc hx hkl;obtain⟨px,hpx⟩: ∃px,p x=px:=⟨_,rfl⟩;rw[hpx]at HP;have HPx:=z2c hpx;clear hpx;have HP2:=z2c (fun W hb=>show Calls z2f g (fs.push (.string ⟨x.toArray⟩)++lb) W _ from HP.out W hb);rw[show sv x= .string ⟨x.toArray⟩from rfl]at x0;clear HP;generalize(⟨x.toArray⟩:ByteArray)=ts at*;have hwr:=HB.out.size;cases px with
   |false=>
    have HT:Hid (l.any p=(l.drop (k+1)).any p):=by
     show _=_;rw[HK.out,HD.out,z3h,HPx.out,Bool.false_or]
    clear HK HD;go_wp2_with((with_reducible refine(HP2.out _ HB.out).mono ?_);rintro e w' ⟨rfl,X,rfl⟩)
    go_roundw
    case rel=>exact⟨k+1,by omega,by go_num,HT.out,by show Below _ _ _;exact HB.out.trans ((bel:Below wr.heap.size wr (wr.grow X)).mono HB.out.size)⟩
    case measure=>simp[intOf];omega
   |true=>
    have HT:Hid (l.any p=true):=by
     show _=_;rw[HK.out,HD.out,z3h,HPx.out,Bool.true_or]
    clear HK HD;go_wp2_with((with_reducible refine(HP2.out _ HB.out).mono ?_);rintro e w' ⟨rfl,X,rfl⟩)
    go_ret;exact⟨k,rfl,by rw[HT.out];simp,HB.out.trans ((bel:Below wr.heap.size wr (wr.grow X)).mono HB.out.size)⟩
  ·have HT:Hid (l.any p=false):=by
    show _=_;rw[HK.out,z2o (by rw[HN.out];omega)];rfl
   go_wp2_with fail
   go_ret;exact⟨-1,rfl,by rw[HT.out];rfl,HB.out⟩
theorem zm7 (v:Value) (l:List Bs) (g:Nat) (fs lb:Array Value) (p:Bs->Bool) (w:World) (h:Rd w v l.length 1 (l.map sv)) (hp:znj g fs lb sv p l w):
  Calls z2f 125 #[v,.func (.func g) fs lb] w (Ret (.bool (l.any p)) w):=by
 have HI:=z2c (zue v l g fs lb p w h hp);clear h hp;go_enter Tryz.func125,Tryz.ntmps125;go_wp2_with(go_at_call 207;(with_reducible refine HI.out.mono ?_);rintro e w' ⟨i,rfl,hi,hb⟩;have HB:=z2c hb;have HI2:=z2c hi;clear hb hi)
 go_ret;exact Ret.of (by rw[<-HI2.out];simp) HB.out
theorem zug (v:Value) (l:List Alw) (g:Nat) (fs lb:Array Value) (p:Alw->Bool) (w:World) (h:Rd w v l.length 2 (l.flatMap Alw.cells)) (hp:znj g fs lb Alw.agg p l w):
  Calls z2f 211 #[v,.func (.func g) fs lb] w fun e w'=> ∃i:Int,e= .returned (.int .i64 i)/\decide (0<=i)=l.any p/\Below w.heap.size w w':=by
 obtain⟨eg,hp⟩:=hp;have hp:=z2c hp;obtain⟨_,hm,A,c,rfl,h4⟩:=h;obtain⟨n,hn⟩: ∃n,l.length=n:=⟨_,rfl⟩;have HN:=z2c hn;rw[hn]at hm h4 ⊢;clear hn;have H4:=z2c h4;clear h4;go_enter Tryz.func211,Tryz.ntmps211;go_wp2_with fail
 go_loopw [8] (fun i wr=> ∃k:Nat,k<=n/\i= .int .i64 (k:Nat)/\Hid (l.any p=(l.drop k).any p)/\Hid (Below w.heap.size w wr)) (fun i _=>n-(intOf i).toNat)
 case atStart=>exact⟨0,by omega,rfl,by show _=_;rw[List.drop_zero],by show Below _ _ _;exact bel⟩
 case round=>
  obtain⟨k,hk,rfl,HK,HB⟩:=hrel;by_cases hlt:k<n
  ·obtain⟨b,off,rfl,hb,hc⟩:=H4.out (by omega);have hkl:k<l.length:=by rw[HN.out];exact hlt
   obtain⟨x,hx⟩: ∃x,l[k]=x:=⟨_,rfl⟩;have x0:wr.cell? ⟨b,off+k*2,none⟩=some (.string ⟨x.tag.toArray⟩):=(HB.out.cell (p:=⟨b,off+k*2,none⟩) hb).trans (hc (k*2+0) (sv x.tag) (by rw[zbh Alw.cells 2 (fun _=>rfl) l k 0 hkl (by omega),hx];rfl));have x1:wr.cell? ⟨b,off+k*2+1,none⟩=some (.string ⟨x.name.toArray⟩):=(HB.out.cell (p:=⟨b,off+k*2+1,none⟩) hb).trans ((congrArg (fun i=>w.cell? ⟨b,i,none⟩) (by omega)).trans (hc (k*2+1) (sv x.name) (by rw[zbh Alw.cells 2 (fun _=>rfl) l k 1 hkl (by omega),hx];rfl)));have hbr:b<wr.heap.size:=z2g hb HB.out.size;have HD:Hid (l.drop k=x::l.drop (k+1)):=by show _=_;rw[z2m hkl,hx]
   have HP:=z2c (hp.out x (hx ▸ z26 hkl));clear hc hx hkl;obtain⟨px,hpx⟩: ∃px,p x=px:=⟨_,rfl⟩;rw[hpx]at HP;have HPx:=z2c hpx;clear hpx;have HP2:=z2c (fun W hb=>show Calls z2f g (fs.push (.agg #[.string ⟨x.tag.toArray⟩,.string ⟨x.name.toArray⟩])++lb) W _ from HP.out W hb);clear HP;generalize(⟨x.tag.toArray⟩:ByteArray)=a0 at*;generalize(⟨x.name.toArray⟩:ByteArray)=a1 at*;have hwr:=HB.out.size;cases px with
   |false=>
    have HT:Hid (l.any p=(l.drop (k+1)).any p):=by
     show _=_;rw[HK.out,HD.out,z3h,HPx.out,Bool.false_or]
    clear HK HD;go_wp2_with((with_reducible refine(HP2.out _ HB.out).mono ?_);rintro e w' ⟨rfl,X,rfl⟩)
    go_roundw
    case rel=>exact⟨k+1,by omega,by go_num,HT.out,by show Below _ _ _;exact HB.out.trans ((bel:Below wr.heap.size wr (wr.grow X)).mono HB.out.size)⟩
    case measure=>simp[intOf];omega
   |true=>
    have HT:Hid (l.any p=true):=by
     show _=_;rw[HK.out,HD.out,z3h,HPx.out,Bool.true_or]
    clear HK HD;go_wp2_with((with_reducible refine(HP2.out _ HB.out).mono ?_);rintro e w' ⟨rfl,X,rfl⟩)
    go_ret;exact⟨k,rfl,by rw[HT.out];simp,HB.out.trans ((bel:Below wr.heap.size wr (wr.grow X)).mono HB.out.size)⟩
  ·have HT:Hid (l.any p=false):=by
    show _=_;rw[HK.out,z2o (by rw[HN.out];omega)];rfl
   go_wp2_with fail
   go_ret;exact⟨-1,rfl,by rw[HT.out];rfl,HB.out⟩
theorem zx6 (v:Value) (l:List Alw) (g:Nat) (fs lb:Array Value) (p:Alw->Bool) (w:World) (h:Rd w v l.length 2 (l.flatMap Alw.cells)) (hp:znj g fs lb Alw.agg p l w):
  Calls z2f 137 #[v,.func (.func g) fs lb] w (Ret (.bool (l.any p)) w):=by
 have HI:=z2c (zug v l g fs lb p w h hp);clear h hp;go_enter Tryz.func137,Tryz.ntmps137;go_wp2_with(go_at_call 211;(with_reducible refine HI.out.mono ?_);rintro e w' ⟨i,rfl,hi,hb⟩;have HB:=z2c hb;have HI2:=z2c hi;clear hb hi)
 go_ret;exact Ret.of (by rw[<-HI2.out];simp) HB.out
theorem zuf (v:Value) (l:List Frc) (g:Nat) (fs lb:Array Value) (p:Frc->Bool) (w:World) (h:Rd w v l.length 3 (l.flatMap Frc.cells)) (hp:znj g fs lb Frc.agg p l w):
  Calls z2f 210 #[v,.func (.func g) fs lb] w fun e w'=> ∃i:Int,e= .returned (.int .i64 i)/\decide (0<=i)=l.any p/\Below w.heap.size w w':=by
 obtain⟨eg,hp⟩:=hp;have hp:=z2c hp;obtain⟨_,hm,A,c,rfl,h4⟩:=h;obtain⟨n,hn⟩: ∃n,l.length=n:=⟨_,rfl⟩;have HN:=z2c hn;rw[hn]at hm h4 ⊢;clear hn;have H4:=z2c h4;clear h4;go_enter Tryz.func210,Tryz.ntmps210;go_wp2_with fail
 go_loopw [8] (fun i wr=> ∃k:Nat,k<=n/\i= .int .i64 (k:Nat)/\Hid (l.any p=(l.drop k).any p)/\Hid (Below w.heap.size w wr)) (fun i _=>n-(intOf i).toNat)
 case atStart=>exact⟨0,by omega,rfl,by show _=_;rw[List.drop_zero],by show Below _ _ _;exact bel⟩
 case round=>
  obtain⟨k,hk,rfl,HK,HB⟩:=hrel;by_cases hlt:k<n
  ·obtain⟨b,off,rfl,hb,hc⟩:=H4.out (by omega);have hkl:k<l.length:=by rw[HN.out];exact hlt
   obtain⟨x,hx⟩: ∃x,l[k]=x:=⟨_,rfl⟩;have x0:wr.cell? ⟨b,off+k*3,none⟩=some (.string ⟨x.tag.toArray⟩):=(HB.out.cell (p:=⟨b,off+k*3,none⟩) hb).trans (hc (k*3+0) (sv x.tag) (by rw[zbh Frc.cells 3 (fun _=>rfl) l k 0 hkl (by omega),hx];rfl));have x1:wr.cell? ⟨b,off+k*3+1,none⟩=some (.string ⟨x.name.toArray⟩):=(HB.out.cell (p:=⟨b,off+k*3+1,none⟩) hb).trans ((congrArg (fun i=>w.cell? ⟨b,i,none⟩) (by omega)).trans (hc (k*3+1) (sv x.name) (by rw[zbh Frc.cells 3 (fun _=>rfl) l k 1 hkl (by omega),hx];rfl)));have x2:wr.cell? ⟨b,off+k*3+2,none⟩=some (.string ⟨x.value.toArray⟩):=(HB.out.cell (p:=⟨b,off+k*3+2,none⟩) hb).trans ((congrArg (fun i=>w.cell? ⟨b,i,none⟩) (by omega)).trans (hc (k*3+2) (sv x.value) (by rw[zbh Frc.cells 3 (fun _=>rfl) l k 2 hkl (by omega),hx];rfl)));have hbr:b<wr.heap.size:=z2g hb HB.out.size;have HD:Hid (l.drop k=x::l.drop (k+1)):=by show _=_;rw[z2m hkl,hx]
   have HP:=z2c (hp.out x (hx ▸ z26 hkl));clear hc hx hkl;obtain⟨px,hpx⟩: ∃px,p x=px:=⟨_,rfl⟩;rw[hpx]at HP;have HPx:=z2c hpx;clear hpx;have HP2:=z2c (fun W hb=>show Calls z2f g (fs.push (.agg #[.string ⟨x.tag.toArray⟩,.string ⟨x.name.toArray⟩,.string ⟨x.value.toArray⟩])++lb) W _ from HP.out W hb);clear HP;generalize(⟨x.tag.toArray⟩:ByteArray)=a0 at*;generalize(⟨x.name.toArray⟩:ByteArray)=a1 at*;generalize(⟨x.value.toArray⟩:ByteArray)=a2 at*;have hwr:=HB.out.size;cases px with
   |false=>
    have HT:Hid (l.any p=(l.drop (k+1)).any p):=by
     show _=_;rw[HK.out,HD.out,z3h,HPx.out,Bool.false_or]
    clear HK HD;go_wp2_with((with_reducible refine(HP2.out _ HB.out).mono ?_);rintro e w' ⟨rfl,X,rfl⟩)
    go_roundw
    case rel=>exact⟨k+1,by omega,by go_num,HT.out,by show Below _ _ _;exact HB.out.trans ((bel:Below wr.heap.size wr (wr.grow X)).mono HB.out.size)⟩
    case measure=>simp[intOf];omega
   |true=>
    have HT:Hid (l.any p=true):=by
     show _=_;rw[HK.out,HD.out,z3h,HPx.out,Bool.true_or]
    clear HK HD;go_wp2_with((with_reducible refine(HP2.out _ HB.out).mono ?_);rintro e w' ⟨rfl,X,rfl⟩)
    go_ret;exact⟨k,rfl,by rw[HT.out];simp,HB.out.trans ((bel:Below wr.heap.size wr (wr.grow X)).mono HB.out.size)⟩
  ·have HT:Hid (l.any p=false):=by
    show _=_;rw[HK.out,z2o (by rw[HN.out];omega)];rfl
   go_wp2_with fail
   go_ret;exact⟨-1,rfl,by rw[HT.out];rfl,HB.out⟩
theorem zrh (v:Value) (l:List Frc) (g:Nat) (fs lb:Array Value) (p:Frc->Bool) (w:World) (h:Rd w v l.length 3 (l.flatMap Frc.cells)) (hp:znj g fs lb Frc.agg p l w):
  Calls z2f 135 #[v,.func (.func g) fs lb] w (Ret (.bool (l.any p)) w):=by
 have HI:=z2c (zuf v l g fs lb p w h hp);clear h hp;go_enter Tryz.func135,Tryz.ntmps135;go_wp2_with(go_at_call 210;(with_reducible refine HI.out.mono ?_);rintro e w' ⟨i,rfl,hi,hb⟩;have HB:=z2c hb;have HI2:=z2c hi;clear hb hi)
 go_ret;exact Ret.of (by rw[<-HI2.out];simp) HB.out
open Go.RowKit
attribute [local go_sem] Oper.semAt_some
theorem zcd (x:ByteArray) (c:Bs):(x.toList==c)=decide (x.data.toList=c):=by rw[ByteArray.toList_eq,Bool.eq_iff_iff];simp
theorem zl9:zyg=[[115,99,114,105,112,116],[115,116,121,108,101],[120,109,112],[105,102,114,97,109,101],[110,111,101,109,98,101,100],[110,111,102,114,97,109,101,115],[110,111,115,99,114,105,112,116],[112,108,97,105,110,116,101,120,116],[115,118,103],[109,97,116,104],[116,101,109,112,108,97,116,101],[116,101,120,116,97,114,101,97],[116,105,116,108,101],[102,114,97,109,101,115,101,116],[102,114,97,109,101],[111,98,106,101,99,116],[101,109,98,101,100],[98,97,115,101]]:=by kernel_rfl
theorem zut (t:Bs) (w:World):Calls z2f 215 #[sv t] w (Ret (.bool (zcz t)) w):=by
 unfold zcz;rw[zl9];unfold sv;by_cases hm:t∈[[115,99,114,105,112,116],[115,116,121,108,101],[120,109,112],[105,102,114,97,109,101],[110,111,101,109,98,101,100],[110,111,102,114,97,109,101,115],[110,111,115,99,114,105,112,116],[112,108,97,105,110,116,101,120,116],[115,118,103],[109,97,116,104],[116,101,109,112,108,97,116,101],[116,101,120,116,97,114,101,97],[116,105,116,108,101],[102,114,97,109,101,115,101,116],[102,114,97,109,101],[111,98,106,101,99,116],[101,109,98,101,100],[98,97,115,101]]
 ·rw[decide_eq_true hm];simp only[z3n,z5p,or_false]at hm;rcases hm with rfl|rfl|rfl|rfl|rfl|rfl|rfl|rfl|rfl|rfl|rfl|rfl|rfl|rfl|rfl|rfl|rfl|rfl
  all_goals
   go_enter Tryz.func215,Tryz.ntmps215;go_wp2_with fail
   go_ret;exact Ret.of rfl bel
 ·rw[decide_eq_false hm];simp only[z3n,z5p,or_false,not_or]at hm;obtain⟨n0,n1,n2,n3,n4,n5,n6,n7,n8,n9,n10,n11,n12,n13,n14,n15,n16,n17⟩:=hm;have m0:((⟨t.toArray⟩:ByteArray).toList==[115,99,114,105,112,116])=false:=by rw[zcd];exact decide_eq_false n0
  have m1:((⟨t.toArray⟩:ByteArray).toList==[115,116,121,108,101])=false:=by rw[zcd];exact decide_eq_false n1
  have m2:((⟨t.toArray⟩:ByteArray).toList==[120,109,112])=false:=by rw[zcd];exact decide_eq_false n2
  have m3:((⟨t.toArray⟩:ByteArray).toList==[105,102,114,97,109,101])=false:=by rw[zcd];exact decide_eq_false n3
  have m4:((⟨t.toArray⟩:ByteArray).toList==[110,111,101,109,98,101,100])=false:=by rw[zcd];exact decide_eq_false n4
  have m5:((⟨t.toArray⟩:ByteArray).toList==[110,111,102,114,97,109,101,115])=false:=by rw[zcd];exact decide_eq_false n5
  have m6:((⟨t.toArray⟩:ByteArray).toList==[110,111,115,99,114,105,112,116])=false:=by rw[zcd];exact decide_eq_false n6
  have m7:((⟨t.toArray⟩:ByteArray).toList==[112,108,97,105,110,116,101,120,116])=false:=by rw[zcd];exact decide_eq_false n7
  have m8:((⟨t.toArray⟩:ByteArray).toList==[115,118,103])=false:=by rw[zcd];exact decide_eq_false n8
  have m9:((⟨t.toArray⟩:ByteArray).toList==[109,97,116,104])=false:=by rw[zcd];exact decide_eq_false n9
  have m10:((⟨t.toArray⟩:ByteArray).toList==[116,101,109,112,108,97,116,101])=false:=by rw[zcd];exact decide_eq_false n10
  have m11:((⟨t.toArray⟩:ByteArray).toList==[116,101,120,116,97,114,101,97])=false:=by rw[zcd];exact decide_eq_false n11
  have m12:((⟨t.toArray⟩:ByteArray).toList==[116,105,116,108,101])=false:=by rw[zcd];exact decide_eq_false n12
  have m13:((⟨t.toArray⟩:ByteArray).toList==[102,114,97,109,101,115,101,116])=false:=by rw[zcd];exact decide_eq_false n13
  have m14:((⟨t.toArray⟩:ByteArray).toList==[102,114,97,109,101])=false:=by rw[zcd];exact decide_eq_false n14
  have m15:((⟨t.toArray⟩:ByteArray).toList==[111,98,106,101,99,116])=false:=by rw[zcd];exact decide_eq_false n15
  have m16:((⟨t.toArray⟩:ByteArray).toList==[101,109,98,101,100])=false:=by rw[zcd];exact decide_eq_false n16
  have m17:((⟨t.toArray⟩:ByteArray).toList==[98,97,115,101])=false:=by rw[zcd];exact decide_eq_false n17
  clear n0 n1 n2 n3 n4 n5 n6 n7 n8 n9 n10 n11 n12 n13 n14 n15 n16 n17;generalize(⟨t.toArray⟩:ByteArray)=x at*;go_enter Tryz.func215,Tryz.ntmps215;go_wp2_with fail
  go_ret;exact Ret.of rfl bel
theorem zzt:runsL=[[106,97,118,97,115,99,114,105,112,116],[118,98,115,99,114,105,112,116],[100,97,116,97]]:=by kernel_rfl
theorem zzs (t:Bs) (w:World):Calls z2f 216 #[sv t] w (Ret (.bool (zhz t)) w):=by
 unfold zhz;rw[zzt];unfold sv;by_cases hm:t∈[[106,97,118,97,115,99,114,105,112,116],[118,98,115,99,114,105,112,116],[100,97,116,97]]
 ·rw[decide_eq_true hm];simp only[z3n,z5p,or_false]at hm;rcases hm with rfl|rfl|rfl
  all_goals
   go_enter Tryz.func216,Tryz.ntmps216;go_wp2_with fail
   go_ret;exact Ret.of rfl bel
 ·rw[decide_eq_false hm];simp only[z3n,z5p,or_false,not_or]at hm;obtain⟨n0,n1,n2⟩:=hm;have m0:((⟨t.toArray⟩:ByteArray).toList==[106,97,118,97,115,99,114,105,112,116])=false:=by rw[zcd];exact decide_eq_false n0
  have m1:((⟨t.toArray⟩:ByteArray).toList==[118,98,115,99,114,105,112,116])=false:=by rw[zcd];exact decide_eq_false n1
  have m2:((⟨t.toArray⟩:ByteArray).toList==[100,97,116,97])=false:=by rw[zcd];exact decide_eq_false n2
  clear n0 n1 n2;generalize(⟨t.toArray⟩:ByteArray)=x at*;go_enter Tryz.func216,Tryz.ntmps216;go_wp2_with fail
  go_ret;exact Ret.of rfl bel
theorem zxl (t:Bs):Lib.hasPrefix t [111,110]=onB t:=by
 unfold Lib.hasPrefix onB;match t with
 |[]=>rfl
 |[a]=>simp[List.isPrefixOf]
 |a::b::r=>
  simp only[List.isPrefixOf,Bool.and_true];rw[Bool.eq_iff_iff];simp only[z2z,beq_iff_eq,decide_eq_true_eq];constructor
  ·rintro⟨rfl,rfl⟩;exact⟨rfl,rfl⟩
  ·rintro⟨rfl,rfl⟩;exact⟨rfl,rfl⟩
theorem zlm (t:Bs) (w:World):Calls z2f 213 #[sv t] w (Ret (.bool (zbk t)) w):=by
 have HP:=z2c (fun W=>show Calls z2f 45 #[.string ⟨t.toArray⟩,.string ⟨#[111,110]⟩] W (fun e w'=>e= .returned (.bool (onB t))/\w'=W)from(Tryz.strings_HasPrefix ⟨t.toArray⟩ ⟨#[111,110]⟩ W).mono fun e w' h=>⟨h.1.trans (by show _=_;rw[show(⟨t.toArray⟩:ByteArray).data.toList=t from rfl];exact congrArg (fun b=>Ending.returned (.bool b)) (zxl t)),h.2⟩);unfold zbk;unfold sv;cases hd:decide (t=zp5)with
 |true=>
  have m0:((⟨t.toArray⟩:ByteArray).toList==[115,114,99,100,111,99])=true:=by rw[zcd];exact hd
  generalize(⟨t.toArray⟩:ByteArray)=x at*;go_enter Tryz.func213,Tryz.ntmps213;go_wp2_with fail
  go_ret;exact Ret.of rfl bel
 |false=>
  have m0:((⟨t.toArray⟩:ByteArray).toList==[115,114,99,100,111,99])=false:=by rw[zcd];exact hd
  generalize(⟨t.toArray⟩:ByteArray)=x at*;generalize onB t=o at*;go_enter Tryz.func213,Tryz.ntmps213;go_wp2_with(go_at_call 45;(with_reducible refine(HP.out _).mono ?_);rintro e w' ⟨rfl,rfl⟩)
  go_ret;exact Ret.of rfl bel
open Go.RowKit
attribute [local go_sem] Oper.semAt_some
def atC (f:Frc):List Value:=[sv f.name,sv f.value]
structure zdh (W:World) (g:Nat) (p:Pol):Prop where
 lt:g<W.heap.size
 c0: ∃b,W.cell? ⟨g,0,none⟩=some (.map (some b))/\zcn z2f 9 W b (p.tags.map sv)
 c1: ∃b,W.cell? ⟨g,1,none⟩=some (.map (some b))/\zcn z2f 9 W b (p.schemes.map sv)
 c2: ∃b,W.cell? ⟨g,2,none⟩=some (.map (some b))/\zcn z2f 9 W b (p.css.map sv)
 c3: ∃b,W.cell? ⟨g,3,none⟩=some (.map (some b))/\zcn z2f 9 W b (p.drops.map sv)
 c4: ∃b,W.cell? ⟨g,4,none⟩=some (.map (some b))/\zcn z2f 101 W b (p.attrs.map Alw.agg)
 c5: ∃b base,W.cell? ⟨g,5,none⟩=some (.map (some b))/\GrpM z2f 9 106 2 Frc.tag atC W b base p.forces
 c6:W.cell? ⟨g,6,none⟩=some (.bool p.rel)
 c7:W.cell? ⟨g,7,none⟩=some (.int .i64 p.depth)
 c8:W.cell? ⟨g,8,none⟩=some (.int .i64 p.name)
 c9:W.cell? ⟨g,9,none⟩=some (.int .i64 p.value)
theorem zdh.below {W W':World} {g:Nat} {p:Pol} (h:zdh W g p) (hb:Below W.heap.size W W'):zdh W' g p:=by
 have hc: ∀j v,W.cell? ⟨g,j,none⟩=some v->W'.cell? ⟨g,j,none⟩=some v:=fun j v hv=>(hb.cell (p:=⟨g,j,none⟩) h.lt).trans hv;obtain⟨hl,⟨b0,x0,y0⟩,⟨b1,x1,y1⟩,⟨b2,x2,y2⟩,⟨b3,x3,y3⟩,⟨b4,x4,y4⟩,⟨b5,b6,x5,y5⟩,x6,x7,x8,x9⟩:=h;exact⟨z2g hl hb.size,⟨b0,hc _ _ x0,y0.below hb⟩,⟨b1,hc _ _ x1,y1.below hb⟩,⟨b2,hc _ _ x2,y2.below hb⟩,⟨b3,hc _ _ x3,y3.below hb⟩,⟨b4,hc _ _ x4,y4.below hb⟩,⟨b5,b6,hc _ _ x5,y5.below hb⟩,hc _ _ x6,hc _ _ x7,hc _ _ x8,hc _ _ x9⟩
theorem z1i (g:Nat) (p:Pol) (t:Bs) (w:World) (h:zdh w g p) (ht:t.length<=maxLen):Calls z2f 132 #[.pointer (some ⟨g,0,none⟩),sv t] w (Ret (.bool (tagR p t)) w):=by
 have hl:=h.lt;obtain⟨b,hc,hk⟩:=h.c0;have HS:=z2c (fun W (hb:Below w.heap.size w W)=>zm8 b p.tags t W (hk.below hb) ht);unfold tagR;generalize decide (t∈p.tags)=D at*;clear h hk ht;generalize sv t=v at*;go_enter Tryz.func132,Tryz.ntmps132;go_wp2_with(go_at_call 42;(with_reducible refine(HS.out _ bel).mono ?_);rintro e W1 ⟨rfl,X1,rfl⟩)
 go_ret;exact Ret.of rfl bel
theorem ztj (g:Nat) (p:Pol) (t:Bs) (w:World) (h:zdh w g p) (ht:t.length<=maxLen):Calls z2f 71 #[.pointer (some ⟨g,0,none⟩),sv t] w (Ret (.bool (schR p t)) w):=by
 have hl:=h.lt;obtain⟨b,hc,hk⟩:=h.c1;have HS:=z2c (fun W (hb:Below w.heap.size w W)=>zm8 b p.schemes t W (hk.below hb) ht);unfold schR;generalize decide (t∈p.schemes)=D at*;clear h hk ht;generalize sv t=v at*;go_enter Tryz.func71,Tryz.ntmps71;go_wp2_with(go_at_call 42;(with_reducible refine(HS.out _ bel).mono ?_);rintro e W1 ⟨rfl,X1,rfl⟩)
 go_ret;exact Ret.of rfl bel
theorem z0l (g:Nat) (p:Pol) (t:Bs) (w:World) (h:zdh w g p) (ht:t.length<=maxLen):Calls z2f 134 #[.pointer (some ⟨g,0,none⟩),sv t] w (Ret (.bool (zhr p t)) w):=by
 have hl:=h.lt;obtain⟨b,hc,hk⟩:=h.c3;have HS:=z2c (fun W (hb:Below w.heap.size w W)=>zm8 b p.drops t W (hk.below hb) ht);unfold zhr;generalize decide (t∈p.drops)=D at*;clear h hk ht;generalize sv t=v at*;go_enter Tryz.func134,Tryz.ntmps134;go_wp2_with(go_at_call 42;(with_reducible refine(HS.out _ bel).mono ?_);rintro e W1 ⟨rfl,X1,rfl⟩)
 go_ret;exact Ret.of rfl bel
theorem zol (g:Nat) (p:Pol) (w:World) (h:zdh w g p):Calls z2f 72 #[.pointer (some ⟨g,0,none⟩)] w (Ret (.bool p.rel) w):=by
 have hl:=h.lt;have h6:=h.c6;clear h;go_enter Tryz.func72,Tryz.ntmps72;go_wp2_with fail
 go_ret;exact Ret.of rfl bel
open Go.RowKit
attribute [local go_sem] Oper.semAt_some
theorem Rd.bel {w W:World} {v:Value} {n size:Nat} {xs:List Value} (h:Rd w v n size xs) (hb:Below w.heap.size w W):Rd W v n size xs:=by
 obtain⟨X,rfl⟩:=zao hb;exact h.grow X
theorem zyh (x:Alw) (w:World):Calls z2f 212 #[x.agg] w (Ret (.bool (zbk x.name)) w):=by
 have HU:=z2c (fun W=>show Calls z2f 213 #[.string ⟨x.name.toArray⟩] W _ from zlm x.name W);unfold Alw.agg sv;generalize zbk x.name=u at*;generalize(⟨x.tag.toArray⟩:ByteArray)=a0 at*;generalize(⟨x.name.toArray⟩:ByteArray)=a1 at*;go_enter Tryz.func212,Tryz.ntmps212;go_wp2_with(go_at_call 213;(with_reducible refine(HU.out _).mono ?_);rintro e W1 ⟨rfl,X1,rfl⟩)
 go_ret;exact Ret.of rfl bel
theorem zuu (x:Frc) (w:World):Calls z2f 214 #[x.agg] w (Ret (.bool (zbk x.name)) w):=by
 have HU:=z2c (fun W=>show Calls z2f 213 #[.string ⟨x.name.toArray⟩] W _ from zlm x.name W);unfold Frc.agg sv;generalize zbk x.name=u at*;generalize(⟨x.tag.toArray⟩:ByteArray)=a0 at*;generalize(⟨x.name.toArray⟩:ByteArray)=a1 at*;generalize(⟨x.value.toArray⟩:ByteArray)=a2 at*;go_enter Tryz.func214,Tryz.ntmps214;go_wp2_with(go_at_call 213;(with_reducible refine(HU.out _).mono ?_);rintro e W1 ⟨rfl,X1,rfl⟩)
 go_ret;exact Ret.of rfl bel
theorem zrj (v:Value) (p:Pol) (w:World) (h:PolV w (fun _=>False) v p):Calls z2f 140 #[v] w (Ret (.bool (badB p)) w):=by
 obtain⟨v0,v1,v2,v3,v4,v5,rfl,⟨A0,k0,rfl,_,h0,_⟩,⟨A1,k1,rfl,_,h1,_⟩,⟨A2,k2,rfl,_,_,_⟩,⟨A3,k3,rfl,_,_,_⟩,⟨A4,k4,rfl,_,h4,_⟩,⟨A5,k5,rfl,_,h5,_⟩⟩:=h;have HT:=z2c (fun W (hb:Below w.heap.size w W)=>show Calls z2f 125 #[.slice A0 (fN p 0) k0,.func (.func 215) #[] #[]] W _ from zm7 _ p.tags _ _ _ zcz W (h0.bel hb) ⟨enters_of Tryz.func215 (by kernel_rfl) rfl,fun t _ W' _=>zut t W'⟩);have HS:=z2c (fun W (hb:Below w.heap.size w W)=>show Calls z2f 125 #[.slice A1 (fN p 1) k1,.func (.func 216) #[] #[]] W _ from zm7 _ p.schemes _ _ _ zhz W (h1.bel hb) ⟨enters_of Tryz.func216 (by kernel_rfl) rfl,fun t _ W' _=>zzs t W'⟩);have HA:=z2c (fun W (hb:Below w.heap.size w W)=>show Calls z2f 137 #[.slice A4 (fN p 4) k4,.func (.func 212) #[] #[]] W _ from zx6 _ p.attrs _ _ _ (fun a=>zbk a.name) W (h4.bel hb) ⟨enters_of Tryz.func212 (by kernel_rfl) rfl,fun t _ W' _=>zyh t W'⟩);have HF:=z2c (fun W (hb:Below w.heap.size w W)=>show Calls z2f 135 #[.slice A5 (fN p 5) k5,.func (.func 214) #[] #[]] W _ from zrh _ p.forces _ _ _ (fun a=>zbk a.name) W (h5.bel hb) ⟨enters_of Tryz.func214 (by kernel_rfl) rfl,fun t _ W' _=>zuu t W'⟩);unfold badB;generalize p.tags.any zcz=T at*;generalize p.attrs.any (fun a=>zbk a.name)=A at*;generalize p.forces.any (fun a=>zbk a.name)=F at*;generalize p.schemes.any zhz=S at*;clear h0 h1 h4 h5;cases T<;>cases A<;>cases F;all_goals
  go_enter Tryz.func140,Tryz.ntmps140;go_upto_region 3 with fail
  refine zae fun W0 hW0=> ?_;obtain⟨B,hB⟩: ∃B,w.heap.size=B:=⟨_,rfl⟩;have hb0:Below w.heap.size w W0:=by rw[hW0];exact bel
  have c0:W0.cell? ⟨B,0,none⟩=some (.slice A0 (fN p 0) k0):=by rw[hW0,<-hB];simp[go_sem]
  have c1:W0.cell? ⟨B,1,none⟩=some (.slice A1 (fN p 1) k1):=by rw[hW0,<-hB];simp[go_sem]
  have c4:W0.cell? ⟨B,4,none⟩=some (.slice A4 (fN p 4) k4):=by rw[hW0,<-hB];simp[go_sem]
  have c5:W0.cell? ⟨B,5,none⟩=some (.slice A5 (fN p 5) k5):=by rw[hW0,<-hB];simp[go_sem]
  have hBl:B<W0.heap.size:=by rw[hW0,<-hB];simp
  have HB0:=z2c (fun W (hb:Below W0.heap.size W0 W)=>show Below w.heap.size w W from hb0.trans (hb.mono hb0.size));rw[hB];clear hW0 hb0;go_wp2_with(first
   |(go_at_call 125;(with_reducible refine(HT.out _ (HB0.out _ bel)).mono ?_);rintro e W1 ⟨rfl,X1,rfl⟩)
   |(go_at_call 137;(with_reducible refine(HA.out _ (HB0.out _ bel)).mono ?_);rintro e W2 ⟨rfl,X2,rfl⟩)
   |(go_at_call 135;(with_reducible refine(HF.out _ (HB0.out _ bel)).mono ?_);rintro e W3 ⟨rfl,X3,rfl⟩)
   |(go_at_call 125;(with_reducible refine(HS.out _ (HB0.out _ bel)).mono ?_);rintro e W4 ⟨rfl,X4,rfl⟩))
  go_ret;exact Ret.of rfl (HB0.out _ bel)
open Go.RowKit
attribute [local go_sem] Oper.semAt_some
structure PolWd (p:Pol):Prop where
 tags: ∀t∈p.tags,t.length<=64
 schemes: ∀t∈p.schemes,t.length<=64
 css: ∀t∈p.css,t.length<=64
 drops: ∀t∈p.drops,t.length<=64
 attrs: ∀a∈p.attrs,a.tag.length<=64/\a.name.length<=64
 forces: ∀f∈p.forces,f.tag.length<=64/\f.name.length<=64
theorem zjm (B g:Nat) (p:Pol) (t:Bs) (w:World) (h:zdh w g p) (hc:w.cell? ⟨B,0,none⟩=some (.pointer (some ⟨g,0,none⟩))) (_hB:B<w.heap.size) (ht:t.length<=maxLen):
  Calls z2f 131 #[sv t,.pointer (some ⟨B,0,none⟩)] w (Ret (.bool (!tagR p t)) w):=by
 have HT:=z2c (fun W (hb:Below w.heap.size w W)=>show Calls z2f 132 #[.pointer (some ⟨g,0,none⟩),.string ⟨t.toArray⟩] W _ from z1i g p t W (h.below hb) ht);generalize tagR p t=D at*;clear h ht;unfold sv;generalize(⟨t.toArray⟩:ByteArray)=x at*;go_enter Tryz.func131,Tryz.ntmps131;go_wp2_with(go_at_call 132;(with_reducible refine(HT.out _ bel).mono ?_);rintro e W1 ⟨rfl,X1,rfl⟩)
 go_ret;exact Ret.of rfl bel
theorem zsk (P:Nat) (p:Pol) (t:Bs) (w:World) (hc:w.cell? ⟨P,8,none⟩=some (.int .i64 p.name)) (_hP:P<w.heap.size):Calls z2f 133 #[sv t,.pointer (some ⟨P,0,none⟩)] w (Ret (.bool (zfh p t)) w):=by
 unfold zfh;have hl:t.length=(⟨t.toArray⟩:ByteArray).size:=by show _=t.toArray.size;simp
 rw[hl];unfold sv;generalize(⟨t.toArray⟩:ByteArray)=x at*;generalize p.name=n at*;clear hl;go_enter Tryz.func133,Tryz.ntmps133;go_wp2_with fail
 go_ret;exact Ret.of rfl bel
theorem zs5 (S B g:Nat) (p:Pol) (f:Frc) (w:World) (h:zdh w g p) (hc:w.cell? ⟨B,0,none⟩=some (.pointer (some ⟨g,0,none⟩))) (hB:B<w.heap.size)
  (hs:w.cell? ⟨S,0,none⟩=some (.func (.func 131) #[] #[.pointer (some ⟨B,0,none⟩)])) (hS:S<w.heap.size) (ht:f.tag.length<=maxLen):
  Calls z2f 136 #[f.agg,.pointer (some ⟨S,0,none⟩)] w (Ret (.bool (!tagR p f.tag)) w):=by
 have HT:=z2c (fun W (hb:Below w.heap.size w W)=>show Calls z2f 131 #[.string ⟨f.tag.toArray⟩,.pointer (some ⟨B,0,none⟩)] W _ from zjm B g p f.tag W (h.below hb) ((hb.cell (p:=⟨B,0,none⟩) hB).trans hc) (z2g hB hb.size) ht);generalize(!tagR p f.tag)=D at*;clear h ht hc;unfold Frc.agg sv;generalize(⟨f.tag.toArray⟩:ByteArray)=a0 at*;generalize(⟨f.name.toArray⟩:ByteArray)=a1 at*;generalize(⟨f.value.toArray⟩:ByteArray)=a2 at*;go_enter Tryz.func136,Tryz.ntmps136;go_wp2_with(go_at_call 131;(with_reducible refine(HT.out _ bel).mono ?_);rintro e W1 ⟨rfl,X1,rfl⟩)
 go_ret;exact Ret.of rfl bel
theorem zvk (S B g:Nat) (p:Pol) (a:Alw) (w:World) (h:zdh w g p) (hc:w.cell? ⟨B,0,none⟩=some (.pointer (some ⟨g,0,none⟩))) (hB:B<w.heap.size)
  (hs:w.cell? ⟨S,0,none⟩=some (.func (.func 131) #[] #[.pointer (some ⟨B,0,none⟩)])) (hS:S<w.heap.size) (ht:a.tag.length<=maxLen):
  Calls z2f 138 #[a.agg,.pointer (some ⟨S,0,none⟩)] w (Ret (.bool (!decide (a.tag=[42])&& !tagR p a.tag)) w):=by
 have HT:=z2c (fun W (hb:Below w.heap.size w W)=>show Calls z2f 131 #[.string ⟨a.tag.toArray⟩,.pointer (some ⟨B,0,none⟩)] W _ from zjm B g p a.tag W (h.below hb) ((hb.cell (p:=⟨B,0,none⟩) hB).trans hc) (z2g hB hb.size) ht);generalize(!tagR p a.tag)=D at*;have hq:((⟨a.tag.toArray⟩:ByteArray).toList==[42])=decide (a.tag=[42]):=zcd _ _;generalize decide (a.tag=[42])=E at*;clear h ht hc;unfold Alw.agg sv;generalize(⟨a.tag.toArray⟩:ByteArray)=a0 at*;generalize(⟨a.name.toArray⟩:ByteArray)=a1 at*;cases E;all_goals
  go_enter Tryz.func138,Tryz.ntmps138;go_wp2_with(go_at_call 131;(with_reducible refine(HT.out _ bel).mono ?_);rintro e W1 ⟨rfl,X1,rfl⟩)
  go_ret;exact Ret.of rfl bel
theorem zvj (L P:Nat) (p:Pol) (f:Frc) (w:World) (hc:w.cell? ⟨P,8,none⟩=some (.int .i64 p.name)) (hd:w.cell? ⟨P,9,none⟩=some (.int .i64 p.value)) (hP:P<w.heap.size)
  (hs:w.cell? ⟨L,0,none⟩=some (.func (.func 133) #[] #[.pointer (some ⟨P,0,none⟩)])) (hL:L<w.heap.size):
  Calls z2f 139 #[f.agg,.pointer (some ⟨L,0,none⟩),.pointer (some ⟨P,0,none⟩)] w (Ret (.bool (zh3 p f)) w):=by
 have HT:=z2c (fun W (hb:Below w.heap.size w W)=>show Calls z2f 133 #[.string ⟨f.name.toArray⟩,.pointer (some ⟨P,0,none⟩)] W _ from zsk P p f.name W ((hb.cell (p:=⟨P,8,none⟩) hP).trans hc) (z2g hP hb.size));have hv:f.value.length=(⟨f.value.toArray⟩:ByteArray).size:=by show _=f.value.toArray.size;simp
 have HO:Hid (zh3 p f=(zfh p f.name||decide (p.value<((⟨f.value.toArray⟩:ByteArray).size:Int)))):=by show _=_;unfold zh3 zfh;rw[hv]
 rw[HO.out];clear HO hv;generalize zfh p f.name=D at*;generalize p.value=n at*;clear hc;unfold Frc.agg sv;generalize(⟨f.tag.toArray⟩:ByteArray)=a0 at*;generalize(⟨f.name.toArray⟩:ByteArray)=a1 at*;generalize(⟨f.value.toArray⟩:ByteArray)=a2 at*;cases D;all_goals
  go_enter Tryz.func139,Tryz.ntmps139;go_wp2_with(go_at_call 133;(with_reducible refine(HT.out _ bel).mono ?_);rintro e W1 ⟨rfl,X1,rfl⟩)
  go_ret;exact Ret.of rfl bel
open Go.RowKit
attribute [local go_sem] Oper.semAt_some
theorem zva (g:Nat) (v:Value) (p:Pol) (w:World) (hr:zdh w g p) (h:PolV w (fun _=>False) v p) (hw:PolWd p):Calls z2f 54 #[.pointer (some ⟨g,0,none⟩),v] w (Ret (.int .i64 (zfr p:Nat)) w):=by
 have HV:=z2c h;obtain⟨v0,v1,v2,v3,v4,v5,rfl,⟨A0,k0,rfl,_,h0,_⟩,⟨A1,k1,rfl,_,_,_⟩,⟨A2,k2,rfl,_,_,_⟩,⟨A3,k3,rfl,_,_,_⟩,⟨A4,k4,rfl,_,h4,_⟩,⟨A5,k5,rfl,_,h5,_⟩⟩:=h;have HD:=z2c (fun W (hb:Below w.heap.size w W)=>zrj _ p W (HV.out.below hb));have HW:Hid (zfr p=if badB p=true then 6 else if p.tags.any (zhr p)=true then 5 else if(p.forces.any (fun f=> !tagR p f.tag)||p.attrs.any (fun a=> !decide (a.tag=[42])&& !tagR p a.tag))=true then 4 else if(p.forces.any (zh3 p)||p.tags.any (zfh p))=true then 1 else 0):=rfl;obtain⟨R,hR⟩: ∃R,zfr p=R:=⟨_,rfl⟩;rw[hR]at HW ⊢;have HRl:=z2c hr;have HWd:=z2c hw;have H0:=z2c h0;have H4:=z2c h4;have H5:=z2c h5;have hgl:=hr.lt;clear hR HV hr hw h0 h4 h5;go_enter Tryz.func54,Tryz.ntmps54;go_upto_region 3 with fail
 refine zae fun W0 hW0=> ?_;obtain⟨B,hB⟩: ∃B,w.heap.size=B:=⟨_,rfl⟩;have hb0:Below w.heap.size w W0:=by rw[hW0];exact bel
 have cB:W0.cell? ⟨B,0,none⟩=some (.pointer (some ⟨g,0,none⟩)):=by rw[hW0,<-hB];simp[go_sem]
 have c0:W0.cell? ⟨B+1,0,none⟩=some (.slice A0 (fN p 0) k0):=by rw[hW0,<-hB];simp[go_sem]
 have c1:W0.cell? ⟨B+1,1,none⟩=some (.slice A1 (fN p 1) k1):=by rw[hW0,<-hB];simp[go_sem]
 have c2:W0.cell? ⟨B+1,2,none⟩=some (.slice A2 (fN p 2) k2):=by rw[hW0,<-hB];simp[go_sem]
 have c3:W0.cell? ⟨B+1,3,none⟩=some (.slice A3 (fN p 3) k3):=by rw[hW0,<-hB];simp[go_sem]
 have c4:W0.cell? ⟨B+1,4,none⟩=some (.slice A4 (fN p 4) k4):=by rw[hW0,<-hB];simp[go_sem]
 have c5:W0.cell? ⟨B+1,5,none⟩=some (.slice A5 (fN p 5) k5):=by rw[hW0,<-hB];simp[go_sem]
 have c6:W0.cell? ⟨B+1,6,none⟩=some (.bool p.rel):=by rw[hW0,<-hB];simp[go_sem]
 have c7:W0.cell? ⟨B+1,7,none⟩=some (.int .i64 p.depth):=by rw[hW0,<-hB];simp[go_sem]
 have c8:W0.cell? ⟨B+1,8,none⟩=some (.int .i64 p.name):=by rw[hW0,<-hB];simp[go_sem]
 have c9:W0.cell? ⟨B+1,9,none⟩=some (.int .i64 p.value):=by rw[hW0,<-hB];simp[go_sem]
 have cS:W0.cell? ⟨B+2,0,none⟩=some (.func (.func 131) #[] #[.pointer (some ⟨B,0,none⟩)]):=by rw[hW0,<-hB];simp[go_sem]
 have cL:W0.cell? ⟨B+3,0,none⟩=some (.func (.func 133) #[] #[.pointer (some ⟨B+1,0,none⟩)]):=by rw[hW0,<-hB];simp[go_sem]
 have hBl:B+3<W0.heap.size:=by rw[hW0,<-hB];simp
 have hBl0:B<W0.heap.size:=by omega
 have hBl1:B+1<W0.heap.size:=by omega
 have hBl2:B+2<W0.heap.size:=by omega
 have HB0:=z2c (fun W (hb:Below W0.heap.size W0 W)=>show Below w.heap.size w W from hb0.trans (hb.mono hb0.size));have HRw:=z2c (HRl.out.below hb0);have HC:=z2c (fun W (hb:Below W0.heap.size W0 W) b j x (hl:b<W0.heap.size) (hc:W0.cell? ⟨b,j,none⟩=some x)=>(show W.cell? ⟨b,j,none⟩=some x from(hb.cell (p:=⟨b,j,none⟩) hl).trans hc));have hmx:(64:Nat)<=maxLen:=by simp[maxLen]
 have HBo:=z2c (fun W (hb:Below W0.heap.size W0 W)=>show Calls z2f 125 #[.slice A0 (fN p 0) k0,.func (.func 134) #[.pointer (some ⟨g,0,none⟩)] #[]] W _ from
  zm7 _ p.tags _ _ _ (zhr p) W (H0.out.bel (HB0.out W hb)) ⟨enters_of Tryz.func134 (by kernel_rfl) rfl,fun t ht W' hb'=>z0l g p t W' ((HRw.out.below hb).below hb') (z2j (HWd.out.tags t ht) hmx)⟩)
 have HFo:=z2c (fun W (hb:Below W0.heap.size W0 W)=>show Calls z2f 135 #[.slice A5 (fN p 5) k5,.func (.func 136) #[] #[.pointer (some ⟨B+2,0,none⟩)]] W _ from
  zrh _ p.forces _ _ _ (fun f=> !tagR p f.tag) W (H5.out.bel (HB0.out W hb)) ⟨enters_of Tryz.func136 (by kernel_rfl) rfl,fun f hf W' hb'=>zs5 (B+2) B g p f W' ((HRw.out.below hb).below hb') (HC.out W' (hb.trans (hb'.mono hb.size)) _ _ _ hBl0 cB) (by have:=hb.size;have:=hb'.size;omega) (HC.out W' (hb.trans (hb'.mono hb.size)) _ _ _ hBl2 cS) (by have:=hb.size;have:=hb'.size;omega) (z2j (HWd.out.forces f hf).1 hmx)⟩)
 have HAt:=z2c (fun W (hb:Below W0.heap.size W0 W)=>show Calls z2f 137 #[.slice A4 (fN p 4) k4,.func (.func 138) #[] #[.pointer (some ⟨B+2,0,none⟩)]] W _ from
  zx6 _ p.attrs _ _ _ (fun a=> !decide (a.tag=[42])&& !tagR p a.tag) W (H4.out.bel (HB0.out W hb)) ⟨enters_of Tryz.func138 (by kernel_rfl) rfl,fun f hf W' hb'=>zvk (B+2) B g p f W' ((HRw.out.below hb).below hb') (HC.out W' (hb.trans (hb'.mono hb.size)) _ _ _ hBl0 cB) (by have:=hb.size;have:=hb'.size;omega) (HC.out W' (hb.trans (hb'.mono hb.size)) _ _ _ hBl2 cS) (by have:=hb.size;have:=hb'.size;omega) (z2j (HWd.out.attrs f hf).1 hmx)⟩)
 have HOv:=z2c (fun W (hb:Below W0.heap.size W0 W)=>show Calls z2f 135 #[.slice A5 (fN p 5) k5,.func (.func 139) #[] #[.pointer (some ⟨B+3,0,none⟩),.pointer (some ⟨B+1,0,none⟩)]] W _ from
  zrh _ p.forces _ _ _ (zh3 p) W (H5.out.bel (HB0.out W hb)) ⟨enters_of Tryz.func139 (by kernel_rfl) rfl,fun f _ W' hb'=>zvj (B+3) (B+1) p f W' (HC.out W' (hb.trans (hb'.mono hb.size)) _ _ _ hBl1 c8) (HC.out W' (hb.trans (hb'.mono hb.size)) _ _ _ hBl1 c9) (by have:=hb.size;have:=hb'.size;omega) (HC.out W' (hb.trans (hb'.mono hb.size)) _ _ _ hBl cL) (by have:=hb.size;have:=hb'.size;omega)⟩)
 have HLo:=z2c (fun W (hb:Below W0.heap.size W0 W)=>show Calls z2f 125 #[.slice A0 (fN p 0) k0,.func (.func 133) #[] #[.pointer (some ⟨B+1,0,none⟩)]] W _ from
  zm7 _ p.tags _ _ _ (zfh p) W (H0.out.bel (HB0.out W hb)) ⟨enters_of Tryz.func133 (by kernel_rfl) rfl,fun t _ W' hb'=>zsk (B+1) p t W' (HC.out W' (hb.trans (hb'.mono hb.size)) _ _ _ hBl1 c8) (by have:=hb.size;have:=hb'.size;omega)⟩)
 have HDn:=z2c (fun W (hb:Below W0.heap.size W0 W)=>HD.out W (HB0.out W hb));generalize p.tags.any (zhr p)=Bo at*;generalize p.forces.any (fun f=> !tagR p f.tag)=Fo at*;generalize p.attrs.any (fun a=> !decide (a.tag=[42])&& !tagR p a.tag)=At at*;generalize p.forces.any (zh3 p)=Ov at*;generalize p.tags.any (zfh p)=Lo at*;generalize badB p=Dn at*;rw[hB];clear hW0 hb0 HD HRl HWd H0 H4 H5 HRw HC hmx;go_upto_region 7 with(first
  |(go_at_call 125;(with_reducible refine(HBo.out _ bel).mono ?_);rintro e W1 ⟨rfl,X1,rfl⟩)
  |(go_at_call 135;(with_reducible refine(Ret.flat (HFo.out _ bel)).mono ?_);rintro e W2 ⟨rfl,X2,rfl⟩)
  |(go_at_call 137;(with_reducible refine(Ret.flat (HAt.out _ bel)).mono ?_);rintro e W3 ⟨rfl,X3,rfl⟩)
  |(go_at_call 135;(with_reducible refine(Ret.flat (HOv.out _ bel)).mono ?_);rintro e W4 ⟨rfl,X4,rfl⟩))
 clear HBo HFo HAt HOv;cases Dn with
 |true=>
  have HR:Hid (R=6):=HW.out;clear HW;go_wp2_with(go_at_call 140;(with_reducible refine(Ret.flat (HDn.out _ bel)).mono ?_);rintro e W5 ⟨rfl,X5,rfl⟩)
  go_ret;exact Ret.of (by rw[HR.out];rfl) (HB0.out _ bel)
 |false=>
  cases Bo with
  |true=>
   have HR:Hid (R=5):=HW.out;clear HW;go_wp2_with(go_at_call 140;(with_reducible refine(Ret.flat (HDn.out _ bel)).mono ?_);rintro e W5 ⟨rfl,X5,rfl⟩)
   go_ret;exact Ret.of (by rw[HR.out];rfl) (HB0.out _ bel)
  |false=>
   cases Fo<;>cases At;rotate_left;all_goals try
    have HR:Hid (R=4):=HW.out
    clear HW
    go_wp2_with(go_at_call 140;(with_reducible refine(Ret.flat (HDn.out _ bel)).mono ?_);rintro e W5 ⟨rfl,X5,rfl⟩)
    go_ret
    exact Ret.of (by rw[HR.out];rfl) (HB0.out _ bel)
   cases Ov<;>cases Lo;all_goals
    have HR:=z2c HW.out;simp only[Bool.false_eq_true,if_false,Bool.or_false,Bool.or_true,if_true]at HR;clear HW;go_wp2_with(first
     |(go_at_call 140;(with_reducible refine(Ret.flat (HDn.out _ bel)).mono ?_);rintro e W5 ⟨rfl,X5,rfl⟩)
     |(go_at_call 125;(with_reducible refine(Ret.flat (HLo.out _ bel)).mono ?_);rintro e W6 ⟨rfl,X6,rfl⟩))
    go_ret;exact Ret.of (by rw[HR.out];rfl) (HB0.out _ bel)
open Go.RowKit
attribute [local go_sem] Oper.semAt_some
structure zda (W:World) (g b base:Nat) (p:Pol) (l:List Frc):Prop where
 g_lt:g<base
 base_le:base<=W.heap.size
 gb:g≠b
 c0: ∃k,W.cell? ⟨g,0,none⟩=some (.map (some k))/\zcn z2f 9 W k (p.tags.map sv)/\k<base/\k≠b
 c1: ∃k,W.cell? ⟨g,1,none⟩=some (.map (some k))/\zcn z2f 9 W k (p.schemes.map sv)/\k<base/\k≠b
 c2: ∃k,W.cell? ⟨g,2,none⟩=some (.map (some k))/\zcn z2f 9 W k (p.css.map sv)/\k<base/\k≠b
 c3: ∃k,W.cell? ⟨g,3,none⟩=some (.map (some k))/\zcn z2f 9 W k (p.drops.map sv)/\k<base/\k≠b
 c4: ∃k,W.cell? ⟨g,4,none⟩=some (.map (some k))/\zcn z2f 101 W k (p.attrs.map Alw.agg)/\k<base/\k≠b
 c5:W.cell? ⟨g,5,none⟩=some (.map (some b))
 grp:GrpM z2f 9 106 2 Frc.tag atC W b base l
 c6:W.cell? ⟨g,6,none⟩=some (.bool p.rel)
 c7:W.cell? ⟨g,7,none⟩=some (.int .i64 p.depth)
 c8:W.cell? ⟨g,8,none⟩=some (.int .i64 p.name)
 c9:W.cell? ⟨g,9,none⟩=some (.int .i64 p.value)
theorem zda.rules {W:World} {g b base:Nat} {p:Pol} (h:zda W g b base p p.forces):zdh W g p:=by
 obtain⟨h1,h2,_,⟨k0,x0,y0,_⟩,⟨k1,x1,y1,_⟩,⟨k2,x2,y2,_⟩,⟨k3,x3,y3,_⟩,⟨k4,x4,y4,_⟩,x5,y5,x6,x7,x8,x9⟩:=h;exact⟨z2g h1 h2,⟨k0,x0,y0⟩,⟨k1,x1,y1⟩,⟨k2,x2,y2⟩,⟨k3,x3,y3⟩,⟨k4,x4,y4⟩,⟨b,base,x5,y5⟩,x6,x7,x8,x9⟩
theorem zda.kept {W W':World} {g b base:Nat} {p:Pol} {l l':List Frc} (h:zda W g b base p l) (hs:W.heap.size<=W'.heap.size) (hk: ∀k,k<base->k≠b->W'.heap[k]? =W.heap[k]?) (hg:GrpM z2f 9 106 2 Frc.tag atC W' b base l'):zda W' g b base p l':=by
 have hc: ∀j,W'.cell? ⟨g,j,none⟩=W.cell? ⟨g,j,none⟩:=fun j=>World.cell?_of_block (hk g h.g_lt h.gb);obtain⟨h1,h2,h3,⟨k0,x0,y0,z0,n0⟩,⟨k1,x1,y1,z1,n1⟩,⟨k2,x2,y2,z2,n2⟩,⟨k3,x3,y3,z3,n3⟩,⟨k4,x4,y4,z4,n4⟩,x5,_,x6,x7,x8,x9⟩:=h;exact⟨h1,z2j h2 hs,h3,⟨k0,(hc _).trans x0,y0.kept (hk k0 z0 n0),z0,n0⟩,⟨k1,(hc _).trans x1,y1.kept (hk k1 z1 n1),z1,n1⟩,⟨k2,(hc _).trans x2,y2.kept (hk k2 z2 n2),z2,n2⟩,⟨k3,(hc _).trans x3,y3.kept (hk k3 z3 n3),z3,n3⟩,⟨k4,(hc _).trans x4,y4.kept (hk k4 z4 n4),z4,n4⟩,(hc _).trans x5,hg,(hc _).trans x6,(hc _).trans x7,(hc _).trans x8,(hc _).trans x9⟩
theorem zda.below {W W':World} {g b base:Nat} {p:Pol} {l:List Frc} (h:zda W g b base p l) (hb:Below W.heap.size W W'):zda W' g b base p l:=
 h.kept hb.size (fun k hk _=>hb.block k (z2g hk h.base_le)) (h.grp.below hb)
theorem zda.step {W W1 W2:World} {g b base:Nat} {p:Pol} {l l':List Frc} {vb:Option Nat} (h:zda W g b base p l) (hg1:W.grownBy W1 vb) (hvb: ∀k,vb=some k->base<=k) (hg2:W1.grownBy W2 (some b)) (hg:GrpM z2f 9 106 2 Frc.tag atC W2 b base l'):zda W2 g b base p l':=by
 refine h.kept (z2j hg1.size hg2.size) (fun k hk hkb=> ?_) hg;have hkl:k<W.heap.size:=z2g hk h.base_le;exact(hg2.block k (z2g hkl hg1.size) (fun e=>hkb (Option.some.inj e))).trans (hg1.block k hkl (fun e=>by have:=hvb k e.symm;omega))
theorem zyo {B base b:Nat} {a W W1 W2:World} {vb:Option Nat} (h:Below B a W) (hB:B<=W.heap.size) (hb:B<=b) (hbase:B<=base) (hg1:W.grownBy W1 vb) (hvb: ∀k,vb=some k->base<=k) (hg2:W1.grownBy W2 (some b)):Below B a W2:=
 h.trans ⟨hg2.os.trans hg1.os,hg2.tape.trans hg1.tape,hg2.output.trans hg1.output,z2j hg1.size hg2.size,fun j hj=>(hg2.block j (z2g (z2g hj hB) hg1.size) (fun e=>by have:=Option.some.inj e;omega)).trans (hg1.block j (z2g hj hB) (fun e=>by have:=hvb j e.symm;omega))⟩
theorem sltT:SlT z2f 104 106 (.agg #[.string ⟨#[]⟩,.string ⟨#[]⟩]) 2 32:=⟨by kernel_rfl,by kernel_rfl,by kernel_rfl,by decide⟩
theorem zdq {t:Bs} (h:zau t=true):t.length<=64:=by
 cases t with
 |nil=>exact Nat.zero_le _
 |cons c r=>
  unfold zau at h;simp only[z2z,decide_eq_true_eq]at h;simp only[List.length_cons];omega
theorem zse {p:Pol} (h:zco p=true):PolWd p:=by
 unfold zco at h;simp only[z2z,List.all_eq_true,decide_eq_true_eq]at h;obtain⟨⟨⟨⟨⟨⟨⟨⟨h0,h1⟩,h2⟩,h3⟩,h4⟩,h5⟩,_⟩,_⟩,_⟩:=h;refine⟨fun t ht=>zdq (h0 t ht),fun t ht=>zdq (h1 t ht),fun t ht=>zdq (h2 t ht),fun t ht=>zdq (h3 t ht),fun a ha=> ?_,fun f hf=> ?_⟩
 ·have:=h4 a ha;unfold alwB at this;simp only[z2z,Bool.or_eq_true,decide_eq_true_eq]at this;refine⟨?_,zdq this.2⟩;rcases this.1 with h9|h9
  ·rw[h9];decide
  ·exact zdq h9
 ·have:=h5 f hf;unfold frcB at this;simp only[z2z]at this;exact⟨zdq this.1.2,zdq this.2⟩
theorem zwy {p:Pol} (h:zco p=true):p.forces.length<=200:=by
 unfold zco fitB at h;simp only[z2z,decide_eq_true_eq]at h;exact h.1.2.2.2.2.2.2
def NewP (p:Pol) (w:World) (e:Ending) (w':World):Prop:=Below w.heap.size w w'/\((newR p≠0/\e= .returned (.tuple #[.pointer none,.int .i64 (newR p:Nat)]))\/(newR p=0/\ ∃g,e= .returned (.tuple #[.pointer (some ⟨g,0,none⟩),.int .i64 0])/\w.heap.size<=g/\zdh w' g p))
open Go.RowKit
attribute [local go_sem] Oper.semAt_some
end Go.Proofs.YtiikamobcmgekaaGreatDoor
