/- The walks of what is asked of lists, words, and rules. -/
import Derived.Test.YtbhhgbgfaemfdaaGreatDoorShelf
import Derived.WalkKit
import Derived.Maps.OwnOps
import Derived.Maps.OwnSet
import Derived.Maps.AppendAt
import Derived.StringKeys
import Derived.DeepKeys4
import Derived.BigRegion
import Derived.Deep.CutBlock
import Derived.Deep.DeepCutAuto
import Derived.Test.YtbhhgbgfaemfdaaGreatDoorKB
import Derived.Test.YtbhhgbgfaemfdaaGreatDoorPA
namespace Go.Proofs.YtbhhgbgfaemfdaaGreatDoor
open Go.RowKit
open Go.ChangeMaps Go.MapKept
open Go.WideMaps (KeyLaw)
section
variable {P:Program} {k e t:TypeId} {W:World} {b clock:Nat} {es:Array MapEntry} {key val:Value} {kl:Lit}
theorem map_store (K:KeyLaw P k) (ht:P.underlying t=some (.map k e)) (hb:W.heap[b]? =some (.map es clock)) (hks: ∀x∈es.toList,∃l,keyOf P k x.key=some l) (hkey:keyOf P k key=some kl):
  ∃es' clock',(Instr.mapUpdate t (.map (some b)) key val).run P W= .ok () (setBlock W b (.map es' clock'))/\
   (((∀x∈es.toList,x.key≠key)/\ ∃n,es'.toList=es.toList++[⟨key,val,n⟩])\/ ∃(j:Nat) (e0:MapEntry),es.toList[j]? =some e0/\e0.key=key/\es'.toList=es.toList.set j {e0 with key:=key,val:=val}):=by
 rcases K.find W hkey es.toList hks with⟨h1,h2⟩|⟨j,e0,h1,h2,h3⟩
 ·exact⟨es.push ⟨key,val,clock⟩,clock+1,by simp[Instr.mapUpdate,run_underlying ht,MapKept.run_getObj_map hb,K.check W false hkey,h1,MapKept.run_setObj_map _ hb,Result.andThen,setBlock],.inl ⟨h2,clock,by simp⟩⟩
 ·have hj:es[j]? =some e0:=by simpa using h2
  exact⟨es.modify j (fun e'=>{e' with key:=key,val:=val}),clock,by simp[Instr.mapUpdate,run_underlying ht,MapKept.run_getObj_map hb,K.check W false hkey,h1,hj,h3,K.stays W hkey,MapKept.run_setObj_map _ hb,Result.andThen,setBlock],.inr ⟨j,e0,h2,h3,by rw[Array.toList_modify,modify_eq_set _ _ _ _ h2]⟩⟩
theorem set_grown (hb:W.heap[b]? =some (.map es clock)) (o:Obj):W.grownBy (setBlock W b o) (some b):=
 ⟨rfl,rfl,rfl,by simp[setBlock],fun i _ hi=>heap_setBlock_other hb _ (fun e1=>hi (by rw[e1]))⟩
def KeysM (P:Program) (k:TypeId) (W:World) (b:Nat) (ks:List Value):Prop:= ∃es clock,W.heap[b]? =some (.map es clock)/\(∀x∈es.toList,x.val= .agg #[])/\(∀x∈es.toList,∃l,keyOf P k x.key=some l)/\ ∀v,(∃x∈es.toList,x.key=v)↔v∈ks
theorem KeysM.new {ks:List Value} (h:W.heap[b]? =some (.map #[] 0)) (hk:ks=[]):KeysM P k W b ks:=⟨#[],0,h,by simp,by simp,by simp[hk]⟩
theorem KeysM.kept {ks:List Value} {W':World} (h:KeysM P k W b ks) (hb:W'.heap[b]? =W.heap[b]?):KeysM P k W' b ks:=by
 obtain⟨es,c,h1,h2⟩:=h
 exact⟨es,c,hb.trans h1,h2⟩
theorem KeysM.lt {ks:List Value} (h:KeysM P k W b ks):b<W.heap.size:=by
 obtain⟨es,c,h1,_⟩:=h
 exact(Array.getElem?_eq_some_iff.1 h1).1
theorem KeysM.below {ks:List Value} {W':World} (h:KeysM P k W b ks) (hb:Below W.heap.size W W'):KeysM P k W' b ks:=h.kept (hb.block b h.lt)
theorem KeysM.put {ks:List Value} (h:KeysM P k W b ks) (K:KeyLaw P k) (ht:P.underlying t=some (.map k e)) (hkey:keyOf P k key=some kl):
  ∃W',(Instr.mapUpdate t (.map (some b)) key (.agg #[])).run P W= .ok () W'/\KeysM P k W' b (ks++[key])/\W.grownBy W' (some b):=by
 obtain⟨es,c,h1,h2,h3,h4⟩:=h
 obtain⟨es',c',h5,h6⟩:=map_store (val:= .agg #[]) K ht h1 h3 hkey
 refine⟨_,h5,⟨es',c',heap_setBlock_same h1 _, ?_⟩,set_grown h1 _⟩
 rcases h6 with⟨_,n,e1⟩|⟨j,e0,hj,ek,e1⟩
 ·rw[e1]
  refine⟨?_, ?_,fun v=> ?_⟩
  ·intro x hx
   rcases List.mem_append.1 hx with hx|hx
   ·exact h2 x hx
   ·rw[List.mem_singleton.1 hx]
  ·intro x hx
   rcases List.mem_append.1 hx with hx|hx
   ·exact h3 x hx
   ·rw[List.mem_singleton.1 hx];exact⟨_,hkey⟩
  ·rw[List.mem_append,List.mem_singleton,<-h4 v]
   constructor
   ·rintro⟨x,hx,e2⟩
    rcases List.mem_append.1 hx with hx|hx
    ·exact .inl ⟨x,hx,e2⟩
    ·rw[List.mem_singleton.1 hx]at e2;exact .inr e2.symm
   ·rintro(⟨x,hx,e2⟩|e2)
    ·exact⟨x,List.mem_append.2 (.inl hx),e2⟩
    ·exact⟨_,List.mem_append.2 (.inr (List.mem_singleton.2 rfl)),e2.symm⟩
 ·have hsame:es'.toList=es.toList:=by
   rw[e1]
   have he0:({e0 with key:=key,val:= .agg #[]}:MapEntry)=e0:=by
    have:=h2 e0 (List.mem_of_getElem? hj)
    cases e0
    simp only at this ek
    subst this ek
    rfl
   rw[he0]
   apply List.ext_getElem?
   intro i
   rw[List.getElem?_set]
   split
   ·next hi=>subst hi;rw[hj,if_pos (List.getElem?_eq_some_iff.1 hj).1]
   ·rfl
  rw[hsame]
  refine⟨h2,h3,fun v=> ?_⟩
  rw[h4 v,List.mem_append,List.mem_singleton]
  constructor
  ·exact .inl
  ·rintro(h|h)
   ·exact h
   ·rw[h];exact(h4 key).1 ⟨e0,List.mem_of_getElem? hj,ek⟩
end
section
variable {P:Program} {k e t tA:TypeId} {W:World} {b base size:Nat} {α:Type} {kf:α->Bs} {cells:α->List Value}
def grpL (kf:α->Bs) (l:List α) (u:Bs):List α:=l.filter fun x=>decide (kf x=u)
structure GrpEs (P:Program) (k tA:TypeId) (size:Nat) (kf:α->Bs) (cells:α->List Value) (W:World) (base:Nat) (l:List α) (es:List MapEntry):Prop where
 keys: ∀x∈es,∃l,keyOf P k x.key=some l
 rows: ∀x∈es,∃u,x.key=sv u/\grpL kf l u≠[]/\W.ownsRow base tA size x.val (grpL kf l u).length ((grpL kf l u).flatMap cells)
 all: ∀u,grpL kf l u≠[]-> ∃x∈es,x.key=sv u
 apart:es.Pairwise fun x y=>x.key≠y.key/\ ∀g,x.val.ownBlock=some g->y.val.ownBlock≠some g
def GrpM (P:Program) (k tA:TypeId) (size:Nat) (kf:α->Bs) (cells:α->List Value) (W:World) (b base:Nat) (l:List α):Prop:=b<base/\ ∃es clock,W.heap[b]? =some (.map es clock)/\GrpEs P k tA size kf cells W base l es.toList
theorem GrpM.new (h:W.heap[b]? =some (.map #[] 0)) (hb:b<base):GrpM P k tA size kf cells W b base []:=⟨hb,#[],0,h,⟨by simp,by simp,fun u h=>absurd rfl h,by simp⟩⟩
theorem GrpM.lt {l:List α} (h:GrpM P k tA size kf cells W b base l):b<W.heap.size:=by
 obtain⟨_,es,c,h1,_⟩:=h
 exact(Array.getElem?_eq_some_iff.1 h1).1
theorem GrpEs.grown {l:List α} {es:List MapEntry} {W':World} (h:GrpEs P k tA size kf cells W base l es) (hg:W.grownBy W' none):GrpEs P k tA size kf cells W' base l es:=
 ⟨h.keys,fun x hx=>by obtain⟨u,h1,h2,h3⟩:=h.rows x hx;exact⟨u,h1,h2,h3.kept hg (Classical.em _)⟩,h.all,h.apart⟩
theorem GrpM.grown {l:List α} {W':World} (h:GrpM P k tA size kf cells W b base l) (hg:W.grownBy W' none):GrpM P k tA size kf cells W' b base l:=by
 have hl:=h.lt
 obtain⟨h0,es,c,h1,h2⟩:=h
 exact⟨h0,es,c,(hg.block b hl (by simp)).trans h1,h2.grown hg⟩
theorem GrpM.below {l:List α} {W':World} (h:GrpM P k tA size kf cells W b base l) (hb:Below W.heap.size W W'):GrpM P k tA size kf cells W' b base l:=
 h.grown ⟨hb.os,hb.tape,hb.output,hb.size,fun i hi _=>hb.block i hi⟩
end
open Go.RowKit
section
variable {P:Program} {ops:Array Oper} {md:Region.Mode} {Q:Exit->Act->World->Prop} {S:World->Prop}
end
open Go.RowKit
open Go.WideMaps (KeyLaw)
attribute [local go_sem] Oper.semAt_some
open Go.RowKit
attribute [local go_sem] Oper.semAt_some
open Go.RowKit
attribute [local go_sem] Oper.semAt_some
theorem flat_atC {α:Type} (cells:α->List Value) (n:Nat) (hn: ∀x,(cells x).length=n) (l:List α) (k j:Nat) (hk:k<l.length) (hj:j<n):(l.flatMap cells)[k*n+j]? =(cells l[k])[j]? :=by
 induction l generalizing k with
 |nil=>simp at hk
 |cons x r ih=>
  cases k with
  |zero=>simp only[List.flatMap_cons,Nat.zero_mul,Nat.zero_add,List.getElem_cons_zero];rw[List.getElem?_append_left (by rw[hn];exact hj)]
  |succ k=>
   simp only[List.flatMap_cons,List.getElem_cons_succ]
   rw[List.getElem?_append_right (by rw[hn,Nat.add_mul];omega),hn,show(k+1)*n+j-n=k*n+j by rw[Nat.add_mul];omega]
   exact ih k (by simpa using hk)
open Go.RowKit
attribute [local go_sem] Oper.semAt_some
def PredL {α:Type} (g:Nat) (fs lb:Array Value) (enc:α->Value) (p:α->Bool) (l:List α) (w:World):Prop:=(∀args w,(callFunc g args).run Tryz.prog w= .ok (.enter g args) w)/\ ∀t∈l,∀W,Below w.heap.size w W->Calls Tryz.prog g (fs.push (enc t)++lb) W (Ret (.bool (p t)) W)
theorem PredL.later {α:Type} {g:Nat} {fs lb:Array Value} {enc:α->Value} {p:α->Bool} {l:List α} {w W:World} (h:PredL g fs lb enc p l w) (hb:Below w.heap.size w W):PredL g fs lb enc p l W:=
 ⟨h.1,fun t ht W' hb'=>h.2 t ht W' (hb.trans (hb'.mono hb.size))⟩
set_option maxRecDepth 100000 in
set_option maxHeartbeats 1600000 in
theorem fnIdxS_any (v:Value) (l:List Bs) (g:Nat) (fs lb:Array Value) (p:Bs->Bool) (w:World) (h:Rd w v l.length 1 (l.map sv)) (hp:PredL g fs lb sv p l w):
  Calls Tryz.prog 164 #[v,.func (.func g) fs lb] w fun e w'=> ∃i:Int,e= .returned (.int .i64 i)/\decide (0<=i)=l.any p/\Below w.heap.size w w':=by
 obtain⟨eg,hp⟩:=hp
 have hp:=Lib.hid hp
 obtain⟨_,hm,A,c,rfl,h4⟩:=h
 obtain⟨n,hn⟩: ∃n,l.length=n:=⟨_,rfl⟩
 have HN:=Lib.hid hn
 rw[hn]at hm h4 ⊢
 clear hn
 have H4:=Lib.hid h4
 clear h4
 go_enter Tryz.func164,Tryz.ntmps164
 go_wp2_with fail
 go_loopw [8] (fun i wr=> ∃k:Nat,k<=n/\i= .int .i64 (k:Nat)/\Hid (l.any p=(l.drop k).any p)/\Hid (Below w.heap.size w wr)) (fun i _=>n-(intOf i).toNat)
 case atStart=>exact⟨0,by omega,rfl,by show _=_;rw[List.drop_zero],by show Below _ _ _;exact bel⟩
 case round=>
  obtain⟨k,hk,rfl,HK,HB⟩:=hrel
  by_cases hlt:k<n
  ·obtain⟨b,off,rfl,hb,hc⟩:=H4.out (by omega)
   have hkl:k<l.length:=by rw[HN.out];exact hlt
   obtain⟨x,hx⟩: ∃x,l[k]=x:=⟨_,rfl⟩
   have x0:wr.cell? ⟨b,off+k,none⟩=some (sv x):=(HB.out.cell (p:=⟨b,off+k,none⟩) hb).trans (hc k (sv x) (by simp[hkl,hx]))
   have hbr:b<wr.heap.size:=Nat.lt_of_lt_of_le hb HB.out.size
   have HD:Hid (l.drop k=x::l.drop (k+1)):=by show _=_;rw[List.drop_eq_getElem_cons hkl,hx]
   have HP:=Lib.hid (hp.out x (hx ▸ List.getElem_mem hkl))
   clear hc hx hkl
   obtain⟨px,hpx⟩: ∃px,p x=px:=⟨_,rfl⟩
   rw[hpx]at HP
   have HPx:=Lib.hid hpx
   clear hpx
   have HP2:=Lib.hid (fun W hb=>show Calls Tryz.prog g (fs.push (.string ⟨x.toArray⟩)++lb) W _ from HP.out W hb)
   rw[show sv x= .string ⟨x.toArray⟩from rfl]at x0
   clear HP
   generalize(⟨x.toArray⟩:ByteArray)=ts at*
   have hwr:=HB.out.size
   cases px with
   |false=>
    have HT:Hid (l.any p=(l.drop (k+1)).any p):=by
     show _=_
     rw[HK.out,HD.out,List.any_cons,HPx.out,Bool.false_or]
    clear HK HD
    go_wp2_with((with_reducible refine(HP2.out _ HB.out).mono ?_);rintro e w' ⟨rfl,X,rfl⟩)
    go_roundw
    case rel=>exact⟨k+1,by omega,by go_num,HT.out,by show Below _ _ _;exact HB.out.trans ((bel:Below wr.heap.size wr (wr.grow X)).mono HB.out.size)⟩
    case measure=>simp[intOf];omega
   |true=>
    have HT:Hid (l.any p=true):=by
     show _=_
     rw[HK.out,HD.out,List.any_cons,HPx.out,Bool.true_or]
    clear HK HD
    go_wp2_with((with_reducible refine(HP2.out _ HB.out).mono ?_);rintro e w' ⟨rfl,X,rfl⟩)
    go_ret
    exact⟨k,rfl,by rw[HT.out];simp,HB.out.trans ((bel:Below wr.heap.size wr (wr.grow X)).mono HB.out.size)⟩
  ·have HT:Hid (l.any p=false):=by
    show _=_
    rw[HK.out,List.drop_eq_nil_of_le (by rw[HN.out];omega)];rfl
   go_wp2_with fail
   go_ret
   exact⟨-1,rfl,by rw[HT.out];rfl,HB.out⟩
theorem hasS_fn (v:Value) (l:List Bs) (g:Nat) (fs lb:Array Value) (p:Bs->Bool) (w:World) (h:Rd w v l.length 1 (l.map sv)) (hp:PredL g fs lb sv p l w):
  Calls Tryz.prog 101 #[v,.func (.func g) fs lb] w (Ret (.bool (l.any p)) w):=by
 have HI:=Lib.hid (fnIdxS_any v l g fs lb p w h hp)
 clear h hp
 go_enter Tryz.func101,Tryz.ntmps101
 go_wp2_with(go_at_call 164;(with_reducible refine HI.out.mono ?_);rintro e w' ⟨i,rfl,hi,hb⟩;have HB:=Lib.hid hb;have HI2:=Lib.hid hi;clear hb hi)
 go_ret
 exact Ret.of (by rw[<-HI2.out];simp) HB.out
open Go.RowKit
attribute [local go_sem] Oper.semAt_some
theorem ba_bqD (x:ByteArray) (c:Bs):(x.toList==c)=decide (x.data.toList=c):=by rw[ByteArray.toList_eq,Bool.eq_iff_iff];simp
open Go.RowKit
attribute [local go_sem] Oper.semAt_some
def atC (f:Frc):List Value:=[sv f.name,sv f.value]
structure RulesV (W:World) (g:Nat) (p:Pol):Prop where
 lt:g<W.heap.size
 c0: ∃b,W.cell? ⟨g,0,none⟩=some (.map (some b))/\KeysM Tryz.prog 9 W b (p.tags.map sv)
 c1: ∃b,W.cell? ⟨g,1,none⟩=some (.map (some b))/\KeysM Tryz.prog 9 W b (p.schemes.map sv)
 c2: ∃b,W.cell? ⟨g,2,none⟩=some (.map (some b))/\KeysM Tryz.prog 9 W b (p.css.map sv)
 c3: ∃b,W.cell? ⟨g,3,none⟩=some (.map (some b))/\KeysM Tryz.prog 9 W b (p.drops.map sv)
 c4: ∃b,W.cell? ⟨g,4,none⟩=some (.map (some b))/\KeysM Tryz.prog 80 W b (p.attrs.map Alw.agg)
 c5: ∃b base,W.cell? ⟨g,5,none⟩=some (.map (some b))/\GrpM Tryz.prog 9 110 2 Frc.tag atC W b base p.forces
 c6:W.cell? ⟨g,6,none⟩=some (.bool p.rel)
 c7:W.cell? ⟨g,7,none⟩=some (.int .i64 p.depth)
 c8:W.cell? ⟨g,8,none⟩=some (.int .i64 p.name)
 c9:W.cell? ⟨g,9,none⟩=some (.int .i64 p.value)
theorem RulesV.below {W W':World} {g:Nat} {p:Pol} (h:RulesV W g p) (hb:Below W.heap.size W W'):RulesV W' g p:=by
 have hc: ∀j v,W.cell? ⟨g,j,none⟩=some v->W'.cell? ⟨g,j,none⟩=some v:=fun j v hv=>(hb.cell (p:=⟨g,j,none⟩) h.lt).trans hv
 obtain⟨hl,⟨b0,x0,y0⟩,⟨b1,x1,y1⟩,⟨b2,x2,y2⟩,⟨b3,x3,y3⟩,⟨b4,x4,y4⟩,⟨b5,b6,x5,y5⟩,x6,x7,x8,x9⟩:=h
 exact⟨Nat.lt_of_lt_of_le hl hb.size,⟨b0,hc _ _ x0,y0.below hb⟩,⟨b1,hc _ _ x1,y1.below hb⟩,⟨b2,hc _ _ x2,y2.below hb⟩,⟨b3,hc _ _ x3,y3.below hb⟩,⟨b4,hc _ _ x4,y4.below hb⟩,⟨b5,b6,hc _ _ x5,y5.below hb⟩,hc _ _ x6,hc _ _ x7,hc _ _ x8,hc _ _ x9⟩
end Go.Proofs.YtbhhgbgfaemfdaaGreatDoor
