/- The walk of cssfilter.Decls: its two loops. -/
import Derived.DeepKeys4
import Derived.BigRegion
import Derived.Deep.CutBlock
import Derived.Deep.DeepCutAuto
import Derived.Test.YtiikamobcmgekaaGreatDoorC3
import Derived.Test.YtiikamobcmgekaaGreatDoorFltPlainB
import Derived.Test.YtiikamobcmgekaaGreatDoorJDecR
import Derived.Test.YtiikamobcmgekaaGreatDoorJValL
namespace Go.Proofs.YtiikamobcmgekaaGreatDoor
set_option maxRecDepth 100000
set_option maxHeartbeats 8000000
open Go.RowKit
open Go.ChangeMaps Go.MapKept
open Go.WideMaps (KeyLaw)
section
variable {P:Program} {k e t:TypeId} {W:World} {b:Nat} {key val:Value} {kl:Lit}
def ValM (P:Program) (k:TypeId) (W:World) (b:Nat) (R:Value->Value->Prop):Prop:= ∃es clock,W.heap[b]? =some (.map es clock)/\(∀x∈es.toList,∃l,keyOf P k x.key=some l)/\es.toList.Pairwise (fun x y=>x.key≠y.key)/\ ∀v u,(∃x∈es.toList,x.key=v/\x.val=u)↔R v u
theorem ValM.new {R:Value->Value->Prop} (h:W.heap[b]? =some (.map #[] 0)) (hR: ∀v u,¬R v u):ValM P k W b R:=⟨#[],0,h,by simp,by simp,fun v u=>⟨fun⟨x,hx,_⟩=>by simp at hx,fun h=>absurd h (hR v u)⟩⟩
theorem ValM.kept {R:Value->Value->Prop} {W':World} (h:ValM P k W b R) (hb:W'.heap[b]? =W.heap[b]?):ValM P k W' b R:=by
 obtain⟨es,c,h1,h2⟩:=h
 exact⟨es,c,hb.trans h1,h2⟩
theorem ValM.iff {R R':Value->Value->Prop} (h:ValM P k W b R) (hR: ∀v u,R v u↔R' v u):ValM P k W b R':=by
 obtain⟨es,c,h1,h2,h3,h4⟩:=h
 exact⟨es,c,h1,h2,h3,fun v u=>(h4 v u).trans (hR v u)⟩
theorem ValM.lt {R:Value->Value->Prop} (h:ValM P k W b R):b<W.heap.size:=by
 obtain⟨es,c,h1,_⟩:=h
 exact(Array.getElem?_eq_some_iff.1 h1).1
theorem ValM.below {R:Value->Value->Prop} {W':World} (h:ValM P k W b R) (hb:Below W.heap.size W W'):ValM P k W' b R:=h.kept (hb.block b h.lt)
theorem pair_same {es:List MapEntry} (h:es.Pairwise (fun x y=>x.key≠y.key)) {x y:MapEntry} (hx:x∈es) (hy:y∈es) (hk:x.key=y.key):x=y:=by
 induction es with
 |nil=>cases hx
 |cons z r ih=>
  rw[List.pairwise_cons]at h
  rcases List.mem_cons.1 hx with hx1|hx1
  ·rcases List.mem_cons.1 hy with hy1|hy1
   ·rw[hx1,hy1]
   ·exact absurd (hx1 ▸ hk) (h.1 y hy1)
  ·rcases List.mem_cons.1 hy with hy1|hy1
   ·exact absurd (hy1 ▸ hk).symm (h.1 x hx1)
   ·exact ih h.2 hx1 hy1
theorem ValM.look {R:Value->Value->Prop} (h:ValM P k W b R) (K:KeyLaw P k) (ht:P.underlying t=some (.map k e)) {z:Value} (hz:(zeroValue e).run P W= .ok z W) (hkey:keyOf P k key=some kl) {u:Value} (hu:R key u):
  (Instr.lookup t (.map (some b)) key true).run P W= .ok (.tuple #[u,.bool true]) W/\(Instr.lookup t (.map (some b)) key false).run P W= .ok u W:=by
 obtain⟨es,c,h1,h2,h3,h4⟩:=h
 obtain⟨y,hy,hy1,hy2⟩:=(h4 key u).2 hu
 rcases map_look K ht hz h1 h2 hkey with⟨h5,_⟩|⟨x,hx,h5,h6,h7⟩
 ·exact absurd hy1 (h5 y hy)
 ·have:=pair_same h3 hx hy (h5.trans hy1.symm)
  subst this
  rw[hy2]at h6 h7
  exact⟨h6,h7⟩
def putR (R:Value->Value->Prop) (key val v u:Value):Prop:=(v=key/\u=val)\/(v≠key/\R v u)
theorem ValM.put {R:Value->Value->Prop} (h:ValM P k W b R) (K:KeyLaw P k) (ht:P.underlying t=some (.map k e)) (hkey:keyOf P k key=some kl):
  ∃W',(Instr.mapUpdate t (.map (some b)) key val).run P W= .ok () W'/\ValM P k W' b (putR R key val)/\W.grownBy W' (some b):=by
 obtain⟨es,c,h1,h2,h3,h4⟩:=h
 obtain⟨es',c',h5,h6⟩:=map_store (val:=val) K ht h1 h2 hkey
 refine⟨_,h5,⟨es',c',heap_setBlock_same h1 _, ?_⟩,set_grown h1 _⟩
 rcases h6 with⟨hn,n,e1⟩|⟨j,e0,hj,ek,e1⟩
 ·rw[e1]
  refine⟨fun x hx=> ?_, ?_,fun v u=> ?_⟩
  ·rcases List.mem_append.1 hx with hx|hx
   ·exact h2 x hx
   ·rw[List.mem_singleton.1 hx];exact⟨_,hkey⟩
  ·rw[List.pairwise_append]
   refine⟨h3,List.pairwise_singleton _ _,fun x hx y hy=> ?_⟩
   rw[List.mem_singleton.1 hy]
   exact hn x hx
  ·constructor
   ·rintro⟨x,hx,e2,e3⟩
    rcases List.mem_append.1 hx with hx|hx
    ·exact .inr ⟨fun e4=>hn x hx (e2.trans e4),(h4 v u).1 ⟨x,hx,e2,e3⟩⟩
    ·rw[List.mem_singleton.1 hx]at e2 e3;exact .inl ⟨e2.symm,e3.symm⟩
   ·rintro(⟨rfl,rfl⟩|⟨_,hr⟩)
    ·exact⟨_,List.mem_append.2 (.inr (List.mem_singleton.2 rfl)),rfl,rfl⟩
    ·obtain⟨x,hx,e2⟩:=(h4 v u).2 hr
     exact⟨x,List.mem_append.2 (.inl hx),e2⟩
 ·have hjl:=(List.getElem?_eq_some_iff.1 hj).1
  have hje:es.toList[j]=e0:=(List.getElem?_eq_some_iff.1 hj).2
  have hmem: ∀x,x∈es.toList.set j {e0 with key:=key,val:=val}->x={e0 with key:=key,val:=val}\/(x∈es.toList/\x.key≠key):=fun x hx=>by
   obtain⟨i,hi,hxi⟩:=List.getElem_of_mem hx
   rw[List.getElem_set]at hxi
   split at hxi
   ·exact .inl hxi.symm
   ·next hij=>
    have hi':i<es.toList.length:=by simpa using hi
    right
    refine⟨hxi ▸ List.getElem_mem hi',fun e2=> ?_⟩
    have k1:es.toList[j].key=key:=by rw[hje];exact ek
    have k2:es.toList[i].key=key:=by rw[hxi];exact e2
    rcases Nat.lt_or_gt_of_ne hij with hlt|hlt
    ·exact absurd (k1.trans k2.symm) ((List.pairwise_iff_getElem.1 h3) j i hjl hi' hlt)
    ·exact absurd (k2.trans k1.symm) ((List.pairwise_iff_getElem.1 h3) i j hi' hjl hlt)
  have hset:({e0 with key:=key,val:=val}:MapEntry)∈es.toList.set j {e0 with key:=key,val:=val}:=List.mem_set hjl _
  rw[e1]
  refine⟨fun x hx=> ?_, ?_,fun v u=> ?_⟩
  ·rcases hmem x hx with rfl|⟨hx,_⟩
   ·exact⟨_,hkey⟩
   ·exact h2 x hx
  ·rw[List.pairwise_iff_getElem]at h3 ⊢
   intro i m hi hm him
   have hi':i<es.toList.length:=by simpa using hi
   have hm':m<es.toList.length:=by simpa using hm
   have h8:=h3 i m hi' hm' him
   rw[List.getElem_set,List.getElem_set]
   by_cases hji:j=i
   ·subst hji
    rw[if_pos rfl,if_neg (by omega)]
    rw[hje,ek]at h8
    exact h8
   ·rw[if_neg hji]
    by_cases hjm:j=m
    ·subst hjm
     rw[if_pos rfl]
     rw[hje,ek]at h8
     exact h8
    ·rw[if_neg hjm]
     exact h8
  ·constructor
   ·rintro⟨x,hx,e2,e3⟩
    rcases hmem x hx with rfl|⟨hx,hne⟩
    ·exact .inl ⟨e2.symm,e3.symm⟩
    ·exact .inr ⟨fun e4=>hne (e2.trans e4),(h4 v u).1 ⟨x,hx,e2,e3⟩⟩
   ·rintro(⟨rfl,rfl⟩|⟨hne,hr⟩)
    ·exact⟨_,hset,rfl,rfl⟩
    ·obtain⟨x,hx,e2,e3⟩:=(h4 v u).2 hr
     refine⟨x, ?_,e2,e3⟩
     obtain⟨i,hi,hxi⟩:=List.getElem_of_mem hx
     have hij:j≠i:=fun e4=>hne (by subst e4;rw[<-e2,<-hxi,hje,ek])
     rw[List.mem_iff_getElem]
     exact⟨i,by simpa using hi,by rw[List.getElem_set,if_neg hij];exact hxi⟩
end
theorem wpList_putV {P:Program} {k e:TypeId} {w:World} {ops:Array Oper} {rest:List Oper} {o:Oper} {a:Act} {Q:Exit->Act->World->Prop} (hg:o.guard=none) (m x v:Operand) (t:TypeId) (hop:o.op=Op.mapUpdate t m x v)
  (b:Nat) (R:Value->Value->Prop) (h:ValM P k w b R) (K:KeyLaw P k) (ht:P.underlying t=some (.map k e)) (hm:a.eval m= .map (some b)) {key val:Value} {kl:Lit} (hx:a.eval x=key) (hv:a.eval v=val) (hkey:keyOf P k key=some kl)
  (hK: ∀w',ValM P k w' b (putR R key val)->w.grownBy w' (some b)->wpList P ops Q rest (a.put o.dst undef) w'):wpList P ops Q (o::rest) a w:=by
 refine wpList_plain hg fun K' hK'=> ?_
 obtain⟨w',hrun,r1,r2⟩:=h.put (val:=val) K ht hkey
 unfold Oper.wp
 simp[execOp,hop,hm,hx,hv,hrun,Result.andThen]
 exact hK' _ _ (hK w' r1 r2)
def tuL (x:Css):Nat:=x.text.length+x.unit.length
theorem told_small (s:St): ∀x∈toldT s,tuL x<=40:=by
 have f: ∀t:Bs,t.length<=20->tuL (fnC t)<=40:=fun t ht=>by simp[tuL,fnC];omega
 have n: ∀(a:Int) (u:Bs),u.length<=20->tuL (nuC a u)<=40:=fun a u hu=>by simp[tuL,nuC];omega
 have m: ∀k,tuL (mark1 k)<=40:=fun k=>by simp[tuL,mark1]
 intro x hx
 unfold toldT at hx
 split at hx
 ·simp only[List.mem_cons,List.not_mem_nil,or_false]at hx
  rcases hx with rfl|rfl|rfl|rfl|rfl
  ·exact f _ (by decide)
  ·exact n _ _ (by decide)
  ·exact m _
  ·exact n _ _ (by decide)
  ·exact m _
 ·split at hx
  ·simp only[List.mem_cons,List.not_mem_nil,or_false]at hx
   rcases hx with rfl|rfl|rfl
   ·exact f _ (by decide)
   ·exact n _ _ (by decide)
   ·exact m _
  ·split at hx
   ·simp only[List.mem_cons,List.not_mem_nil,or_false]at hx
    rcases hx with rfl|rfl|rfl
    ·exact f _ (by decide)
    ·exact n _ _ (by decide)
    ·exact m _
   ·simp only[List.mem_cons,List.not_mem_nil,or_false]at hx
    rcases hx with rfl|rfl|rfl
    ·exact f _ (by decide)
    ·exact n _ _ (by decide)
    ·exact m _
theorem moves_small {l a:List Css} (h:movesT l=some a): ∀x∈a,tuL x<=40:=by
 have hn: ∀x∈[noneC],tuL x<=40:=fun x hx=>by rw[List.mem_singleton]at hx;subst hx;decide
 unfold movesT at h
 split at h
 ·cases h;exact hn
 ·split at h
  ·cases h
  ·split at h
   ·split at h
    ·cases h;exact hn
    ·cases h
     intro x hx
     obtain⟨s,_,hx⟩:=List.mem_flatMap.1 hx
     exact told_small s x hx
   ·cases h
theorem value_size {nm:Bs} {l a:List Css} (h:valueT nm l=some a):a=l\/(Short a/\a.length<=40/\ ∀x∈a,tuL x<=40):=by
 unfold valueT at h
 split at h
 ·cases h
 ·split at h
  ·exact .inr ⟨(moves_short h).1,(moves_short h).2,moves_small h⟩
  ·split at h
   ·cases h;exact .inl rfl
   ·cases h
theorem keep_shortD {P:Pol} {d e:Dcl} (hd:ShortD d) (h:keepD P d=some e):ShortD e:=by
 obtain⟨h1,_,_,h4⟩:=keep_some h
 obtain⟨d1,d2,d3⟩:=hd
 rcases value_size h4 with h5|⟨h5,h6,_⟩
 ·exact⟨by rw[h5];exact d1,by rw[h5];exact d2,by rw[h1];exact d3⟩
 ·exact⟨h5,by omega,by rw[h1];exact d3⟩
theorem all_shortD {P:Pol} {l:List Dcl} (h: ∀d∈l,ShortD d): ∀e∈allD P l,ShortD e:=by
 intro e he
 obtain⟨d,hd,hk⟩:=List.mem_filterMap.1 he
 exact keep_shortD (h d hd) hk
theorem all_len (P:Pol) (l:List Dcl):(allD P l).length<=l.length:=List.length_filterMap_le ..
theorem last_sub: ∀l:List Dcl,(lastD l).Sublist l
 |[]=>List.Sublist.refl _
 |d::r=>by
  unfold lastD
  split
  ·exact(last_sub r).cons _
  ·exact(last_sub r).cons_cons _
theorem last_len (l:List Dcl):(lastD l).length<=l.length:=(last_sub l).length_le
theorem sub_sum {α:Type} (f:α->Nat): ∀{l m:List α},l.Sublist m->(l.map f).sum<=(m.map f).sum:=by
 intro l m h
 induction h with
 |slnil=>exact Nat.le_refl _
 |cons a _ ih=>rw[List.map_cons,List.sum_cons];omega
 |cons_cons a _ ih=>rw[List.map_cons,List.map_cons,List.sum_cons,List.sum_cons];omega
theorem all_sum (P:Pol): ∀l:List Dcl,((allD P l).map fun d=>d.value.length).sum<=(l.map fun d=>d.value.length).sum+l.length*40
 |[]=>Nat.le_refl _
 |d::r=>by
  have ih:=all_sum P r
  unfold allD at ih ⊢
  rw[List.map_cons,List.sum_cons,List.length_cons]
  cases hk:keepD P d with
  |none=>rw[List.filterMap_cons_none hk];omega
  |some e=>
   rw[List.filterMap_cons_some hk,List.map_cons,List.sum_cons]
   rcases value_size (keep_some hk).2.2.2 with h5|⟨_,h6,_⟩
   ·rw[h5];omega
   ·omega
theorem decls_few (s:Bs):(declsL (cssL s)).length<=s.length+1:=by
 have h1:=List.length_filterMap_le declOf (partsL 0 (cssL s))
 have h2:=(parts_few (cssL s) 0).1
 have h3:(cssL s).length<=s.length:=scan_few _ s (Nat.lt_succ_self _)
 unfold declsL
 omega
theorem flt_sizes (P:Pol) {s:Bs} (h:s.length<=1000):(fltD P s).length<=1001/\(∀d∈fltD P s,ShortD d)/\(textD (fltD P s)).length<=60000000:=by
 obtain⟨p1,p2⟩:=parsed_short h
 have hA: ∀e∈allD P (declsL (cssL s)),ShortD e:=all_shortD fun d hd=>(p2 d hd).1
 have hL:=last_len (allD P (declsL (cssL s)))
 have hl:(fltD P s).length<=1001:=Nat.le_trans hL (Nat.le_trans (all_len P _) p1)
 refine⟨hl,fun d hd=>hA d (last_mem hd), ?_⟩
 have hp: ∀x∈cssL s,tuL x<=1064:=fun x hx=>by
  have:=(scan_small _ s x hx).2
  unfold tuL
  omega
 have hS: ∀d∈fltD P s,(∀x∈d.value,CssOk x/\x.text.length+x.unit.length<=1064)/\d.name.length<=1000:=by
  intro e he
  have he2:=last_mem he
  have hsh:=hA e he2
  obtain⟨d,hd,hk⟩:=List.mem_filterMap.1 he2
  obtain⟨_,q2,q3⟩:=parsed_right hd
  obtain⟨k1,_,_,k4⟩:=keep_some hk
  refine⟨fun x hx=>⟨(hsh.1 x hx).1, ?_⟩, ?_⟩
  ·show tuL x<=1064
   rcases value_size k4 with h5|⟨_,_,h7⟩
   ·rw[h5]at hx;exact hp x (q2 x hx)
   ·exact Nat.le_trans (h7 x hx) (by decide)
  ·have:=(scan_small _ s _ q3).2.1
   rw[k1]
   simp only at this
   omega
 have h1:=joinS_sum ((fltD P s).map toldD)
 have h2:=textD_by (m:=1064) (k:=1000) hS
 have h3:=decls_sum (partsL 0 (cssL s))
 have h4:=parts_sum (cssL s) 0
 have h6:=(scan_short h).2.1
 have h7:((fltD P s).map fun d=>d.value.length).sum<=1000+1001*40:=by
  have a1:=sub_sum (fun d:Dcl=>d.value.length) (last_sub (allD P (declsL (cssL s))))
  have a2:=all_sum P (declsL (cssL s))
  have a3:((declsL (cssL s)).map fun d=>d.value.length).sum<=1000:=Nat.le_trans h3 (Nat.le_trans h4 h6)
  have a4:=Nat.mul_le_mul_right 40 p1
  exact Nat.le_trans a1 (Nat.le_trans a2 (by omega))
 have h8:=Nat.mul_le_mul_right 1105 h7
 have h9:=Nat.mul_le_mul_right 1016 hl
 unfold textD
 omega
open Go.RowKit Go.Shelf
open Go.WideMaps (KeyLaw)
attribute [local go_sem] Oper.semAt_some
theorem key_law:KeyLaw Tryz.prog 140:=deep_law_laid laidOut10 (m:=2) (by omega) (of_decide_eq_true (by kernel_rfl)) (by kernel_rfl) (by kernel_rfl)
def keyV (d:Dcl):Value:= .agg #[sv d.name,.bool d.imp]
theorem key_lits (d:Nat) (x:ByteArray) (i:Bool) (hx:x.size<=maxLen):Tryz.prog.keyLits (d+2) 140 [.string x,.bool i]=some [.string x.data.toList,.bool i]:=by
 have hs:Tryz.prog.keyLits (d+1) 9 [.string x]=some [.string x.data.toList]:=by
  unfold Program.keyLits
  rw[Tryz.underlying9]
  simp[hx]
 have hb:Tryz.prog.keyLits (d+1) 4 [.bool i]=some [.bool i]:=by
  unfold Program.keyLits
  rw[Tryz.underlying4]
 have c1:Tryz.prog.cellsOf 9=1:=by kernel_rfl
 have c3:Tryz.prog.cellsOf 4=1:=by kernel_rfl
 have c2:Tryz.prog.cellsOf 140=2:=by kernel_rfl
 unfold Program.keyLits
 rw[Tryz.underlying140]
 simp[c1,c2,c3,hs,hb]
theorem key_key (d:Dcl) (hd:d.name.length<=maxLen): ∃l,keyOf Tryz.prog 140 (keyV d)=some l:=by
 have h:=fun n=>key_lits n ⟨d.name.toArray⟩ d.imp (by show d.name.toArray.size<=_;simpa using hd)
 have hk:Tryz.prog.keyType 140=true:=by kernel_rfl
 have hc:Tryz.prog.cellsOf 140=2:=by kernel_rfl
 have hf:Value.formed Tryz.prog 140 (keyV d)=true:=by
  unfold Value.formed keyV
  simp[Tryz.underlying140,hc]
 obtain⟨n,hn⟩: ∃n,Tryz.prog.types.size+1=n+2:=⟨Tryz.prog.types.size-1,by have:0<Tryz.prog.types.size:=of_decide_eq_true (by kernel_rfl);omega⟩
 unfold keyOf
 rw[Tryz.underlying140]
 simp only[hk,hf,hn,Bool.and_self,if_true]
 refine⟨.string (keyBytes [.string d.name,.bool d.imp]), ?_⟩
 have e:(keyV d).cells.toList=[.string ⟨d.name.toArray⟩,.bool d.imp]:=rfl
 rw[e,h n]
 rfl
theorem keyV_iff (d e:Dcl):keyV d=keyV e↔keyD d e=true:=by
 unfold keyV keyD sv
 simp only[Value.agg.injEq,Bool.and_eq_true,decide_eq_true_eq,beq_iff_eq]
 constructor
 ·intro h
  simp at h
  exact⟨h.1.symm,h.2.symm⟩
 ·rintro⟨h1,h2⟩
  rw[h1,h2]
def lastR (A:List Dcl) (v u:Value):Prop:= ∃(d:Dcl) (i:Nat),v=keyV d/\u= .int .i64 i/\lastAt A d i
theorem lastR_snoc (A:List Dcl) (x:Dcl) (v u:Value):putR (lastR A) (keyV x) (.int .i64 A.length) v u↔lastR (A++[x]) v u:=by
 unfold putR
 constructor
 ·rintro(⟨rfl,rfl⟩|⟨hne,d,i,rfl,rfl,h⟩)
  ·exact⟨x,A.length,rfl,rfl,lastAt_snoc.2 (.inl ⟨key_self x,rfl⟩)⟩
  ·refine⟨d,i,rfl,rfl,lastAt_snoc.2 (.inr ⟨?_,h⟩)⟩
   rw[<-Bool.not_eq_true]
   exact fun e=>hne ((keyV_iff d x).2 e)
 ·rintro⟨d,i,rfl,rfl,h⟩
  rcases lastAt_snoc.1 h with⟨h1,rfl⟩|⟨h1,h2⟩
  ·exact .inl ⟨(keyV_iff d x).2 h1,rfl⟩
  ·refine .inr ⟨fun e=> ?_,d,i,rfl,rfl,h2⟩
   rw[(keyV_iff d x).1 e]at h1
   cases h1
def VN (W:World) (d:Dcl) (v:Value):Prop:= ∃A c,v= .slice A d.value.length c/\Nn W A c/\d.value.length<=c/\Rd W v d.value.length 4 (cssCells d.value)
theorem VN.vr {W:World} {d:Dcl} {v:Value} (h:VN W d v):VR W d v:=by
 obtain⟨A,c,h1,h2,h3⟩:=h
 exact⟨A,c,h1,h2.1,h3⟩
theorem VN.keep {W W':World} {d:Dcl} {v:Value} (h:VN W d v) (hs:W.heap.size<=W'.heap.size) (hk: ∀(k:Nat) (cur:Array Value) z,W.heap[k]? =some (.cells cur 72 z)->W'.heap[k]? =W.heap[k]?):VN W' d v:=by
 obtain⟨A,c,rfl,h2,h3,h4⟩:=h
 refine⟨A,c,rfl,⟨h2.1,fun ad ha=> ?_⟩,h3, ?_⟩
 ·obtain⟨cur,z,h5⟩:=h2.2 ad ha
  exact⟨cur,z,(hk _ _ _ h5).trans h5⟩
 ·obtain⟨h5,h6,A',c',he,h7⟩:=h4
  cases he
  refine⟨h5,h6,A,c,rfl,fun hn=> ?_⟩
  obtain⟨b,off,h8,h9,h10⟩:=h7 hn
  obtain⟨cur,z,h11⟩:=h2.2 _ h8
  exact⟨b,off,h8,Nat.lt_of_lt_of_le h9 hs,fun j u hu=>(World.cell?_of_block (a:=⟨b,off+j,none⟩) (hk b cur z h11)).trans (h10 j u hu)⟩
theorem VN.grow {W:World} {d:Dcl} {v:Value} (h:VN W d v) (X:Gr):VN (W.grow X) d v:=
 h.keep (below_grow W X).size fun k _ _ hk=>(below_grow W X).block k (Array.getElem?_eq_some_iff.1 hk).1
theorem VN.below {W W':World} {d:Dcl} {v:Value} (h:VN W d v) (hb:Below W.heap.size W W'):VN W' d v:=
 h.keep hb.size fun k _ _ hk=>hb.block k (Array.getElem?_eq_some_iff.1 hk).1
theorem VN.map {W W':World} {d:Dcl} {v:Value} {b:Nat} {es:Array MapEntry} {n:Nat} (h:VN W d v) (hg:W.grownBy W' (some b)) (hm:W.heap[b]? =some (.map es n)):VN W' d v:=
 h.keep hg.size fun k _ _ hk=>hg.block k (Array.getElem?_eq_some_iff.1 hk).1 fun e=>by
  cases e
  rw[hk]at hm
  cases hm
theorem VN.row {W W':World} {d:Dcl} {v u:Value} {B n:Nat} {xs:List Value} (h:VN W d v) (ho:W.ownsRow B 44 3 u n xs) (hg:W.grownBy W' u.ownBlock):VN W' d v:=
 h.keep hg.size fun k _ _ hk=>hg.block k (Array.getElem?_eq_some_iff.1 hk).1 fun e=>by
  obtain⟨_,⟨rfl,_⟩|⟨g,cap,cur,rfl,_,hgg,_⟩⟩:=ho
  ·cases e
  ·cases e
   rw[hk]at hgg
   cases hgg
theorem ValM.isMap {P:Program} {k:TypeId} {W:World} {b:Nat} {R:Value->Value->Prop} (h:ValM P k W b R): ∃es n,W.heap[b]? =some (.map es n):=by
 obtain⟨es,n,h1,_⟩:=h
 exact⟨es,n,h1⟩
structure DeI (W1:World) (b:Nat) (A:List Dcl) (v:Value) (W:World):Prop where
 turned:Turned (fun k=>k=b) W1 W
 map:ValM Tryz.prog 140 W b (lastR A)
 row: ∃vs,W.ownsRow W1.heap.size 44 3 v A.length (dclFlat A vs)/\AllV (VN W) A vs
theorem DeI.next {W1 W W':World} {b:Nat} {A:List Dcl} {v:Value} (h:DeI W1 b A v W) (hb:Below W.heap.size W W'):DeI W1 b A v W':=by
 obtain⟨h1,h2,vs,h3,h4⟩:=h
 obtain⟨X,rfl⟩:=grow_of_below hb
 exact⟨h1.grow X,h2.below hb,vs,own_grow h3 X,h4.mono fun d u _ h=>h.grow X⟩
theorem turned_by {W W':World} {o:Option Nat} (hg:W.grownBy W' o) {pv:Nat->Prop} (hp: ∀k,o=some k->pv k):Turned pv W W':=
 ⟨hg.os,hg.tape,hg.output,hg.size,fun k hk hn=>hg.block k hk fun e=>hn (hp k e.symm)⟩
theorem DeI.more {W1 W V W':World} {b:Nat} {A:List Dcl} {v v' u:Value} {x:Dcl} {o:Obj} {n:Nat} {vs:List Value} (h:DeI W1 b A v W) (h3:W.ownsRow W1.heap.size 44 3 v A.length (dclFlat A vs)) (h4:AllV (VN W) A vs) (hbl:b<W1.heap.size) (hu:VN W x u)
  (hm:ValM Tryz.prog 140 V b (putR (lastR A) (keyV x) (.int .i64 A.length))) (hg:W.grownBy V (some b))
  (ho:W'.ownsRow W1.heap.size 44 3 v' n (dclFlat A vs++dclCells x u)) (hn:n=A.length+1) (hg2:(V.alloc o).grownBy W' v.ownBlock):DeI W1 b (A++[x]) v' W':=by
 obtain⟨h1,h2,_⟩:=h
 obtain⟨es,n0,hmap⟩:=h2.isMap
 have hvb: ∀k,v.ownBlock=some k->W1.heap.size<=k/\k<W.heap.size:=h3.lt
 have hV:V.ownsRow W1.heap.size 44 3 v A.length (dclFlat A vs):=own_grown hg h3 (fun k hk e=>by cases e;have:=(hvb b hk).1;omega)
 have hbV:b<V.heap.size:=hm.lt
 have hTV:Turned (fun k=>k=b) W V:=turned_by hg (fun k e=>(Option.some.inj e).symm)
 have hTA:Turned (fun k=>k=b) W (V.alloc o):=hTV.alloc o
 have hT2:Turned (fun k=>v.ownBlock=some k) (V.alloc o) W':=turned_by hg2 (fun k e=>e)
 have hb2:W'.heap[b]? =V.heap[b]? :=by
  rw[hT2.block b (by simp;omega) (fun e=>by have:=(hvb b e).1;omega)]
  exact(((Turned.refl (fun _=>False) V).alloc o).block b hbV (fun e=>e))
 refine⟨?_,(hm.kept hb2).iff (lastR_snoc A x),vs++[u], ?_, ?_⟩
 ·refine(h1.next hTA (fun i hi _=>hi)).next hT2 fun i hi hl=> ?_
  have:=(hvb i hi).1
  omega
 ·rw[flat_snoc x u A vs h4.len,List.length_append,List.length_singleton,<-hn]
  exact ho
 ·have keep: ∀{d:Dcl} {q:Value},VN W d q->VN W' d q:=fun hq=>by
   have h5:=(hq.map hg hmap).below (((Below.refl _ V).alloc (Nat.le_refl _) o))
   exact h5.row (hV.alloc o) hg2
  exact AllV.snoc (p:=VN W') (keep hu) (h4.mono fun d q _ h=>keep h)
theorem VN.re {w:World} {c c':Array Value} {X Y:Gr} {d:Dcl} {v:Value} (h:VN ((w.alloc (.cells c 44)).grow X) d v):VN (((w.alloc (.cells c' 44)).grow X).grow Y) d v:=by
 have e1: ∀o:Obj,(w.alloc o).heap=w.heap.push o:=fun _=>rfl
 refine h.keep (by simp[World.grow,e1]) fun k cur z hk=> ?_
 have hl:=(Array.getElem?_eq_some_iff.1 hk).1
 rw[(below_grow _ Y).block k (by simpa[World.grow,e1]using hl)]
 by_cases hkw:k=w.heap.size
 ·subst hkw
  exfalso
  simp[World.grow,e1,Array.getElem?_append]at hk
 ·simp[World.grow,e1,Array.getElem?_append,Array.getElem?_push,hkw]
theorem VR.bel {W W':World} {d:Dcl} {v:Value} (h:VR W d v) (hb:Below W.heap.size W W'):VR W' d v:=by
 obtain⟨X,rfl⟩:=grow_of_below hb
 exact h.grow X
theorem lastK_step {A:List Dcl} {k:Nat} (h:k<A.length):lastK A (k+1)=lastK A k++(if isLast A k=true then [A[k]]else []):=by
 rw[lastK,List.getElem?_eq_getElem h]
def RetDN (w:World) (F:List Dcl) (e:Ending) (w':World):Prop:= ∃A c,e= .returned (.slice A F.length c)/\Below w.heap.size w w'/\(A=none->c=0)/\F.length<=c/\RdD w' (.slice A F.length c) F
open Go.RowKit Go.Shelf
attribute [local go_sem] Oper.semAt_some
theorem allD_take {P:Pol} {D:List Dcl} {k:Nat} (h:k<D.length):allD P (D.take (k+1))=allD P (D.take k)++(keepD P D[k]).toList:=by
 unfold allD
 rw[List.take_succ_eq_append_getElem h,List.filterMap_append]
 cases hk:keepD P D[k]<;>simp[hk]
theorem decls17_any (g:Nat) (P:Pol) (s:Bs) (w:World) (hr:RulesV w g P) (hw:Tb w) (hx:Mx w) (hm:s.length<=100000000) (hD: ∀d∈declsL (cssL s),ShortD d) (hn:(declsL (cssL s)).length<=1000000):
  Calls Tryz.prog 34 #[.pointer (some ⟨g,0,none⟩),.string ⟨s.toArray⟩] w (RetDN w (fltD P s)):=by
 have hmm:= @run_makeMap Tryz.prog
 obtain⟨D,hDD⟩: ∃D,declsL (cssL s)=D:=⟨_,rfl⟩
 have hF:fltD P s=lastD (allD P D):=by unfold fltD;rw[hDD]
 rw[hF]
 have HPs:=Lib.hid (fun W (hX:Mx W)=>show Calls Tryz.prog 16 #[.string ⟨s.toArray⟩] W (RetDO W D)from hDD ▸ parseO_any s W hX hm)
 rw[hDD]at hD hn
 have HD:=Lib.hid hD
 have HT0:=Lib.hid (fun W (hb:Below w.heap.size w W)=>And.intro (Tb.below hw hb) (Mx.below hx hb))
 have HR:=Lib.hid (fun W (hb:Below w.heap.size w W)=>hr.below hb)
 generalize(⟨s.toArray⟩:ByteArray)=S at*
 clear hr hw hx hm hD hF hDD
 go_enter Tryz.func34,Tryz.ntmps34
 go_upto_region 3 with fail
 refine name_world fun W0 hW0=> ?_
 obtain⟨b,hb⟩: ∃b,w.heap.size=b:=⟨_,rfl⟩
 have HB0:Hid (Below w.heap.size w W0):=by show Below _ _ _;rw[hW0];exact bel
 have HM0:Hid (ValM Tryz.prog 140 W0 b (lastR [])):=by
  show ValM _ _ _ _ _
  rw[hW0]
  exact ValM.new (by rw[<-hb];exact heap_alloc_new w _) (fun v u ⟨d,i,_,_,h⟩=>lastAt_nil d i h)
 have hs0:W0.heap.size=b+1:=by rw[hW0,<-hb];simp
 have HPs0:=Lib.hid (HPs.out W0 (HT0.out W0 HB0.out).2)
 clear hW0
 rw[hb]
 go_wp2_with(go_at_call 16;(with_reducible refine HPs0.out.mono ?_);rintro e W1 ⟨v1,vs1,X1,rfl,hW1,ho1,ha1⟩;rw[<-hW1]at ho1 ha1;obtain⟨A1,c1,rfl,hc1⟩:=own_cap ho1;have HO1:=Lib.hid ho1;have HA1:=Lib.hid ha1;have HB1:=Lib.hid (show Below W0.heap.size W0 W1 from by rw[hW1];exact below_grow _ _);clear hW1 ho1 ha1)
 have hs1:b+1<=W1.heap.size:=by have:=HB1.out.size;omega
 have HM1:=Lib.hid (HM0.out.below HB1.out)
 have HBW:Hid (Below w.heap.size w W1):=below_next HB0.out HB1.out
 go_loopw [5,18] (fun v i wr=> ∃k:Nat,k<=D.length/\i= .int .i64 k/\Hid (DeI W1 b (allD P (D.take k)) v wr)) (fun _ i _=>D.length-(intOf i).toNat)
 case atStart=>exact⟨0,by omega,rfl,Turned.refl _ _,HM1.out,[],World.ownsRow_nil _ _ _ _,trivial⟩
 case round=>
  obtain⟨k,hk,rfl,HI⟩:=hrel
  have hsw:=HI.out.turned.size
  have hbl:b<W1.heap.size:=by omega
  have HBr:Hid (Below w.heap.size w wr):=HBW.out.trans (HI.out.turned.below (by omega) (by intro k hk;omega))
  by_cases hlt:k<D.length
  ·have hRd:RdD wr (.slice A1 D.length c1) D:=⟨vs1,HA1.out.mono fun d u _ h=>VR.own (HI.out.turned.own h (by intro k hk;omega)),Rd.own (HI.out.turned.own HO1.out (by intro k hk;omega))⟩
   obtain⟨bd,off,vd,rfl,hbd,hvd,x0,x1,x2⟩:=hRd.at k hlt
   have HTk:=Lib.hid (allD_take (P:=P) hlt)
   have sd:=HD.out D[k] (List.getElem_mem hlt)
   generalize D[k]=d at*
   obtain⟨Av,cv,rfl,hAv,hcv,hrv⟩:=hvd
   have HVl:=Lib.hid (fun W (hb:Below wr.heap.size wr W)=>value16_any d.name Av d.value.length cv d.value W (HT0.out W (below_next HBr.out hb)).1 (HT0.out W (below_next HBr.out hb)).2 (hrv.bel hb) hAv sd.1 (by have:=sd.2.1;omega))
   have HCs:=Lib.hid (fun W (hb:Below wr.heap.size wr W)=>css_any g P d.name W (HR.out W (below_next HBr.out hb)) (by have:=sd.2.2;unfold maxLen;omega))
   obtain⟨kl,hkl⟩:=key_key d (by have:=sd.2.2;unfold maxLen;omega)
   have hk0:(allD P (D.take k)).length<=1000000:=Nat.le_trans (all_len P _) (by rw[List.length_take];omega)
   generalize allD P (D.take k)=A at*
   have HKV:Hid (∀a,keyV ⟨d.name,a,d.imp⟩= .agg #[.string ⟨d.name.toArray⟩,.bool d.imp]):=fun _=>rfl
   have HKey:=Lib.hid (show keyOf Tryz.prog 140 (.agg #[.string ⟨d.name.toArray⟩,.bool d.imp])=some kl from hkl)
   have HDc:Hid (∀a u,dclCells ⟨d.name,a,d.imp⟩ u=[.string ⟨d.name.toArray⟩,u,.bool d.imp]):=fun _ _=>rfl
   clear hkl hRd sd hAv hcv hrv
   simp only[sv]at x0 HCs
   cases hv:valueT d.name d.value with
   |none=>
    have HK:Hid (keepD P d=none):=by show _=_;unfold keepD;rw[hv]
    rw[hv]at HVl
    have HVn:=Lib.hid (fun W (hb:Below wr.heap.size wr W)=>(HVl.out W hb).mono (R':=fun e w'=> ∃A c X,e= .returned (.tuple #[.slice A 0 c,.bool false])/\w'=W.grow X) fun e w' ⟨A,c,X,h1,h2,_⟩=>⟨A,c,X,h1,h2⟩)
    clear HVl HCs hv
    generalize(⟨d.name.toArray⟩:ByteArray)=nb at*
    generalize d.imp=im at*
    generalize d.value.length=vl at*
    go_wp2_with(go_at_call 92;(with_reducible refine(HVn.out _ bel).mono ?_);rintro e w' ⟨A2,c2,X2,rfl,rfl⟩)
    go_roundw
    case rel=>exact⟨k+1,by omega,by go_num,by show DeI _ _ _ _ _;rw[HTk.out,HK.out,Option.toList,List.append_nil];exact HI.out.next bel⟩
    case measure=>simp[intOf];omega
   |some a=>
    rw[hv]at HVl
    have HVs:=Lib.hid (fun W (hb:Below wr.heap.size wr W)=>(HVl.out W hb).mono (R':=fun e w'=> ∃A c X,e= .returned (.tuple #[.slice A a.length c,.bool true])/\w'=W.grow X/\VN (W.grow X) ⟨d.name,a,d.imp⟩ (.slice A a.length c)) fun e w' ⟨A,c,X,h1,h2,h3,h4,h5⟩=>⟨A,c,X,h1,h2,A,c,rfl,h3,h4,h5⟩)
    cases hc:cssR P d.name
    ·have HK:Hid (keepD P d=none):=by show _=_;unfold keepD;rw[hv,hc];rfl
     rw[hc]at HCs
     have HCn:=Lib.hid HCs.out
     clear HVl HCs hv hc
     generalize(⟨d.name.toArray⟩:ByteArray)=nb at*
     generalize d.imp=im at*
     generalize d.value.length=vl at*
     go_wp2_with(first
      |(go_at_call 92;(with_reducible refine(HVs.out _ bel).mono ?_);rintro e w' ⟨A2,c2,X2,rfl,rfl,_⟩)
      |(go_at_call 17;(with_reducible refine(HCn.out _ bel).mono ?_);rintro e w' ⟨rfl,X3,rfl⟩))
     go_roundw
     case rel=>exact⟨k+1,by omega,by go_num,by show DeI _ _ _ _ _;rw[HTk.out,HK.out,Option.toList,List.append_nil];exact HI.out.next bel⟩
     case measure=>simp[intOf];omega
    ·have HK:Hid (keepD P d=some ⟨d.name,a,d.imp⟩):=by show _=_;unfold keepD;rw[hv];exact if_pos hc
     rw[hc]at HCs
     have HCn:=Lib.hid HCs.out
     clear HVl HCs hv hc
     generalize(⟨d.name.toArray⟩:ByteArray)=nb at*
     generalize d.imp=im at*
     generalize d.value.length=vl at*
     go_upto_region 9 with(first
      |(go_at_call 92;(with_reducible refine(HVs.out _ bel).mono ?_);rintro e w' ⟨A2,c2,X2,rfl,rfl,hvn⟩;have HVN:=Lib.hid hvn;clear hvn)
      |(go_at_call 17;(with_reducible refine(HCn.out _ bel).mono ?_);rintro e w' ⟨rfl,X3,rfl⟩))
     refine name_world fun W8 hW8=> ?_
     have hb8:Below wr.heap.size wr W8:=by rw[hW8];exact bel
     have HV8:Hid (VN W8 ⟨d.name,a,im⟩ (.slice A2 a.length c2)):=by show VN _ _ _;rw[hW8];exact HVN.out.re
     have hFl:wr.heap.size<W8.heap.size:=by rw[hW8];simp[World.grow]<;>omega
     obtain⟨F8,hF8⟩: ∃B,wr.heap.size=B:=⟨_,rfl⟩
     have y0:W8.cell? ⟨F8,0,none⟩=some (.string nb):=by rw[hW8,<-hF8];simp[go_sem]
     have y1:W8.cell? ⟨F8,1,none⟩=some (.slice A2 a.length c2):=by rw[hW8,<-hF8];simp[go_sem]
     have y2:W8.cell? ⟨F8,2,none⟩=some (.bool im):=by rw[hW8,<-hF8];simp[go_sem]
     have HI8:=Lib.hid (HI.out.next hb8)
     have HB8:=Lib.hid hb8
     rw[hF8]at hFl hsw ⊢
     clear hW8 hb8 HVN HVs HCn HI
     obtain⟨vs8,ho8,ha8⟩:=HI8.out.row
     obtain⟨Aa,ca,rfl,hca⟩:=own_cap ho8
     have HO8:=Lib.hid ho8
     have HA8:=Lib.hid ha8
     clear ho8 ha8
     go_wp2_with(first
      |(at_mapUpdate;(refine wpList_putV rfl _ _ _ 137 rfl b _ HI8.out.map key_law Tryz.underlying137 rfl rfl rfl HKey.out ?_);intro W9 hm9 hg9;have HM9:=Lib.hid hm9;have HG9:=Lib.hid hg9;have HO9:=Lib.hid (own_grown hg9 HO8.out (fun q hq e=>by cases e;have:=(HO8.out.lt b hq).1;omega));have z0:=(World.cell?_of_block (a:=⟨F8,0,none⟩) (hg9.block F8 hFl (by intro e;cases e;omega))).trans y0;have z1:=(World.cell?_of_block (a:=⟨F8,1,none⟩) (hg9.block F8 hFl (by intro e;cases e;omega))).trans y1;have z2:=(World.cell?_of_block (a:=⟨F8,2,none⟩) (hg9.block F8 hFl (by intro e;cases e;omega))).trans y2;have hs9:=hg9.size;clear hm9 hg9)
      |(at_builtin;refine append_abs rfl _ _ 39 rfl decl_row W1.heap.size rfl (HO9.out.alloc _) (by simp;omega) ⟨_,0,none⟩ 1 1 [.string nb,.slice A2 a.length c2,.bool im] rfl rfl (new_cells (c:= #[.string nb,.slice A2 a.length c2,.bool im]) (by simp[go_sem])) (by simp[Value.oneCell']) (by unfold maxLen;omega) (by omega) ?_;intro v10 W10 ho10 hg10;have HO10:=Lib.hid ho10;have HG10:=Lib.hid hg10;clear ho10 hg10))
     go_roundw
     case rel=>
      refine⟨k+1,by omega,by go_num, ?_⟩
      show DeI _ _ _ _ _
      rw[HTk.out,HK.out,Option.toList]
      exact DeI.more HI8.out HO8.out HA8.out hbl HV8.out (by rw[HKV.out];exact HM9.out) HG9.out (by rw[HDc.out];exact HO10.out) rfl HG10.out
     case measure=>simp[intOf];omega
  ·have hkn:k=D.length:=by omega
   have HI2:=HI.out
   rw[List.take_of_length_le (by omega)]at HI2
   have hA0:(allD P D).length<=1000000:=Nat.le_trans (all_len P _) hn
   have HAm:=Lib.hid (show ∀e∈allD P D,e∈List.filterMap (keepD P) D from fun e he=>he)
   generalize allD P D=A at*
   obtain⟨hT2,hM2,vs2,ho2,ha2⟩:=HI2
   obtain⟨Aa,ca,rfl,hca⟩:=own_cap ho2
   have HRd:=Lib.hid (show RdD wr (.slice Aa A.length ca) A from⟨vs2,ha2.mono fun d u _ h=>h.vr,Rd.own ho2⟩)
   have HM2:=Lib.hid hM2
   clear HI hM2 ho2 ha2 hT2 HM1 HM0 HO1 HA1 HPs HPs0 hkn
   obtain⟨wy,rfl⟩: ∃W,W=wr:=⟨_,rfl⟩
   go_wp2_with fail
   go_loopw [11,56] (fun v i wr=> ∃k:Nat,k<=A.length/\i= .int .i64 k/\Hid (Below wy.heap.size wy wr)/\Hid (∃us,wr.ownsRow wy.heap.size 44 3 v (lastK A k).length (dclFlat (lastK A k) us)/\AllV (VR wy) (lastK A k) us)) (fun _ i _=>A.length-(intOf i).toNat)
   case atStart=>exact⟨0,by omega,rfl,Below.refl _ _,[],World.ownsRow_nil _ _ _ _,trivial⟩
   case round=>
    obtain⟨q,hq,rfl,HBz,HOz⟩:=hrel
    obtain⟨us,hoz,haz⟩:=HOz.out
    obtain⟨Az,cz,rfl,hcz⟩:=own_cap hoz
    have hll:=lastK_len A q
    have hsz:=HBz.out.size
    by_cases hql:q<A.length
    ·obtain⟨bd,off,vd,rfl,hbd,hvd,x0,x1,x2⟩:=HRd.out.at q hql
     obtain⟨i,hi,hdec⟩:=lastAt_is hql
     have HLs:=Lib.hid (lastK_step hql)
     have hb1:(((i:Nat):Int)==(q:Int))=isLast A q:=by
      rw[<-hdec,Bool.eq_iff_iff,beq_iff_eq,decide_eq_true_eq]
      omega
     have hda:A[q].name.length<=1000000:=by
      obtain⟨e,he,hke⟩:=List.mem_filterMap.1 (HAm.out _ (List.getElem_mem hql))
      have:=(keep_some hke).1
      rw[this]
      exact(HD.out e he).2.2
     generalize A[q]=d at*
     obtain⟨Av,cv,rfl,hAv,hcv,hrv⟩:=hvd
     have HVd:=Lib.hid (show VR wy d (.slice Av d.value.length cv)from⟨Av,cv,rfl,hAv,hcv,hrv⟩)
     obtain⟨kl,hkl⟩:=key_key d (by unfold maxLen;omega)
     have hz0: ∀W:World,(zeroValue 3).run Tryz.prog W= .ok (.int .i64 0) W:=fun W=>by kernel_rfl
     have HKey:=Lib.hid (show keyOf Tryz.prog 140 (.agg #[.string ⟨d.name.toArray⟩,.bool d.imp])=some kl from hkl)
     have HLo:=Lib.hid (fun W (hb:Below wy.heap.size wy W)=>((HM2.out.below hb).look key_law Tryz.underlying137 (hz0 W) HKey.out (u:= .int .i64 i) ⟨d,i,rfl,rfl,hi⟩).2)
     have HDc:Hid (∀u,dclCells d u=[.string ⟨d.name.toArray⟩,u,.bool d.imp]):=fun _=>rfl
     have y0:=(HBz.out.cell (p:=⟨bd,off+q*3,none⟩) hbd).trans x0
     have y1:=(HBz.out.cell (p:=⟨bd,off+q*3+1,none⟩) hbd).trans x1
     have y2:=(HBz.out.cell (p:=⟨bd,off+q*3+2,none⟩) hbd).trans x2
     have hbz:bd<wr.heap.size:=by omega
     have HOo:=Lib.hid hoz
     have HAo:=Lib.hid haz
     simp only[sv]at y0
     clear x0 x1 x2 hkl hda hi hdec hAv hcv hrv HOz hoz haz
     generalize(⟨d.name.toArray⟩:ByteArray)=nb at*
     generalize d.imp=im at*
     generalize d.value.length=vl at*
     go_upto_region 16 with fail
     refine name_world fun W5 hW5=> ?_
     have hb5:Below wr.heap.size wr W5:=by rw[hW5];exact bel
     have hFl:wr.heap.size<W5.heap.size:=by rw[hW5];simp
     obtain⟨F5,hF5⟩: ∃B,wr.heap.size=B:=⟨_,rfl⟩
     have z0:W5.cell? ⟨F5,0,none⟩=some (.string nb):=by rw[hW5,<-hF5];simp[go_sem]
     have z1:W5.cell? ⟨F5,1,none⟩=some (.slice Av vl cv):=by rw[hW5,<-hF5];simp[go_sem]
     have z2:W5.cell? ⟨F5,2,none⟩=some (.bool im):=by rw[hW5,<-hF5];simp[go_sem]
     have HB5:=Lib.hid (HBz.out.trans (hb5.mono hsz))
     have HL5:=Lib.hid (HLo.out W5 HB5.out)
     have HO5:=Lib.hid (own_below HOo.out hb5)
     have hs5:=HB5.out.size
     rw[hF5]at hFl ⊢
     clear hW5 hb5 HLo HOo y0 y1 y2
     cases hls:isLast A q
     ·rw[hls]at hb1 HLs
      go_wp2_with(simp[go_sem,HL5.out])
      go_roundw
      case rel=>
       refine⟨_,_,_,_,⟨q+1,by omega, ?_,HB5.out,us, ?_, ?_⟩,rfl,rfl,rfl,rfl⟩
       ·go_num
       ·rw[HLs.out,if_neg Bool.false_ne_true,List.append_nil];exact HO5.out
       ·rw[HLs.out,if_neg Bool.false_ne_true,List.append_nil];exact HAo.out
      case measure=>simp[intOf];omega
     ·rw[hls]at hb1 HLs
      go_wp2_with(first
       |(at_builtin;refine append_abs rfl _ _ 39 rfl decl_row wy.heap.size rfl (HO5.out.alloc _) (by simp;omega) ⟨_,0,none⟩ 1 1 [.string nb,(.slice Av vl cv),.bool im] rfl rfl (new_cells (c:= #[.string nb,(.slice Av vl cv),.bool im]) (by simp[go_sem])) (by simp[Value.oneCell']) (by unfold maxLen;omega) (by omega) ?_;intro v6 W6 ho6 hg6;have HB6:=own_step hg6 (HO5.out.alloc _) (below_out HB5.out bel);have HO6:=Lib.hid ho6;clear ho6 hg6)
       |simp[go_sem,HL5.out])
      go_roundw
      case rel=>
       refine⟨_,_,_,_,⟨q+1,by omega, ?_,us++[(.slice Av vl cv)], ?_, ?_⟩,rfl,rfl,rfl,rfl⟩
       ·go_num
       ·rw[HLs.out,if_pos trivial,flat_snoc d (.slice Av vl cv) _ _ HAo.out.len,List.length_append,HDc.out]
        exact HO6.out
       ·rw[HLs.out,if_pos trivial]
        exact AllV.snoc (p:=VR wy) HVd.out HAo.out
      case measure=>simp[intOf];omega
    ·have hqn:q=A.length:=by omega
     have HE:=Lib.hid (lastK_all A)
     have HO9:=Lib.hid hoz
     have HA9:=Lib.hid haz
     clear HOz hoz haz
     subst hqn
     go_wp2_with fail
     go_ret
     refine⟨Az,cz,by rw[<-HE.out];rfl,HBr.out.trans (HBz.out.mono HBr.out.size),own_nil HO9.out,by rw[<-HE.out];exact hcz,us, ?_, ?_⟩
     ·rw[<-HE.out];exact HA9.out.mono fun d u _ h=>h.bel HBz.out
     ·rw[<-HE.out];exact Rd.own HO9.out
end Go.Proofs.YtiikamobcmgekaaGreatDoor
