/- How a policy that came in is opened; Few; awake; Parse of any text told in one way; what the reference makes of a statement. -/
import Derived.ProofKit
import Derived.Deep.Slices
import Derived.Deep.Fields
import Derived.ChangeSame
import Derived.SizedLaws
import Derived.OpenShut
import Derived.BigRegion
import Derived.Test.YtiikamobcmgekaaGreatDoorRows
import Derived.Test.YtiikamobcmgekaaGreatDoorPA
import Derived.Test.YtiikamobcmgekaaGreatDoorRiC
import Derived.Test.YtiikamobcmgekaaGreatDoorRA
import Derived.Test.YtiikamobcmgekaaGreatDoorWN
import Derived.Test.YtiikamobcmgekaaGreatDoorS3
import Derived.Test.YtiikamobcmgekaaGreatDoorR4
import Derived.Test.YtiikamobcmgekaaGreatDoorLB
namespace Go.Proofs.YtiikamobcmgekaaGreatDoor
open Go.ChangeShapes Go.WideShapes Go.Deep
namespace bulks
theorem one_le {H:Type} (d:DataW H):1<=Rows.uptoBulk d:=by
 cases d with
 |lit l=>cases l<;>simp[Rows.uptoBulk]
 |nil=>simp[Rows.uptoBulk]
 |ptr d=>simp[Rows.uptoBulk]
 |slice elems spare=>simp[Rows.uptoBulk]
 |agg parts=>simp[Rows.uptoBulk]
 |iface t d=>simp[Rows.uptoBulk]
 |map entries=>simp[Rows.uptoBulk]
 |held h=>simp[Rows.uptoBulk]
theorem length_le {H:Type} (l:List (DataW H)):l.length<=Rows.uptoBulkAll l:=by
 induction l with
 |nil=>simp[Rows.uptoBulkAll]
 |cons x r ih=>have:=one_le x;simp only[Rows.uptoBulkAll,List.length_cons];omega
end bulks
section
variable {H:Type} {enc:TypeId × Value->H} {w:World} {base:Nat} {spare:Nat->Bool} {held:Bool}
instance:Inhabited Alw:=⟨⟨[],[]⟩⟩
instance:Inhabited Frc:=⟨⟨[],[],[]⟩⟩
structure PolBk (p:Pol) (n:Nat):Prop where
 rows: ∀j,j<6->fN p j<=n
 tags: ∀t∈p.tags,t.length<=n
 schemes: ∀t∈p.schemes,t.length<=n
 css: ∀t∈p.css,t.length<=n
 drops: ∀t∈p.drops,t.length<=n
 attrs: ∀a∈p.attrs,a.tag.length<=n/\a.name.length<=n
 forces: ∀a∈p.forces,a.tag.length<=n/\a.name.length<=n/\a.value.length<=n
end
end Go.Proofs.YtiikamobcmgekaaGreatDoor
namespace Go.Proofs.YtiikamobcmgekaaGreatDoor
open Go.RowKit
attribute [local go_sem] Oper.semAt_some
end Go.Proofs.YtiikamobcmgekaaGreatDoor
namespace Go.Proofs.YtiikamobcmgekaaGreatDoor
def atR (en:Nat) (l:List Lx) (i:Nat):Nat:=atP en (l.drop i)
def tsR (t:Bs):List Bs:=if t=[]then []else [t]
def isR (l:List Lx) (i k:Nat) (t:Bs):Bool:=nextP k (tsR t) (l.drop i)
def textR (l:List Lx) (i:Nat):Bs:=match l.drop i with
 |[]=>[]
 |x::_=>x.text
theorem takeP_drop (en k:Nat) (ts:List Bs) (l:List Lx) (i:Nat):takeP en k ts (l.drop i)=if nextP k ts (l.drop i)then .ok (⟨k,atR en l i,textR l i⟩,l.drop (i+1))else .error ⟨atR en l i,2⟩:=by
 have h1:l.drop (i+1)=(l.drop i).drop 1:=by rw[List.drop_drop]
 unfold atR textR
 rw[h1]
 generalize l.drop i=q
 cases q with
 |nil=>rfl
 |cons x r=>
  show(if isP k ts x then _ else _)=(if isP k ts x then _ else _)
  by_cases h:isP k ts x=true
  ·rw[if_pos h,if_pos h]
   obtain⟨hk,_⟩:=isP_kind h
   subst hk
   rfl
  ·rw[if_neg h,if_neg h];rfl
def wordsR (l:List Lx) (b:Nat):List Bs:=((l.drop b).takeWhile (isP 1 [])).map Lx.text
def namesR (l:List Lx) (b:Nat):Except Nat (List Bs):=
 if(wordsR l b).length=0\/isR l (b+(wordsR l b).length) 4 semiT=false then .error (b+(wordsR l b).length)else .ok (wordsR l b)
theorem dropWhile_drop {α:Type} (p:α->Bool) (q:List α):q.dropWhile p=q.drop (q.takeWhile p).length:=by
 induction q with
 |nil=>rfl
 |cons x r ih=>
  by_cases h:p x=true
  ·rw[List.dropWhile_cons_of_pos h,List.takeWhile_cons_of_pos h,List.length_cons,List.drop_succ_cons,ih]
  ·rw[List.dropWhile_cons_of_neg h,List.takeWhile_cons_of_neg h];rfl
theorem tsR_semi:tsR semiT=[semiT]:=by unfold tsR;rw[if_neg (by decide)]
theorem wordsQ (en:Nat) (q:List Lx):wordsP en q=if((q.takeWhile (isP 1 [])).map Lx.text).length=0 then .error ⟨atP en q,2⟩
  else if nextP 4 [semiT] (q.drop ((q.takeWhile (isP 1 [])).map Lx.text).length)=true then .ok ((q.takeWhile (isP 1 [])).map Lx.text,q.drop (((q.takeWhile (isP 1 [])).map Lx.text).length+1))
  else .error ⟨atP en (q.drop ((q.takeWhile (isP 1 [])).map Lx.text).length),2⟩:=by
 unfold wordsP
 cases q with
 |nil=>rfl
 |cons x r=>
  have e:takeP en 1 [] (x::r)=if isP 1 [] x=true then Except.ok (x,r)else Except.error ⟨x.at_,2⟩:=rfl
  rw[e]
  by_cases hx:isP 1 [] x=true
  ·rw[if_pos hx]
   simp only
   rw[List.takeWhile_cons_of_pos hx]
   simp only[List.map_cons,List.length_cons,List.length_map,List.drop_succ_cons,Nat.succ_ne_zero,if_false]
   unfold moreP
   rw[dropWhile_drop]
   have h9:=takeP_drop en 4 [semiT] r (r.takeWhile (isP 1 [])).length
   rw[h9]
   cases hn:nextP 4 [semiT] (r.drop (r.takeWhile (isP 1 [])).length)
   ·simp[atR]
   ·simp
  ·rw[if_neg hx]
   simp only
   rw[List.takeWhile_cons_of_neg hx]
   rfl
theorem wordsP_at (en:Nat) (l:List Lx) (b:Nat):wordsP en (l.drop b)=match namesR l b with
  | .error i=> .error ⟨atR en l i,2⟩
  | .ok ws=> .ok (ws,l.drop (b+ws.length+1)):=by
 rw[wordsQ]
 unfold namesR isR
 rw[tsR_semi]
 have hd: ∀i,(l.drop b).drop i=l.drop (b+i):=fun i=>by rw[List.drop_drop]
 show(if(wordsR l b).length=0 then _ else if nextP 4 [semiT] ((l.drop b).drop (wordsR l b).length)=true then Except.ok (wordsR l b,(l.drop b).drop ((wordsR l b).length+1))else Except.error (⟨atP en ((l.drop b).drop (wordsR l b).length),2⟩:Flt))=_
 rw[hd,hd]
 by_cases h0:(wordsR l b).length=0
 ·rw[if_pos h0,if_pos (.inl h0)]
  simp only
  unfold atR
  rw[h0];rfl
 ·rw[if_neg h0]
  cases hn:nextP 4 [semiT] (l.drop (b+(wordsR l b).length))with
  |true=>
   rw[if_pos rfl,if_neg (by rintro(h|h);exact h0 h;cases h)]
   simp only[Nat.add_assoc]
  |false=>
   rw[if_neg (by decide),if_pos (.inr rfl)]
   rfl
def headR (l:List Lx):Except Nat Bs:=if(!isR l 1 1 []&& !isR l 1 4 [42])=true then .error 1 else if isR l 2 4 [58]=false then .error 2 else .ok (textR l 1)
def addK (kind tag:Bs) (p:Pol) (ws:List Bs):Pol:=
 if kind=tagsT then {p with tags:=p.tags++ws}
 else if kind=schemesT then {p with schemes:=p.schemes++ws}
 else if kind=cssT then {p with css:=p.css++ws}
 else if kind=dropT then {p with drops:=p.drops++ws}
 else {p with attrs:=p.attrs++ws.map (fun n=>⟨tag,n⟩)}
def listR (kind:Bs) (l:List Lx):Except Nat (Bs × Nat):=if kind=attrsT then match headR l with
  | .error i=> .error i
  | .ok t=> .ok (t,3)
 else .ok ([],1)
def nmR (kind:Bs) (l:List Lx) (p:Pol):Except Nat (Nat × Pol):=match listR kind l with
 | .error i=> .error i
 | .ok (tag,b)=>match namesR l b with
  | .error i=> .error i
  | .ok ws=> .ok (b+ws.length+1,addK kind tag p ws)
def fiveT:List Bs:=[tagsT,schemesT,cssT,dropT,attrsT]
def threeT:List Bs:=[relT,forceT,limitT]
def kindR:List Lx->Bs
 |[]=>[]
 |x::_=>if x.kind=1 then x.text else []
theorem five_all {P:Bs->Prop} (h0:P tagsT) (h1:P schemesT) (h2:P cssT) (h3:P dropT) (h4:P attrsT): ∀k∈fiveT,P k:=by
 intro k hk
 simp only[fiveT,List.mem_cons,List.not_mem_nil,or_false]at hk
 rcases hk with rfl|rfl|rfl|rfl|rfl<;>assumption
theorem three_all {P:Bs->Prop} (h0:P relT) (h1:P forceT) (h2:P limitT): ∀k∈threeT,P k:=by
 intro k hk
 simp only[threeT,List.mem_cons,List.not_mem_nil,or_false]at hk
 rcases hk with rfl|rfl|rfl<;>assumption
theorem kindR_word {l:List Lx} {k:Bs} (h:kindR l=k) (hk:k≠[]): ∃x r,l=x::r/\x.kind=1/\x.text=k:=by
 cases l with
 |nil=>exact absurd h.symm hk
 |cons x r=>
  unfold kindR at h
  simp only at h
  by_cases h1:x.kind=1
  ·rw[if_pos h1]at h;exact⟨x,r,rfl,h1,h⟩
  ·rw[if_neg h1]at h;exact absurd h.symm hk
theorem stmt_start {en:Nat} {l:List Lx} {k:Bs} (h:kindR l=k) (hk:k∈kindsT): ∃x,takeP en 1 kindsT l= .ok (x,l.drop 1)/\x.text=k/\x.at_=atR en l 0:=by
 have hk0:k≠[]:=by rintro rfl;exact absurd hk (by decide)
 obtain⟨x,r,rfl,h1,rfl⟩:=kindR_word h hk0
 refine⟨x, ?_,rfl,rfl⟩
 show(if isP 1 kindsT x=true then _ else _)=_
 rw[if_pos (by simp[isP,h1,hk])]
 rfl
theorem stmt_bad {en:Nat} {l:List Lx} {p:Pol} {told:List Bs} (h:kindR l∉kindsT):stmtP en ⟨l,p,told⟩= .error ⟨atR en l 0,2⟩:=by
 unfold stmtP
 have:takeP en 1 kindsT l= .error ⟨atR en l 0,2⟩:=by
  cases l with
  |nil=>rfl
  |cons x r=>
   show(if isP 1 kindsT x=true then _ else _)=_
   rw[if_neg]
   ·rfl
   ·intro hi
    obtain⟨h1,h2⟩:=isP_kind hi
    refine h ?_
    unfold kindR
    simp only
    rw[if_pos h1]
    exact h2 (by decide)
 rw[this]
theorem listP_names {en:Nat} {l:List Lx} {p:Pol} {told:List Bs} (f:Pol->List Bs->Pol):listP en ⟨l.drop 1,p,told⟩ f=match namesR l 1 with
  | .error i=> .error ⟨atR en l i,2⟩
  | .ok ws=> .ok ⟨l.drop (1+ws.length+1),f p ws,told⟩:=by
 unfold listP
 simp only
 rw[wordsP_at]
 cases namesR l 1<;>rfl
theorem stmt_names {en:Nat} {l:List Lx} {p:Pol} {told:List Bs}: ∀k∈fiveT,kindR l=k->stmtP en ⟨l,p,told⟩=match nmR k l p with
  | .error i=> .error ⟨atR en l i,2⟩
  | .ok (n,q)=> .ok ⟨l.drop n,q,told⟩:=by
 refine five_all ?_ ?_ ?_ ?_ ?_
 ·intro h
  obtain⟨x,ht,hx,_⟩:=stmt_start (en:=en) h (by decide)
  unfold stmtP
  rw[ht]
  simp only
  rw[if_pos hx,listP_names]
  show _=match (match namesR l 1 with| .error i=> .error i| .ok ws=> .ok (1+ws.length+1,addK tagsT [] p ws):Except Nat (Nat × Pol))with| .error i=>_| .ok (n,q)=>_
  cases namesR l 1<;>rfl
 ·intro h
  obtain⟨x,ht,hx,_⟩:=stmt_start (en:=en) h (by decide)
  unfold stmtP
  rw[ht]
  simp only
  rw[if_neg (by rw[hx];decide),if_pos hx,listP_names]
  show _=match (match namesR l 1 with| .error i=> .error i| .ok ws=> .ok (1+ws.length+1,addK schemesT [] p ws):Except Nat (Nat × Pol))with| .error i=>_| .ok (n,q)=>_
  cases namesR l 1<;>rfl
 ·intro h
  obtain⟨x,ht,hx,_⟩:=stmt_start (en:=en) h (by decide)
  unfold stmtP
  rw[ht]
  simp only
  rw[if_neg (by rw[hx];decide),if_neg (by rw[hx];decide),if_pos hx,listP_names]
  show _=match (match namesR l 1 with| .error i=> .error i| .ok ws=> .ok (1+ws.length+1,addK cssT [] p ws):Except Nat (Nat × Pol))with| .error i=>_| .ok (n,q)=>_
  cases namesR l 1<;>rfl
 ·intro h
  obtain⟨x,ht,hx,_⟩:=stmt_start (en:=en) h (by decide)
  unfold stmtP
  rw[ht]
  simp only
  rw[if_neg (by rw[hx];decide),if_neg (by rw[hx];decide),if_neg (by rw[hx];decide),if_pos hx,listP_names]
  show _=match (match namesR l 1 with| .error i=> .error i| .ok ws=> .ok (1+ws.length+1,addK dropT [] p ws):Except Nat (Nat × Pol))with| .error i=>_| .ok (n,q)=>_
  cases namesR l 1<;>rfl
 ·intro h
  obtain⟨x,ht,hx,_⟩:=stmt_start (en:=en) h (by decide)
  unfold stmtP
  rw[ht]
  simp only
  rw[if_neg (by rw[hx];decide),if_neg (by rw[hx];decide),if_neg (by rw[hx];decide),if_neg (by rw[hx];decide),if_pos hx]
  unfold attrsP nmR listR headR
  rw[if_pos rfl]
  simp only
  have h1:isR l 1 1 []=nextP 1 [] (l.drop 1):=rfl
  have h2:isR l 1 4 [42]=nextP 4 [[42]] (l.drop 1):=rfl
  have h3:isR l 2 4 [58]=nextP 4 [[58]] (l.drop 2):=rfl
  rw[h1,h2,h3]
  cases hc:(nextP 4 [[42]] (l.drop 1)||nextP 1 [] (l.drop 1))with
  |false=>
   obtain⟨e1,e2⟩:=Bool.or_eq_false_iff.1 hc
   rw[e1,e2]
   rfl
  |true=>
   have e1:(!nextP 1 [] (l.drop 1)&& !nextP 4 [[42]] (l.drop 1))=false:=by
    revert hc
    cases nextP 4 [[42]] (l.drop 1)<;>cases nextP 1 [] (l.drop 1)<;>simp
   rw[e1]
   simp only[Bool.false_eq_true,if_false,if_true]
   cases hq:l.drop 1 with
   |nil=>rw[hq]at hc;cases hc
   |cons y r=>
    have hr:r=l.drop 2:=by
     have:l.drop 2=(l.drop 1).drop 1:=by rw[List.drop_drop]
     rw[this,hq];rfl
    have hy:textR l 1=y.text:=by unfold textR;rw[hq]
    subst hr
    simp only
    rw[takeP_drop,hy]
    cases h4:nextP 4 [[58]] (l.drop 2)with
    |false=>rfl
    |true=>
     simp only[Bool.true_eq_false,if_false,if_true]
     rw[wordsP_at]
     cases namesR l 3<;>rfl
def wantsF (l:List Lx):Nat->List Nat->Option Nat
 |i,[]=>if isR l i 4 semiT then none else some i
 |i,k::ks=>if isR l i k []then wantsF l (i+1) ks else some i
def wantsR (l:List Lx) (ks:List Nat):Option Nat:=wantsF l 1 ks
def sgR (kind:Bs) (l:List Lx) (p:Pol) (told:List Bs):Except (Nat × Nat) (Nat × Pol × List Bs):=
 if kind=relT then
  if(!isR l 1 1 yesT&& !isR l 1 1 noT)=true then .error (2,1)
  else match wantsR l [1]with
   |some i=> .error (2,i)
   |none=>if relT∈told then .error (5,0)else .ok (3,{p with rel:=decide (textR l 1=yesT)},relT::told)
 else if kind=forceT then match wantsR l [1,1,3]with
  |some i=> .error (2,i)
  |none=>if(forceT++[32]++textR l 1++[32]++textR l 2)∈told then .error (5,0)else .ok (5,{p with forces:=p.forces++[⟨textR l 1,textR l 2,textR l 3⟩]},(forceT++[32]++textR l 1++[32]++textR l 2)::told)
 else if(!isR l 1 1 depthT&&(!isR l 1 1 nameT&& !isR l 1 1 valT))=true then .error (2,1)
 else match wantsR l [1,2]with
  |some i=> .error (2,i)
  |none=>if(limitT++[32]++textR l 1)∈told then .error (5,0)else if limB (setL (textR l 1) (numT (textR l 2)) p)then .ok (4,setL (textR l 1) (numT (textR l 2)) p,(limitT++[32]++textR l 1)::told)else .error (2,2)
theorem onceP_at (en a:Nat) (what:Bs) (l:List Lx) (i:Nat) (told:List Bs):onceP en a what (l.drop i) told=if isR l i 4 semiT then(if what∈told then .error ⟨a,5⟩else .ok (l.drop (i+1),what::told))else .error ⟨atR en l i,2⟩:=by
 unfold onceP isR
 rw[takeP_drop,tsR_semi]
 cases nextP 4 [semiT] (l.drop i)<;>rfl
theorem next_two {k:Nat} {t u:Bs} {q:List Lx}:nextP k [t,u] q=(nextP k [t] q||nextP k [u] q):=by
 cases q with
 |nil=>rfl
 |cons x r=>
  show isP k [t,u] x=(isP k [t] x||isP k [u] x)
  unfold isP
  cases decide (x.kind=k)<;>simp
theorem next_three {k:Nat} {t u v:Bs} {q:List Lx}:nextP k [t,u,v] q=(nextP k [t] q||(nextP k [u] q||nextP k [v] q)):=by
 cases q with
 |nil=>rfl
 |cons x r=>
  show isP k [t,u,v] x=(isP k [t] x||(isP k [u] x||isP k [v] x))
  unfold isP
  cases decide (x.kind=k)<;>simp
theorem next_any_of {k:Nat} {ts:List Bs} {q:List Lx} (h:nextP k ts q=true):nextP k [] q=true:=by
 cases q with
 |nil=>cases h
 |cons x r=>
  obtain⟨h1,_⟩:=isP_kind h
  show isP k [] x=true
  simp[isP,h1]
theorem stmt_single {en:Nat} {l:List Lx} {p:Pol} {told:List Bs}: ∀k∈threeT,kindR l=k->stmtP en ⟨l,p,told⟩=match sgR k l p told with
  | .error (c,i)=> .error ⟨atR en l i,c⟩
  | .ok (n,q,t)=> .ok ⟨l.drop n,q,t⟩:=by
 refine three_all ?_ ?_ ?_
 ·intro h
  obtain⟨x,ht,hx,ha⟩:=stmt_start (en:=en) h (by decide)
  unfold stmtP
  rw[ht]
  simp only
  rw[if_neg (by rw[hx];decide),if_neg (by rw[hx];decide),if_neg (by rw[hx];decide),if_neg (by rw[hx];decide),if_neg (by rw[hx];decide),if_pos hx]
  unfold relP sgR
  rw[if_pos rfl,ha]
  simp only
  rw[takeP_drop,next_two]
  have h1:isR l 1 1 yesT=nextP 1 [yesT] (l.drop 1):=rfl
  have h2:isR l 1 1 noT=nextP 1 [noT] (l.drop 1):=rfl
  have h3:isR l 1 1 []=nextP 1 [] (l.drop 1):=rfl
  rw[h1,h2]
  cases hc:(nextP 1 [yesT] (l.drop 1)||nextP 1 [noT] (l.drop 1))with
  |false=>
   obtain⟨e1,e2⟩:=Bool.or_eq_false_iff.1 hc
   rw[e1,e2]
   rfl
  |true=>
   have e1:(!nextP 1 [yesT] (l.drop 1)&& !nextP 1 [noT] (l.drop 1))=false:=by
    revert hc
    cases nextP 1 [yesT] (l.drop 1)<;>cases nextP 1 [noT] (l.drop 1)<;>simp
   rw[e1]
   have e2:isR l 1 1 []=true:=by
    rw[h3]
    rcases Bool.or_eq_true_iff.1 hc with h|h<;>exact next_any_of h
   have e3:wantsR l [1]=if isR l 2 4 semiT then none else some 2:=by
    unfold wantsR wantsF
    rw[if_pos e2];rfl
   simp only[if_true,Bool.false_eq_true,if_false]
   rw[e3,onceP_at]
   cases isR l 2 4 semiT with
   |false=>rfl
   |true=>
    simp only[if_true]
    by_cases hin:relT∈told
    ·simp only[if_pos hin]
    ·simp only[if_neg hin]
 ·intro h
  obtain⟨x,ht,hx,ha⟩:=stmt_start (en:=en) h (by decide)
  unfold stmtP
  rw[ht]
  simp only
  rw[if_neg (by rw[hx];decide),if_neg (by rw[hx];decide),if_neg (by rw[hx];decide),if_neg (by rw[hx];decide),if_neg (by rw[hx];decide),if_neg (by rw[hx];decide),if_pos hx]
  unfold forceP sgR wantsR wantsF wantsF wantsF wantsF
  rw[if_neg (by decide),if_pos rfl,ha]
  simp only
  rw[takeP_drop]
  have h1:isR l 1 1 []=nextP 1 [] (l.drop 1):=rfl
  have h2:isR l 2 1 []=nextP 1 [] (l.drop 2):=rfl
  have h3:isR l 3 3 []=nextP 3 [] (l.drop 3):=rfl
  simp only[show 1+1=2 from rfl,show 2+1=3 from rfl,show 3+1=4 from rfl]
  rw[h1,h2,h3]
  cases nextP 1 [] (l.drop 1)with
  |false=>rfl
  |true=>
   simp only[if_true]
   rw[takeP_drop]
   simp only[show 2+1=3 from rfl]
   cases nextP 1 [] (l.drop 2)with
   |false=>rfl
   |true=>
    simp only[if_true]
    rw[takeP_drop]
    simp only[show 3+1=4 from rfl]
    cases nextP 3 [] (l.drop 3)with
    |false=>rfl
    |true=>
     simp only[if_true]
     rw[onceP_at]
     cases isR l 4 4 semiT with
     |false=>rfl
     |true=>
      simp only[if_true]
      by_cases hin:(forceT++[32]++textR l 1++[32]++textR l 2)∈told
      ·simp only[if_pos hin]
      ·simp only[if_neg hin]
 ·intro h
  obtain⟨x,ht,hx,ha⟩:=stmt_start (en:=en) h (by decide)
  unfold stmtP
  rw[ht]
  simp only
  rw[if_neg (by rw[hx];decide),if_neg (by rw[hx];decide),if_neg (by rw[hx];decide),if_neg (by rw[hx];decide),if_neg (by rw[hx];decide),if_neg (by rw[hx];decide),if_neg (by rw[hx];decide)]
  unfold limitP sgR
  rw[if_neg (by decide),if_neg (by decide),ha]
  simp only
  rw[takeP_drop,next_three]
  have h1:isR l 1 1 depthT=nextP 1 [depthT] (l.drop 1):=rfl
  have h2:isR l 1 1 nameT=nextP 1 [nameT] (l.drop 1):=rfl
  have h3:isR l 1 1 valT=nextP 1 [valT] (l.drop 1):=rfl
  have h4:isR l 1 1 []=nextP 1 [] (l.drop 1):=rfl
  have h5:isR l 2 2 []=nextP 2 [] (l.drop 2):=rfl
  rw[h1,h2,h3]
  cases hc:(nextP 1 [depthT] (l.drop 1)||(nextP 1 [nameT] (l.drop 1)||nextP 1 [valT] (l.drop 1)))with
  |false=>
   obtain⟨e1,e2⟩:=Bool.or_eq_false_iff.1 hc
   obtain⟨e2,e3⟩:=Bool.or_eq_false_iff.1 e2
   rw[e1,e2,e3]
   rfl
  |true=>
   have e1:(!nextP 1 [depthT] (l.drop 1)&&(!nextP 1 [nameT] (l.drop 1)&& !nextP 1 [valT] (l.drop 1)))=false:=by
    revert hc
    cases nextP 1 [depthT] (l.drop 1)<;>cases nextP 1 [nameT] (l.drop 1)<;>cases nextP 1 [valT] (l.drop 1)<;>simp
   rw[e1]
   have e2:isR l 1 1 []=true:=by
    rw[h4]
    rcases Bool.or_eq_true_iff.1 hc with h|h
    ·exact next_any_of h
    ·rcases Bool.or_eq_true_iff.1 h with h|h<;>exact next_any_of h
   have e3:wantsR l [1,2]=if nextP 2 [] (l.drop 2)then(if isR l 3 4 semiT then none else some 3)else some 2:=by
    unfold wantsR wantsF wantsF wantsF
    rw[if_pos e2,<-h5]
   simp only[if_true,Bool.false_eq_true,if_false]
   rw[e3,takeP_drop]
   simp only[show 1+1=2 from rfl,show 2+1=3 from rfl]
   cases nextP 2 [] (l.drop 2)with
   |false=>rfl
   |true=>
    simp only[if_true]
    rw[onceP_at]
    simp only[show 3+1=4 from rfl]
    cases isR l 3 4 semiT with
    |false=>rfl
    |true=>
     simp only[if_true]
     by_cases hin:(limitT++[32]++textR l 1)∈told
     ·simp only[if_pos hin]
     ·simp only[if_neg hin]
      by_cases hl:limB (setL (textR l 1) (numT (textR l 2)) p)=true
      ·simp only[if_pos hl]
      ·simp only[if_neg hl]
end Go.Proofs.YtiikamobcmgekaaGreatDoor
namespace Go.Proofs.YtiikamobcmgekaaGreatDoor
theorem addK_forces (k tag:Bs) (p:Pol) (ws:List Bs):(addK k tag p ws).forces=p.forces:=by
 unfold addK
 split
 ·rfl
 split
 ·rfl
 split
 ·rfl
 split<;>rfl
theorem nmR_forces {k:Bs} {l:List Lx} {p q:Pol} {n:Nat} (h:nmR k l p= .ok (n,q)):q.forces=p.forces:=by
 unfold nmR at h
 split at h
 ·cases h
 ·split at h
  ·cases h
  ·cases h;exact addK_forces _ _ _ _
theorem textR_le {l:List Lx} {i N:Nat} (h: ∀x∈l,x.text.length<=N):(textR l i).length<=N:=by
 unfold textR
 split
 ·exact Nat.zero_le _
 ·next x r hx=>exact h x (List.mem_of_mem_drop (by rw[hx];exact List.mem_cons_self))
theorem sgR_code {k:Bs} {l:List Lx} {p:Pol} {told:List Bs} {c i:Nat} (h:sgR k l p told= .error (c,i)):c=2\/c=5:=by
 unfold sgR at h
 split at h
 ·split at h
  ·cases h;exact .inl rfl
  ·split at h
   ·cases h;exact .inl rfl
   ·split at h<;>cases h
    exact .inr rfl
 ·split at h
  ·split at h
   ·cases h;exact .inl rfl
   ·split at h<;>cases h
    exact .inr rfl
  ·split at h
   ·cases h;exact .inl rfl
   ·split at h
    ·cases h;exact .inl rfl
    ·split at h
     ·cases h;exact .inr rfl
     ·split at h<;>cases h
      exact .inl rfl
theorem setL_forces (k:Bs) (n:Int) (p:Pol):(setL k n p).forces=p.forces:=by
 unfold setL
 split
 ·rfl
 split<;>rfl
theorem sgR_val {k:Bs} {l:List Lx} {p q:Pol} {told t:List Bs} {n N:Nat} (h:sgR k l p told= .ok (n,q,t)) (hl: ∀x∈l,x.text.length<=N) (hp: ∀f∈p.forces,f.value.length<=N): ∀f∈q.forces,f.value.length<=N:=by
 unfold sgR at h
 split at h
 ·split at h
  ·cases h
  ·split at h
   ·cases h
   ·split at h<;>cases h
    exact hp
 ·split at h
  ·split at h
   ·cases h
   ·split at h<;>cases h
    intro f hf
    rcases List.mem_append.1 hf with h1|h1
    ·exact hp f h1
    ·simp at h1
     subst h1
     exact textR_le hl
  ·split at h
   ·cases h
   ·split at h
    ·cases h
    ·split at h
     ·cases h
     ·split at h<;>cases h
      rw[setL_forces];exact hp
theorem kinds_split {k:Bs} (h:k∈kindsT):k∈fiveT\/k∈threeT:=by
 simp only[kindsT,fiveT,threeT,List.mem_cons,List.not_mem_nil,or_false]at h ⊢
 rcases h with h|h|h|h|h|h|h|h<;>simp[h]
theorem stmt_code {en:Nat} {s:Ps} {f:Flt} (h:stmtP en s= .error f):f.code≠0:=by
 obtain⟨l,p,told⟩:=s
 by_cases hk:kindR l∈kindsT
 ·rcases kinds_split hk with h5|h3
  ·rw[stmt_names (kindR l) h5 rfl]at h
   split at h
   ·cases h;exact Nat.succ_ne_zero 1
   ·cases h
  ·rw[stmt_single (kindR l) h3 rfl]at h
   split at h
   ·next c i hs=>cases h;rcases sgR_code hs with rfl|rfl<;>simp
   ·cases h
 ·rw[stmt_bad hk]at h;cases h;exact Nat.succ_ne_zero 1
theorem stmt_val {en N:Nat} {s t:Ps} (h:stmtP en s= .ok t) (hl: ∀x∈s.rest,x.text.length<=N) (hp: ∀f∈s.pol.forces,f.value.length<=N): ∀f∈t.pol.forces,f.value.length<=N:=by
 obtain⟨l,p,told⟩:=s
 by_cases hk:kindR l∈kindsT
 ·rcases kinds_split hk with h5|h3
  ·rw[stmt_names (kindR l) h5 rfl]at h
   split at h
   ·cases h
   ·next n q hn=>cases h;simp only;rw[nmR_forces hn];exact hp
  ·rw[stmt_single (kindR l) h3 rfl]at h
   split at h
   ·cases h
   ·next n q t hs=>cases h;exact sgR_val hs hl hp
 ·rw[stmt_bad hk]at h;cases h
theorem runF_code {en:Nat}: ∀(f:Nat) {s:Ps} {e:Flt},runF en f s= .error e->e.code≠0
 |0,s,e,h=>by cases h
 |f+1,s,e,h=>by
  unfold runF at h
  split at h
  ·cases h
  ·split at h
   ·next hs=>cases h;exact stmt_code hs
   ·exact runF_code f h
theorem runF_val {en N:Nat}: ∀(f:Nat) {s t:Ps},runF en f s= .ok t->PsSm s->(∀x∈s.rest,x.text.length<=N)->(∀f∈s.pol.forces,f.value.length<=N)->PsSm t/\ ∀f∈t.pol.forces,f.value.length<=N
 |0,s,t,h,hs,_,hp=>by cases h;exact⟨hs,hp⟩
 |f+1,s,t,h,hs,hl,hp=>by
  unfold runF at h
  split at h
  ·cases h;exact⟨hs,hp⟩
  ·split at h
   ·cases h
   ·next u hu=>exact runF_val f h (hs.stmt hu) (fun x hx=>hl x ((stmt_shr hu).mem x hx)) (stmt_val hu hl hp)
theorem parse_code {s:Bs} {f:Flt} (h:parsePl s= .error f):f.code≠0:=by
 unfold parsePl at h
 split at h
 ·cases h;exact Nat.succ_ne_zero 2
 ·split at h
  ·cases h;exact Nat.succ_ne_zero 1
  ·split at h
   ·next ht=>cases h;exact runF_code _ ht
   ·split at h
    ·cases h
    ·cases h;exact Nat.succ_ne_zero 2
theorem word_len {t:Bs} (h:wordB t=true):t.length<=64:=by
 rw[wordB_eq]at h
 simp only[Bool.and_eq_true,decide_eq_true_eq]at h
 exact h.1.1.2
theorem parse_bk {s:Bs} {p:Pol} (h:parsePl s= .ok p):PolBk p 10000:=by
 have hr:=parse_right h
 have hv: ∀f∈p.forces,f.value.length<=10000:=by
  unfold parsePl at h
  split at h
  ·cases h
  ·next h8=>
   split at h
   ·cases h
   ·next l hl=>
    split at h
    ·cases h
    ·next t ht=>
     split at h
     ·cases h
      obtain⟨h1,_⟩:=start_sm hl (by omega)
      have h9:=(runF_val (N:=10000) _ ht h1 (fun x hx=>(h1.txt x hx).1) (fun f hf=>(by cases hf))).2
      exact fun f hf=>h9 f (neat_mem swoF hf)
     ·cases h
 unfold rightP fitB at hr
 simp only[Bool.and_eq_true,decide_eq_true_eq,List.all_eq_true]at hr
 obtain⟨⟨⟨⟨⟨⟨⟨⟨a0,a1⟩,a2⟩,a3⟩,a4⟩,a5⟩,_⟩,b0,b1,b2,b3,b4,b5⟩,_⟩:=hr
 refine⟨fun j hj=> ?_,fun t ht=>Nat.le_trans (word_len (a0 t ht)) (by omega),fun t ht=>Nat.le_trans (word_len (a1 t ht)) (by omega),fun t ht=>Nat.le_trans (word_len (a2 t ht)) (by omega),fun t ht=>Nat.le_trans (word_len (a3 t ht)) (by omega),fun a ha=> ?_,fun a ha=> ?_⟩
 ·rcases(by omega:j=0\/j=1\/j=2\/j=3\/j=4\/j=5)with rfl|rfl|rfl|rfl|rfl|rfl<;>(simp only[fN];omega)
 ·have h1:=a4 a ha
  unfold alwB at h1
  simp only[Bool.and_eq_true,Bool.or_eq_true,decide_eq_true_eq]at h1
  refine⟨?_,Nat.le_trans (word_len h1.2) (by omega)⟩
  rcases h1.1 with h2|h2
  ·rw[h2];decide
  ·exact Nat.le_trans (word_len h2) (by omega)
 ·have h1:=a5 a ha
  unfold frcB at h1
  simp only[Bool.and_eq_true]at h1
  exact⟨Nat.le_trans (word_len h1.1.2) (by omega),Nat.le_trans (word_len h1.2) (by omega),hv a ha⟩
end Go.Proofs.YtiikamobcmgekaaGreatDoor
namespace Go.Proofs.YtiikamobcmgekaaGreatDoor
open Go.RowKit
attribute [local go_sem] Oper.semAt_some
theorem PolBk.mono {p:Pol} {n m:Nat} (h:PolBk p n) (hm:n<=m):PolBk p m:=⟨fun j hj=>Nat.le_trans (h.rows j hj) hm,fun t ht=>Nat.le_trans (h.tags t ht) hm,fun t ht=>Nat.le_trans (h.schemes t ht) hm,fun t ht=>Nat.le_trans (h.css t ht) hm,fun t ht=>Nat.le_trans (h.drops t ht) hm,fun a ha=>⟨Nat.le_trans (h.attrs a ha).1 hm,Nat.le_trans (h.attrs a ha).2 hm⟩,fun a ha=>⟨Nat.le_trans (h.forces a ha).1 hm,Nat.le_trans (h.forces a ha).2.1 hm,Nat.le_trans (h.forces a ha).2.2 hm⟩⟩
theorem PolBk.sm {p:Pol} (h:PolBk p 1048576):PolSm p:=⟨Nat.le_trans (h.rows 0 (by omega)) (by omega),Nat.le_trans (h.rows 1 (by omega)) (by omega),Nat.le_trans (h.rows 2 (by omega)) (by omega),Nat.le_trans (h.rows 3 (by omega)) (by omega),Nat.le_trans (h.rows 4 (by omega)) (by omega),Nat.le_trans (h.rows 5 (by omega)) (by omega)⟩
theorem PolBk.tx {p:Pol} (h:PolBk p 1048576):PolTx p:=by
 refine⟨fun k hk t ht=> ?_,fun a ha=>⟨Nat.le_trans (h.attrs a ha).1 (by omega),Nat.le_trans (h.attrs a ha).2 (by omega)⟩,fun a ha=>⟨Nat.le_trans (h.forces a ha).1 (by omega),Nat.le_trans (h.forces a ha).2.1 (by omega),Nat.le_trans (h.forces a ha).2.2 (by omega)⟩⟩
 rcases(by omega:k=0\/k=1\/k=2\/k=3)with rfl|rfl|rfl|rfl
 ·exact Nat.le_trans (h.tags t ht) (by omega)
 ·exact Nat.le_trans (h.schemes t ht) (by omega)
 ·exact Nat.le_trans (h.css t ht) (by omega)
 ·exact Nat.le_trans (h.drops t ht) (by omega)
end Go.Proofs.YtiikamobcmgekaaGreatDoor
namespace Go.Proofs.YtiikamobcmgekaaGreatDoor
open Go.RowKit
theorem polZ_v (W:World) (bad:Nat->Prop):PolV W bad zeroV polZ:=by
 have hr: ∀size,Rx W bad (.slice none 0 0) 0 size []:=fun size=>⟨none,0,rfl,⟨fun _=>rfl,Nat.le_refl _⟩,Rd.nil _ _,fun h=>absurd h (Nat.lt_irrefl 0)⟩
 exact⟨_,_,_,_,_,_,rfl,hr 1,hr 1,hr 1,hr 1,hr 2,hr 3⟩
theorem polZ_bk (n:Nat):PolBk polZ n:=⟨fun j hj=>by rcases(by omega:j=0\/j=1\/j=2\/j=3\/j=4\/j=5)with rfl|rfl|rfl|rfl|rfl|rfl<;>exact Nat.zero_le _,fun _ h=>(by cases h),fun _ h=>(by cases h),fun _ h=>(by cases h),fun _ h=>(by cases h),fun _ h=>(by cases h),fun _ h=>(by cases h)⟩
structure ParseG (s:Bs) (a c:Nat) (P:Pol):Prop where
 run: ∀W,Calls Tryz.prog 20 #[.string ⟨s.toArray⟩] W fun e w'=>Below W.heap.size W w'/\ ∃v,e= .returned (.tuple #[v,.int .i64 a,.int .i64 c])/\PolV w' (fun b=>b<W.heap.size) v P
 bk:PolBk P 10000
 says:(c=0/\a=0/\parsePl s= .ok P)\/(c≠0/\P=polZ/\a<=s.length/\parsePl s= .error ⟨a,c⟩)
theorem parse_gen (s:Bs): ∃a c P,ParseG s a c P:=by
 cases h:parsePl s with
 |ok p=>
  refine⟨0,0,p,fun W=> ?_,parse_bk h,.inl ⟨rfl,rfl,h⟩⟩
  refine(parse_any s W).mono fun e w' h9=> ?_
  unfold ParseOut at h9
  rw[h]at h9
  exact h9
 |error f=>
  obtain⟨a,c⟩:=f
  refine⟨a,c,polZ,fun W=> ?_,polZ_bk _,.inr ⟨parse_code h,rfl,parse_at h,h⟩⟩
  refine(parse_any s W).mono fun e w' h9=> ?_
  unfold ParseOut at h9
  rw[h]at h9
  exact⟨h9.1,_,h9.2,polZ_v _ _⟩
end Go.Proofs.YtiikamobcmgekaaGreatDoor

