import Derived.Test.YtccjfanpjojbnaaGreatDoorRows
import Derived.Test.YtccjfanpjojbnaaGreatDoorRiC
import Derived.Test.YtccjfanpjojbnaaGreatDoorR4
open Bool renaming and_eq_true→bD,false_eq_true→gW,or_eq_false_iff→oK,or_eq_true_iff→yg
open List renaming drop_drop→qQ,drop_succ_cons→qP,length_cons→aY,mem_cons→bJ,not_mem_nil→eO,takeWhile_cons_of_neg→jn,takeWhile_cons_of_pos→jo
open Nat renaming le_trans→bG,succ_ne_zero→Yb
namespace Go.Proofs.YtccjfanpjojbnaaGreatDoor
open Go.ChangeShapes Go.WideShapes Go.Deep
namespace bulks
theorem one_le {H:Type} (d:DataW H):1<=Rows.uptoBulk d:=by
 cases d with
 |lit l=>cases l<;>simp[Rows.uptoBulk]
 |nil=>simp[Rows.uptoBulk]
 |ptr d=>simp[Rows.uptoBulk]
 |slice elems spare=>simp[Rows.uptoBulk]
 |agg parts=>simp[Rows.uptoBulk]
 |iface t d=>simp[Rows.uptoBulk]
 |map entries=>simp[Rows.uptoBulk]
 |held h=>simp[Rows.uptoBulk]
theorem length_le {H:Type} (l:List (DataW H)):l.length<=Rows.uptoBulkAll l:=by
 induction l with
 |nil=>simp[Rows.uptoBulkAll]
 |cons x r ih=>have:=one_le x;simp only[Rows.uptoBulkAll,aY];omega
end bulks
section
variable {H:Type} {enc:TypeId × Value->H} {w:World} {base:Nat} {spare:Nat->Bool} {held:Bool}
instance:Inhabited aW:=⟨⟨[],[]⟩⟩
instance:Inhabited aS:=⟨⟨[],[],[]⟩⟩
structure sS (p:aO) (n:Nat):Prop where
 rows: ∀j,j<6->fN p j<=n
 tags: ∀t∈p.tags,t.length<=n
 schemes: ∀t∈p.schemes,t.length<=n
 css: ∀t∈p.css,t.length<=n
 drops: ∀t∈p.drops,t.length<=n
 attrs: ∀a∈p.attrs,a.tag.length<=n/\a.name.length<=n
 forces: ∀a∈p.forces,a.tag.length<=n/\a.name.length<=n/\a.value.length<=n
end
end Go.Proofs.YtccjfanpjojbnaaGreatDoor
namespace Go.Proofs.YtccjfanpjojbnaaGreatDoor
open Go.RowKit
end Go.Proofs.YtccjfanpjojbnaaGreatDoor
namespace Go.Proofs.YtccjfanpjojbnaaGreatDoor
def qF (en:Nat) (l:List Lx) (i:Nat):Nat:=sO en (l.drop i)
def JP (t:Bs):List Bs:=if t=[]then []else [t]
def fE (l:List Lx) (i k:Nat) (t:Bs):Bool:=bM k (JP t) (l.drop i)
def iH (l:List Lx) (i:Nat):Bs:=match l.drop i with
 |[]=>[]
 |x::_=>x.text
theorem tZ (en k:Nat) (ts:List Bs) (l:List Lx) (i:Nat):dE en k ts (l.drop i)=if bM k ts (l.drop i)then .ok (⟨k,qF en l i,iH l i⟩,l.drop (i+1))else .error ⟨qF en l i,2⟩:=by
 have h1:l.drop (i+1)=(l.drop i).drop 1:=by rw[qQ]
 unfold qF iH;rw[h1];generalize l.drop i=q;cases q with
 |nil=>rfl
 |cons x r=>
  show(if cD k ts x then _ else _)=(if cD k ts x then _ else _);by_cases h:cD k ts x=true
  .rw[if_pos h,if_pos h];obtain⟨hk,_⟩:=wB h;subst hk;rfl
  .rw[if_neg h,if_neg h];rfl
def rW (l:List Lx) (b:Nat):List Bs:=((l.drop b).takeWhile (cD 1 [])).map Lx.text
def oR (l:List Lx) (b:Nat):Except Nat (List Bs):=
 if(rW l b).length=0\/fE l (b+(rW l b).length) 4 fP=false then .error (b+(rW l b).length)else .ok (rW l b)
theorem Ns {α:Type} (p:α->Bool) (q:List α):q.dropWhile p=q.drop (q.takeWhile p).length:=by
 induction q with
 |nil=>rfl
 |cons x r ih=>
  by_cases h:p x=true
  .rw[List.dropWhile_cons_of_pos h,jo h,aY,qP,ih]
  .rw[List.dropWhile_cons_of_neg h,jn h];rfl
theorem QE:JP fP=[fP]:=by unfold JP;rw[if_neg dc]
theorem G3 (en:Nat) (q:List Lx):eP en q=if((q.takeWhile (cD 1 [])).map Lx.text).length=0 then .error ⟨sO en q,2⟩
  else if bM 4 [fP] (q.drop ((q.takeWhile (cD 1 [])).map Lx.text).length)=true then .ok ((q.takeWhile (cD 1 [])).map Lx.text,q.drop (((q.takeWhile (cD 1 [])).map Lx.text).length+1))
  else .error ⟨sO en (q.drop ((q.takeWhile (cD 1 [])).map Lx.text).length),2⟩:=by
 unfold eP;cases q with
 |nil=>rfl
 |cons x r=>
  have e:dE en 1 [] (x::r)=if cD 1 [] x=true then Except.ok (x,r)else Except.error ⟨x.at_,2⟩:=rfl;rw[e];by_cases hx:cD 1 [] x=true
  .rw[if_pos hx];simp only;rw[jo hx];simp only[List.map_cons,aY,List.length_map,qP,Yb,if_false];unfold pZ;rw[Ns];have h9:=tZ en 4 [fP] r (r.takeWhile (cD 1 [])).length;rw[h9];cases hn:bM 4 [fP] (r.drop (r.takeWhile (cD 1 [])).length)
   .simp[qF]
   .simp
  .rw[if_neg hx];simp only;rw[jn hx];rfl
theorem PL (en:Nat) (l:List Lx) (b:Nat):eP en (l.drop b)=match oR l b with
  | .error i=> .error ⟨qF en l i,2⟩
  | .ok ws=> .ok (ws,l.drop (b+ws.length+1)):=by
 rw[G3];unfold oR fE;rw[QE];have hd: ∀i,(l.drop b).drop i=l.drop (b+i):=λi=>by rw[qQ]
 show(if(rW l b).length=0 then _ else if bM 4 [fP] ((l.drop b).drop (rW l b).length)=true then Except.ok (rW l b,(l.drop b).drop ((rW l b).length+1))else Except.error (⟨sO en ((l.drop b).drop (rW l b).length),2⟩:lC))=_;rw[hd,hd];by_cases h0:(rW l b).length=0
 .rw[if_pos h0,if_pos (.inl h0)];simp only;unfold qF;rw[h0];rfl
 .rw[if_neg h0];cases hn:bM 4 [fP] (l.drop (b+(rW l b).length))with
  |true=>
   rw[if_pos rfl,if_neg (by rintro(h|h);exact h0 h;cases h)];simp only[Nat.add_assoc]
  |false=>
   rw[if_neg dc,if_pos (.inr rfl)];rfl
def XB (l:List Lx):Except Nat Bs:=if(!fE l 1 1 []&& !fE l 1 4 [42])=true then .error 1 else if fE l 2 4 [58]=false then .error 2 else .ok (iH l 1)
def yD (kind tag:Bs) (p:aO) (ws:List Bs):aO:=
 if kind=uA then {p with tags:=p.tags++ws}
 else if kind=uD then {p with schemes:=p.schemes++ws}
 else if kind=vA then {p with css:=p.css++ws}
 else if kind=uX then {p with drops:=p.drops++ws}
 else {p with attrs:=p.attrs++ws.map (λn=>⟨tag,n⟩)}
def VO (kind:Bs) (l:List Lx):Except Nat (Bs × Nat):=if kind=wP then match XB l with
  | .error i=> .error i
  | .ok t=> .ok (t,3)
 else .ok ([],1)
def ET (kind:Bs) (l:List Lx) (p:aO):Except Nat (Nat × aO):=match VO kind l with
 | .error i=> .error i
 | .ok (tag,b)=>match oR l b with
  | .error i=> .error i
  | .ok ws=> .ok (b+ws.length+1,yD kind tag p ws)
def CI:List Bs:=[uA,uD,vA,uX,wP]
def AW:List Bs:=[mT,lO,mY]
def qA:List Lx->Bs
 |[]=>[]
 |x::_=>if x.kind=1 then x.text else []
theorem Ln {P:Bs->Prop} (h0:P uA) (h1:P uD) (h2:P vA) (h3:P uX) (h4:P wP): ∀k∈CI,P k:=by
 intro k hk;simp only[CI,bJ,eO,or_false]at hk;rcases hk with rfl|rfl|rfl|rfl|rfl<;>assumption
theorem O7 {P:Bs->Prop} (h0:P mT) (h1:P lO) (h2:P mY): ∀k∈AW,P k:=by
 intro k hk;simp only[AW,bJ,eO,or_false]at hk;rcases hk with rfl|rfl|rfl<;>assumption
theorem Iy {l:List Lx} {k:Bs} (h:qA l=k) (hk:k≠[]): ∃x r,l=x::r/\x.kind=1/\x.text=k:=by
 cases l with
 |nil=>exact absurd h.symm hk
 |cons x r=>
  unfold qA at h;simp only at h;by_cases h1:x.kind=1
  .rw[if_pos h1]at h;exact⟨x,r,rfl,h1,h⟩
  .rw[if_neg h1]at h;exact absurd h.symm hk
theorem vQ {en:Nat} {l:List Lx} {k:Bs} (h:qA l=k) (hk:k∈iQ): ∃x,dE en 1 iQ l= .ok (x,l.drop 1)/\x.text=k/\x.at_=qF en l 0:=by
 have hk0:k≠[]:=by rintro rfl;exact absurd hk dc
 obtain⟨x,r,rfl,h1,rfl⟩:=Iy h hk0;refine⟨x, ?_,rfl,rfl⟩;show(if cD 1 iQ x=true then _ else _)=_;rw[if_pos (by simp[cD,h1,hk])];rfl
theorem RM {en:Nat} {l:List Lx} {p:aO} {told:List Bs} (h:qA l∉iQ):eZ en ⟨l,p,told⟩= .error ⟨qF en l 0,2⟩:=by
 unfold eZ;have:dE en 1 iQ l= .error ⟨qF en l 0,2⟩:=by
  cases l with
  |nil=>rfl
  |cons x r=>
   show(if cD 1 iQ x=true then _ else _)=_;rw[if_neg]
   .rfl
   .intro hi;obtain⟨h1,h2⟩:=wB hi;refine h ?_;unfold qA;simp only;rw[if_pos h1];exact h2 dc
 rw[this]
theorem FD {en:Nat} {l:List Lx} {p:aO} {told:List Bs} (f:aO->List Bs->aO):rG en ⟨l.drop 1,p,told⟩ f=match oR l 1 with
  | .error i=> .error ⟨qF en l i,2⟩
  | .ok ws=> .ok ⟨l.drop (1+ws.length+1),f p ws,told⟩:=by
 unfold rG;simp only;rw[PL];cases oR l 1<;>rfl
theorem RL {en:Nat} {l:List Lx} {p:aO} {told:List Bs}: ∀k∈CI,qA l=k->eZ en ⟨l,p,told⟩=match ET k l p with
  | .error i=> .error ⟨qF en l i,2⟩
  | .ok (n,q)=> .ok ⟨l.drop n,q,told⟩:=by
 refine Ln ?_ ?_ ?_ ?_ ?_
 .intro h;obtain⟨x,ht,hx,_⟩:=vQ (en:=en) h dc;unfold eZ;rw[ht];simp only;rw[if_pos hx,FD];show _=match (match oR l 1 with| .error i=> .error i| .ok ws=> .ok (1+ws.length+1,yD uA [] p ws):Except Nat (Nat × aO))with| .error i=>_| .ok (n,q)=>_
  cases oR l 1<;>rfl
 .intro h;obtain⟨x,ht,hx,_⟩:=vQ (en:=en) h dc;unfold eZ;rw[ht];simp only;rw[if_neg (by rw[hx];decide),if_pos hx,FD];show _=match (match oR l 1 with| .error i=> .error i| .ok ws=> .ok (1+ws.length+1,yD uD [] p ws):Except Nat (Nat × aO))with| .error i=>_| .ok (n,q)=>_
  cases oR l 1<;>rfl
 .intro h;obtain⟨x,ht,hx,_⟩:=vQ (en:=en) h dc;unfold eZ;rw[ht];simp only;rw[if_neg (by rw[hx];decide),if_neg (by rw[hx];decide),if_pos hx,FD];show _=match (match oR l 1 with| .error i=> .error i| .ok ws=> .ok (1+ws.length+1,yD vA [] p ws):Except Nat (Nat × aO))with| .error i=>_| .ok (n,q)=>_
  cases oR l 1<;>rfl
 .intro h;obtain⟨x,ht,hx,_⟩:=vQ (en:=en) h dc;unfold eZ;rw[ht];simp only;rw[if_neg (by rw[hx];decide),if_neg (by rw[hx];decide),if_neg (by rw[hx];decide),if_pos hx,FD];show _=match (match oR l 1 with| .error i=> .error i| .ok ws=> .ok (1+ws.length+1,yD uX [] p ws):Except Nat (Nat × aO))with| .error i=>_| .ok (n,q)=>_
  cases oR l 1<;>rfl
 .intro h;obtain⟨x,ht,hx,_⟩:=vQ (en:=en) h dc;unfold eZ;rw[ht];simp only;rw[if_neg (by rw[hx];decide),if_neg (by rw[hx];decide),if_neg (by rw[hx];decide),if_neg (by rw[hx];decide),if_pos hx];unfold sN ET VO XB;rw[if_pos rfl];simp only;have h1:fE l 1 1 []=bM 1 [] (l.drop 1):=rfl;have h2:fE l 1 4 [42]=bM 4 [[42]] (l.drop 1):=rfl;have h3:fE l 2 4 [58]=bM 4 [[58]] (l.drop 2):=rfl;rw[h1,h2,h3];cases hc:(bM 4 [[42]] (l.drop 1)||bM 1 [] (l.drop 1))with
  |false=>
   obtain⟨e1,e2⟩:=oK.1 hc;rw[e1,e2];rfl
  |true=>
   have e1:(!bM 1 [] (l.drop 1)&& !bM 4 [[42]] (l.drop 1))=false:=by
    revert hc;cases bM 4 [[42]] (l.drop 1)<;>cases bM 1 [] (l.drop 1)<;>simp
   rw[e1];simp only[gW,if_false,if_true];cases hq:l.drop 1 with
   |nil=>rw[hq]at hc;cases hc
   |cons y r=>
    have hr:r=l.drop 2:=by
     have:l.drop 2=(l.drop 1).drop 1:=by rw[qQ]
     rw[this,hq];rfl
    have hy:iH l 1=y.text:=by unfold iH;rw[hq]
    subst hr;simp only;rw[tZ,hy];cases h4:bM 4 [[58]] (l.drop 2)with
    |false=>rfl
    |true=>
     simp only[Bool.true_eq_false,if_false,if_true];rw[PL];cases oR l 3<;>rfl
def sW (l:List Lx):Nat->List Nat->Option Nat
 |i,[]=>if fE l i 4 fP then none else some i
 |i,k::ks=>if fE l i k []then sW l (i+1) ks else some i
def vK (l:List Lx) (ks:List Nat):Option Nat:=sW l 1 ks
def vT (kind:Bs) (l:List Lx) (p:aO) (told:List Bs):Except (Nat × Nat) (Nat × aO × List Bs):=
 if kind=mT then
  if(!fE l 1 1 kA&& !fE l 1 1 mW)=true then .error (2,1)
  else match vK l [1]with
   |some i=> .error (2,i)
   |none=>if mT∈told then .error (5,0)else .ok (3,{p with rel:=decide (iH l 1=kA)},mT::told)
 else if kind=lO then match vK l [1,1,3]with
  |some i=> .error (2,i)
  |none=>if(lO++[32]++iH l 1++[32]++iH l 2)∈told then .error (5,0)else .ok (5,{p with forces:=p.forces++[⟨iH l 1,iH l 2,iH l 3⟩]},(lO++[32]++iH l 1++[32]++iH l 2)::told)
 else if(!fE l 1 1 kX&&(!fE l 1 1 kT&& !fE l 1 1 lG))=true then .error (2,1)
 else match vK l [1,2]with
  |some i=> .error (2,i)
  |none=>if(mY++[32]++iH l 1)∈told then .error (5,0)else if lK (gE (iH l 1) (pW (iH l 2)) p)then .ok (4,gE (iH l 1) (pW (iH l 2)) p,(mY++[32]++iH l 1)::told)else .error (2,2)
theorem LM (en a:Nat) (what:Bs) (l:List Lx) (i:Nat) (told:List Bs):iB en a what (l.drop i) told=if fE l i 4 fP then(if what∈told then .error ⟨a,5⟩else .ok (l.drop (i+1),what::told))else .error ⟨qF en l i,2⟩:=by
 unfold iB fE;rw[tZ,QE];cases bM 4 [fP] (l.drop i)<;>rfl
theorem Fm {k:Nat} {t u:Bs} {q:List Lx}:bM k [t,u] q=(bM k [t] q||bM k [u] q):=by
 cases q with
 |nil=>rfl
 |cons x r=>
  show cD k [t,u] x=(cD k [t] x||cD k [u] x);unfold cD;cases decide (x.kind=k)<;>simp
theorem Fp {k:Nat} {t u v:Bs} {q:List Lx}:bM k [t,u,v] q=(bM k [t] q||(bM k [u] q||bM k [v] q)):=by
 cases q with
 |nil=>rfl
 |cons x r=>
  show cD k [t,u,v] x=(cD k [t] x||(cD k [u] x||cD k [v] x));unfold cD;cases decide (x.kind=k)<;>simp
theorem LQ {k:Nat} {ts:List Bs} {q:List Lx} (h:bM k ts q=true):bM k [] q=true:=by
 cases q with
 |nil=>cases h
 |cons x r=>
  obtain⟨h1,_⟩:=wB h;show cD k [] x=true;simp[cD,h1]
theorem RJ {en:Nat} {l:List Lx} {p:aO} {told:List Bs}: ∀k∈AW,qA l=k->eZ en ⟨l,p,told⟩=match vT k l p told with
  | .error (c,i)=> .error ⟨qF en l i,c⟩
  | .ok (n,q,t)=> .ok ⟨l.drop n,q,t⟩:=by
 refine O7 ?_ ?_ ?_
 .intro h;obtain⟨x,ht,hx,ha⟩:=vQ (en:=en) h dc;unfold eZ;rw[ht];simp only;rw[if_neg (by rw[hx];decide),if_neg (by rw[hx];decide),if_neg (by rw[hx];decide),if_neg (by rw[hx];decide),if_neg (by rw[hx];decide),if_pos hx];unfold xH vT;rw[if_pos rfl,ha];simp only;rw[tZ,Fm];have h1:fE l 1 1 kA=bM 1 [kA] (l.drop 1):=rfl;have h2:fE l 1 1 mW=bM 1 [mW] (l.drop 1):=rfl;have h3:fE l 1 1 []=bM 1 [] (l.drop 1):=rfl;rw[h1,h2];cases hc:(bM 1 [kA] (l.drop 1)||bM 1 [mW] (l.drop 1))with
  |false=>
   obtain⟨e1,e2⟩:=oK.1 hc;rw[e1,e2];rfl
  |true=>
   have e1:(!bM 1 [kA] (l.drop 1)&& !bM 1 [mW] (l.drop 1))=false:=by
    revert hc;cases bM 1 [kA] (l.drop 1)<;>cases bM 1 [mW] (l.drop 1)<;>simp
   rw[e1];have e2:fE l 1 1 []=true:=by
    rw[h3];rcases yg.1 hc with h|h<;>exact LQ h
   have e3:vK l [1]=if fE l 2 4 fP then none else some 2:=by
    unfold vK sW;rw[if_pos e2];rfl
   simp only[if_true,gW,if_false];rw[e3,LM];cases fE l 2 4 fP with
   |false=>rfl
   |true=>
    simp only[if_true];by_cases hin:mT∈told
    .simp only[if_pos hin]
    .simp only[if_neg hin]
 .intro h;obtain⟨x,ht,hx,ha⟩:=vQ (en:=en) h dc;unfold eZ;rw[ht];simp only;rw[if_neg (by rw[hx];decide),if_neg (by rw[hx];decide),if_neg (by rw[hx];decide),if_neg (by rw[hx];decide),if_neg (by rw[hx];decide),if_neg (by rw[hx];decide),if_pos hx];unfold nX vT vK sW sW sW sW;rw[if_neg dc,if_pos rfl,ha];simp only;rw[tZ];have h1:fE l 1 1 []=bM 1 [] (l.drop 1):=rfl;have h2:fE l 2 1 []=bM 1 [] (l.drop 2):=rfl;have h3:fE l 3 3 []=bM 3 [] (l.drop 3):=rfl;simp only[show 1+1=2 from rfl,show 2+1=3 from rfl,show 3+1=4 from rfl];rw[h1,h2,h3];cases bM 1 [] (l.drop 1)with
  |false=>rfl
  |true=>
   simp only[if_true];rw[tZ];simp only[show 2+1=3 from rfl];cases bM 1 [] (l.drop 2)with
   |false=>rfl
   |true=>
    simp only[if_true];rw[tZ];simp only[show 3+1=4 from rfl];cases bM 3 [] (l.drop 3)with
    |false=>rfl
    |true=>
     simp only[if_true];rw[LM];cases fE l 4 4 fP with
     |false=>rfl
     |true=>
      simp only[if_true];by_cases hin:(lO++[32]++iH l 1++[32]++iH l 2)∈told
      .simp only[if_pos hin]
      .simp only[if_neg hin]
 .intro h;obtain⟨x,ht,hx,ha⟩:=vQ (en:=en) h dc;unfold eZ;rw[ht];simp only;rw[if_neg (by rw[hx];decide),if_neg (by rw[hx];decide),if_neg (by rw[hx];decide),if_neg (by rw[hx];decide),if_neg (by rw[hx];decide),if_neg (by rw[hx];decide),if_neg (by rw[hx];decide)];unfold nW vT;rw[if_neg dc,if_neg dc,ha];simp only;rw[tZ,Fp];have h1:fE l 1 1 kX=bM 1 [kX] (l.drop 1):=rfl;have h2:fE l 1 1 kT=bM 1 [kT] (l.drop 1):=rfl;have h3:fE l 1 1 lG=bM 1 [lG] (l.drop 1):=rfl;have h4:fE l 1 1 []=bM 1 [] (l.drop 1):=rfl;have h5:fE l 2 2 []=bM 2 [] (l.drop 2):=rfl;rw[h1,h2,h3];cases hc:(bM 1 [kX] (l.drop 1)||(bM 1 [kT] (l.drop 1)||bM 1 [lG] (l.drop 1)))with
  |false=>
   obtain⟨e1,e2⟩:=oK.1 hc;obtain⟨e2,e3⟩:=oK.1 e2;rw[e1,e2,e3];rfl
  |true=>
   have e1:(!bM 1 [kX] (l.drop 1)&&(!bM 1 [kT] (l.drop 1)&& !bM 1 [lG] (l.drop 1)))=false:=by
    revert hc;cases bM 1 [kX] (l.drop 1)<;>cases bM 1 [kT] (l.drop 1)<;>cases bM 1 [lG] (l.drop 1)<;>simp
   rw[e1];have e2:fE l 1 1 []=true:=by
    rw[h4];rcases yg.1 hc with h|h
    .exact LQ h
    .rcases yg.1 h with h|h<;>exact LQ h
   have e3:vK l [1,2]=if bM 2 [] (l.drop 2)then(if fE l 3 4 fP then none else some 3)else some 2:=by
    unfold vK sW sW sW;rw[if_pos e2,<-h5]
   simp only[if_true,gW,if_false];rw[e3,tZ];simp only[show 1+1=2 from rfl,show 2+1=3 from rfl];cases bM 2 [] (l.drop 2)with
   |false=>rfl
   |true=>
    simp only[if_true];rw[LM];simp only[show 3+1=4 from rfl];cases fE l 3 4 fP with
    |false=>rfl
    |true=>
     simp only[if_true];by_cases hin:(mY++[32]++iH l 1)∈told
     .simp only[if_pos hin]
     .simp only[if_neg hin];by_cases hl:lK (gE (iH l 1) (pW (iH l 2)) p)=true
      .simp only[if_pos hl]
      .simp only[if_neg hl]
end Go.Proofs.YtccjfanpjojbnaaGreatDoor
namespace Go.Proofs.YtccjfanpjojbnaaGreatDoor
theorem Sk (k tag:Bs) (p:aO) (ws:List Bs):(yD k tag p ws).forces=p.forces:=by
 unfold yD;split
 .rfl
 split
 .rfl
 split
 .rfl
 split<;>rfl
theorem Fl {k:Bs} {l:List Lx} {p q:aO} {n:Nat} (h:ET k l p= .ok (n,q)):q.forces=p.forces:=by
 unfold ET at h;split at h
 .cases h
 .split at h
  .cases h
  .cases h;exact Sk _ _ _ _
theorem P3 {l:List Lx} {i N:Nat} (h: ∀x∈l,x.text.length<=N):(iH l i).length<=N:=by
 unfold iH;split
 .exact Nat.zero_le _
 .next x r hx=>exact h x (List.mem_of_mem_drop (by rw[hx];exact List.mem_cons_self))
theorem j9 {k:Bs} {l:List Lx} {p:aO} {told:List Bs} {c i:Nat} (h:vT k l p told= .error (c,i)):c=2\/c=5:=by
 unfold vT at h;split at h
 .split at h
  .cases h;exact .inl rfl
  .split at h
   .cases h;exact .inl rfl
   .split at h<;>cases h;exact .inr rfl
 .split at h
  .split at h
   .cases h;exact .inl rfl
   .split at h<;>cases h;exact .inr rfl
  .split at h
   .cases h;exact .inl rfl
   .split at h
    .cases h;exact .inl rfl
    .split at h
     .cases h;exact .inr rfl
     .split at h<;>cases h;exact .inl rfl
theorem k8 (k:Bs) (n:Int) (p:aO):(gE k n p).forces=p.forces:=by
 unfold gE;split
 .rfl
 split<;>rfl
theorem j8 {k:Bs} {l:List Lx} {p q:aO} {told t:List Bs} {n N:Nat} (h:vT k l p told= .ok (n,q,t)) (hl: ∀x∈l,x.text.length<=N) (hp: ∀f∈p.forces,f.value.length<=N): ∀f∈q.forces,f.value.length<=N:=by
 unfold vT at h;split at h
 .split at h
  .cases h
  .split at h
   .cases h
   .split at h<;>cases h;exact hp
 .split at h
  .split at h
   .cases h
   .split at h<;>cases h;intro f hf;rcases List.mem_append.1 hf with h1|h1
    .exact hp f h1
    .simp at h1;subst h1;exact P3 hl
  .split at h
   .cases h
   .split at h
    .cases h
    .split at h
     .cases h
     .split at h<;>cases h;rw[k8];exact hp
theorem WB {k:Bs} (h:k∈iQ):k∈CI\/k∈AW:=by
 simp only[iQ,CI,AW,bJ,eO,or_false]at h ⊢;rcases h with h|h|h|h|h|h|h|h<;>simp[h]
theorem S3 {en:Nat} {s:Ps} {f:lC} (h:eZ en s= .error f):f.code≠0:=by
 obtain⟨l,p,told⟩:=s;by_cases hk:qA l∈iQ
 .rcases WB hk with h5|h3
  .rw[RL (qA l) h5 rfl]at h;split at h
   .cases h;exact Yb 1
   .cases h
  .rw[RJ (qA l) h3 rfl]at h;split at h
   .next c i hs=>cases h;rcases j9 hs with rfl|rfl<;>simp
   .cases h
 .rw[RM hk]at h;cases h;exact Yb 1
theorem R9 {en N:Nat} {s t:Ps} (h:eZ en s= .ok t) (hl: ∀x∈s.rest,x.text.length<=N) (hp: ∀f∈s.pol.forces,f.value.length<=N): ∀f∈t.pol.forces,f.value.length<=N:=by
 obtain⟨l,p,told⟩:=s;by_cases hk:qA l∈iQ
 .rcases WB hk with h5|h3
  .rw[RL (qA l) h5 rfl]at h;split at h
   .cases h
   .next n q hn=>cases h;simp only;rw[Fl hn];exact hp
  .rw[RJ (qA l) h3 rfl]at h;split at h
   .cases h
   .next n q t hs=>cases h;exact j8 hs hl hp
 .rw[RM hk]at h;cases h
theorem SU {en:Nat}: ∀(f:Nat) {s:Ps} {e:lC},lV en f s= .error e->e.code≠0
 |0,s,e,h=>by cases h
 |f+1,s,e,h=>by
  unfold lV at h;split at h
  .cases h
  .split at h
   .next hs=>cases h;exact S3 hs
   .exact SU f h
theorem SO {en N:Nat}: ∀(f:Nat) {s t:Ps},lV en f s= .ok t->nF s->(∀x∈s.rest,x.text.length<=N)->(∀f∈s.pol.forces,f.value.length<=N)->nF t/\ ∀f∈t.pol.forces,f.value.length<=N
 |0,s,t,h,hs,_,hp=>by cases h;exact⟨hs,hp⟩
 |f+1,s,t,h,hs,hl,hp=>by
  unfold lV at h;split at h
  .cases h;exact⟨hs,hp⟩
  .split at h
   .cases h
   .next u hu=>exact SO f h (hs.stmt hu) (λx hx=>hl x ((RK hu).mem x hx)) (R9 hu hl hp)
theorem Dz {s:Bs} {f:lC} (h:jS s= .error f):f.code≠0:=by
 unfold jS at h;split at h
 .cases h;exact Yb 2
 .split at h
  .cases h;exact Yb 1
  .split at h
   .next ht=>cases h;exact SU _ ht
   .split at h
    .cases h
    .cases h;exact Yb 2
theorem vI {t:Bs} (h:bW t=true):t.length<=64:=by
 rw[PN]at h;simp only[bD,decide_eq_true_eq]at h;exact h.1.1.2
theorem Ea {s:Bs} {p:aO} (h:jS s= .ok p):sS p 10000:=by
 have hr:=LG h;have hv: ∀f∈p.forces,f.value.length<=10000:=by
  unfold jS at h;split at h
  .cases h
  .next h8=>
   split at h
   .cases h
   .next l hl=>
    split at h
    .cases h
    .next t ht=>
     split at h
     .cases h;obtain⟨h1,_⟩:=RO hl om;have h9:=(SO (N:=10000) _ ht h1 (λx hx=>(h1.txt x hx).1) (λf hf=>(by cases hf))).2;exact λf hf=>h9 f (xM vN hf)
     .cases h
 unfold gZ oA at hr;simp only[bD,decide_eq_true_eq,List.all_eq_true]at hr;obtain⟨⟨⟨⟨⟨⟨⟨⟨a0,a1⟩,a2⟩,a3⟩,a4⟩,a5⟩,_⟩,b0,b1,b2,b3,b4,b5⟩,_⟩:=hr;refine⟨λj hj=> ?_,λt ht=>bG (vI (a0 t ht)) om,λt ht=>bG (vI (a1 t ht)) om,λt ht=>bG (vI (a2 t ht)) om,λt ht=>bG (vI (a3 t ht)) om,λa ha=> ?_,λa ha=> ?_⟩
 .rcases(by omega:j=0\/j=1\/j=2\/j=3\/j=4\/j=5)with rfl|rfl|rfl|rfl|rfl|rfl<;>(simp only[fN];omega)
 .have h1:=a4 a ha;unfold oG at h1;simp only[bD,Bool.or_eq_true,decide_eq_true_eq]at h1;refine⟨?_,bG (vI h1.2) om⟩;rcases h1.1 with h2|h2
  .rw[h2];decide
  .exact bG (vI h2) om
 .have h1:=a5 a ha;unfold lN at h1;simp only[bD]at h1;exact⟨bG (vI h1.1.2) om,bG (vI h1.2) om,hv a ha⟩
end Go.Proofs.YtccjfanpjojbnaaGreatDoor
namespace Go.Proofs.YtccjfanpjojbnaaGreatDoor
open Go.RowKit
theorem sS.mono {p:aO} {n m:Nat} (h:sS p n) (hm:n<=m):sS p m:=⟨λj hj=>bG (h.rows j hj) hm,λt ht=>bG (h.tags t ht) hm,λt ht=>bG (h.schemes t ht) hm,λt ht=>bG (h.css t ht) hm,λt ht=>bG (h.drops t ht) hm,λa ha=>⟨bG (h.attrs a ha).1 hm,bG (h.attrs a ha).2 hm⟩,λa ha=>⟨bG (h.forces a ha).1 hm,bG (h.forces a ha).2.1 hm,bG (h.forces a ha).2.2 hm⟩⟩
theorem sS.sm {p:aO} (h:sS p 1048576):GW p:=⟨bG (h.rows 0 om) om,bG (h.rows 1 om) om,bG (h.rows 2 om) om,bG (h.rows 3 om) om,bG (h.rows 4 om) om,bG (h.rows 5 om) om⟩
theorem sS.tx {p:aO} (h:sS p 1048576):ZY p:=by
 refine⟨λk hk t ht=> ?_,λa ha=>⟨bG (h.attrs a ha).1 om,bG (h.attrs a ha).2 om⟩,λa ha=>⟨bG (h.forces a ha).1 om,bG (h.forces a ha).2.1 om,bG (h.forces a ha).2.2 om⟩⟩;rcases(by omega:k=0\/k=1\/k=2\/k=3)with rfl|rfl|rfl|rfl
 .exact bG (h.tags t ht) om
 .exact bG (h.schemes t ht) om
 .exact bG (h.css t ht) om
 .exact bG (h.drops t ht) om
end Go.Proofs.YtccjfanpjojbnaaGreatDoor
namespace Go.Proofs.YtccjfanpjojbnaaGreatDoor
open Go.RowKit
theorem Ch (W:World) (bad:Nat->Prop):jN W bad DC EL:=by
 have hr: ∀size,Rx W bad (Value.slice none 0 0) 0 size []:=λsize=>⟨none,0,rfl,⟨λ_=>rfl,Nat.le_refl _⟩,Rd.nil _ _,λh=>absurd h (Nat.lt_irrefl 0)⟩;exact⟨_,_,_,_,_,_,rfl,hr 1,hr 1,hr 1,hr 1,hr 2,hr 3⟩
theorem Ci (n:Nat):sS EL n:=⟨λj hj=>by rcases(by omega:j=0\/j=1\/j=2\/j=3\/j=4\/j=5)with rfl|rfl|rfl|rfl|rfl|rfl<;>exact Nat.zero_le _,λ_ h=>(by cases h),λ_ h=>(by cases h),λ_ h=>(by cases h),λ_ h=>(by cases h),λ_ h=>(by cases h),λ_ h=>(by cases h)⟩
structure Ta (s:Bs) (a c:Nat) (P:aO):Prop where
 run: ∀W,Calls Tryz.prog 18 #[Value.string ⟨s.toArray⟩] W λe w'=>Below W.heap.size W w'/\ ∃v,e=Ending.returned (Value.tuple #[v,Value.int IntKind.i64 a,Value.int IntKind.i64 c])/\jN w' (λb=>b<W.heap.size) v P
 bk:sS P 10000
 says:(c=0/\a=0/\jS s= .ok P)\/(c≠0/\P=EL/\a<=s.length/\jS s= .error ⟨a,c⟩)
theorem Dy (s:Bs): ∃a c P,Ta s a c P:=by
 cases h:jS s with
 |ok p=>
  refine⟨0,0,p,λW=> ?_,Ea h,.inl ⟨rfl,rfl,h⟩⟩;refine(UC s W).mono λe w' h9=> ?_;unfold yH at h9;rw[h]at h9;exact h9
 |error f=>
  obtain⟨a,c⟩:=f;refine⟨a,c,EL,λW=> ?_,Ci _,.inr ⟨Dz h,rfl,Eb h,h⟩⟩;refine(UC s W).mono λe w' h9=> ?_;unfold yH at h9;rw[h]at h9;exact⟨h9.1,_,h9.2,Ch _ _⟩
