/- How a policy that came in is opened; Few; awake; Parse of any text told in one way; what the reference makes of a statement. -/
import Derived.ProofKit
import Derived.Deep.Slices
import Derived.Deep.Fields
import Derived.ChangeSame
import Derived.SizedLaws
import Derived.OpenShut
import Derived.BigRegion
import Derived.Test.YtiikamobcmgekaaGreatDoorRows
import Derived.Test.YtiikamobcmgekaaGreatDoorPA
import Derived.Test.YtiikamobcmgekaaGreatDoorRiC
import Derived.Test.YtiikamobcmgekaaGreatDoorRiD
import Derived.Test.YtiikamobcmgekaaGreatDoorS3
import Derived.Test.YtiikamobcmgekaaGreatDoorR4
import Derived.Test.YtiikamobcmgekaaGreatDoorLA
open Bool renaming and_eq_true→z2z,false_eq_true→z4c,or_eq_false_iff→z30,or_eq_true_iff→z6a
open Nat renaming le_trans→z2j,succ_ne_zero→z4h
namespace Go.Proofs.YtiikamobcmgekaaGreatDoor
open Go.ChangeShapes Go.WideShapes Go.Deep
namespace bulks
end bulks
theorem z0j {α:Type} (cells:α->List Value) (n:Nat) (hn: ∀x,(cells x).length=n) (l:List α) (k j:Nat) (hk:k<l.length) (hj:j<n):(l.flatMap cells)[k*n+j]? =(cells l[k])[j]? :=by
 induction l generalizing k with
 |nil=>simp at hk
 |cons x r ih=>
  rw[List.flatMap_cons];cases k with
  |zero=>rw[List.getElem?_append_left (by rw[hn];omega)];simp
  |succ k=>
   rw[List.getElem?_append_right (by rw[hn,Nat.succ_mul];omega),hn,show(k+1)*n+j-n=k*n+j by rw[Nat.succ_mul];omega,ih k (by simpa using hk)];simp
section
variable {H:Type} {enc:TypeId × Value->H} {w:World} {base:Nat} {spare:Nat->Bool} {held:Bool}
instance:Inhabited Alw:=⟨⟨[],[]⟩⟩
instance:Inhabited Frc:=⟨⟨[],[],[]⟩⟩
structure zis (p:Pol) (n:Nat):Prop where
 rows: ∀j,j<6->fN p j<=n
 tags: ∀t∈p.tags,t.length<=n
 schemes: ∀t∈p.schemes,t.length<=n
 css: ∀t∈p.css,t.length<=n
 drops: ∀t∈p.drops,t.length<=n
 attrs: ∀a∈p.attrs,a.tag.length<=n/\a.name.length<=n
 forces: ∀a∈p.forces,a.tag.length<=n/\a.name.length<=n/\a.value.length<=n
end
end Go.Proofs.YtiikamobcmgekaaGreatDoor
namespace Go.Proofs.YtiikamobcmgekaaGreatDoor
open Go.RowKit
attribute [local go_sem] Oper.semAt_some
end Go.Proofs.YtiikamobcmgekaaGreatDoor
namespace Go.Proofs.YtiikamobcmgekaaGreatDoor
def atR (en:Nat) (l:List Lx) (i:Nat):Nat:=atP en (l.drop i)
def tsR (t:Bs):List Bs:=if t=[]then []else [t]
def isR (l:List Lx) (i k:Nat) (t:Bs):Bool:=za2 k (tsR t) (l.drop i)
def zas (l:List Lx) (i:Nat):Bs:=match l.drop i with
 |[]=>[]
 |x::_=>x.text
theorem zcx (en k:Nat) (ts:List Bs) (l:List Lx) (i:Nat):zb0 en k ts (l.drop i)=if za2 k ts (l.drop i)then .ok (⟨k,atR en l i,zas l i⟩,l.drop (i+1))else .error ⟨atR en l i,2⟩:=by
 have h1:l.drop (i+1)=(l.drop i).drop 1:=by rw[List.drop_drop]
 unfold atR zas;rw[h1];generalize l.drop i=q;cases q with
 |nil=>rfl
 |cons x r=>
  show(if isP k ts x then _ else _)=(if isP k ts x then _ else _);by_cases h:isP k ts x=true
  ·rw[if_pos h,if_pos h];obtain⟨hk,_⟩:=zey h;subst hk;rfl
  ·rw[if_neg h,if_neg h];rfl
def zaz (l:List Lx) (b:Nat):List Bs:=((l.drop b).takeWhile (isP 1 [])).map Lx.text
def zbo (l:List Lx) (b:Nat):Except Nat (List Bs):=
 if(zaz l b).length=0\/isR l (b+(zaz l b).length) 4 zbr=false then .error (b+(zaz l b).length)else .ok (zaz l b)
theorem zk3 {α:Type} (p:α->Bool) (q:List α):q.dropWhile p=q.drop (q.takeWhile p).length:=by
 induction q with
 |nil=>rfl
 |cons x r ih=>
  by_cases h:p x=true
  ·rw[List.dropWhile_cons_of_pos h,List.takeWhile_cons_of_pos h,List.length_cons,List.drop_succ_cons,ih]
  ·rw[List.dropWhile_cons_of_neg h,List.takeWhile_cons_of_neg h];rfl
theorem zrx:tsR zbr=[zbr]:=by unfold tsR;rw[if_neg (by decide)]
theorem wordsQ (en:Nat) (q:List Lx):zbm en q=if((q.takeWhile (isP 1 [])).map Lx.text).length=0 then .error ⟨atP en q,2⟩
  else if za2 4 [zbr] (q.drop ((q.takeWhile (isP 1 [])).map Lx.text).length)=true then .ok ((q.takeWhile (isP 1 [])).map Lx.text,q.drop (((q.takeWhile (isP 1 [])).map Lx.text).length+1))
  else .error ⟨atP en (q.drop ((q.takeWhile (isP 1 [])).map Lx.text).length),2⟩:=by
 unfold zbm;cases q with
 |nil=>rfl
 |cons x r=>
  have e:zb0 en 1 [] (x::r)=if isP 1 [] x=true then Except.ok (x,r)else Except.error ⟨x.at_,2⟩:=rfl;rw[e];by_cases hx:isP 1 [] x=true
  ·rw[if_pos hx];simp only;rw[List.takeWhile_cons_of_pos hx];simp only[List.map_cons,List.length_cons,List.length_map,List.drop_succ_cons,z4h,if_false];unfold zh5;rw[zk3];have h9:=zcx en 4 [zbr] r (r.takeWhile (isP 1 [])).length;rw[h9];cases hn:za2 4 [zbr] (r.drop (r.takeWhile (isP 1 [])).length)
   ·simp[atR]
   ·simp
  ·rw[if_neg hx];simp only;rw[List.takeWhile_cons_of_neg hx];rfl
theorem znn (en:Nat) (l:List Lx) (b:Nat):zbm en (l.drop b)=match zbo l b with
  | .error i=> .error ⟨atR en l i,2⟩
  | .ok ws=> .ok (ws,l.drop (b+ws.length+1)):=by
 rw[wordsQ];unfold zbo isR;rw[zrx];have hd: ∀i,(l.drop b).drop i=l.drop (b+i):=fun i=>by rw[List.drop_drop]
 show(if(zaz l b).length=0 then _ else if za2 4 [zbr] ((l.drop b).drop (zaz l b).length)=true then Except.ok (zaz l b,(l.drop b).drop ((zaz l b).length+1))else Except.error (⟨atP en ((l.drop b).drop (zaz l b).length),2⟩:Flt))=_;rw[hd,hd];by_cases h0:(zaz l b).length=0
 ·rw[if_pos h0,if_pos (.inl h0)];simp only;unfold atR;rw[h0];rfl
 ·rw[if_neg h0];cases hn:za2 4 [zbr] (l.drop (b+(zaz l b).length))with
  |true=>
   rw[if_pos rfl,if_neg (by rintro(h|h);exact h0 h;cases h)];simp only[Nat.add_assoc]
  |false=>
   rw[if_neg (by decide),if_pos (.inr rfl)];rfl
def zuc (l:List Lx):Except Nat Bs:=if(!isR l 1 1 []&& !isR l 1 4 [42])=true then .error 1 else if isR l 2 4 [58]=false then .error 2 else .ok (zas l 1)
def addK (kind tag:Bs) (p:Pol) (ws:List Bs):Pol:=
 if kind=zb7 then {p with tags:=p.tags++ws}
 else if kind=zan then {p with schemes:=p.schemes++ws}
 else if kind=cssT then {p with css:=p.css++ws}
 else if kind=zb8 then {p with drops:=p.drops++ws}
 else {p with attrs:=p.attrs++ws.map (fun n=>⟨tag,n⟩)}
def zil (kind:Bs) (l:List Lx):Except Nat (Bs × Nat):=if kind=zbd then match zuc l with
  | .error i=> .error i
  | .ok t=> .ok (t,3)
 else .ok ([],1)
def nmR (kind:Bs) (l:List Lx) (p:Pol):Except Nat (Nat × Pol):=match zil kind l with
 | .error i=> .error i
 | .ok (tag,b)=>match zbo l b with
  | .error i=> .error i
  | .ok ws=> .ok (b+ws.length+1,addK kind tag p ws)
def ze2:List Bs:=[zb7,zan,cssT,zb8,zbd]
def zdt:List Bs:=[relT,zbg,zbp]
def zdy:List Lx->Bs
 |[]=>[]
 |x::_=>if x.kind=1 then x.text else []
theorem zsq {P:Bs->Prop} (h0:P zb7) (h1:P zan) (h2:P cssT) (h3:P zb8) (h4:P zbd): ∀k∈ze2,P k:=by
 intro k hk;simp only[ze2,List.mem_cons,List.not_mem_nil,or_false]at hk;rcases hk with rfl|rfl|rfl|rfl|rfl<;>assumption
theorem zns {P:Bs->Prop} (h0:P relT) (h1:P zbg) (h2:P zbp): ∀k∈zdt,P k:=by
 intro k hk;simp only[zdt,List.mem_cons,List.not_mem_nil,or_false]at hk;rcases hk with rfl|rfl|rfl<;>assumption
theorem zt8 {l:List Lx} {k:Bs} (h:zdy l=k) (hk:k≠[]): ∃x r,l=x::r/\x.kind=1/\x.text=k:=by
 cases l with
 |nil=>exact absurd h.symm hk
 |cons x r=>
  unfold zdy at h;simp only at h;by_cases h1:x.kind=1
  ·rw[if_pos h1]at h;exact⟨x,r,rfl,h1,h⟩
  ·rw[if_neg h1]at h;exact absurd h.symm hk
theorem zc8 {en:Nat} {l:List Lx} {k:Bs} (h:zdy l=k) (hk:k∈zb9): ∃x,zb0 en 1 zb9 l= .ok (x,l.drop 1)/\x.text=k/\x.at_=atR en l 0:=by
 have hk0:k≠[]:=by rintro rfl;exact absurd hk (by decide)
 obtain⟨x,r,rfl,h1,rfl⟩:=zt8 h hk0;refine⟨x, ?_,rfl,rfl⟩;show(if isP 1 zb9 x=true then _ else _)=_;rw[if_pos (by simp[isP,h1,hk])];rfl
theorem ziv {en:Nat} {l:List Lx} {p:Pol} {told:List Bs} (h:zdy l∉zb9):zbf en ⟨l,p,told⟩= .error ⟨atR en l 0,2⟩:=by
 unfold zbf;have:zb0 en 1 zb9 l= .error ⟨atR en l 0,2⟩:=by
  cases l with
  |nil=>rfl
  |cons x r=>
   show(if isP 1 zb9 x=true then _ else _)=_;rw[if_neg]
   ·rfl
   ·intro hi;obtain⟨h1,h2⟩:=zey hi;refine h ?_;unfold zdy;simp only;rw[if_pos h1];exact h2 (by decide)
 rw[this]
theorem zfi {en:Nat} {l:List Lx} {p:Pol} {told:List Bs} (f:Pol->List Bs->Pol):zim en ⟨l.drop 1,p,told⟩ f=match zbo l 1 with
  | .error i=> .error ⟨atR en l i,2⟩
  | .ok ws=> .ok ⟨l.drop (1+ws.length+1),f p ws,told⟩:=by
 unfold zim;simp only;rw[znn];cases zbo l 1<;>rfl
theorem zdi {en:Nat} {l:List Lx} {p:Pol} {told:List Bs}: ∀k∈ze2,zdy l=k->zbf en ⟨l,p,told⟩=match nmR k l p with
  | .error i=> .error ⟨atR en l i,2⟩
  | .ok (n,q)=> .ok ⟨l.drop n,q,told⟩:=by
 refine zsq ?_ ?_ ?_ ?_ ?_
 ·intro h;obtain⟨x,ht,hx,_⟩:=zc8 (en:=en) h (by decide);unfold zbf;rw[ht];simp only;rw[if_pos hx,zfi];show _=match (match zbo l 1 with| .error i=> .error i| .ok ws=> .ok (1+ws.length+1,addK zb7 [] p ws):Except Nat (Nat × Pol))with| .error i=>_| .ok (n,q)=>_
  cases zbo l 1<;>rfl
 ·intro h;obtain⟨x,ht,hx,_⟩:=zc8 (en:=en) h (by decide);unfold zbf;rw[ht];simp only;rw[if_neg (by rw[hx];decide),if_pos hx,zfi];show _=match (match zbo l 1 with| .error i=> .error i| .ok ws=> .ok (1+ws.length+1,addK zan [] p ws):Except Nat (Nat × Pol))with| .error i=>_| .ok (n,q)=>_
  cases zbo l 1<;>rfl
 ·intro h;obtain⟨x,ht,hx,_⟩:=zc8 (en:=en) h (by decide);unfold zbf;rw[ht];simp only;rw[if_neg (by rw[hx];decide),if_neg (by rw[hx];decide),if_pos hx,zfi];show _=match (match zbo l 1 with| .error i=> .error i| .ok ws=> .ok (1+ws.length+1,addK cssT [] p ws):Except Nat (Nat × Pol))with| .error i=>_| .ok (n,q)=>_
  cases zbo l 1<;>rfl
 ·intro h;obtain⟨x,ht,hx,_⟩:=zc8 (en:=en) h (by decide);unfold zbf;rw[ht];simp only;rw[if_neg (by rw[hx];decide),if_neg (by rw[hx];decide),if_neg (by rw[hx];decide),if_pos hx,zfi];show _=match (match zbo l 1 with| .error i=> .error i| .ok ws=> .ok (1+ws.length+1,addK zb8 [] p ws):Except Nat (Nat × Pol))with| .error i=>_| .ok (n,q)=>_
  cases zbo l 1<;>rfl
 ·intro h;obtain⟨x,ht,hx,_⟩:=zc8 (en:=en) h (by decide);unfold zbf;rw[ht];simp only;rw[if_neg (by rw[hx];decide),if_neg (by rw[hx];decide),if_neg (by rw[hx];decide),if_neg (by rw[hx];decide),if_pos hx];unfold zf8 nmR zil zuc;rw[if_pos rfl];simp only;have h1:isR l 1 1 []=za2 1 [] (l.drop 1):=rfl;have h2:isR l 1 4 [42]=za2 4 [[42]] (l.drop 1):=rfl;have h3:isR l 2 4 [58]=za2 4 [[58]] (l.drop 2):=rfl;rw[h1,h2,h3];cases hc:(za2 4 [[42]] (l.drop 1)||za2 1 [] (l.drop 1))with
  |false=>
   obtain⟨e1,e2⟩:=z30.1 hc;rw[e1,e2];rfl
  |true=>
   have e1:(!za2 1 [] (l.drop 1)&& !za2 4 [[42]] (l.drop 1))=false:=by
    revert hc;cases za2 4 [[42]] (l.drop 1)<;>cases za2 1 [] (l.drop 1)<;>simp
   rw[e1];simp only[z4c,if_false,if_true];cases hq:l.drop 1 with
   |nil=>rw[hq]at hc;cases hc
   |cons y r=>
    have hr:r=l.drop 2:=by
     have:l.drop 2=(l.drop 1).drop 1:=by rw[List.drop_drop]
     rw[this,hq];rfl
    have hy:zas l 1=y.text:=by unfold zas;rw[hq]
    subst hr;simp only;rw[zcx,hy];cases h4:za2 4 [[58]] (l.drop 2)with
    |false=>rfl
    |true=>
     simp only[Bool.true_eq_false,if_false,if_true];rw[znn];cases zbo l 3<;>rfl
def zcf (l:List Lx):Nat->List Nat->Option Nat
 |i,[]=>if isR l i 4 zbr then none else some i
 |i,k::ks=>if isR l i k []then zcf l (i+1) ks else some i
def zb3 (l:List Lx) (ks:List Nat):Option Nat:=zcf l 1 ks
def sgR (kind:Bs) (l:List Lx) (p:Pol) (told:List Bs):Except (Nat × Nat) (Nat × Pol × List Bs):=
 if kind=relT then
  if(!isR l 1 1 yesT&& !isR l 1 1 noT)=true then .error (2,1)
  else match zb3 l [1]with
   |some i=> .error (2,i)
   |none=>if relT∈told then .error (5,0)else .ok (3,{p with rel:=decide (zas l 1=yesT)},relT::told)
 else if kind=zbg then match zb3 l [1,1,3]with
  |some i=> .error (2,i)
  |none=>if(zbg++[32]++zas l 1++[32]++zas l 2)∈told then .error (5,0)else .ok (5,{p with forces:=p.forces++[⟨zas l 1,zas l 2,zas l 3⟩]},(zbg++[32]++zas l 1++[32]++zas l 2)::told)
 else if(!isR l 1 1 zcc&&(!isR l 1 1 zdx&& !isR l 1 1 valT))=true then .error (2,1)
 else match zb3 l [1,2]with
  |some i=> .error (2,i)
  |none=>if(zbp++[32]++zas l 1)∈told then .error (5,0)else if limB (setL (zas l 1) (numT (zas l 2)) p)then .ok (4,setL (zas l 1) (numT (zas l 2)) p,(zbp++[32]++zas l 1)::told)else .error (2,2)
theorem zm3 (en a:Nat) (what:Bs) (l:List Lx) (i:Nat) (told:List Bs):zdj en a what (l.drop i) told=if isR l i 4 zbr then(if what∈told then .error ⟨a,5⟩else .ok (l.drop (i+1),what::told))else .error ⟨atR en l i,2⟩:=by
 unfold zdj isR;rw[zcx,zrx];cases za2 4 [zbr] (l.drop i)<;>rfl
theorem zz6 {k:Nat} {t u:Bs} {q:List Lx}:za2 k [t,u] q=(za2 k [t] q||za2 k [u] q):=by
 cases q with
 |nil=>rfl
 |cons x r=>
  show isP k [t,u] x=(isP k [t] x||isP k [u] x);unfold isP;cases decide (x.kind=k)<;>simp
theorem ztw {k:Nat} {t u v:Bs} {q:List Lx}:za2 k [t,u,v] q=(za2 k [t] q||(za2 k [u] q||za2 k [v] q)):=by
 cases q with
 |nil=>rfl
 |cons x r=>
  show isP k [t,u,v] x=(isP k [t] x||(isP k [u] x||isP k [v] x));unfold isP;cases decide (x.kind=k)<;>simp
theorem zgw {k:Nat} {ts:List Bs} {q:List Lx} (h:za2 k ts q=true):za2 k [] q=true:=by
 cases q with
 |nil=>cases h
 |cons x r=>
  obtain⟨h1,_⟩:=zey h;show isP k [] x=true;simp[isP,h1]
theorem zej {en:Nat} {l:List Lx} {p:Pol} {told:List Bs}: ∀k∈zdt,zdy l=k->zbf en ⟨l,p,told⟩=match sgR k l p told with
  | .error (c,i)=> .error ⟨atR en l i,c⟩
  | .ok (n,q,t)=> .ok ⟨l.drop n,q,t⟩:=by
 refine zns ?_ ?_ ?_
 ·intro h;obtain⟨x,ht,hx,ha⟩:=zc8 (en:=en) h (by decide);unfold zbf;rw[ht];simp only;rw[if_neg (by rw[hx];decide),if_neg (by rw[hx];decide),if_neg (by rw[hx];decide),if_neg (by rw[hx];decide),if_neg (by rw[hx];decide),if_pos hx];unfold relP sgR;rw[if_pos rfl,ha];simp only;rw[zcx,zz6];have h1:isR l 1 1 yesT=za2 1 [yesT] (l.drop 1):=rfl;have h2:isR l 1 1 noT=za2 1 [noT] (l.drop 1):=rfl;have h3:isR l 1 1 []=za2 1 [] (l.drop 1):=rfl;rw[h1,h2];cases hc:(za2 1 [yesT] (l.drop 1)||za2 1 [noT] (l.drop 1))with
  |false=>
   obtain⟨e1,e2⟩:=z30.1 hc;rw[e1,e2];rfl
  |true=>
   have e1:(!za2 1 [yesT] (l.drop 1)&& !za2 1 [noT] (l.drop 1))=false:=by
    revert hc;cases za2 1 [yesT] (l.drop 1)<;>cases za2 1 [noT] (l.drop 1)<;>simp
   rw[e1];have e2:isR l 1 1 []=true:=by
    rw[h3];rcases z6a.1 hc with h|h<;>exact zgw h
   have e3:zb3 l [1]=if isR l 2 4 zbr then none else some 2:=by
    unfold zb3 zcf;rw[if_pos e2];rfl
   simp only[if_true,z4c,if_false];rw[e3,zm3];cases isR l 2 4 zbr with
   |false=>rfl
   |true=>
    simp only[if_true];by_cases hin:relT∈told
    ·simp only[if_pos hin]
    ·simp only[if_neg hin]
 ·intro h;obtain⟨x,ht,hx,ha⟩:=zc8 (en:=en) h (by decide);unfold zbf;rw[ht];simp only;rw[if_neg (by rw[hx];decide),if_neg (by rw[hx];decide),if_neg (by rw[hx];decide),if_neg (by rw[hx];decide),if_neg (by rw[hx];decide),if_neg (by rw[hx];decide),if_pos hx];unfold zes sgR zb3 zcf zcf zcf zcf;rw[if_neg (by decide),if_pos rfl,ha];simp only;rw[zcx];have h1:isR l 1 1 []=za2 1 [] (l.drop 1):=rfl;have h2:isR l 2 1 []=za2 1 [] (l.drop 2):=rfl;have h3:isR l 3 3 []=za2 3 [] (l.drop 3):=rfl;simp only[show 1+1=2 from rfl,show 2+1=3 from rfl,show 3+1=4 from rfl];rw[h1,h2,h3];cases za2 1 [] (l.drop 1)with
  |false=>rfl
  |true=>
   simp only[if_true];rw[zcx];simp only[show 2+1=3 from rfl];cases za2 1 [] (l.drop 2)with
   |false=>rfl
   |true=>
    simp only[if_true];rw[zcx];simp only[show 3+1=4 from rfl];cases za2 3 [] (l.drop 3)with
    |false=>rfl
    |true=>
     simp only[if_true];rw[zm3];cases isR l 4 4 zbr with
     |false=>rfl
     |true=>
      simp only[if_true];by_cases hin:(zbg++[32]++zas l 1++[32]++zas l 2)∈told
      ·simp only[if_pos hin]
      ·simp only[if_neg hin]
 ·intro h;obtain⟨x,ht,hx,ha⟩:=zc8 (en:=en) h (by decide);unfold zbf;rw[ht];simp only;rw[if_neg (by rw[hx];decide),if_neg (by rw[hx];decide),if_neg (by rw[hx];decide),if_neg (by rw[hx];decide),if_neg (by rw[hx];decide),if_neg (by rw[hx];decide),if_neg (by rw[hx];decide)];unfold zeq sgR;rw[if_neg (by decide),if_neg (by decide),ha];simp only;rw[zcx,ztw];have h1:isR l 1 1 zcc=za2 1 [zcc] (l.drop 1):=rfl;have h2:isR l 1 1 zdx=za2 1 [zdx] (l.drop 1):=rfl;have h3:isR l 1 1 valT=za2 1 [valT] (l.drop 1):=rfl;have h4:isR l 1 1 []=za2 1 [] (l.drop 1):=rfl;have h5:isR l 2 2 []=za2 2 [] (l.drop 2):=rfl;rw[h1,h2,h3];cases hc:(za2 1 [zcc] (l.drop 1)||(za2 1 [zdx] (l.drop 1)||za2 1 [valT] (l.drop 1)))with
  |false=>
   obtain⟨e1,e2⟩:=z30.1 hc;obtain⟨e2,e3⟩:=z30.1 e2;rw[e1,e2,e3];rfl
  |true=>
   have e1:(!za2 1 [zcc] (l.drop 1)&&(!za2 1 [zdx] (l.drop 1)&& !za2 1 [valT] (l.drop 1)))=false:=by
    revert hc;cases za2 1 [zcc] (l.drop 1)<;>cases za2 1 [zdx] (l.drop 1)<;>cases za2 1 [valT] (l.drop 1)<;>simp
   rw[e1];have e2:isR l 1 1 []=true:=by
    rw[h4];rcases z6a.1 hc with h|h
    ·exact zgw h
    ·rcases z6a.1 h with h|h<;>exact zgw h
   have e3:zb3 l [1,2]=if za2 2 [] (l.drop 2)then(if isR l 3 4 zbr then none else some 3)else some 2:=by
    unfold zb3 zcf zcf zcf;rw[if_pos e2,<-h5]
   simp only[if_true,z4c,if_false];rw[e3,zcx];simp only[show 1+1=2 from rfl,show 2+1=3 from rfl];cases za2 2 [] (l.drop 2)with
   |false=>rfl
   |true=>
    simp only[if_true];rw[zm3];simp only[show 3+1=4 from rfl];cases isR l 3 4 zbr with
    |false=>rfl
    |true=>
     simp only[if_true];by_cases hin:(zbp++[32]++zas l 1)∈told
     ·simp only[if_pos hin]
     ·simp only[if_neg hin];by_cases hl:limB (setL (zas l 1) (numT (zas l 2)) p)=true
      ·simp only[if_pos hl]
      ·simp only[if_neg hl]
end Go.Proofs.YtiikamobcmgekaaGreatDoor
namespace Go.Proofs.YtiikamobcmgekaaGreatDoor
theorem zrq (k tag:Bs) (p:Pol) (ws:List Bs):(addK k tag p ws).forces=p.forces:=by
 unfold addK;split
 ·rfl
 split
 ·rfl
 split
 ·rfl
 split<;>rfl
theorem ztv {k:Bs} {l:List Lx} {p q:Pol} {n:Nat} (h:nmR k l p= .ok (n,q)):q.forces=p.forces:=by
 unfold nmR at h;split at h
 ·cases h
 ·split at h
  ·cases h
  ·cases h;exact zrq _ _ _ _
theorem zmh {l:List Lx} {i N:Nat} (h: ∀x∈l,x.text.length<=N):(zas l i).length<=N:=by
 unfold zas;split
 ·exact Nat.zero_le _
 ·next x r hx=>exact h x (List.mem_of_mem_drop (by rw[hx];exact List.mem_cons_self))
theorem zzp {k:Bs} {l:List Lx} {p:Pol} {told:List Bs} {c i:Nat} (h:sgR k l p told= .error (c,i)):c=2\/c=5:=by
 unfold sgR at h;split at h
 ·split at h
  ·cases h;exact .inl rfl
  ·split at h
   ·cases h;exact .inl rfl
   ·split at h<;>cases h;exact .inr rfl
 ·split at h
  ·split at h
   ·cases h;exact .inl rfl
   ·split at h<;>cases h;exact .inr rfl
  ·split at h
   ·cases h;exact .inl rfl
   ·split at h
    ·cases h;exact .inl rfl
    ·split at h
     ·cases h;exact .inr rfl
     ·split at h<;>cases h;exact .inl rfl
theorem zp7 (k:Bs) (n:Int) (p:Pol):(setL k n p).forces=p.forces:=by
 unfold setL;split
 ·rfl
 split<;>rfl
theorem z1k {k:Bs} {l:List Lx} {p q:Pol} {told t:List Bs} {n N:Nat} (h:sgR k l p told= .ok (n,q,t)) (hl: ∀x∈l,x.text.length<=N) (hp: ∀f∈p.forces,f.value.length<=N): ∀f∈q.forces,f.value.length<=N:=by
 unfold sgR at h;split at h
 ·split at h
  ·cases h
  ·split at h
   ·cases h
   ·split at h<;>cases h;exact hp
 ·split at h
  ·split at h
   ·cases h
   ·split at h<;>cases h;intro f hf;rcases List.mem_append.1 hf with h1|h1
    ·exact hp f h1
    ·simp at h1;subst h1;exact zmh hl
  ·split at h
   ·cases h
   ·split at h
    ·cases h
    ·split at h
     ·cases h
     ·split at h<;>cases h;rw[zp7];exact hp
theorem zka {k:Bs} (h:k∈zb9):k∈ze2\/k∈zdt:=by
 simp only[zb9,ze2,zdt,List.mem_cons,List.not_mem_nil,or_false]at h ⊢;rcases h with h|h|h|h|h|h|h|h<;>simp[h]
theorem zwa {en:Nat} {s:Ps} {f:Flt} (h:zbf en s= .error f):f.code≠0:=by
 obtain⟨l,p,told⟩:=s;by_cases hk:zdy l∈zb9
 ·rcases zka hk with h5|h3
  ·rw[zdi (zdy l) h5 rfl]at h;split at h
   ·cases h;exact z4h 1
   ·cases h
  ·rw[zej (zdy l) h3 rfl]at h;split at h
   ·next c i hs=>cases h;rcases zzp hs with rfl|rfl<;>simp
   ·cases h
 ·rw[ziv hk]at h;cases h;exact z4h 1
theorem zzn {en N:Nat} {s t:Ps} (h:zbf en s= .ok t) (hl: ∀x∈s.rest,x.text.length<=N) (hp: ∀f∈s.pol.forces,f.value.length<=N): ∀f∈t.pol.forces,f.value.length<=N:=by
 obtain⟨l,p,told⟩:=s;by_cases hk:zdy l∈zb9
 ·rcases zka hk with h5|h3
  ·rw[zdi (zdy l) h5 rfl]at h;split at h
   ·cases h
   ·next n q hn=>cases h;simp only;rw[ztv hn];exact hp
  ·rw[zej (zdy l) h3 rfl]at h;split at h
   ·cases h
   ·next n q t hs=>cases h;exact z1k hs hl hp
 ·rw[ziv hk]at h;cases h
theorem zoe {en:Nat}: ∀(f:Nat) {s:Ps} {e:Flt},runF en f s= .error e->e.code≠0
 |0,s,e,h=>by cases h
 |f+1,s,e,h=>by
  unfold runF at h;split at h
  ·cases h
  ·split at h
   ·next hs=>cases h;exact zwa hs
   ·exact zoe f h
theorem zr9 {en N:Nat}: ∀(f:Nat) {s t:Ps},runF en f s= .ok t->PsSm s->(∀x∈s.rest,x.text.length<=N)->(∀f∈s.pol.forces,f.value.length<=N)->PsSm t/\ ∀f∈t.pol.forces,f.value.length<=N
 |0,s,t,h,hs,_,hp=>by cases h;exact⟨hs,hp⟩
 |f+1,s,t,h,hs,hl,hp=>by
  unfold runF at h;split at h
  ·cases h;exact⟨hs,hp⟩
  ·split at h
   ·cases h
   ·next u hu=>exact zr9 f h (hs.stmt hu) (fun x hx=>hl x ((zr4 hu).mem x hx)) (zzn hu hl hp)
theorem zl1 {s:Bs} {f:Flt} (h:zbb s= .error f):f.code≠0:=by
 unfold zbb at h;split at h
 ·cases h;exact z4h 2
 ·split at h
  ·cases h;exact z4h 1
  ·split at h
   ·next ht=>cases h;exact zoe _ ht
   ·split at h
    ·cases h
    ·cases h;exact z4h 2
theorem zev {t:Bs} (h:zau t=true):t.length<=64:=by
 rw[zmg]at h;simp only[z2z,decide_eq_true_eq]at h;exact h.1.1.2
theorem zsg {s:Bs} {p:Pol} (h:zbb s= .ok p):zis p 10000:=by
 have hr:=zgv h;have hv: ∀f∈p.forces,f.value.length<=10000:=by
  unfold zbb at h;split at h
  ·cases h
  ·next h8=>
   split at h
   ·cases h
   ·next l hl=>
    split at h
    ·cases h
    ·next t ht=>
     split at h
     ·cases h;obtain⟨h1,_⟩:=zmn hl (by omega);have h9:=(zr9 (N:=10000) _ ht h1 (fun x hx=>(h1.txt x hx).1) (fun f hf=>(by cases hf))).2;exact fun f hf=>h9 f (zfg swoF hf)
     ·cases h
 unfold zco fitB at hr;simp only[z2z,decide_eq_true_eq,List.all_eq_true]at hr;obtain⟨⟨⟨⟨⟨⟨⟨⟨a0,a1⟩,a2⟩,a3⟩,a4⟩,a5⟩,_⟩,b0,b1,b2,b3,b4,b5⟩,_⟩:=hr;refine⟨fun j hj=> ?_,fun t ht=>z2j (zev (a0 t ht)) (by omega),fun t ht=>z2j (zev (a1 t ht)) (by omega),fun t ht=>z2j (zev (a2 t ht)) (by omega),fun t ht=>z2j (zev (a3 t ht)) (by omega),fun a ha=> ?_,fun a ha=> ?_⟩
 ·rcases(by omega:j=0\/j=1\/j=2\/j=3\/j=4\/j=5)with rfl|rfl|rfl|rfl|rfl|rfl<;>(simp only[fN];omega)
 ·have h1:=a4 a ha;unfold alwB at h1;simp only[z2z,Bool.or_eq_true,decide_eq_true_eq]at h1;refine⟨?_,z2j (zev h1.2) (by omega)⟩;rcases h1.1 with h2|h2
  ·rw[h2];decide
  ·exact z2j (zev h2) (by omega)
 ·have h1:=a5 a ha;unfold frcB at h1;simp only[z2z]at h1;exact⟨z2j (zev h1.1.2) (by omega),z2j (zev h1.2) (by omega),hv a ha⟩
end Go.Proofs.YtiikamobcmgekaaGreatDoor
namespace Go.Proofs.YtiikamobcmgekaaGreatDoor
open Go.RowKit
attribute [local go_sem] Oper.semAt_some
theorem zis.mono {p:Pol} {n m:Nat} (h:zis p n) (hm:n<=m):zis p m:=⟨fun j hj=>z2j (h.rows j hj) hm,fun t ht=>z2j (h.tags t ht) hm,fun t ht=>z2j (h.schemes t ht) hm,fun t ht=>z2j (h.css t ht) hm,fun t ht=>z2j (h.drops t ht) hm,fun a ha=>⟨z2j (h.attrs a ha).1 hm,z2j (h.attrs a ha).2 hm⟩,fun a ha=>⟨z2j (h.forces a ha).1 hm,z2j (h.forces a ha).2.1 hm,z2j (h.forces a ha).2.2 hm⟩⟩
theorem zis.sm {p:Pol} (h:zis p 1048576):zir p:=⟨z2j (h.rows 0 (by omega)) (by omega),z2j (h.rows 1 (by omega)) (by omega),z2j (h.rows 2 (by omega)) (by omega),z2j (h.rows 3 (by omega)) (by omega),z2j (h.rows 4 (by omega)) (by omega),z2j (h.rows 5 (by omega)) (by omega)⟩
theorem zis.tx {p:Pol} (h:zis p 1048576):z0w p:=by
 refine⟨fun k hk t ht=> ?_,fun a ha=>⟨z2j (h.attrs a ha).1 (by omega),z2j (h.attrs a ha).2 (by omega)⟩,fun a ha=>⟨z2j (h.forces a ha).1 (by omega),z2j (h.forces a ha).2.1 (by omega),z2j (h.forces a ha).2.2 (by omega)⟩⟩;rcases(by omega:k=0\/k=1\/k=2\/k=3)with rfl|rfl|rfl|rfl
 ·exact z2j (h.tags t ht) (by omega)
 ·exact z2j (h.schemes t ht) (by omega)
 ·exact z2j (h.css t ht) (by omega)
 ·exact z2j (h.drops t ht) (by omega)
end Go.Proofs.YtiikamobcmgekaaGreatDoor
namespace Go.Proofs.YtiikamobcmgekaaGreatDoor
open Go.RowKit
theorem polZ_v (W:World) (bad:Nat->Prop):PolV W bad zd5 polZ:=by
 have hr: ∀size,Rx W bad (.slice none 0 0) 0 size []:=fun size=>⟨none,0,rfl,⟨fun _=>rfl,Nat.le_refl _⟩,Rd.nil _ _,fun h=>absurd h (Nat.lt_irrefl 0)⟩;exact⟨_,_,_,_,_,_,rfl,hr 1,hr 1,hr 1,hr 1,hr 2,hr 3⟩
theorem z1n (n:Nat):zis polZ n:=⟨fun j hj=>by rcases(by omega:j=0\/j=1\/j=2\/j=3\/j=4\/j=5)with rfl|rfl|rfl|rfl|rfl|rfl<;>exact Nat.zero_le _,fun _ h=>(by cases h),fun _ h=>(by cases h),fun _ h=>(by cases h),fun _ h=>(by cases h),fun _ h=>(by cases h),fun _ h=>(by cases h)⟩
structure ParseG (s:Bs) (a c:Nat) (P:Pol):Prop where
 run: ∀W,Calls Tryz.prog 20 #[.string ⟨s.toArray⟩] W fun e w'=>Below W.heap.size W w'/\ ∃v,e= .returned (.tuple #[v,.int .i64 a,.int .i64 c])/\PolV w' (fun b=>b<W.heap.size) v P
 bk:zis P 10000
 says:(c=0/\a=0/\zbb s= .ok P)\/(c≠0/\P=polZ/\a<=s.length/\zbb s= .error ⟨a,c⟩)
theorem zxf (s:Bs): ∃a c P,ParseG s a c P:=by
 cases h:zbb s with
 |ok p=>
  refine⟨0,0,p,fun W=> ?_,zsg h,.inl ⟨rfl,rfl,h⟩⟩;refine(zot s W).mono fun e w' h9=> ?_;unfold zcq at h9;rw[h]at h9;exact h9
 |error f=>
  obtain⟨a,c⟩:=f;refine⟨a,c,polZ,fun W=> ?_,z1n _,.inr ⟨zl1 h,rfl,zz0 h,h⟩⟩;refine(zot s W).mono fun e w' h9=> ?_;unfold zcq at h9;rw[h]at h9;exact⟨h9.1,_,h9.2,polZ_v _ _⟩
end Go.Proofs.YtiikamobcmgekaaGreatDoor

