import Derived.Test.YtccjfanpjojbnaaGreatDoorJDecPlain
import Derived.Test.YtccjfanpjojbnaaGreatDoorJTB
namespace Go.Proofs.YtccjfanpjojbnaaGreatDoor
open Bool renaming and_eq_true→bD
open List renaming all_eq_true→dO,any_cons→nN,any_eq_true→Zy,cons_append→cF,getElem?_cons_succ→qq,getElem?_cons_zero→qr,getElem?_eq_getElem→eV,getElem_append_left→Yd,length_append→aZ,length_cons→aY,length_drop→bL,mem_cons→bJ,mem_cons_of_mem→fO,mem_cons_self→fX,mem_singleton→fW,not_mem_nil→eO
open Nat renaming le_refl→bA
def dX (t:Bs):aK:=⟨2,t,0,[]⟩
def cT (n:Int) (u:Bs):aK:=⟨3,[],n*1000,u⟩
def rD:Bs:=[116,114,97,110,115,108,97,116,101]
def rX:Bs:=[114,111,116,97,116,101]
def sA:Bs:=[115,99,97,108,101]
def uS:Bs:=[115,99,97,108,101,121]
def mU:Bs:=[112,120]
def wM:Bs:=[100,101,103]
def kF:aK:=⟨1,[110,111,110,101],0,[]⟩
def JQ:Bs:=[116,114,97,110,115,102,111,114,109]
def cZ (s:St):List aK:=
 if s.k=1 then [dX rD,cT s.x mU,bP 44,cT s.y mU,bP 41]
 else if s.k=2 then [dX rX,cT (90*s.x) wM,bP 41]
 else if s.k=3 then [dX sA,cT s.x [],bP 41]
 else [dX uS,cT (-1) [],bP 41]
def gO (l:List aK) (i:Nat):Int:=match l[i]? with
 |some x=>x.num.tdiv 1000
 |none=>0
def gL (l:List aK):St:=match l with
 |[]=>⟨4,0,0⟩
 |x::_=>if x.text=rD then⟨1,gO l 1,gO l 3⟩else if x.text=rX then⟨2,(gO l 1).tdiv 90,0⟩else if x.text=sA then⟨3,gO l 1,0⟩else⟨4,0,0⟩
def fL (l:List aK):Bool:=decide (l.take (cZ (gL l)).length=cZ (gL l))
def gR (l:List aK):List aK:=l.drop (cZ (gL l)).length
def kV:Nat->List aK->List (St × Bool)
 |0,_=>[]
 |_+1,[]=>[]
 |f+1,x::l=>if fL (x::l)then(gL (x::l),true)::kV f (gR (x::l))else [(gL (x::l),false)]
def tD:Nat->List aK->Option (List St)
 |_,[]=>some []
 |0,_=>none
 |f+1,x::l=>if fL (x::l)then(tD f (gR (x::l))).map (gL (x::l):: ·)else none
def rA (l:List aK):Option (List St):=match tD l.length l with
 |some ss=>if gF ss then some ss else none
 |none=>none
def fD (l:List St):List aK:=l.flatMap cZ
theorem tX (s:St):3<=(cZ s).length/\(cZ s).length<=5:=by
 unfold cZ;split
 .simp
 .split
  .simp
  .split<;>simp
theorem N3 (s:St):cZ s≠[]:=λh=>by have:=(tX s).1;rw[h]at this;simp at this
theorem EJ (x:aK) (l:List aK):(gR (x::l)).length<=l.length:=by
 unfold gR;rw[bL,aY];have:=(tX (gL (x::l))).1;omega
theorem XE: ∀(f g:Nat) (l:List aK),l.length<=f->l.length<=g->kV f l=kV g l
 |0,0,[],_,_=>rfl
 |0,g+1,[],_,_=>rfl
 |f+1,0,[],_,_=>rfl
 |f+1,g+1,[],_,_=>rfl
 |f+1,g+1,x::l,h1,h2=>by
  have:=EJ x l;simp only[aY]at h1 h2;simp only[kV];rw[XE f g (gR (x::l)) om om]
 |0,_,_::_,h1,_=>by simp at h1
 |_+1,0,_::_,_,h2=>by simp at h2
theorem MW: ∀(f:Nat) (l:List aK),l.length<=f->tD f l=if(kV f l).all (·.2)then some ((kV f l).map (·.1))else none
 |0,[],_=>rfl
 |f+1,[],_=>rfl
 |0,_::_,h=>by simp at h
 |f+1,x::l,h=>by
  have h1:=EJ x l;simp only[aY]at h;have ih:=MW f (gR (x::l)) om;cases hf:fL (x::l)
  .have e1:kV (f+1) (x::l)=[(gL (x::l),false)]:=by simp[kV,hf]
   have e2:tD (f+1) (x::l)=none:=by simp[tD,hf]
   rw[e1,e2];rfl
  .have e1:kV (f+1) (x::l)=(gL (x::l),true)::kV f (gR (x::l)):=by simp[kV,hf]
   have e2:tD (f+1) (x::l)=(tD f (gR (x::l))).map (gL (x::l):: ·):=by simp[tD,hf]
   rw[e1,e2,ih];simp only[List.all_cons,Bool.true_and,List.map_cons];split<;>simp
theorem AX (n k:Int) (hk:0<k):(n*k).tdiv k=n:=Int.mul_tdiv_cancel n om
theorem XG {s:St} (h:dT s=true) (r:List aK):gL (cZ s++r)=s:=by
 obtain⟨k,x,y⟩:=s;unfold dT at h;simp only at h;by_cases h1:k=1
 .subst h1;simp only[cZ,if_true,cF,gL,dX];simp only[gO,qq,qr,cT];rw[AX _ _ om,AX _ _ om]
 .rw[if_neg h1]at h;by_cases h2:k=2
  .subst h2;rw[if_pos rfl]at h;simp only[bD,decide_eq_true_eq]at h;obtain⟨_,rfl⟩:=h;have e:rX≠rD:=by decide
   simp only[cZ,if_neg h1,if_true,cF,gL,dX];rw[if_neg e];simp only[gO,qq,qr,cT];rw[AX _ _ om,Int.mul_comm,AX _ _ om]
  .rw[if_neg h2]at h;by_cases h3:k=3
   .subst h3;rw[if_pos rfl]at h;simp only[bD,decide_eq_true_eq]at h;obtain⟨_,rfl⟩:=h;have e:sA≠rD:=by decide
    have e2:sA≠rX:=by decide
    simp only[cZ,if_neg h1,if_neg h2,if_true,cF,gL,dX];rw[if_neg e,if_neg e2];simp only[gO,qq,qr,cT];rw[AX _ _ om]
   .rw[if_neg h3]at h;by_cases h4:k=4
    .subst h4;rw[if_pos rfl]at h;simp only[bD,decide_eq_true_eq]at h;obtain⟨rfl,rfl⟩:=h;have e:uS≠rD:=by decide
     have e2:uS≠rX:=by decide
     have e3:uS≠sA:=by decide
     simp only[cZ,if_neg h1,if_neg h2,if_neg h3,cF,gL,dX];rw[if_neg e,if_neg e2,if_neg e3]
    .rw[if_neg h4]at h;cases h
theorem Lp {s:St} (h:dT s=true) (r:List aK):fL (cZ s++r)=true/\gR (cZ s++r)=r:=by
 have hg:=XG h r;unfold fL gR;rw[hg];exact⟨by simp,by simp⟩
theorem TP: ∀(ss:List St),(∀s∈ss,dT s=true)-> ∀f,(fD ss).length<=f->tD f (fD ss)=some ss
 |[],_,f,_=>by cases f<;>rfl
 |s::ss,h,f,hf=>by
  obtain⟨h1,h2⟩:=Lp (h s (fX ..)) (fD ss);have hg:=XG (h s (fX ..)) (fD ss);have e:fD (s::ss)=cZ s++fD ss:=rfl;rw[e]at hf ⊢;rw[aZ]at hf;have h3:=(tX s).1;obtain⟨g,rfl⟩: ∃g,f=g+1:=⟨f-1,by omega⟩;have ih:=TP ss (λt ht=>h t (fO _ ht)) g om;cases ht:cZ s with
  |nil=>exact absurd ht (N3 s)
  |cons x l=>
   rw[ht,cF]at h1 h2 hg;rw[cF,tD,h1,if_pos rfl,h2,ih,hg];rfl
theorem EG {ss:List St} (h:gF ss=true):(∀s∈ss,dT s=true)/\ss.length<=8:=by
 simp only[gF,bD,dO,decide_eq_true_eq]at h;exact h
theorem S5 {ss:List St} (h:gF ss=true):rA (fD ss)=some ss:=by
 unfold rA;rw[TP ss (EG h).1 _ (bA _)];simp[h]
def yQ (u:Bs):Bool:=decide (u=[]\/u=[37]\/u=mU\/u=[101,109]\/u=[114,101,109]\/u=[112,116]\/u=[118,104]\/u=[118,119]\/u=wM\/u=[115]\/u=[109,115])
def wE (c:UInt8):Bool:=aQ c||decide (65<=c.toNat/\c.toNat<=70\/97<=c.toNat/\c.toNat<=102)
def wF (t:Bs):Bool:=decide (t.length=3\/t.length=4\/t.length=6\/t.length=8)&&t.all wE
def BJ (x:aK):Bool:=
 if x.kind=1\/x.kind=5 then true else if x.kind=3 then yQ x.unit else if x.kind=4 then wF x.text else if x.kind=6 then decide (x.text=[44]\/x.text=[47])else false
def sD (x:aK):Bool:=BJ x&&cR x
def EI:Bs:=[114,103,98]
def EH:Bs:=[114,103,98,97]
def FP:Bs:=[104,115,108]
def FO:Bs:=[104,115,108,97]
def rI (x:aK):Bool:=decide (x=dX EI\/x=dX EH\/x=dX FP\/x=dX FO)
def lH:Bool->List aK->Bool
 |o,[]=> !o
 |o,x::l=>if sD x then lH o l else if !o&&rI x then lH true l else if o&&decide (x=bP 41)then lH false l else false
def iP (l:List aK):Option (List aK):=if l=[kF]then some [kF]else match rA l with
 |none=>none
 |some ss=>if jU ss=0 then(if fZ ss=[]then some [kF]else some (fD (fZ ss)))else none
def kN (name:Bs) (l:List aK):Option (List aK):=if l=[]then none else if name=JQ then iP l else if lH false l then some l else none
theorem Fg:cR kF=true:=by decide+kernel
theorem wG (t:Bs) (h:t=rD\/t=rX\/t=sA\/t=uS\/t=EI\/t=EH\/t=FP\/t=FO):cR (dX t)=true:=by
 rcases h with rfl|rfl|rfl|rfl|rfl|rfl|rfl|rfl<;>decide+kernel
theorem zO (k:UInt8) (h:k=44\/k=41):cR (bP k)=true:=by
 rcases h with rfl|rfl<;>decide+kernel
theorem BP (n:Int) (u:Bs) (hn:n.natAbs<=999999) (hu:u=mU\/u=wM\/u=[]):cR (cT n u)=true:=by
 have hU:AI u:=by
  rcases hu with rfl|rfl|rfl
  .exact .inr (.inr ⟨112,[120],rfl,by decide,by decide,by decide,by decide⟩)
  .exact .inr (.inr ⟨100,[101,103],rfl,by decide,by decide,by decide,by decide⟩)
  .exact .inl rfl
 have h9:(n*1000).natAbs<=999999999:=by omega
 have e:cE (cT n u)=gA (n*1000)++u:=rfl;refine zH ?_ ?_ (by simp[cT])
 .rw[e];exact(CK (n*1000) u).2.2.2.1
 .rw[e];exact UM (n*1000) u h9 hU
theorem uK {n:Int} {k:Int} (h:iC n k=true):n.natAbs<=k.toNat:=by
 have:=Gb.1 h;omega
theorem N2 {s:St} (h:dT s=true): ∀x∈cZ s,cR x=true:=by
 obtain⟨k,a,b⟩:=s;unfold dT at h;simp only at h;intro x hx;unfold cZ at hx;simp only at hx;split at h
 .rename_i h1;rw[if_pos h1]at hx;simp only[bD]at h;have ha:=uK h.1;have hb:=uK h.2;simp only[bJ,eO,or_false]at hx;rcases hx with rfl|rfl|rfl|rfl|rfl
  .exact wG _ (.inl rfl)
  .exact BP _ _ om (.inl rfl)
  .exact zO _ (.inl rfl)
  .exact BP _ _ om (.inl rfl)
  .exact zO _ (.inr rfl)
 .rename_i h1;rw[if_neg h1]at hx;split at h
  .rename_i h2;rw[if_pos h2]at hx;simp only[bD]at h;have ha:=uK h.1;simp only[bJ,eO,or_false]at hx;rcases hx with rfl|rfl|rfl
   .exact wG _ (.inr (.inl rfl))
   .exact BP _ _ om (.inr (.inl rfl))
   .exact zO _ (.inr rfl)
  .rename_i h2;rw[if_neg h2]at hx;split at h
   .rename_i h3;rw[if_pos h3]at hx;simp only[bD,decide_eq_true_eq]at h;simp only[bJ,eO,or_false]at hx;rcases hx with rfl|rfl|rfl
    .exact wG _ (.inr (.inr (.inl rfl)))
    .exact BP _ _ om (.inr (.inr rfl))
    .exact zO _ (.inr rfl)
   .rename_i h3;rw[if_neg h3]at hx;simp only[bJ,eO,or_false]at hx;rcases hx with rfl|rfl|rfl
    .exact wG _ (.inr (.inr (.inr (.inl rfl))))
    .exact BP _ _ om (.inr (.inr rfl))
    .exact zO _ (.inr rfl)
def tB (x:aK):Prop:=x.kind≠7/\(x.kind=2->x.text≠[117,114,108]/\x.text≠[101,120,112,114,101,115,115,105,111,110])
theorem N1 (s:St): ∀x∈cZ s,tB x:=by
 intro x hx;unfold cZ at hx;have f: ∀t,t=rD\/t=rX\/t=sA\/t=uS->tB (dX t):=by
  intro t h;refine⟨by simp[dX],λ_=> ?_⟩;rcases h with rfl|rfl|rfl|rfl<;>exact⟨by decide,by decide⟩
 have n: ∀a u,tB (cT a u):=λa u=>⟨by simp[cT],by simp[cT]⟩;have m: ∀k,tB (bP k):=λk=>⟨by simp[bP],by simp[bP]⟩;split at hx
 .simp only[bJ,eO,or_false]at hx;rcases hx with rfl|rfl|rfl|rfl|rfl
  .exact f _ (.inl rfl)
  .exact n _ _
  .exact m _
  .exact n _ _
  .exact m _
 .split at hx
  .simp only[bJ,eO,or_false]at hx;rcases hx with rfl|rfl|rfl
   .exact f _ (.inr (.inl rfl))
   .exact n _ _
   .exact m _
  .split at hx
   .simp only[bJ,eO,or_false]at hx;rcases hx with rfl|rfl|rfl
    .exact f _ (.inr (.inr (.inl rfl)))
    .exact n _ _
    .exact m _
   .simp only[bJ,eO,or_false]at hx;rcases hx with rfl|rfl|rfl
    .exact f _ (.inr (.inr (.inr rfl)))
    .exact n _ _
    .exact m _
theorem LD {x:aK} (h:sD x=true):tB x/\cR x=true/\x.kind≠2:=by
 simp only[sD,bD]at h;obtain⟨h1,h2⟩:=h;unfold BJ at h1;have h3:x.kind≠7/\x.kind≠2:=by
  split at h1
  .omega
  .split at h1
   .omega
   .split at h1
    .omega
    .split at h1
     .omega
     .cases h1
 exact⟨⟨h3.1,λh=>absurd h h3.2⟩,h2,h3.2⟩
theorem Pk {x:aK} (h:rI x=true):tB x/\cR x=true:=by
 simp only[rI,decide_eq_true_eq]at h;rcases h with rfl|rfl|rfl|rfl
 .exact⟨⟨by decide,λ_=>⟨by decide,by decide⟩⟩,wG _ (by simp)⟩
 .exact⟨⟨by decide,λ_=>⟨by decide,by decide⟩⟩,wG _ (by simp)⟩
 .exact⟨⟨by decide,λ_=>⟨by decide,by decide⟩⟩,wG _ (by simp)⟩
 .exact⟨⟨by decide,λ_=>⟨by decide,by decide⟩⟩,wG _ (by simp)⟩
theorem DG: ∀(l:List aK) (o:Bool),lH o l=true-> ∀x∈l,tB x/\cR x=true
 |[],_,_,x,hx=>by cases hx
 |y::l,o,h,x,hx=>by
  simp only[lH]at h;rcases bJ.1 hx with rfl|hx
  .split at h
   .rename_i h1;exact⟨(LD h1).1,(LD h1).2.1⟩
   .split at h
    .rename_i h2;simp only[bD]at h2;exact Pk h2.2
    .split at h
     .rename_i h3;simp only[bD,decide_eq_true_eq]at h3;rw[h3.2];exact⟨⟨by decide,λh=>absurd h dc⟩,zO _ (.inr rfl)⟩
     .cases h
  .split at h
   .exact DG l _ h x hx
   .split at h
    .exact DG l _ h x hx
    .split at h
     .exact DG l _ h x hx
     .cases h
theorem TT {ss:List St} (h:ss≠[]): ∃t r,fD ss=dX t::r:=by
 cases ss with
 |nil=>exact absurd rfl h
 |cons s ss=>
  show ∃t r,cZ s++fD ss=dX t::r;unfold cZ;split
  .exact⟨_,_,rfl⟩
  .split
   .exact⟨_,_,rfl⟩
   .split
    .exact⟨_,_,rfl⟩
    .exact⟨_,_,rfl⟩
theorem Cp {ss:List St}:fD ss≠[kF]:=by
 intro h;cases ss with
 |nil=>cases h
 |cons s ss=>
  obtain⟨t,r,hr⟩:=TT (ss:=s::ss) (by simp);rw[hr]at h;have:=(List.cons.inj h).1;have:=congrArg aK.kind this;simp[dX,kF]at this
theorem Gq {l a:List aK} (h:iP l=some a):iP a=some a/\a≠[]/\(∀x∈a,tB x/\cR x=true):=by
 have hn:iP [kF]=some [kF]/\[kF]≠[]/\(∀x∈[kF],tB x/\cR x=true):=by
  refine⟨by simp[iP],by simp,λx hx=> ?_⟩;rw[fW]at hx;subst hx;exact⟨⟨by decide,λh=>absurd h dc⟩,Fg⟩
 unfold iP at h;split at h
 .cases h;exact hn
 .split at h
  .cases h
  .rename_i ss hss;split at h
   .rename_i he;split at h
    .cases h;exact hn
    .rename_i hne;cases h;obtain⟨n1,n2,n3,n4,n5⟩:=LT ss he;refine⟨?_, ?_,λx hx=> ?_⟩
     .unfold iP;rw[if_neg Cp,S5 n1];simp only[n3,n4,if_true,if_neg hne]
     .obtain⟨t,r,hr⟩:=TT hne;rw[hr];simp
     .obtain⟨s,hs,hx⟩:=List.mem_flatMap.1 hx;exact⟨N1 s x hx,N2 ((EG n1).1 s hs) x hx⟩
   .cases h
theorem PT {name:Bs} {l a:List aK} (h:kN name l=some a):kN name a=some a/\a≠[]/\(∀x∈a,tB x/\cR x=true):=by
 unfold kN at h;split at h
 .cases h
 .rename_i h0;split at h
  .rename_i h1;obtain⟨m1,m2,m3⟩:=Gq h;exact⟨by unfold kN;rw[if_neg m2,if_pos h1];exact m1,m2,m3⟩
  .rename_i h1;split at h
   .rename_i h2;cases h;exact⟨by unfold kN;rw[if_neg h0,if_neg h1,if_pos h2],h0,DG _ _ h2⟩
   .cases h
def gT (d e:bE):Bool:=decide (e.name=d.name)&&(e.imp==d.imp)
def mZ (P:aO) (d:bE):Option bE:=match kN d.name d.value with
 |some v=>if xU P d.name=true then some ⟨d.name,v,d.imp⟩else none
 |none=>none
def lA (P:aO) (l:List bE):List bE:=l.filterMap (mZ P)
def eS:List bE->List bE
 |[]=>[]
 |d::r=>if r.any (gT d)=true then eS r else d::eS r
def iJ (P:aO) (s:Bs):List bE:=eS (lA P (gI (bU s)))
theorem NO {x:aK} (h:x.kind≠2) (h1:cK 40 x=false) (h2:cK 41 x=false) (d:Nat):dn d x=d:=by
 unfold dn uH;rw[h1,h2];simp[h]
theorem EV {k:UInt8} {x:aK} (h:x.kind≠6):cK k x=false:=by
 unfold cK;simp[h]
theorem Cj {x:aK} (h:sD x=true):x.kind≠2/\cK 40 x=false/\cK 41 x=false/\fQ x=true:=by
 have hs:=LD h;simp only[sD,bD]at h;have h1:=h.1;unfold BJ at h1;have key:x.kind=6->x.text=[44]\/x.text=[47]:=λh6=>by
  rw[if_neg om,if_neg om,if_neg om,if_pos h6]at h1;simpa using h1
 have hm: ∀k:UInt8,k≠44->k≠47->cK k x=false:=λk a b=>by
  by_cases h6:x.kind=6
  .unfold cK;rcases key h6 with hk|hk
   .rw[hk];simp[Ne.symm a]
   .rw[hk];simp[Ne.symm b]
  .exact EV h6
 refine⟨hs.2.2,hm 40 dc dc,hm 41 dc dc, ?_⟩;unfold fQ;rw[hm 59 dc dc,hm 33 dc dc];simp[hs.1.1]
theorem ND (t:Bs) (d:Nat):dn d (dX t)=d+1:=by
 unfold dn uH dX;simp
theorem zV (t:Bs):fQ (dX t)=true/\cK 41 (dX t)=false:=by
 unfold fQ cK dX;simp
theorem uJ (n:Int) (u:Bs):fQ (cT n u)=true/\cK 41 (cT n u)=false/\ ∀d,dn d (cT n u)=d:=by
 refine⟨by unfold fQ cK cT;simp,EV (by unfold cT;simp),λd=>NO (by unfold cT;simp) (EV (by unfold cT;simp)) (EV (by unfold cT;simp)) d⟩
theorem Pm {x:aK} (h:rI x=true): ∃t,x=dX t:=by
 simp only[rI,decide_eq_true_eq]at h;rcases h with rfl|rfl|rfl|rfl<;>exact⟨_,rfl⟩
theorem DI: ∀(l:List aK) (o:Bool),lH o l=true->fU (if o then 1 else 0) l=true/\ ∀x∈l,fQ x=true
 |[],o,h=>by
  simp only[lH]at h;cases o
  .exact⟨rfl,λx hx=>by cases hx⟩
  .cases h
 |y::l,o,h=>by
  simp only[lH]at h;split at h
  .rename_i h1;obtain⟨a,b,c,d⟩:=Cj h1;obtain⟨e,f⟩:=DI l o h;refine⟨?_,λx hx=> ?_⟩
   .simp only[fU];rw[c,NO a b c];simpa using e
   .rcases bJ.1 hx with rfl|hx
    .exact d
    .exact f x hx
  .split at h
   .rename_i h2;simp only[bD,Bool.not_eq_true']at h2;obtain⟨t,rfl⟩:=Pm h2.2;obtain⟨e,f⟩:=DI l true h;rw[h2.1];refine⟨?_,λx hx=> ?_⟩
    .simp only[fU];rw[(zV t).2,ND];simpa using e
    .rcases bJ.1 hx with rfl|hx
     .exact(zV t).1
     .exact f x hx
   .split at h
    .rename_i h3;simp only[bD,decide_eq_true_eq]at h3;obtain⟨e,f⟩:=DI l false h;rw[h3.1,h3.2];refine⟨?_,λx hx=> ?_⟩
     .simp only[fU];have h4:cK 41 (bP 41)=true:=by decide
      have h5:dn 1 (bP 41)=0:=by decide
      simpa[h4,h5]using e
     .rcases bJ.1 hx with rfl|hx
      .decide
      .exact f x hx
    .cases h
theorem VH {k:UInt8} (hk:k=44):fQ (bP k)=true/\cK 41 (bP k)=false/\ ∀d,dn d (bP k)=d:=by
 subst hk;exact⟨by decide,by decide,λd=>NO dc dc dc d⟩
theorem YZ (d:Nat):cK 41 (bP 41)=true/\dn (d+1) (bP 41)=d/\fQ (bP 41)=true:=by
 refine⟨by decide, ?_,by decide⟩;unfold dn;have h1:uH (bP 41)=false:=by decide
 have h2:cK 41 (bP 41)=true:=by decide
 rw[h1,h2];simp
theorem N4 (s:St) (r:List aK):fU 0 (cZ s++r)=fU 0 r/\ ∀x∈cZ s,fQ x=true:=by
 have c1:=(YZ 0).1;have c2:=(YZ 0).2.1;have m1:=(VH (k:=44) rfl).2.1;have m2:=(VH (k:=44) rfl).2.2;have key: ∀(t:Bs) (n:Int) (u:Bs),fU 0 ([dX t,cT n u,bP 41]++r)=fU 0 r:=λt n u=>by
  simp only[cF,List.nil_append,fU];rw[(zV t).2,ND,(uJ n u).2.1,(uJ n u).2.2,c1,c2];simp
 have okey: ∀(t:Bs) (n:Int) (u:Bs),∀x∈[dX t,cT n u,bP 41],fQ x=true:=λt n u x hx=>by
  simp only[bJ,eO,or_false]at hx;rcases hx with rfl|rfl|rfl
  .exact(zV t).1
  .exact(uJ n u).1
  .decide
 unfold cZ;split
 .refine⟨?_,λx hx=> ?_⟩
  .simp only[cF,List.nil_append,fU];rw[(zV rD).2,ND,(uJ s.x mU).2.1,(uJ s.x mU).2.2,m1,m2,(uJ s.y mU).2.1,(uJ s.y mU).2.2,c1,c2];simp
  .simp only[bJ,eO,or_false]at hx;rcases hx with rfl|rfl|rfl|rfl|rfl
   .exact(zV _).1
   .exact(uJ _ _).1
   .decide
   .exact(uJ _ _).1
   .decide
 .split
  .exact⟨key _ _ _,okey _ _ _⟩
  .split
   .exact⟨key _ _ _,okey _ _ _⟩
   .exact⟨key _ _ _,okey _ _ _⟩
theorem TU: ∀ss:List St,fU 0 (fD ss)=true/\ ∀x∈fD ss,fQ x=true
 |[]=>⟨rfl,λx hx=>by cases hx⟩
 |s::r=>by
  obtain⟨h1,h2⟩:=TU r;have h3:=N4 s (fD r);have h4:fD (s::r)=cZ s++fD r:=List.flatMap_cons;rw[h4,h3.1];refine⟨h1,λx hx=> ?_⟩;rcases List.mem_append.1 hx with hx|hx
  .exact h3.2 x hx
  .exact h2 x hx
theorem US:fU 0 [kF]=true/\ ∀x∈[kF],fQ x=true:=by
 refine⟨by decide,λx hx=> ?_⟩;rw[fW]at hx;subst hx;decide
theorem Gp {l a:List aK} (h:iP l=some a):fU 0 a=true/\ ∀x∈a,fQ x=true:=by
 unfold iP at h;split at h
 .cases h;exact US
 .split at h
  .cases h
  .split at h
   .split at h
    .cases h;exact US
    .cases h;exact TU _
   .cases h
theorem I0 {name:Bs} {l a:List aK} (h:kN name l=some a):oS a=true:=by
 obtain⟨_,hne,_⟩:=PT h;have key:fU 0 a=true/\ ∀x∈a,fQ x=true:=by
  unfold kN at h;split at h
  .cases h
  .split at h
   .exact Gp h
   .split at h
    .next hv=>cases h;exact DI _ false hv
    .cases h
 unfold oS;rw[key.1,dO.2 key.2];cases a with
 |nil=>exact absurd rfl hne
 |cons x r=>rfl
theorem MP {P:aO} {d e:bE} (h:mZ P d=some e):e.name=d.name/\e.imp=d.imp/\xU P d.name=true/\kN d.name d.value=some e.value:=by
 unfold mZ at h;split at h
 .next v hv=>
  split at h
  .next hp=>cases h;exact⟨rfl,rfl,hp,hv⟩
  .cases h
 .cases h
structure AK (P:aO) (e:bE):Prop where
 css:xU P e.name=true
 val:kN e.name e.value=some e.value
 right:eN e=true
theorem Je {P:aO} {d e:bE} (hd:eN d=true) (h:mZ P d=some e):AK P e:=by
 obtain⟨h1,h2,h3,h4⟩:=MP h;obtain⟨h5,_,h7⟩:=PT h4;refine⟨by rw[h1];exact h3,by rw[h1];exact h5, ?_⟩;unfold eN at hd ⊢;simp only[bD]at hd ⊢;exact⟨⟨dO.2 λx hx=>(h7 x hx).2,I0 h4⟩,by rw[h1];exact hd.2⟩
theorem AK.again {P:aO} {e:bE} (h:AK P e):mZ P e=some e:=by
 unfold mZ;rw[h.val];simp only;rw[if_pos h.css]
theorem Sc {P:aO} {l:List bE} (hl: ∀d∈l,eN d=true): ∀e∈lA P l,AK P e:=by
 intro e he;unfold lA at he;rw[List.mem_filterMap]at he;obtain⟨d,hd,hk⟩:=he;exact Je (hl d hd) hk
theorem ZS {P:aO}: ∀{l:List bE},(∀e∈l,AK P e)->lA P l=l
 |[],_=>rfl
 |d::r,h=>by
  unfold lA;rw[List.filterMap_cons,(h d (by simp)).again];have:=ZS (l:=r) (λe he=>h e (by simp[he]));unfold lA at this;simp only;rw[this]
theorem FI: ∀{l:List bE} {d:bE},d∈eS l->d∈l
 |c::r,d,h=>by
  unfold eS at h;split at h
  .exact fO _ (FI h)
  .rcases bJ.1 h with rfl|h
   .exact fX ..
   .exact fO _ (FI h)
theorem FJ: ∀(l:List bE) (d:bE),(eS l).any (gT d)=l.any (gT d)
 |[],_=>rfl
 |c::r,d=>by
  unfold eS;split
  .next h=>
   rw[FJ r d,nN];cases hc:gT d c
   .rw[Bool.false_or]
   .rw[Bool.true_or,Zy];rw[Zy]at h;obtain⟨e,he,hk⟩:=h;refine⟨e,he, ?_⟩;unfold gT at hc hk ⊢;simp only[bD,decide_eq_true_eq,beq_iff_eq]at hc hk ⊢;exact⟨hk.1.trans hc.1,hk.2.trans hc.2⟩
  .rw[nN,nN,FJ r d]
theorem MM: ∀l:List bE,eS (eS l)=eS l
 |[]=>rfl
 |c::r=>by
  by_cases h:r.any (gT c)=true
  .have e:eS (c::r)=eS r:=by rw[eS,if_pos h]
   rw[e];exact MM r
  .have e:eS (c::r)=c::eS r:=by rw[eS,if_neg h]
   rw[e,eS,FJ r c,if_neg h,MM r]
theorem ML: ∀(l:List bE) (i k:Nat) (hi:i<(eS l).length) (_:k<i),gT ((eS l)[k]' om) ((eS l)[i])=false
 |[],i,k,hi,_=>by cases hi
 |c::r,i,k,hi,hk=>by
  by_cases h:r.any (gT c)=true
  .have e:eS (c::r)=eS r:=by rw[eS,if_pos h]
   simp only[e]at hi ⊢;exact ML r i k hi hk
  .have e:eS (c::r)=c::eS r:=by rw[eS,if_neg h]
   simp only[e]at hi ⊢;cases i with
   |zero=>omega
   |succ i=>
    have hi':i<(eS r).length:=by simpa using hi
    cases k with
    |zero=>
     simp only[List.getElem_cons_zero,List.getElem_cons_succ];cases hq:gT c (eS r)[i]
     .rfl
     .exfalso;apply h;rw[<-FJ r c,Zy];exact⟨_,List.getElem_mem hi',hq⟩
    |succ k=>
     simp only[List.getElem_cons_succ];exact ML r i k hi' om
theorem CG {P:aO} {s:Bs}: ∀d∈iJ P s,AK P d:=by
 intro d hd;exact Sc (λe he=>(TZ he).1) d (FI hd)
theorem Li (P:aO) (s:Bs):gI (bU (mQ (iJ P s)))=iJ P s:=Oh λd hd=>(CG d hd).right
theorem Lk (P:aO) (s:Bs):iJ P (mQ (iJ P s))=iJ P s:=by
 show eS (lA P (gI (bU (mQ (iJ P s)))))=_;rw[Li,ZS CG];exact MM _
def uP (l:List bE) (k:Nat):Bool:=match l[k]? with
 |some d=> !(l.drop (k+1)).any (gT d)
 |none=>false
def rH (l:List bE):Nat->List bE
 |0=>[]
 |k+1=>rH l k++(match l[k]? with
  |some d=>if uP l k=true then [d]else []
  |none=>[])
theorem VW (l:List bE): ∀k,k<=l.length->rH l k++eS (l.drop k)=eS l
 |0,_=>by rw[List.drop_zero];rfl
 |k+1,h=>by
  have hk:k<l.length:=h;have ih:=VW l k om;rw[List.drop_eq_getElem_cons hk]at ih;have h1:l[k]? =some l[k]:=eV hk;have h2:uP l k= !(l.drop (k+1)).any (gT l[k]):=by unfold uP;rw[h1]
  rw[<-ih,rH,h1];simp only;rw[h2];cases ha:(l.drop (k+1)).any (gT l[k])
  .rw[Bool.not_false,if_pos rfl,List.append_assoc];conv=>rhs;rw[eS,if_neg (by rw[ha];decide)]
   rfl
  .rw[Bool.not_true,if_neg dc,List.append_nil];conv=>rhs;rw[eS,if_pos ha]
theorem Ir (l:List bE):rH l l.length=eS l:=by
 have h:=VW l l.length (bA _);rw[List.drop_length]at h;rw[<-h,show eS []=[]from rfl,List.append_nil]
theorem VX (l:List bE): ∀k,(rH l k).length<=k
 |0=>bA _
 |k+1=>by
  have:=VX l k;unfold rH;rw[aZ];split
  .split
   .simp;omega
   .simp;omega
  .simp;omega
def BZ (l:List bE) (d:bE) (i:Nat):Prop:= ∃h:i<l.length,gT d l[i]=true/\ ∀j (_:i<j) (hj:j<l.length),gT d l[j]=false
theorem WC (d:bE):gT d d=true:=by unfold gT;simp
theorem It (d:bE) (i:Nat): ¬BZ [] d i:=λ⟨h,_⟩=>by cases h
theorem MN {l:List bE} {x d:bE} {i:Nat}:BZ (l++[x]) d i↔(gT d x=true/\i=l.length)\/(gT d x=false/\BZ l d i):=by
 constructor
 .rintro⟨h,a,b⟩;rw[aZ]at h;have hx:(l++[x])[l.length]'(by simp)=x:=by simp
  by_cases hi:i=l.length
  .subst hi;rw[hx]at a;exact .inl ⟨a,rfl⟩
  .have hil:i<l.length:=by simp at h;omega
   have h1:=b l.length hil (by simp);rw[hx]at h1;refine .inr ⟨h1,hil, ?_,λj hj hjl=> ?_⟩
   .rw[Yd hil]at a;exact a
   .have:=b j hj (by simp;omega);rw[Yd hjl]at this;exact this
 .rintro(⟨hk,rfl⟩|⟨hk,h,a,b⟩)
  .refine⟨by simp,by simpa using hk,λj hj hjl=> ?_⟩;simp at hjl;omega
  .refine⟨by simp;omega,by rw[Yd h];exact a,λj hj hjl=> ?_⟩;by_cases hjx:j<l.length
   .rw[Yd hjx];exact b j hj hjx
   .have:j=l.length:=by simp at hjl;omega
    subst this;simpa using hk
theorem Iu {l:List bE} {k:Nat} (hk:k<l.length): ∃i,BZ l l[k] i/\(decide (i=k)=uP l k):=by
 have key: ∀n,n<=l.length-k-> ∃i,k<=i/\ ∃h:i<l.length,gT l[k] l[i]=true/\ ∀j (_:i<j) (hj:j<l.length),j<=k+n->gT l[k] l[j]=false:=by
  intro n;induction n with
  |zero=>exact λ_=>⟨k,bA _,hk,WC _,λj hj _ hjk=>by omega⟩
  |succ n ih=>
   intro hn;obtain⟨i,h0,h1,h2,h3⟩:=ih om;by_cases hm:k+n+1<l.length
   .cases hq:gT l[k] (l[k+n+1]'hm)
    .refine⟨i,h0,h1,h2,λj hj hjl hjk=> ?_⟩;by_cases e:j=k+n+1
     .subst e;exact hq
     .exact h3 j hj hjl om
    .exact⟨k+n+1,by omega,hm,hq,λj hj hjl hjk=>by omega⟩
   .exact⟨i,h0,h1,h2,λj hj hjl hjk=>h3 j hj hjl om⟩
 obtain⟨i,h0,h1,h2,h3⟩:=key (l.length-k) (bA _);refine⟨i,⟨h1,h2,λj hj hjl=>h3 j hj hjl om⟩, ?_⟩;have hl:uP l k= !(l.drop (k+1)).any (gT l[k]):=by unfold uP;rw[eV hk]
 rw[hl];by_cases e:i=k
 .subst e;rw[decide_eq_true rfl];cases ha:(l.drop (i+1)).any (gT l[i])
  .rfl
  .exfalso;rw[Zy]at ha;obtain⟨x,hx,hq⟩:=ha;obtain⟨m,hm,hxm⟩:=List.getElem_of_mem hx;rw[bL]at hm;rw[List.getElem_drop]at hxm;have:=h3 (i+1+m) om om om;rw[hxm,hq]at this;cases this
 .rw[decide_eq_false e];have ha:(l.drop (k+1)).any (gT l[k])=true:=by
   rw[Zy];refine⟨l[i], ?_,h2⟩;rw[List.mem_iff_getElem];refine⟨i-(k+1),by rw[bL];omega, ?_⟩;rw[List.getElem_drop];congr 1;omega
  rw[ha];rfl
