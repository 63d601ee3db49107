import Derived.Test.YtccjfanpjojbnaaGreatDoorFltG
import Derived.Test.YtccjfanpjojbnaaGreatDoorPicU
namespace Go.Proofs.YtccjfanpjojbnaaGreatDoor
open Bool renaming false_eq_true→gW,false_ne_true→Yh
open Go.IntKind renaming i64→aC
open Lib renaming hid→aA,index→jI,replaceAll→qR,replaceK→zad
open List renaming Pairwise→Yg,all_eq_true→dO,append_assoc→cY,append_nil→bV,dropWhile_sublist→Yn,flatMap_append→nL,flatMap_cons→iF,getElem_mem→dN,length_append→aZ,length_cons→aY,length_pos_iff→pN,mem_append→eK,mem_cons→bJ,mem_cons_of_mem→fO,mem_cons_self→fX,mem_filter→rS,mem_map→jH,mem_reverse→qp,mem_singleton→fW,take_succ_eq_append_getElem→jG
open Nat renaming le_refl→bA,le_trans→bG
open Tryz renaming func11→jy,ntmps11→jh,ntmps21→zg,prog→aE,underlying53→Xv
open Go.Value renaming bool→aI,int→aB,pointer→aM,slice→aF,string→aD,tuple→aN
set_option maxRecDepth 100000
set_option maxHeartbeats 8000000
def jW (v:Bs):Bs:=(v.filter λc=>decide (c.toNat≠0)).map λc=>if c.toNat=13 then 10 else c
def KH:Bs:=[115,114,99,115,101,116]
def JW:Bs:=[115,116,121,108,101]
def sY (P:aO) (name v:Bs):Option Bs:=
 if CC name=true then lZ P v
 else if name=KH then(if fF P (cO v)=[]then none else some (mF (fF P (cO v))))
 else if name=JW then(if iJ P v=[]then none else some (mQ (iJ P v)))
 else some v
def sF (P:aO) (tag name:Bs):Bool:=tO P tag name&& !kC name&&decide ((name.length:Int)<=P.name)
def fK (P:aO) (tag name v:Bs):Option Bs:=if sF P tag name=true then
  match sY P name (jW v)with
  |some u=>if(u.length:Int)<=P.value then some u else none
  |none=>none
 else none
def cH (P:aO) (tag:Bs):List Bs->List (Bs × Bs)->List (Bs × Bs)
 |_,[]=>[]
 |seen,a::r=>match fK P tag a.1 a.2 with
  |some v=>if a.1∈seen then cH P tag seen r else(a.1,v)::cH P tag (seen++[a.1]) r
  |none=>cH P tag seen r
def bT (l:List (Bs × Bs)):List Bs:=l.map Prod.fst
def dB (P:aO) (tag:Bs) (l:List (Bs × Bs)):List (Bs × Bs):=if eW P tag=true then cH P tag (bT (cM P tag)) l++cM P tag else []
theorem xO (P:aO) (tag:Bs): ∀(l m:List (Bs × Bs)) (s:List Bs),cH P tag s (l++m)=cH P tag s l++cH P tag (s++bT (cH P tag s l)) m
 |[],m,s=>by
  have:s++bT (cH P tag s [])=s:=bV s;rw[List.nil_append,this];rfl
 |a::r,m,s=>by
  rw[List.cons_append,cH,cH];cases hv:fK P tag a.1 a.2 with
  |none=>exact xO P tag r m s
  |some v=>
   simp only;by_cases h:a.1∈s
   .rw[if_pos h,if_pos h];exact xO P tag r m s
   .rw[if_neg h,if_neg h,xO P tag r m (s++[a.1])];have:s++bT ((a.1,v)::cH P tag (s++[a.1]) r)=s++[a.1]++bT (cH P tag (s++[a.1]) r):=by
     rw[cY];rfl
    rw[this];rfl
theorem FL (P:aO) (tag:Bs): ∀(l:List (Bs × Bs)) (s:List Bs),(∀a∈l,fK P tag a.1 a.2≠none->a.1∈s)->cH P tag s l=[]
 |[],_,_=>rfl
 |a::r,s,h=>by
  rw[cH];cases hv:fK P tag a.1 a.2 with
  |none=>exact FL P tag r s (λb hb=>h b (by simp[hb]))
  |some v=>
   simp only;rw[if_pos (h a (by simp) (by rw[hv];exact λe=>by cases e))];exact FL P tag r s (λb hb=>h b (by simp[hb]))
theorem FN (P:aO) (tag:Bs): ∀(l:List (Bs × Bs)) (s:List Bs),∀a∈l,fK P tag a.1 a.2≠none->a.1∈s++bT (cH P tag s l)
 |b::r,s,a,ha,hv=>by
  rw[cH];cases hb:fK P tag b.1 b.2 with
  |none=>
   simp only;rcases bJ.1 ha with rfl|ha
   .exact absurd hb hv
   .exact FN P tag r s a ha hv
  |some v=>
   simp only;by_cases h:b.1∈s
   .rw[if_pos h];rcases bJ.1 ha with rfl|ha
    .exact eK.2 (.inl h)
    .exact FN P tag r s a ha hv
   .rw[if_neg h];rcases bJ.1 ha with rfl|ha
    .exact eK.2 (.inr (fX ..))
    .have:=FN P tag r (s++[b.1]) a ha hv;rw[cY]at this;exact this
theorem Jb (P:aO) (tag:Bs) (l:List (Bs × Bs)) (s:List Bs):cH P tag s (l++l)=cH P tag s l:=by
 rw[xO,FL P tag l _ (FN P tag l s),bV]
theorem Jc (P:aO) (tag:Bs) (l:List (Bs × Bs)) (a:Bs × Bs) (s:List Bs):cH P tag s (l++[a])=cH P tag s l++(match fK P tag a.1 a.2 with
  |some v=>if a.1∈s++bT (cH P tag s l)then []else [(a.1,v)]
  |none=>[]):=by
 rw[xO];congr 1
theorem uO (P:aO) (tag:Bs): ∀(l:List (Bs × Bs)) (s:List Bs),(cH P tag s l).length<=l.length
 |[],_=>bA _
 |a::r,s=>by
  rw[cH];cases fK P tag a.1 a.2 with
  |none=>exact Nat.le_succ_of_le (uO P tag r s)
  |some v=>
   simp only;split
   .exact Nat.le_succ_of_le (uO P tag r s)
   .exact Nat.succ_le_succ (uO P tag r _)
theorem Lz (P:aO) (tag:Bs) (l m:List (Bs × Bs)) (h:eW P tag=true):
  (cM P tag).length<=(dB P tag l).length/\(dB P tag l).length<=(dB P tag (l++m)).length/\(dB P tag (l++m)).take ((dB P tag l).length-(cM P tag).length)=(dB P tag l).take ((dB P tag l).length-(cM P tag).length)/\dB P tag (l++l)=dB P tag l:=by
 have ha:dB P tag l=cH P tag (bT (cM P tag)) l++cM P tag:=if_pos h;have hb:dB P tag (l++m)=cH P tag (bT (cM P tag)) (l++m)++cM P tag:=if_pos h;have hc:dB P tag (l++l)=cH P tag (bT (cM P tag)) (l++l)++cM P tag:=if_pos h;have hn:(dB P tag l).length-(cM P tag).length=(cH P tag (bT (cM P tag)) l).length:=by rw[ha,aZ];omega
 rw[xO]at hb;refine⟨by rw[ha,aZ];omega,by rw[ha,hb];simp only[aZ];omega, ?_, ?_⟩
 .rw[hn,ha,hb,cY,List.take_left,List.take_left]
 .rw[hc,Jb,ha]
theorem Bm {c x:UInt8} (h:x≠c) (new:Bs) (k:Nat) (r:Bs):zad [c] new k (x::r)=x::zad [c] new k r:=by
 cases k with
 |zero=>rfl
 |succ k=>
  have hi:jI (x::r) [c]=if jI r [c]== -1 then-1 else jI r [c]+1:=by
   rw[Lib.index_one,Lib.index_one,Lib.indexByte,if_neg (by simp[h])]
  have hg:=Lib.index_ge r [c];unfold zad;rw[hi];by_cases hm:jI r [c]= -1
  .rw[hm];rfl
  .have h1:(jI r [c]== -1)=false:=by simp[hm]
   have h2:(jI r [c]+1== -1)=false:=by simp;omega
   have h3:(jI r [c]+1).toNat=(jI r [c]).toNat+1:=by omega
   have h4:(jI r [c]).toNat+1+[c].length=((jI r [c]).toNat+[c].length)+1:=by omega
   simp only[h1,h2,h3,gW,if_false,List.take_succ_cons,List.cons_append];rw[h4,List.drop_succ_cons]
theorem LA (c:UInt8) (new:Bs): ∀s:Bs,zad [c] new (s.count c) s=s.flatMap λx=>if x=c then new else [x]
 |[]=>rfl
 |x::r=>by
  rw[iF];by_cases h:x=c
  .subst h;rw[List.count_cons_self,if_pos rfl,<-LA x new r];have hi:jI (x::r) [x]=(0:Nat):=by rw[Lib.index_one,Lib.indexByte,if_pos (by simp)];rfl
   rw[Lib.replaceK_hit [x] new _ _ 0 hi];rfl
  .rw[List.count_cons_of_ne h,Bm h,LA c new r,if_neg h];rfl
theorem KZ (c:UInt8) (new s:Bs) (h:new≠[c]):qR s [c] new=s.flatMap λx=>if x=c then new else [x]:=by
 unfold qR Lib.replace;rw[if_neg (by simpa using λe=>h e.symm)];unfold Lib.replaceNum;rw[if_pos (.inl dc),Lib.count_one,LA]
theorem PZ {x:UInt8} {n:Nat} (h:n<256):x.toNat=n↔x=UInt8.ofNat n:=by
 rw[<-UInt8.toNat_inj,UInt8.toNat_ofNat_of_lt' h]
theorem Qa (v:Bs):qR (qR v [0] []) [13] [10]=jW v:=by
 rw[KZ 0 [] v dc,KZ 13 [10] _ dc];unfold jW;induction v with
 |nil=>rfl
 |cons x r ih=>
  rw[iF,nL,ih];by_cases h:x=0
  .subst h;rfl
  .have h0:x.toNat≠0:=λe=>h ((PZ (n:=0) dc).1 e);rw[if_neg h,List.filter_cons_of_pos (by simpa using h0),List.map_cons,iF,List.flatMap_nil,bV];by_cases h2:x=13
   .subst h2;rfl
   .have h3:x.toNat≠13:=λe=>h2 ((PZ (n:=13) dc).1 e);rw[if_neg h2,if_neg h3];rfl
theorem Bl (v:Bs):(qR v [0] []).length<=v.length:=by
 rw[KZ 0 [] v dc];induction v with
 |nil=>exact bA _
 |cons x r ih=>
  rw[iF,aZ,aY];have:(if x=0 then([]:Bs)else [x]).length<=1:=by split<;>simp
  omega
def bR (l:Bs):Prop:= ∀c∈l,c.toNat≠0/\c.toNat≠13
theorem bR.sub {a b:Bs} (h:bR b) (hs: ∀c∈a,c∈b):bR a:=λc hc=>h c (hs c hc)
theorem bR.app {a b:Bs} (h:bR a) (g:bR b):bR (a++b):=λc hc=>(eK.1 hc).elim (h c) (g c)
theorem bR.cons {c:UInt8} {b:Bs} (h:c.toNat≠0/\c.toNat≠13) (g:bR b):bR (c::b):=λx hx=>by
 rcases bJ.1 hx with rfl|hx
 .exact h
 .exact g x hx
theorem bR.nil:bR []:=λ_ h=>by cases h
theorem Qc (v:Bs):bR (jW v):=by
 intro c hc;unfold jW at hc;obtain⟨x,hx,rfl⟩:=jH.1 hc;have h:=(rS.1 hx).2;rw[decide_eq_true_eq]at h;split
 .decide
 .next h2=>exact⟨h,h2⟩
theorem Lt {l:Bs} (h:bR l):jW l=l:=by
 unfold jW;rw[List.filter_eq_self.2 (λc hc=>decide_eq_true (h c hc).1)];exact(List.map_congr_left λc hc=>if_neg (h c hc).2).trans (List.map_id' l)
theorem Qf (v:Bs):(jW v).length<=v.length:=by
 unfold jW;rw[List.length_map];exact List.length_filter_le _ _
theorem AR {p:UInt8->Prop} (h: ∀n,n<256->p (UInt8.ofNat n)) (c:UInt8):p c:=by
 have:=h c.toNat c.toNat_lt;rwa[UInt8.ofNat_toNat]at this
theorem Qd {l:Bs} {c:UInt8} (h:c∈iE l):c∈l:=by
 unfold iE qV at h;have h1:=(Yn _).subset (qp.1 (rS.1 h).1);exact(Yn _).subset (qp.1 h1)
theorem Kt {c:UInt8} (h:dU c=true):(fH c).toNat≠0/\(fH c).toNat≠13:=by
 revert h;exact AR (p:=λc=>dU c=true->(fH c).toNat≠0/\(fH c).toNat≠13) (by decide+kernel) c
theorem XU {P:aO} {s u:Bs} (hs:bR s) (h:lZ P s=some u):bR u:=by
 have hc:bR (iE s):=hs.sub λc=>Qd;unfold lZ at h;split at h
 .next n r hq=>
  split at h
  .cases h;obtain⟨a,m,h1,h2,h3,_⟩:=DZ hq;rw[h1]at hc;refine bR.app ?_ (hc.sub λc h=>eK.2 (.inr h));rw[h2];intro c hcm;obtain⟨x,hx,rfl⟩:=jH.1 hcm;exact Kt (h3 x hx)
  .cases h
 .split at h
  .cases h;exact hc
  .cases h
theorem M3 {l:Bs} {c:UInt8} (h:c∈gQ l):c∈l:=by
 unfold gQ at h;exact qp.1 ((Yn _).subset (qp.1 h))
theorem Dp: ∀(n:Nat) (l:Bs),l.length<=n-> ∀p∈cO l,∀c∈p.url,c∈l:=by
 intro n;induction n with
 |zero=>intro l h p hp;obtain rfl:l=[]:=List.eq_nil_of_length_eq_zero om;simp[vX]at hp
 |succ n ih=>
  intro l h p hp x hx;cases l with
  |nil=>simp[vX]at hp
  |cons c r=>
   have hr:r.length<=n:=by simpa using h
   cases hs:dS c
   .have h1:=yS (r:=r) (xD hs);have hw: ∀y∈(c::r).takeWhile (λc=> !bB c),y∈c::r:=λy hy=>(List.takeWhile_sublist _).subset hy;have hd: ∀y∈(c::r).dropWhile (λc=> !bB c),y∈c::r:=λy hy=>(Yn _).subset hy;rw[vW hs]at hp;split at hp
    .rw[bJ]at hp;rcases hp with hp|hp
     .subst hp;exact hw x (M3 hx)
     .exact hd x (ih _ (bG h1 hr) p hp x hx)
    .rw[bJ]at hp;rcases hp with hp|hp
     .subst hp;exact hw x hx
     .have h2:(((c::r).dropWhile (λc=> !bB c)).drop (eX 0 ((c::r).dropWhile (λc=> !bB c)))).length<=r.length:=by rw[List.length_drop];omega
      exact hd x (List.mem_of_mem_drop (ih _ (bG h2 hr) p hp x hx))
   .rw[uF hs]at hp;exact fO _ (ih r hr p hp x hx)
theorem Q1 {c:UInt8} (h:xA c=true):c.toNat≠0/\c.toNat≠13:=by
 revert h;exact AR (p:=λc=>xA c=true->c.toNat≠0/\c.toNat≠13) (by decide+kernel) c
theorem WP {sep:Bs} (hs:bR sep): ∀l:List Bs,(∀t∈l,bR t)->bR (jJ sep l)
 |[],_=>bR.nil
 |[x],h=>h x (by simp)
 |x::y::r,h=>((h x (by simp)).app hs).app (WP hs (y::r) λt ht=>h t (fO _ ht))
theorem P4 {P:aO} {s:Bs} (hs:bR s):bR (mF (fF P (cO s))):=by
 unfold mF;refine WP (λc h=>by revert c;decide) _ λt ht=> ?_;obtain⟨p,hp,rfl⟩:=jH.1 ht;obtain⟨x,hx,ho,h1,h2⟩:=GB hp;have hu:bR p.url:=XU (hs.sub λc hc=>Dp _ s (bA _) x hx c hc) h1;unfold mP;split
 .exact hu
 .obtain⟨_,_,_,_,_,_,h6⟩:=UK ho;exact hu.app (bR.cons dc λc hc=>Q1 (RX h6 c hc))
theorem XK {c:UInt8} (h:bI c=true):c.toNat≠0/\c.toNat≠13:=by
 revert h;exact AR (p:=λc=>bI c=true->c.toNat≠0/\c.toNat≠13) (by decide+kernel) c
theorem MH {l:Bs} (h: ∀c∈l,bI c=true):bR (bO l):=by
 intro c hc;obtain⟨x,hx,rfl⟩:=jH.1 hc;exact XK (by rw[EX];exact h x hx)
theorem DK (p:UInt8->Bool) (l:Bs): ∀c∈l.take (aX p l),p c=true:=by
 rw[QA];exact dO.1 List.all_takeWhile
theorem YI {l:Bs} (h:l.all aQ=true):bR l:=by
 intro c hc;have:=dO.1 h c hc;revert this;exact AR (p:=λc=>aQ c=true->c.toNat≠0/\c.toNat≠13) (by decide+kernel) c
theorem Mh (n:Int):bR (gA n):=by
 rw[zY];refine bR.app ?_ (bR.app (YI (CL _ _).1) ?_)
 .unfold mR;split
  .exact bR.cons dc bR.nil
  .exact bR.nil
 .rw[FU];split
  .exact bR.nil
  .exact bR.cons dc (YI (FV _ (Nat.mod_lt _ dc)).1)
theorem K0 {U:Bs} (h:AI U):bR U:=by
 rcases h with rfl|rfl|⟨c,r,rfl,_,h2,_⟩
 .exact bR.nil
 .exact bR.cons dc bR.nil
 .exact λx hx=>XK (dO.1 h2 x hx)
theorem Cz {s:Bs} {x:aK} {n:Nat} (h:cJ s=(x,n)) (h7:x.kind≠7):bR (cE x):=by
 unfold cJ at h;cases hn:dW s
 .rw[hn]at h;simp only[gW,if_false]at h;cases hm:gH s with
  |some y=>
   rw[hm]at h;simp only at h;subst h;obtain⟨_,_,rfl|⟨_,_,h4,h5⟩⟩:=zN hm
   .exact absurd rfl h7
   .have hu:=K0 (PY _ h4);rw[h5];exact(Mh _).app hu
  |none=>
   rw[hm]at h;simp only at h;cases hq:gS s with
   |some y=>
    rw[hq]at h;simp only at h;subst h;obtain⟨c,r,rfl,_,_,rfl⟩:=BI hq;refine bR.cons dc (bR.app (λd hd=> ?_) (bR.cons dc bR.nil));have:=DK gG r d hd;simp only[gG,decide_eq_true_eq]at this;omega
   |none=>
    rw[hq]at h;simp only at h;cases s with
    |nil=>
     simp only[Prod.mk.injEq]at h;exact absurd (by rw[<-h.1];rfl) h7
    |cons c r=>
     simp only at h;split at h
     .simp only[Prod.mk.injEq]at h;obtain⟨rfl,rfl⟩:=h;unfold mH at h7 ⊢;split
      .next h8=>rw[if_pos h8]at h7;exact absurd rfl h7
      .exact bR.cons dc (MH (DK bI r))
     .split at h
      .next hk=>
       simp only[Prod.mk.injEq]at h;obtain⟨rfl,rfl⟩:=h;refine bR.cons ?_ bR.nil;exact AR (p:=λc=>rF c=true->c.toNat≠0/\c.toNat≠13) (by decide+kernel) c hk
      .simp only[Prod.mk.injEq]at h;exact absurd (by rw[<-h.1];rfl) h7
 .rw[hn]at h;simp only[if_true]at h;unfold lY at h;split at h
  .simp only[Prod.mk.injEq]at h;exact absurd (by rw[<-h.1];rfl) h7
  .split at h
   .simp only[Prod.mk.injEq]at h;obtain⟨rfl,rfl⟩:=h;exact bR.app (MH (DK bI s)) (bR.cons dc bR.nil)
   .simp only[Prod.mk.injEq]at h;obtain⟨rfl,rfl⟩:=h;exact MH (DK bI s)
theorem QL {x:aK} (h:cR x=true):bR (cE x):=Cz (KR h).2 (KT h).1
theorem WN: ∀l:List Bs,(∀t∈l,bR t)->bR (oX l)
 |[],_=>bR.nil
 |[x],h=>h x (by simp)
 |x::y::r,h=>(h x (by simp)).app (bR.cons dc (WN (y::r) λt ht=>h t (fO _ ht)))
theorem WM: ∀l:List Bs,(∀t∈l,bR t)->bR (oW l)
 |[],_=>bR.nil
 |[x],h=>h x (by simp)
 |x::y::r,h=>(h x (by simp)).app (bR.cons dc (bR.cons dc (WM (y::r) λt ht=>h t (fO _ ht))))
theorem N7 {d:bE} (h:eN d=true):bR (lJ d):=by
 unfold eN at h;simp only[Bool.and_eq_true]at h;obtain⟨⟨h1,_⟩,h3⟩:=h;unfold lJ;refine bR.app (bR.app (bR.app (QL h3) (bR.cons dc (bR.cons dc bR.nil))) (WN _ λt ht=> ?_)) ?_
 .obtain⟨x,hx,rfl⟩:=jH.1 ht;exact QL (dO.1 h1 x hx)
 .split
  .intro c hc;revert c;decide
  .exact bR.nil
theorem P5 (P:aO) (s:Bs):bR (mQ (iJ P s)):=by
 unfold mQ;refine WM _ λt ht=> ?_;obtain⟨d,hd,rfl⟩:=jH.1 ht;exact N7 (CG d hd).right
theorem N8 {P:aO} {name v u:Bs} (hv:bR v) (h:sY P name v=some u):bR u/\sY P name u=some u:=by
 unfold sY at h ⊢;split at h
 .next h1=>
  rw[if_pos h1];exact⟨XU hv h,(XR h).2.1⟩
 .next h1=>
  rw[if_neg h1];split at h
  .next h2=>
   rw[if_pos h2];split at h
   .cases h
   .next h3=>
    cases h;refine⟨P4 hv, ?_⟩;rw[Ly,Me,if_neg h3]
  .next h2=>
   rw[if_neg h2];split at h
   .next h3=>
    rw[if_pos h3];split at h
    .cases h
    .next h4=>
     cases h;refine⟨P5 P v, ?_⟩;rw[Lk,if_neg h4]
   .next h3=>
    cases h;rw[if_neg h3];exact⟨hv,rfl⟩
theorem J1 {P:aO} {tag name v u:Bs} (h:fK P tag name v=some u):sF P tag name=true/\(u.length:Int)<=P.value/\fK P tag name u=some u:=by
 unfold fK at h;split at h
 .next h1=>
  split at h
  .next w hw=>
   split at h
   .next h2=>
    cases h;obtain⟨h3,h4⟩:=N8 (Qc v) hw;refine⟨h1,h2, ?_⟩;unfold fK;rw[if_pos h1,Lt h3,h4];simp only;rw[if_pos h2]
   .cases h
  .cases h
 .cases h
theorem Ho {P:aO} {tag name:Bs} (h:sF P tag name=true):tO P tag name=true/\kC name=false/\(name.length:Int)<=P.name:=by
 unfold sF at h;simp only[Bool.and_eq_true,Bool.not_eq_true',decide_eq_true_eq]at h;exact⟨h.1.1,h.1.2,h.2⟩
theorem wA (P:aO) (tag:Bs): ∀(l:List (Bs × Bs)) (s:List Bs),∀a∈cH P tag s l,a.1∉s/\sF P tag a.1=true/\(a.2.length:Int)<=P.value/\fK P tag a.1 a.2=some a.2
 |[],_,a,h=>by cases h
 |b::r,s,a,h=>by
  rw[cH]at h;cases hv:fK P tag b.1 b.2 with
  |none=>rw[hv]at h;exact wA P tag r s a h
  |some v=>
   rw[hv]at h;simp only at h;by_cases hs:b.1∈s
   .rw[if_pos hs]at h;exact wA P tag r s a h
   .rw[if_neg hs]at h;rcases bJ.1 h with rfl|h
    .obtain⟨h1,h2,h3⟩:=J1 hv;exact⟨hs,h1,h2,h3⟩
    .obtain⟨h1,h2⟩:=wA P tag r _ a h;exact⟨λh3=>h1 (eK.2 (.inl h3)),h2⟩
theorem CA (P:aO) (tag:Bs): ∀(l:List (Bs × Bs)) (s:List Bs),(cH P tag s l).Pairwise (λx y=>x.1≠y.1)
 |[],_=>Yg.nil
 |b::r,s=>by
  rw[cH];cases hv:fK P tag b.1 b.2 with
  |none=>exact CA P tag r s
  |some v=>
   simp only;by_cases hs:b.1∈s
   .rw[if_pos hs];exact CA P tag r s
   .rw[if_neg hs];refine Yg.cons (λa ha=> ?_) (CA P tag r _);have:=(wA P tag r _ a ha).1;exact λe=>this (eK.2 (.inr (fW.2 (by simpa using e.symm))))
theorem WH (P:aO) (tag:Bs): ∀(l:List (Bs × Bs)) (s:List Bs),(∀a∈l,a.1∉s/\fK P tag a.1 a.2=some a.2)->l.Pairwise (λx y=>x.1≠y.1)->cH P tag s l=l
 |[],_,_,_=>rfl
 |b::r,s,h,hp=>by
  obtain⟨h1,h2⟩:=h b (by simp);rw[List.pairwise_cons]at hp;rw[cH,h2];simp only;rw[if_neg h1,WH P tag r (s++[b.1]) (λa ha=>⟨λhm=> ?_,(h a (by simp[ha])).2⟩) hp.2];rcases eK.1 hm with hm|hm
  .exact(h a (by simp[ha])).1 hm
  .exact hp.1 a ha (fW.1 hm).symm
theorem Lw (P:aO) (tag:Bs) (l:List (Bs × Bs)):dB P tag (dB P tag l)=dB P tag l:=by
 by_cases ht:eW P tag=true
 .obtain⟨F,hF⟩: ∃F,cM P tag=F:=⟨_,rfl⟩;unfold dB;rw[if_pos ht,if_pos ht,hF,xO,WH P tag _ _ (λa ha=>⟨(wA P tag l _ a ha).1,(wA P tag l _ a ha).2.2.2⟩) (CA P tag l _),FL P tag F (bT F++bT (cH P tag (bT F) l)) (λa ha _=>eK.2 (.inl (jH.2 ⟨a,ha,rfl⟩))),bV]
 .unfold dB;rw[if_neg ht,if_neg ht]
theorem EE {p:aO} (h:mO p=0) {t:Bs} {x:Bs × Bs} (hx:x∈cM p t):(x.1.length:Int)<=p.name:=by
 obtain⟨_,_,_,_,h5,_⟩:=OQ h;unfold cM at hx;obtain⟨f,hf,rfl⟩:=jH.1 hx;have a3:=GQ h5 (rS.1 hf).1;unfold tF at a3;simp only[Bool.or_eq_false_iff,decide_eq_false_iff_not]at a3;simp only;omega
theorem Ma {P:aO} {tag:Bs} {l:List (Bs × Bs)} (h:mO P=0) {a:Bs × Bs} (ha:a∈dB P tag l):eW P tag=true/\(a∈cM P tag\/tO P tag a.1=true)/\kC a.1=false/\(a.1.length:Int)<=P.name/\(a.2.length:Int)<=P.value:=by
 unfold dB at ha;split at ha
 .next ht=>
  rcases eK.1 ha with ha|ha
  .obtain⟨_,h1,h2,_⟩:=wA P tag l _ a ha;obtain⟨h3,h4,h5⟩:=Ho h1;exact⟨ht,.inr h3,h4,h5,h2⟩
  .obtain⟨_,h2,h3⟩:=Ad h ha;exact⟨ht,.inl ha,h2,EE h ha,h3⟩
 .cases ha
theorem Mc {P:aO} (hr:gZ P=true) (tag:Bs) (l:List (Bs × Bs)):(dB P tag l).Pairwise (λx y=>x.1≠y.1):=by
 unfold dB;split
 .rw[List.pairwise_append];refine⟨CA P tag l _,(La hr tag).imp λ{x y} hxy e=> ?_,λa ha b hb e=>(wA P tag l _ a ha).1 (jH.2 ⟨b,hb,e.symm⟩)⟩;rw[e,tH]at hxy;cases hxy
 .exact Yg.nil
open Go.RowKit Go.Shelf
theorem UT {α:Type} [DecidableEq α]: ∀(l m:List α),l.Nodup->(∀x∈l,x∈m)->l.length<=m.length
 |[],_,_,_=>Nat.zero_le _
 |x::r,m,h,hs=>by
  rw[List.nodup_cons]at h;have h1:=UT r (m.erase x) h.2 λy hy=>(List.mem_erase_of_ne λe=>h.1 (by rw[<-e];exact hy)).2 (hs y (fO _ hy));have h2:=List.length_erase_of_mem (hs x fX);have h3:=List.length_pos_of_mem (hs x fX);rw[aY];omega
theorem Lj (P:aO) (s:Bs):(iJ P s).length<=P.css.length*2:=by
 have h:=UT ((iJ P s).map λd=>(d.name,d.imp)) (P.css.flatMap λn=>[(n,true),(n,false)]) ?_ ?_
 .rw[List.length_map]at h;have key: ∀l:List Bs,(l.flatMap λn=>[(n,true),(n,false)]).length=l.length*2:=λl=>by
   induction l with
   |nil=>rfl
   |cons a r ih=>rw[iF,aZ,ih,aY,aY,aY,List.length_nil];omega
  rw[key]at h;exact h
 .rw[List.Nodup,List.pairwise_map,List.pairwise_iff_getElem];intro i j hi hj hij e;have h1:=ML (lA P (gI (bU s))) j i hj hij;have h2:gT (iJ P s)[i] (iJ P s)[j]=true:=by
   unfold gT;rw[Prod.mk.injEq]at e;rw[e.1,e.2];simp
  exact Yh (h1.symm.trans h2)
 .intro x hx;obtain⟨d,hd,rfl⟩:=jH.1 hx;have h1:=(CG d hd).css;unfold xU at h1;rw[decide_eq_true_eq]at h1;refine List.mem_flatMap.2 ⟨d.name,h1, ?_⟩;cases d.imp<;>simp
theorem Dw {s:Bs} (h:s.length<=65536):(gI (bU s)).length<=65537/\ ∀d∈gI (bU s),rM d:=by
 refine⟨bG (Oe s) om,λd hd=> ?_⟩;obtain⟨_,p2,p3⟩:=TZ hd;have hl:(bU s).length<=s.length:=EC _ s (Nat.lt_succ_self _);have hvl:d.value.length<=s.length:=by
  unfold gI at hd;obtain⟨p,hp,hpd⟩:=List.mem_filterMap.1 hd;have h5:=(EO (bU s) 0).2 p hp;have h6:=Oi hpd;omega
 refine⟨λx hx=> ?_,by omega, ?_⟩
 .have:=SA _ s x (p2 x hx);exact⟨this.1,by have:=this.2.1;omega,by have:=this.2.2;omega⟩
 .have:=(SA _ s _ p3).2.1;simp only at this;omega
theorem Ow (s old:ByteArray) (h:1<=old.size):Lib.countB s old<=s.size:=Lib.countB_le old h s.size s (bA _)
theorem ZD (v:Bs) (w:World) (hx:Mx w) (hm:v.length<=1000000):Calls aE 17 #[aD ⟨v.toArray⟩] w (aH (aD ⟨(jW v).toArray⟩) w):=by
 have hsz:(⟨v.toArray⟩:ByteArray).size=v.length:=rfl;have HX:=aA (λW (hb:Below w.heap.size w W)=>Mx.below hx hb);have h1: ∃m,Calls aE 25 #[aD ⟨v.toArray⟩,aD ⟨#[0]⟩,aD ⟨#[]⟩] w (aH (aD ⟨(qR v [0] []).toArray⟩) w)/\m=0:=by
  obtain⟨m,hm1⟩:=hx;exact⟨0,(Tryz.strings_ReplaceAll ⟨v.toArray⟩ ⟨#[0]⟩ ⟨#[]⟩ m w om hm1 dc (by show _+_*0<=_;omega)).mono λe w' ⟨he,hb⟩=>by subst he;exact aH.of rfl hb,rfl⟩
 obtain⟨_,H1,_⟩:=h1;have HR1:=aA H1;have hl:=Bl v;have HR2:=aA (λW (hb:Below w.heap.size w W)=>show Calls aE 25 #[aD ⟨(qR v [0] []).toArray⟩,aD ⟨#[13]⟩,aD ⟨#[10]⟩] W (aH (aD ⟨(jW v).toArray⟩) W)from by
  obtain⟨m,hm1⟩:=HX.out W hb;have hz:(⟨(qR v [0] []).toArray⟩:ByteArray).size=(qR v [0] []).length:=rfl;have hc:=Ow ⟨(qR v [0] []).toArray⟩ ⟨#[13]⟩ dc;refine(Tryz.strings_ReplaceAll ⟨(qR v [0] []).toArray⟩ ⟨#[13]⟩ ⟨#[10]⟩ m W om hm1 dc (by show _+_*1<=_;omega)).mono λe w' ⟨he,hb⟩=> ?_;subst he;rw[<-Qa];exact aH.of rfl hb)
 generalize(⟨(qR v [0] []).toArray⟩:ByteArray)=R1 at*;generalize(⟨(jW v).toArray⟩:ByteArray)=R2 at*;generalize(⟨v.toArray⟩:ByteArray)=V at*;clear H1 hsz hm hx hl HX;go_enter Tryz.func17,Tryz.ntmps17;go_wp2_with(first
  |(go_at_call 25;(with_reducible refine HR1.out.mono ?_);rintro e V1 ⟨rfl,Y1,rfl⟩)
  |(go_at_call 25;(with_reducible refine zF (HR2.out _ aG) λY2=>?_)))
 go_ret;exact aH.of rfl aG
theorem XS (R:Option Bs): ∃ts tb,sI R=aN #[.string ts,aI tb]:=by cases R<;>exact⟨_,_,rfl⟩
theorem N9 (g:Nat) (P:aO) (name v:Bs) (w:World) (hr:gB w g P) (hC:P.css.length<=200) (hU:U8 w) (hw:Tb w) (hx:Mx w) (hv:v.length<=65536):
  Calls aE 21 #[aM (some ⟨g,0,none⟩),aD ⟨name.toArray⟩,aD ⟨v.toArray⟩] w (aH (sI (sY P name v)) w):=by
 have h1:((⟨name.toArray⟩:ByteArray).toList==[115,114,99,115,101,116])=decide (name=KH):=by rw[ByteArray.toList_eq,Bool.eq_iff_iff];exact beq_iff_eq.trans decide_eq_true_iff.symm
 have h2:((⟨name.toArray⟩:ByteArray).toList==[115,116,121,108,101])=decide (name=JW):=by rw[ByteArray.toList_eq,Bool.eq_iff_iff];exact beq_iff_eq.trans decide_eq_true_iff.symm
 have HHo:=aA (λW=>show Calls aE 35 #[aD ⟨name.toArray⟩] W (aH (aI (CC name)) W)from Ki name W);obtain⟨R,hR⟩: ∃R,sY P name v=R:=⟨_,rfl⟩;obtain⟨ts,tb,hts⟩:=XS R;rw[hR,hts];unfold sY at hR;cases hh:CC name
 .rw[hh,if_neg Yh]at hR;rw[hh]at HHo;by_cases hs:name=KH
  .rw[if_pos hs]at hR;rw[decide_eq_true hs]at h1;have HP:=aA (λW (hb:Below w.heap.size w W)=>show Calls aE 37 #[aM (some ⟨g,0,none⟩),aD ⟨v.toArray⟩] W (aH (aN #[.string ts,aI tb]) W)from by
    have h:=Lv g P v W (hr.below hb) (hU.below hb) om (λp hp=>by have:=Dm 65536 v hv p hp;omega) (by have:=Dq _ v (bA _);omega);have e:aN #[aD ⟨(mF (fF P (cO v))).toArray⟩,aI (decide (0<(fF P (cO v)).length))]=aN #[.string ts,aI tb]:=by
     rw[<-hts,<-hR];by_cases hn:fF P (cO v)=[]
     .rw[if_pos hn,hn];rfl
     .rw[if_neg hn,decide_eq_true (pN.2 hn)];rfl
    rw[e]at h;exact h)
   generalize(⟨name.toArray⟩:ByteArray)=NB at*;generalize(⟨v.toArray⟩:ByteArray)=VB at*;clear hR hts hs hh h2 hr hU hw hx hv hC;go_enter Tryz.func21,zg;go_wp2_with(first
    |(go_at_call 35;(with_reducible refine zG (HHo.out _) λY1=>?_))
    |(go_at_call 37;(with_reducible refine zF (HP.out _ aG) λY2=>?_)))
   go_ret2;exact aH.of rfl aG
  .rw[if_neg hs]at hR;rw[decide_eq_false hs]at h1;by_cases hs2:name=JW
   .rw[if_pos hs2]at hR;rw[decide_eq_true hs2]at h2;have HP:=aA (λW (hb:Below w.heap.size w W)=>show Calls aE 38 #[aM (some ⟨g,0,none⟩),aD ⟨v.toArray⟩] W (aH (aN #[.string ts,aI tb]) W)from by
     have hp:=Dw hv;have h:=Lu g P v W (hr.below hb) (Tb.below hw hb) (Mx.below hx hb) om hp.2 (by have:=hp.1;omega) (by have:=Lj P v;omega);have e:aN #[aD ⟨(mQ (iJ P v)).toArray⟩,aI (decide (0<(iJ P v).length))]=aN #[.string ts,aI tb]:=by
      rw[<-hts,<-hR];by_cases hn:iJ P v=[]
      .rw[if_pos hn,hn];rfl
      .rw[if_neg hn,decide_eq_true (pN.2 hn)];rfl
     rw[e]at h;exact h)
    generalize(⟨name.toArray⟩:ByteArray)=NB at*;generalize(⟨v.toArray⟩:ByteArray)=VB at*;clear hR hts hs hs2 hh hr hU hw hx hv hC;go_enter Tryz.func21,zg;go_wp2_with(first
     |(go_at_call 35;(with_reducible refine zG (HHo.out _) λY1=>?_))
     |(go_at_call 38;(with_reducible refine zF (HP.out _ aG) λY2=>?_)))
    go_ret2;exact aH.of rfl aG
   .rw[if_neg hs2]at hR;rw[decide_eq_false hs2]at h2;have e:aN #[aD ⟨v.toArray⟩,aI true]=aN #[.string ts,aI tb]:=by rw[<-hts,<-hR];rfl
    rw[<-e];generalize(⟨name.toArray⟩:ByteArray)=NB at*;generalize(⟨v.toArray⟩:ByteArray)=VB at*;clear hR hts hs hs2 hh hr hU hw hx hv hC e;go_enter Tryz.func21,zg;go_wp2_with(go_at_call 35;(with_reducible refine zG (HHo.out _) λY1=>?_))
    go_ret2;exact aH.of rfl aG
 .rw[hh,if_pos rfl]at hR;rw[hh]at HHo;have HP:=aA (λW (hb:Below w.heap.size w W)=>show Calls aE 36 #[aM (some ⟨g,0,none⟩),aD ⟨v.toArray⟩] W (aH (aN #[.string ts,aI tb]) W)from by
   rw[<-hts,<-hR];exact XQ g P ⟨v.toArray⟩ W (hr.below hb) (hU.below hb) (by show v.length<=_;omega))
  generalize(⟨name.toArray⟩:ByteArray)=NB at*;generalize(⟨v.toArray⟩:ByteArray)=VB at*;clear hR hts hh h1 h2 hr hU hw hx hv hC;go_enter Tryz.func21,zg;go_wp2_with(first
   |(go_at_call 35;(with_reducible refine zG (HHo.out _) λY1=>?_))
   |(go_at_call 36;(with_reducible refine zF (HP.out _ aG) λY2=>?_)))
  go_ret2;exact aH.of rfl aG
theorem I3 {P:aO} {tag name v:Bs} (h:sF P tag name=true):fK P tag name v=match sY P name (jW v)with
  |some u=>if(u.length:Int)<=P.value then some u else none
  |none=>none:=if_pos h
theorem I2 {P:aO} {tag name v:Bs} (h:sF P tag name=false):fK P tag name v=none:=if_neg (by rw[h];exact Yh)
theorem PU (g:Nat) (P:aO) (tag name v:Bs) (w:World) (hr:gB w g P) (hC:P.css.length<=200) (hU:U8 w) (hw:Tb w) (hx:Mx w) (ht:tag.length<=65536) (hn:name.length<=65536) (hv:v.length<=65536):
  Calls aE 11 #[aM (some ⟨g,0,none⟩),aD ⟨tag.toArray⟩,aD ⟨name.toArray⟩,aD ⟨v.toArray⟩] w (aH (sI (fK P tag name v)) w):=by
 have hmx:=bX;have HL:=aA (VP g P w hr);have HA:=aA (λW (hb:Below w.heap.size w W)=>show Calls aE 15 #[aM (some ⟨g,0,none⟩),aD ⟨tag.toArray⟩,aD ⟨name.toArray⟩] W (aH (aI (tO P tag name)) W)from ZM g P tag name W (hr.below hb) (by unfold maxLen;omega) (by unfold maxLen;omega));have HUn:=aA (λW=>show Calls aE 16 #[aD ⟨name.toArray⟩] W (aH (aI (kC name)) W)from DJ name W);have HCl:=aA (λW (hb:Below w.heap.size w W)=>ZD v W (Mx.below hx hb) om);have hcl:=Qf v;have HTo:=aA (λW (hb:Below w.heap.size w W)=>N9 g P name (jW v) W (hr.below hb) hC (hU.below hb) (Tb.below hw hb) (Mx.below hx hb) om);have hns:(⟨name.toArray⟩:ByteArray).size=name.length:=rfl;have HM:Hid (∀b,sF P tag name=b->b=false->fK P tag name v=none):=λb h1 h2=>I2 (h1.trans h2);have HV:Hid (sF P tag name=true->fK P tag name v=match sY P name (jW v)with
  |some u=>if(u.length:Int)<=P.value then some u else none
  |none=>none):=I3
 have HMe:Hid (sF P tag name=(tO P tag name&& !kC name&&decide ((name.length:Int)<=P.name))):=rfl;clear hr hC hU hw hx ht hv hcl;cases ha:tO P tag name
 .have HN:Hid (fK P tag name v=none):=HM.out _ rfl (by rw[HMe.out,ha];rfl);rw[ha]at HA;rw[HN.out];generalize(⟨name.toArray⟩:ByteArray)=NB at*;generalize(⟨v.toArray⟩:ByteArray)=VB at*;generalize(⟨tag.toArray⟩:ByteArray)=TG at*;clear HM HV HMe HN HTo HCl HUn ha hns hn;go_enter jy,jh;go_wp2_with(first
   |(go_at_call 14;(with_reducible refine HL.out.mono ?_);rintro e V1 ⟨rfl,Y1,rfl⟩)
   |(go_at_call 15;(with_reducible refine zF (HA.out _ aG) λY2=>?_)))
  go_ret2;exact aH.of rfl aG
 rw[ha]at HA;cases hu:kC name;rotate_left
 .have HN:Hid (fK P tag name v=none):=HM.out _ rfl (by rw[HMe.out,ha,hu];rfl);rw[hu]at HUn;rw[HN.out];generalize(⟨name.toArray⟩:ByteArray)=NB at*;generalize(⟨v.toArray⟩:ByteArray)=VB at*;generalize(⟨tag.toArray⟩:ByteArray)=TG at*;clear HM HV HMe HN HTo HCl ha hu hns hn;go_enter jy,jh;go_wp2_with(first
   |(go_at_call 14;(with_reducible refine HL.out.mono ?_);rintro e V1 ⟨rfl,Y1,rfl⟩)
   |(go_at_call 15;(with_reducible refine zF (HA.out _ aG) λY2=>?_))
   |(go_at_call 16;(with_reducible refine zF (HUn.out _) λY3=>?_)))
  go_ret2;exact aH.of rfl aG
 rw[hu]at HUn;by_cases hl:(name.length:Int)<=P.name;rotate_left
 .have HN:Hid (fK P tag name v=none):=HM.out _ rfl (by rw[HMe.out,ha,hu,decide_eq_false hl];rfl);have bl:decide (P.name<(name.length:Int))=true:=by rw[decide_eq_true_eq];omega
  rw[HN.out];rw[<-hns]at bl;generalize(⟨name.toArray⟩:ByteArray)=NB at*;generalize(⟨v.toArray⟩:ByteArray)=VB at*;generalize(⟨tag.toArray⟩:ByteArray)=TG at*;clear HM HV HMe HN HTo HCl ha hu hns hl hn;go_enter jy,jh;go_wp2_with(first
   |(go_at_call 14;(with_reducible refine HL.out.mono ?_);rintro e V1 ⟨rfl,Y1,rfl⟩)
   |(go_at_call 15;(with_reducible refine zF (HA.out _ aG) λY2=>?_))
   |(go_at_call 16;(with_reducible refine zF (HUn.out _) λY3=>?_)))
  go_ret2;exact aH.of rfl aG
 have hmay:sF P tag name=true:=by rw[HMe.out,ha,hu,decide_eq_true hl];rfl
 have hval:=HV.out hmay;have bl:decide (P.name<(name.length:Int))=false:=by rw[decide_eq_false_iff_not];omega
 rw[<-hns]at bl;clear HM HV HMe ha hu hl hmay hns hn;cases hR:sY P name (jW v)with
 |none=>
  rw[hR]at hval;simp only at hval;have HTn:=aA (λW hb=>show Calls aE 21 #[aM (some ⟨g,0,none⟩),aD ⟨name.toArray⟩,aD ⟨(jW v).toArray⟩] W (aH (aN #[aD ⟨#[]⟩,aI false]) W)from by
   have h:=HTo.out W hb;rw[hR]at h;exact h)
  rw[hval];generalize(⟨(jW v).toArray⟩:ByteArray)=CB at*;generalize(⟨name.toArray⟩:ByteArray)=NB at*;generalize(⟨v.toArray⟩:ByteArray)=VB at*;generalize(⟨tag.toArray⟩:ByteArray)=TG at*;clear hval hR HTo;go_enter jy,jh;go_wp2_with(first
   |(go_at_call 14;(with_reducible refine HL.out.mono ?_);rintro e V1 ⟨rfl,Y1,rfl⟩)
   |(go_at_call 15;(with_reducible refine zF (HA.out _ aG) λY2=>?_))
   |(go_at_call 16;(with_reducible refine zF (HUn.out _) λY3=>?_))
   |(go_at_call 17;(with_reducible refine zF (HCl.out _ aG) λY4=>?_))
   |(go_at_call 21;(with_reducible refine zF (HTn.out _ aG) λY5=>?_)))
  go_ret2;exact aH.of rfl aG
 |some u=>
  rw[hR]at hval;simp only at hval;have HTn:=aA (λW hb=>show Calls aE 21 #[aM (some ⟨g,0,none⟩),aD ⟨name.toArray⟩,aD ⟨(jW v).toArray⟩] W (aH (aN #[aD ⟨u.toArray⟩,aI true]) W)from by
   have h:=HTo.out W hb;rw[hR]at h;exact h)
  have hus:(⟨u.toArray⟩:ByteArray).size=u.length:=rfl;by_cases hc:(u.length:Int)<=P.value
  .have bc:decide (P.value<(u.length:Int))=false:=by rw[decide_eq_false_iff_not];omega
   rw[if_pos hc]at hval;rw[<-hus]at bc;rw[hval,show sI (some u)=aN #[aD ⟨u.toArray⟩,aI true]from rfl];generalize(⟨u.toArray⟩:ByteArray)=UB at*;generalize(⟨(jW v).toArray⟩:ByteArray)=CB at*;generalize(⟨name.toArray⟩:ByteArray)=NB at*;generalize(⟨v.toArray⟩:ByteArray)=VB at*;generalize(⟨tag.toArray⟩:ByteArray)=TG at*;clear hval hR HTo hus hc;go_enter jy,jh;go_wp2_with(first
    |(go_at_call 14;(with_reducible refine HL.out.mono ?_);rintro e V1 ⟨rfl,Y1,rfl⟩)
    |(go_at_call 15;(with_reducible refine zF (HA.out _ aG) λY2=>?_))
    |(go_at_call 16;(with_reducible refine zF (HUn.out _) λY3=>?_))
    |(go_at_call 17;(with_reducible refine zF (HCl.out _ aG) λY4=>?_))
    |(go_at_call 21;(with_reducible refine zF (HTn.out _ aG) λY5=>?_)))
   go_ret2;exact aH.of rfl aG
  .have bc:decide (P.value<(u.length:Int))=true:=by rw[decide_eq_true_eq];omega
   rw[if_neg hc]at hval;rw[<-hus]at bc;rw[hval];generalize(⟨u.toArray⟩:ByteArray)=UB at*;generalize(⟨(jW v).toArray⟩:ByteArray)=CB at*;generalize(⟨name.toArray⟩:ByteArray)=NB at*;generalize(⟨v.toArray⟩:ByteArray)=VB at*;generalize(⟨tag.toArray⟩:ByteArray)=TG at*;clear hval hR HTo hus hc;go_enter jy,jh;go_wp2_with(first
    |(go_at_call 14;(with_reducible refine HL.out.mono ?_);rintro e V1 ⟨rfl,Y1,rfl⟩)
    |(go_at_call 15;(with_reducible refine zF (HA.out _ aG) λY2=>?_))
    |(go_at_call 16;(with_reducible refine zF (HUn.out _) λY3=>?_))
    |(go_at_call 17;(with_reducible refine zF (HCl.out _ aG) λY4=>?_))
    |(go_at_call 21;(with_reducible refine zF (HTn.out _ aG) λY5=>?_)))
   go_ret2;exact aH.of rfl aG
open Go.WideMaps (KeyLaw)
theorem Rd.pr {w:World} {A:Option Addr} {m c:Nat} {l:List (Bs × Bs)} (h:Rd w (aF A m c) l.length 2 (l.flatMap eA)) (k:Nat) (hk:k<l.length):
  ∃b off,A=some ⟨b,off,none⟩/\b<w.heap.size/\w.cell? ⟨b,off+k*2,none⟩=some (sv l[k].1)/\w.cell? ⟨b,off+k*2+1,none⟩=some (sv l[k].2):=by
 obtain⟨b,off,rfl,hb,hc⟩:=Rd.flat (n:=2) (cells:=eA) (λ_=>rfl) h k hk;exact⟨b,off,rfl,hb,hc 0 _ om rfl,hc 1 _ om rfl⟩
def jE (W:World) (b:Nat) (ks:List Bs):Prop:= ∃R,fM aE 9 W b R/\ ∀t,(∃u,R (sv t) u)↔t∈ks
theorem jE.new {W:World} {b:Nat} (h:W.heap[b]? =some (.map #[] 0)):jE W b []:=⟨λ_ _=>False,fM.new h (λ_ _ h=>h),λt=>by simp⟩
theorem jE.kept {W W':World} {b:Nat} {ks:List Bs} (h:jE W b ks) (hb:W'.heap[b]? =W.heap[b]?):jE W' b ks:=by
 obtain⟨R,h1,h2⟩:=h;exact⟨R,h1.kept hb,h2⟩
theorem jE.lt {W:World} {b:Nat} {ks:List Bs} (h:jE W b ks):b<W.heap.size:=by
 obtain⟨R,h1,_⟩:=h;exact h1.lt
theorem jE.below {W W':World} {b:Nat} {ks:List Bs} (h:jE W b ks) (hb:Below W.heap.size W W'):jE W' b ks:=h.kept (hb.block b h.lt)
theorem jE.put {W:World} {b:Nat} {ks:List Bs} {R:Value->Value->Prop} {t:Bs} {val:Value} (h: ∀t,(∃u,R (sv t) u)↔t∈ks) (hm:fM aE 9 W b (vV R (sv t) val)):jE W b (ks++[t]):=by
 refine⟨_,hm,λx=> ?_⟩;rw[eK,fW,<-h x];unfold vV;constructor
 .rintro⟨u,⟨h1,_⟩|⟨_,h2⟩⟩
  .exact .inr (yV h1)
  .exact .inl ⟨u,h2⟩
 .rintro(⟨u,h2⟩|rfl)
  .by_cases hx:sv x=sv t
   .exact⟨val,.inl ⟨hx,rfl⟩⟩
   .exact⟨u,.inr ⟨hx,h2⟩⟩
  .exact⟨val,.inl ⟨rfl,rfl⟩⟩
theorem jE.look {W:World} {b:Nat} {ks:List Bs} (h:jE W b ks) (t:Bs) (ht:t.length<=maxLen): ∃u,(Instr.lookup 53 (.map (some b)) (sv t) true).run aE W= .ok (aN #[u,aI (decide (t∈ks))]) W:=by
 obtain⟨R,h1,h2⟩:=h;have hz:(zeroValue 3).run aE W= .ok (aB aC 0) W:=by kernel_rfl
 by_cases hm:t∈ks
 .obtain⟨u,hu⟩:=(h2 t).2 hm;rw[decide_eq_true hm];exact⟨u,(h1.look vO Xv hz (vP ht) hu).1⟩
 .rw[decide_eq_false hm];exact⟨_,(h1.lacks vO Xv hz (vP ht) λu hu=>hm ((h2 t).1 ⟨u,hu⟩)).1⟩
theorem l9 {s k:List Bs} {x:Bs}:s++(k++[x])=(s++k)++[x]:=(cY ..).symm
theorem WG {P:aO} {tag:Bs} {l:List (Bs × Bs)} {s:List Bs} {k:Nat} (h:k<l.length):cH P tag s (l.take (k+1))=cH P tag s (l.take k)++(match fK P tag l[k].1 l[k].2 with
  |some v=>if l[k].1∈s++bT (cH P tag s (l.take k))then []else [(l[k].1,v)]
  |none=>[]):=by
 rw[jG h,Jc]
theorem VA (a b:List (Bs × Bs)):bT (a++b)=bT a++bT b:=List.map_append
structure sU (Wf:World) (b:Nat) (F K:List (Bs × Bs)) (v:Value) (W:World):Prop where
 below:Below Wf.heap.size Wf W
 seen:jE W b (bT F++bT K)
 row:W.ownsRow (b+1) 34 2 v K.length (K.flatMap eA)
theorem sU.next {Wf W W':World} {b:Nat} {F K:List (Bs × Bs)} {v:Value} (h:sU Wf b F K v W) (hb:Below W.heap.size W W'):sU Wf b F K v W':=by
 obtain⟨h1,h2,h3⟩:=h;exact⟨aP h1 hb,h2.below hb,zK h3 hb⟩
theorem sU.more {Wf W V W':World} {b:Nat} {F K:List (Bs × Bs)} {v v':Value} {x:Bs × Bs} {o:Obj} {n:Nat} {val:Value} {R:Value->Value->Prop} (h:sU Wf b F K v W) (hb:Wf.heap.size<=b) (hR: ∀t,(∃u,R (sv t) u)↔t∈bT F++bT K)
  (hm:fM aE 9 V b (vV R (sv x.1) val)) (hg:W.grownBy V (some b)) (hg2:(V.alloc o).grownBy W' v.ownBlock) (ho:W'.ownsRow (b+1) 34 2 v' n (K.flatMap eA++eA x)) (hn:n=K.length+1):sU Wf b F (K++[x]) v' W':=by
 obtain⟨h1,h2,h3⟩:=h;have hvb: ∀k,v.ownBlock=some k->b+1<=k/\k<W.heap.size:=h3.lt;have hbV:b<V.heap.size:=hm.lt;have hsm:=jE.put hR hm;have hb2:W'.heap[b]? =V.heap[b]? :=by
  rw[hg2.block b (by simp;omega) (λe=>by have:=(hvb b e.symm).1;omega)];exact(((aJ.refl (λ_=>False) V).alloc o).block b hbV (λe=>e))
 have hWV:=GM h1 hg hb h1.size;refine⟨?_, ?_, ?_⟩
 .refine hWV.trans ⟨hg2.os,hg2.tape,hg2.output, ?_,λk hk=> ?_⟩
  .have:=hg2.size;simp at this;omega
  .have hs:=hWV.size;rw[hg2.block k (by simp;omega) (λe=>by have:=(hvb k e.symm).1;omega)];exact(((aJ.refl (λ_=>False) V).alloc o).block k om (λe=>e))
 .rw[VA,show bT [x]=[x.1]from rfl,l9];exact hsm.kept hb2
 .rw[nL,List.flatMap_singleton,aZ,List.length_singleton,<-hn];exact ho
theorem CJ (g:Nat) (P:aO) (tag:Bs) (A:Option Addr) (n c:Nat) (l:List (Bs × Bs)) (w:World) (hr:gB w g P) (hC:P.css.length<=200) (hFo:P.forces.length<=200) (hU:U8 w) (hw:Tb w) (hx:Mx w) (ht:tag.length<=65536) (h:Rd w (aF A n c) l.length 2 (l.flatMap eA)) (hl: ∀a∈l,a.1.length<=65536/\a.2.length<=65536) (hk:l.length<=1000000) (hf: ∀a∈cM P tag,a.1.length<=65536):
  Calls aE 9 #[aM (some ⟨g,0,none⟩),aD ⟨tag.toArray⟩,aF A n c] w (sR w (dB P tag l)):=by
 have hmm:= @run_makeMap aE;have hn0:l.length=n:=by obtain⟨_,_,_,_,he,_⟩:=h;cases he;rfl
 subst hn0;have HT:=aA (show Calls aE 12 #[aM (some ⟨g,0,none⟩),aD ⟨tag.toArray⟩] w (aH (aI (eW P tag)) w)from yT g P tag w hr (by unfold maxLen;omega));cases htg:eW P tag
 .have hF:dB P tag l=[]:=by unfold dB;rw[htg];rfl
  rw[htg]at HT;rw[hF];generalize(⟨tag.toArray⟩:ByteArray)=TG at*;clear h hl hr hU hw hx;go_enter Tryz.func9,Tryz.ntmps9;go_wp2_with(go_at_call 12;(with_reducible refine HT.out.mono ?_);rintro e V1 ⟨rfl,Y1,rfl⟩)
  go_ret;exact⟨none,0,rfl,aG,λ_=>rfl,bA _,Rd.nil _ _⟩
 have hF:dB P tag l=cH P tag (bT (cM P tag)) l++cM P tag:=if_pos htg;rw[htg]at HT;rw[hF];have HFo:=aA (λW (hb:Below w.heap.size w W)=>show Calls aE 10 #[aM (some ⟨g,0,none⟩),aD ⟨tag.toArray⟩] W (sR W (cM P tag))from FX g P tag W (hr.below hb) (by unfold maxLen;omega) hFo);have HVa:=aA (λ(a:Bs × Bs) (ha:a∈l) W (hb:Below w.heap.size w W)=>show Calls aE 11 #[aM (some ⟨g,0,none⟩),aD ⟨tag.toArray⟩,aD ⟨a.1.toArray⟩,aD ⟨a.2.toArray⟩] W (aH (sI (fK P tag a.1 a.2)) W)from PU g P tag a.1 a.2 W (hr.below hb) hC (hU.below hb) (Tb.below hw hb) (Mx.below hx hb) ht (hl a ha).1 (hl a ha).2);have hfl:(cM P tag).length<=200:=by unfold cM;rw[List.length_map];exact bG (List.length_filter_le _ _) hFo
 generalize cM P tag=F at*;generalize(⟨tag.toArray⟩:ByteArray)=TG at*;have HIn:=aA h;have HL:=aA hl;have HFl:=aA hf;clear h hl hr hU hw hx hF htg hC hFo hf;go_enter Tryz.func9,Tryz.ntmps9;go_upto_region 4 with(first
  |(go_at_call 12;(with_reducible refine HT.out.mono ?_);rintro e V1 ⟨rfl,Y1,rfl⟩)
  |(go_at_call 10;(with_reducible refine(HFo.out _ aG).mono ?_);rintro e Wf ⟨A1,c1,rfl,hb1,hn1,hc1,hr1⟩;have HBf:=aA (show Below w.heap.size w Wf from aP (show Below w.heap.size w _ from aG) hb1);have HN1:=aA hn1;have HR1:=aA hr1;clear hb1 hn1 hr1))
 obtain⟨b,hb⟩: ∃b,Wf.heap.size=b:=⟨_,rfl⟩;go_upto_region 5 with fail
 refine dL λW0 hW0=> ?_;have HB0:Hid (Below Wf.heap.size Wf W0):=by show Below _ _ _;rw[hW0];exact aG
 have HM0:Hid (jE W0 b (bT (F.take 0))):=by
  show jE _ _ _;rw[hW0];exact jE.new (by rw[<-hb];exact heap_alloc_new Wf _)
 have hs0:W0.heap.size=b+1:=by rw[hW0,<-hb];simp
 clear hW0;go_wp2_with fail
 go_loopw [28] (λi wr=> ∃k:Nat,k<=F.length/\i=aB aC k/\Hid (Below Wf.heap.size Wf wr)/\Hid (jE wr b (bT (F.take k)))) (λi _=>F.length-(intOf i).toNat)
 case atStart=>exact⟨0,by omega,rfl,HB0.out,HM0.out⟩
 case round=>
  obtain⟨k,hk2,rfl,HBw,HMw⟩:=hrel;have hsw:=HBw.out.size;by_cases hlt:k<F.length
  .obtain⟨bd,off,rfl,hbd,x0,x1⟩:=HR1.out.pr k hlt;have HTk:Hid (bT (F.take (k+1))=bT (F.take k)++[F[k].1]):=by show _=_;rw[jG hlt,VA];rfl
   have hlk:=HFl.out _ (dN hlt);have HKey:=aA (show keyOf aE 9 (aD ⟨F[k].1.toArray⟩)=some (.string F[k].1)from vP (t:=F[k].1) (by unfold maxLen;omega));have HSv:Hid (sv F[k].1=aD ⟨F[k].1.toArray⟩):=rfl;have y0:=(HBw.out.cell (p:=⟨bd,off+k*2,none⟩) hbd).trans x0;have y1:=(HBw.out.cell (p:=⟨bd,off+k*2+1,none⟩) hbd).trans x1;have hbz:bd<wr.heap.size:=by omega
   generalize F[k].2=z2 at*;generalize hz1:F[k].1=z1 at*;simp only[sv]at y0 y1;clear x0 x1 hlk hz1;generalize(⟨z1.toArray⟩:ByteArray)=s1 at*;generalize(⟨z2.toArray⟩:ByteArray)=s2 at*;go_upto_region 8 with fail
   refine dL λW1 hW1=> ?_;have hb1:Below wr.heap.size wr W1:=by rw[hW1];exact aG
   have hFl1:wr.heap.size<W1.heap.size:=by rw[hW1];simp
   obtain⟨F1,hF1⟩: ∃B,wr.heap.size=B:=⟨_,rfl⟩;have q0:W1.cell? ⟨F1,0,none⟩=some (.string s1):=by rw[hW1,<-hF1];simp[go_sem]
   rw[hF1]at hFl1;have HS1:=aA (HMw.out.below hb1);have HB1:=aA (aP HBw.out hb1);have hw1:=HB1.out.size;clear hW1 hb1 HMw HBw y0 y1;obtain⟨R,hm,hR⟩:=HS1.out;have HM1:=aA hm;have HRR:=aA hR;clear hm hR;go_wp2_with(at_mapUpdate;(refine II rfl _ _ _ 53 rfl b R HM1.out vO Xv rfl rfl rfl HKey.out ?_);intro W2 hm2 hg2;have HM2:=aA hm2;have HB2:=aA (GM HB1.out hg2 (Nat.le_of_eq hb) hw1);clear hm2 hg2)
   go_roundw
   case rel=>exact⟨k+1,by omega,by go_num,HB2.out,by show jE _ _ _;rw[HTk.out];exact jE.put HRR.out (by rw[HSv.out];exact HM2.out)⟩
   case measure=>simp[intOf];omega
  .have HM9:Hid (jE wr b (bT F)):=by have:=HMw.out;rw[List.take_of_length_le om]at this;exact this
   have hbl:=HM9.out.lt;obtain⟨wy,rfl⟩: ∃W,W=wr:=⟨_,rfl⟩;clear HMw HM0;go_wp2_with fail
   go_loopw [11,40] (λv i wr=> ∃k:Nat,k<=l.length/\i=aB aC k/\Hid (sU Wf b F (cH P tag (bT F) (l.take k)) v wr)) (λ_ i _=>l.length-(intOf i).toNat)
   case atStart=>exact⟨0,by omega,rfl,HBw.out,by show jE _ _ _;rw[List.take_zero,show cH P tag (bT F) []=[]from rfl,show bT []=[]from rfl,bV];exact HM9.out,World.ownsRow_nil _ _ _ _⟩
   case round=>
    obtain⟨q,hq,rfl,HI⟩:=hrel;have HBy:=aA (HBf.out.trans (HI.out.below.mono HBf.out.size));have hsy:=HI.out.below.size;have hblr:=HI.out.seen.lt;by_cases hql:q<l.length
    .obtain⟨bd,off,rfl,hbd,x0,x1⟩:=HIn.out.pr q hql;have HVq:=aA (λW (hb:Below wr.heap.size wr W)=>HVa.out l[q] (dN hql) W (aP HBy.out hb));have HStep:=aA (WG (P:=P) (tag:=tag) (s:=bT F) hql);obtain⟨hl1,hl2⟩:=HL.out l[q] (dN hql);have hKl:=uO P tag (l.take q) (bT F);rw[List.length_take]at hKl;have y0:=(HBy.out.cell (p:=⟨bd,off+q*2,none⟩) hbd).trans x0;have y1:=(HBy.out.cell (p:=⟨bd,off+q*2+1,none⟩) hbd).trans x1;have hbz:bd<wr.heap.size:=Nat.lt_of_lt_of_le hbd HBy.out.size;generalize cH P tag (bT F) (l.take q)=K at*;generalize l[q]=a at*;obtain⟨z1,z2⟩:=a;simp only at hl1 hl2;simp only at HVq HStep y0 y1;have HKey:=aA (show keyOf aE 9 (aD ⟨z1.toArray⟩)=some (.string z1)from vP (t:=z1) (by unfold maxLen;omega));have HSv:Hid (sv z1=aD ⟨z1.toArray⟩):=rfl;have HLo:=aA (λW (hb:Below wr.heap.size wr W)=>show ∃u,(Instr.lookup 53 (.map (some b)) (aD ⟨z1.toArray⟩) true).run aE W= .ok (aN #[u,aI (decide (z1∈bT F++bT K))]) W from(HI.out.seen.below hb).look z1 (by unfold maxLen;omega));simp only[sv]at y0 y1;clear x0 x1 hl1 hl2;generalize hs1:(⟨z1.toArray⟩:ByteArray)=s1 at*;generalize(⟨z2.toArray⟩:ByteArray)=s2 at*;cases hv:fK P tag z1 z2 with
     |none=>
      rw[hv]at HVq HStep;have HVn:=aA (λW hb=>show Calls aE 11 #[aM (some ⟨g,0,none⟩),.string TG,.string s1,.string s2] W (aH (aN #[aD ⟨#[]⟩,aI false]) W)from HVq.out W hb);have HSt:Hid (cH P tag (bT F) (l.take (q+1))=K):=by show _=_;rw[HStep.out];exact bV _
      clear HVq hv HStep;go_upto_region 15 with(go_at_call 11;(with_reducible refine zG (HVn.out _ aG) λY2=>?_))
      refine dL λW5 hW5=> ?_;have hb5:Below wr.heap.size wr W5:=by rw[hW5];exact aG
      obtain⟨F5,hF5⟩: ∃B,wr.heap.size=B:=⟨_,rfl⟩;have q0:W5.cell? ⟨F5,0,none⟩=some (.string s1):=by rw[hW5,<-hF5];simp[go_sem]
      obtain⟨u,hlook⟩:=HLo.out W5 hb5;have HLk:=aA hlook;have HI5:=aA (HI.out.next hb5);clear hW5 hb5 hlook HLo HI;rw[hF5];go_wp2_with(simp[go_sem,HLk.out])
      go_roundw
      case rel=>
       refine⟨_,_,_,_,_,_,_,_,⟨q+1,by omega, ?_, ?_⟩,rfl,rfl,rfl,rfl,rfl,rfl,rfl,rfl⟩
       .go_num
       .show sU _ _ _ _ _ _;rw[HSt.out];exact HI5.out
      case measure=>simp[intOf];omega
     |some v=>
      rw[hv]at HVq HStep;have HVn:=aA (λW hb=>show Calls aE 11 #[aM (some ⟨g,0,none⟩),.string TG,.string s1,.string s2] W (aH (aN #[aD ⟨v.toArray⟩,aI true]) W)from HVq.out W hb);have HS2:Hid (∀D,decide (z1∈bT F++bT K)=D->cH P tag (bT F) (l.take (q+1))=K++if D=true then []else [(z1,v)]):=by
       intro D hD;rw[HStep.out,<-hD];simp only;by_cases hm:z1∈bT F++bT K
       .rw[if_pos hm,if_pos (decide_eq_true hm)]
       .rw[if_neg hm,if_neg (by rw[decide_eq_false hm];exact Yh)]
      have HSv2:Hid (sv v=aD ⟨v.toArray⟩):=rfl;clear HVq hv HStep;generalize(⟨v.toArray⟩:ByteArray)=s3 at*;go_upto_region 15 with(go_at_call 11;(with_reducible refine zG (HVn.out _ aG) λY2=>?_))
      refine dL λW5 hW5=> ?_;have hb5:Below wr.heap.size wr W5:=by rw[hW5];exact aG
      have hFl:wr.heap.size<W5.heap.size:=by rw[hW5];simp[World.grow]<;>omega
      obtain⟨F5,hF5⟩: ∃B,wr.heap.size=B:=⟨_,rfl⟩;have q0:W5.cell? ⟨F5,0,none⟩=some (.string s1):=by rw[hW5,<-hF5];simp[go_sem]
      obtain⟨u,hlook⟩:=HLo.out W5 hb5;have HLk:=aA hlook;have HI5:=aA (HI.out.next hb5);have hs5:=hb5.size;clear hW5 hb5 hlook HLo HI;rw[hF5]at hFl ⊢;cases hD:decide (z1∈bT F++bT K);rotate_left
      .have HSt:Hid (cH P tag (bT F) (l.take (q+1))=K):=by show _=_;rw[HS2.out _ hD,if_pos rfl];exact bV _
       rw[hD]at HLk;clear HS2 hD;go_wp2_with(simp[go_sem,HLk.out])
       go_roundw
       case rel=>
        refine⟨_,_,_,_,_,_,_,_,⟨q+1,by omega, ?_, ?_⟩,rfl,rfl,rfl,rfl,rfl,rfl,rfl,rfl⟩
        .go_num
        .show sU _ _ _ _ _ _;rw[HSt.out];exact HI5.out
       case measure=>simp[intOf];omega
      .have HSt:Hid (cH P tag (bT F) (l.take (q+1))=K++[(z1,v)]):=by show _=_;rw[HS2.out _ hD,if_neg Yh]
       rw[hD]at HLk;clear HS2 hD;obtain⟨R,hm,hR⟩:=HI5.out.seen;have HM5:=aA hm;have HRR:=aA hR;have HO5:=aA HI5.out.row;obtain⟨Aa,ca,rfl,hca⟩:=dF HI5.out.row;clear hm hR;go_wp2_with(first
        |(at_mapUpdate;(refine II rfl _ _ _ 53 rfl b R HM5.out vO Xv rfl rfl rfl HKey.out ?_);intro W9 hm9 hg9;have HM9:=aA hm9;have HG9:=aA hg9;have HO9:=aA (ER hg9 HO5.out (λr hr e=>by cases e;have:=(HO5.out.lt b hr).1;omega));have z0:=(World.cell?_of_block (a:=⟨F5,0,none⟩) (hg9.block F5 hFl (by intro e;cases e;omega))).trans q0;have hs9:=hg9.size;clear hm9 hg9)
        |(at_builtin;refine mJ rfl _ _ 22 rfl vR (b+1) rfl (HO9.out.alloc _) (by simp;omega) ⟨_,0,none⟩ 1 1 [.string s1,.string s3] rfl rfl (eR (c:= #[.string s1,.string s3]) (by simp[go_sem])) (by simp[Value.oneCell']) (by unfold maxLen;omega) om ?_;intro v10 W10 ho10 hg10;have HO10:=aA ho10;have HG10:=aA hg10;clear ho10 hg10)
        |simp[go_sem,HLk.out])
       go_roundw
       case rel=>
        refine⟨_,_,_,_,_,_,_,_,⟨q+1,by omega, ?_, ?_⟩,rfl,rfl,rfl,rfl,rfl,rfl,rfl,rfl⟩
        .go_num
        .show sU _ _ _ _ _ _;rw[HSt.out];exact sU.more HI5.out (Nat.le_of_eq hb) HRR.out (by rw[HSv.out];exact HM9.out) HG9.out HG10.out (by rw[show eA (z1,v)=[sv z1,sv v]from rfl,HSv.out,HSv2.out];exact HO10.out) rfl
       case measure=>simp[intOf];omega
    .have hqn:q=l.length:=by omega
     have HI9:=HI.out;rw[hqn,List.take_length]at HI9;have hKl:=uO P tag l (bT F);generalize cH P tag (bT F) l=K at*;obtain⟨k1,_,k3⟩:=HI9;obtain⟨Aa,ca,rfl,hca⟩:=dF k3;have HK3:=aA k3;have HK1:=aA k1;have hF1:=HR1.out.1;clear k1 k3 HI hqn;go_wp2_with(at_builtin;refine GP rfl _ _ 22 rfl vR (b+1) rfl HK3.out om F.length (F.flatMap eA) (xL HR1.out HN1.out HK1.out) hF1 (CS F) (by unfold maxLen;omega) om ?_;intro v11 W11 ho11 hg11;have HO11:=aA ho11;have HG11:=aA hg11;clear ho11 hg11)
     go_ret;obtain⟨A9,c9,rfl,hc9⟩:=dF HO11.out;have hwb:=HBf.out.size;refine⟨A9,c9, ?_,HBy.out.trans (xZ HK3.out HG11.out om HBy.out.size),uG HO11.out,by rw[aZ];exact hc9, ?_⟩
     .rw[aZ];rfl
     .rw[aZ,nL];exact Rd.own HO11.out
