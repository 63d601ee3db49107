import Derived.Test.YtccjfanpjojbnaaGreatDoorRowU
namespace Go.Proofs.YtccjfanpjojbnaaGreatDoor
open Bool renaming and_eq_true→bD,eq_iff_iff→bK,false_eq_true→gW,not_eq_true'→rU,or_eq_false_iff→oK,or_eq_true→kL
open List renaming all_cons→nO,all_eq_true→dO,append_assoc→cY,append_nil→bV,cons_append→cF,drop_left→Xw,drop_succ_cons→qP,drop_zero→fJ,filterMap_cons→ye,foldl_append→jz,foldl_cons→xi,getElem?_append_right→lE,length_append→aZ,length_cons→aY,length_drop→bL,length_pos_iff→pN,length_take→bZ,mem_cons→bJ,mem_cons_of_mem→fO,mem_cons_self→fX,nil_append→fG,replicate→cX,take_left→jl,take_length→kJ,take_succ_cons→jg,take_zero→qN
open Nat renaming mod_lt→jx
open Option renaming some→jP
def jD (c:UInt8):Bool:=kU c||decide (c.toNat=95)
def bI (c:UInt8):Bool:=jD c||aQ c||decide (c.toNat=45)
def kD (c:UInt8):Bool:=decide (c.toNat=43\/c.toNat=45)
def oP (c:UInt8):Bool:=decide (c.toNat=34\/c.toNat=39)
def gG (c:UInt8):Bool:=decide (32<=c.toNat/\c.toNat≠127/\c.toNat≠92/\c.toNat≠34/\c.toNat≠39)
def rF (c:UInt8):Bool:=[58,59,44,40,41,47,33,42,43,46,62,61,45].contains c
def aX (p:UInt8->Bool) (l:Bs):Nat:=(l.takeWhile p).length
structure aK where
 kind:Int
 text:Bs
 num:Int
 unit:Bs
deriving DecidableEq
def iT:aK:=⟨7,[],0,[]⟩
def mH (k:Int) (t:Bs):aK:=if 64<t.length then iT else⟨k,bO t,0,[]⟩
def dW:Bs->Bool
 |[]=>false
 |c::r=>jD c||(decide (c.toNat=45)&&match r with
  |[]=>false
  |d::_=>jD d)
def hd (p:UInt8->Bool):Bs->Bool
 |[]=>false
 |c::_=>p c
def lY (s:Bs):aK × Nat:=
 if 64<aX bI s then(iT,aX bI s)
 else if hd (λc=>decide (c.toNat=40)) (s.drop (aX bI s))then(⟨2,bO (s.take (aX bI s)),0,[]⟩,aX bI s+1)
 else(⟨1,bO (s.take (aX bI s)),0,[]⟩,aX bI s)
def gY (s:Bs):Nat:=if hd kD s then 1 else 0
def fV:Bs->Nat
 |[]=>0
 |c::r=>if c.toNat=46 then aX aQ r else 0
def pT:Bs->Nat
 |[]=>0
 |c::r=>if c.toNat=37 then 1 else if kU c then aX bI (c::r)else 0
def gX (ds:Bs):Nat:=ds.foldl (λn c=>n*10+(c.toNat-48)) 0
structure ZZ where
 neg:Bool
 whole:Bs
 part:Bs
 unit:Bs
 tu:Nat
def cQ (s:Bs):ZZ:=
 let u:=s.drop (gY s)
 let v:=u.drop (aX aQ u)
 let r:=if fV v=0 then v else v.drop (fV v+1)
 ⟨hd (λc=>decide (c.toNat=45)) s,u.take (aX aQ u),(v.drop 1).take (fV v),r.take (pT r),gY s+aX aQ u+(if fV v=0 then 0 else fV v+1)⟩
def BO (x:ZZ):Option (aK × Nat):=
 if x.whole=[]/\x.part=[]then none
 else if 6<x.whole.length\/3<x.part.length\/64<x.unit.length then some (iT,x.tu+x.unit.length)
 else some (⟨3,[],if x.neg then-(gX (x.whole++x.part++cX (3-x.part.length) 48):Int)else gX (x.whole++x.part++cX (3-x.part.length) 48),bO x.unit⟩,x.tu+x.unit.length)
def gH (s:Bs):Option (aK × Nat):=BO (cQ s)
def gS:Bs->Option (aK × Nat)
 |[]=>none
 |c::r=>if oP c&&hd (λd=>decide (d=c)) (r.drop (aX gG r))then some (⟨5,r.take (aX gG r),0,[]⟩,aX gG r+2)else none
def cJ (s:Bs):aK × Nat:=
 if dW s then lY s
 else match gH s with
 |some x=>x
 |none=>match gS s with
  |some x=>x
  |none=>match s with
   |[]=>(iT,1)
   |c::r=>if c.toNat=35/\0<aX bI r then(mH 4 (r.take (aX bI r)),aX bI r+1)else if rF c then(⟨6,[c],0,[]⟩,1)else(iT,1)
def dC:Nat->Bs->Bs
 |_,[]=>[]
 |0,c::r=>if bB c then dC 0 r else if c.toNat=47/\hd (λd=>decide (d.toNat=42)) r=true then dC 1 r else c::r
 |1,_::r=>dC 2 r
 |2,c::r=>if c.toNat=42/\hd (λd=>decide (d.toNat=47)) r=true then dC 3 r else dC 2 r
 |_,_::r=>dC 0 r
def oE:Nat->Bs->List aK
 |0,_=>[]
 |f+1,s=>match dC 0 s with
  |[]=>[]
  |c::r=>(cJ (c::r)).1::oE f ((c::r).drop (cJ (c::r)).2)
def bU (s:Bs):List aK:=oE (s.length+1) s
def sJ (d:Nat):UInt8:=UInt8.ofNat (48+d)
def mA:Nat->Nat->Bs
 |0,n=>[sJ (n%10)]
 |f+1,n=>if n<10 then [sJ n]else mA f (n/10)++[sJ (n%10)]
def gM (n:Nat):Bs:=mA 20 n
def nA (p:Nat):Bs:=
 if p=0 then []else 46::sJ (p/100)::(if p%100=0 then []else sJ (p/10%10)::(if p%10=0 then []else [sJ (p%10)]))
def gA (n:Int):Bs:=(if n<0 then [45]else [])++gM (n.natAbs/1000)++nA (n.natAbs%1000)
def cE (x:aK):Bs:=
 if x.kind=1\/x.kind=6 then x.text else if x.kind=2 then x.text++[40]else if x.kind=3 then gA x.num++x.unit
 else if x.kind=4 then 35::x.text else if x.kind=5 then 34::x.text++[34]else []
def cR (x:aK):Bool:=decide (x.kind≠7)&&decide (bU (cE x)=[x])
def oX:List Bs->Bs
 |[]=>[]
 |[u]=>u
 |u::v::l=>u++32::oX (v::l)
def oL (l:List aK):Bs:=oX (l.map cE)
theorem lI (p:UInt8->Bool) (l:Bs):aX p l<=l.length:=(List.takeWhile_sublist p).length_le
theorem QA (p:UInt8->Bool) (l:Bs):l.take (aX p l)=l.takeWhile p:=by
 unfold aX;induction l with
 |nil=>rfl
 |cons c r ih=>by_cases h:p c<;>simp[h,ih]
theorem K6 (p:UInt8->Bool) (l:Bs):l.drop (aX p l)=l.dropWhile p:=by
 unfold aX;induction l with
 |nil=>rfl
 |cons c r ih=>by_cases h:p c<;>simp[h,ih]
theorem yR (p:UInt8->Bool) (s r:Bs) (h:hd p r=false):aX p (s++r)=aX p s:=by
 unfold aX;induction s with
 |nil=>
  cases r with
  |nil=>rfl
  |cons c r=>simp[hd]at h;simp[h]
 |cons c s ih=>by_cases hc:p c<;>simp[hc,ih]
theorem DL (p:UInt8->Bool) (s:Bs) (h:s.all p=true):aX p s=s.length:=by
 unfold aX;induction s with
 |nil=>rfl
 |cons c s ih=>
  simp only[nO,bD]at h;simp[h.1,ih h.2]
theorem sP (p:UInt8->Bool) (s:Bs):(s.take (aX p s)).all p=true:=by
 rw[QA];induction s with
 |nil=>rfl
 |cons c s ih=>by_cases hc:p c<;>simp[hc,ih]
theorem wY (p:UInt8->Bool) (s r:Bs) (h:s.all p=true) (hr:hd p r=false):aX p (s++r)=s.length:=by
 rw[yR p s r hr,DL p s h]
theorem QB (p:UInt8->Bool) (s r:Bs) (h:s.all p=true):s.length<=aX p (s++r):=by
 unfold aX;induction s with
 |nil=>simp
 |cons c s ih=>
  simp only[nO,bD]at h;simp[h.1];exact ih h.2
theorem FR (p:UInt8->Bool) (s r:Bs):hd p (s++r)=if s=[]then hd p r else hd p s:=by
 cases s<;>simp[hd]
def GE (c:UInt8):Bool:=bB c||decide (c.toNat=58\/c.toNat=59)
def mC (r:Bs):Prop:=r=[]\/ ∃c t,r=c::t/\GE c=true
theorem rZ {c:UInt8} (h:GE c=true):bI c=false/\aQ c=false/\jD c=false/\kU c=false/\kD c=false/\c.toNat≠40/\c.toNat≠46/\c.toNat≠37/\c.toNat≠42/\c.toNat≠47/\c.toNat≠45:=by
 simp only[GE,bB,bI,aQ,jD,kU,kD,dR,eG,decide_eq_true_eq,kL,oK,decide_eq_false_iff_not]at*;omega
theorem mC.hd {r:Bs} (h:mC r) (p:UInt8->Bool) (hp: ∀c,GE c=true->p c=false):hd p r=false:=by
 rcases h with rfl|⟨c,t,rfl,hc⟩
 .rfl
 .exact hp c hc
theorem AA (s r:Bs) (n:Nat) (h:n<=s.length):(s++r).drop n=s.drop n++r:=List.drop_append_of_le_length h
theorem vM (s r:Bs) (n:Nat) (h:n<=s.length):(s++r).take n=s.take n:=List.take_append_of_le_length h
theorem Gg {s r:Bs} (hs:s≠[]) (h:mC r):dW (s++r)=dW s:=by
 cases s with
 |nil=>exact absurd rfl hs
 |cons c s=>
  cases s with
  |nil=>
   rcases h with rfl|⟨d,t,rfl,hd⟩
   .rfl
   .simp[dW,(rZ hd).2.2.1]
  |cons d s=>rfl
theorem Gf {s r:Bs} (h:mC r):lY (s++r)=lY s:=by
 have h1:aX bI (s++r)=aX bI s:=yR _ _ _ (h.hd _ λc hc=>(rZ hc).1);have hle:=lI bI s;unfold lY;rw[h1,AA _ _ _ hle,vM _ _ _ hle,FR];split
 .rfl
 .by_cases hd0:s.drop (aX bI s)=[]
  .rw[if_pos hd0,hd0,h.hd _ λc hc=>by simp[(rZ hc).2.2.2.2.2.1]];rfl
  .rw[if_neg hd0]
theorem Nx {s r:Bs} (h:mC r):fV (s++r)=fV s:=by
 cases s with
 |nil=>
  rcases h with rfl|⟨c,t,rfl,hc⟩
  .rfl
  .simp[fV,(rZ hc).2.2.2.2.2.2.1]
 |cons c s=>
  simp only[cF,fV];split
  .exact yR _ _ _ (h.hd _ λc hc=>(rZ hc).2.1)
  .rfl
theorem IS {s r:Bs} (h:mC r):pT (s++r)=pT s:=by
 cases s with
 |nil=>
  rcases h with rfl|⟨c,t,rfl,hc⟩
  .rfl
  .simp[pT,(rZ hc).2.2.2.2.2.2.2.1,(rZ hc).2.2.2.1]
 |cons c s=>
  simp only[cF,pT];split
  .rfl
  .split
   .exact yR _ (c::s) _ (h.hd _ λc hc=>(rZ hc).1)
   .rfl
theorem NN (s:Bs):fV s=0\/fV s+1<=s.length:=by
 cases s with
 |nil=>exact .inl rfl
 |cons c s=>
  simp only[fV];split
  .have:=lI aQ s;right;simp;exact this
  .exact .inl rfl
theorem wX (s:Bs):pT s<=s.length:=by
 cases s with
 |nil=>exact Nat.le_refl _
 |cons c s=>
  simp only[pT];split
  .simp
  .split
   .exact lI bI (c::s)
   .simp
theorem RZ (s:Bs):gY s<=s.length:=by
 unfold gY;cases s with
 |nil=>simp[hd]
 |cons c r=>by_cases h:kD c=true<;>simp[hd,h]
theorem Fb {s r:Bs} (hs:s≠[]) (h:mC r):cQ (s++r)=cQ s:=by
 have h1:gY (s++r)=gY s:=by unfold gY;rw[FR,if_neg hs]
 have h0:hd (λc=>decide (c.toNat=45)) (s++r)=hd (λc=>decide (c.toNat=45)) s:=by rw[FR,if_neg hs]
 have h2: ∀u:Bs,aX aQ (u++r)=aX aQ u:=λu=>yR _ _ _ (h.hd _ λc hc=>(rZ hc).2.1);have h3:=RZ s;unfold cQ;simp only[h0,h1,AA s r _ h3,h2];generalize s.drop (gY s)=u;rw[AA u r _ (lI aQ u),vM u r _ (lI aQ u)];generalize hv:u.drop (aX aQ u)=v;rw[Nx h];rcases NN v with hd0|hd1
 .simp only[hd0,if_true,qN,IS h];rw[vM v r _ (wX v)]
 .have hne:fV v≠0\/fV v=0:=by omega
  rcases hne with hne|hne
  .simp only[if_neg hne];rw[AA v r 1 om,AA v r _ hd1,vM (v.drop 1) r _ (by simp;omega),IS h,vM _ r _ (wX _)]
  .simp only[hne,if_true,qN,IS h];rw[vM v r _ (wX v)]
theorem Bv {s r:Bs} {x:aK × Nat} (hq:gS s=some x):gS (s++r)=some x:=by
 cases s with
 |nil=>simp[gS]at hq
 |cons c s=>
  simp only[gS]at hq;split at hq
  .rename_i h;rw[bD]at h;obtain⟨hq1,hq2⟩:=h;have hlt:aX gG (s++r)=aX gG s/\hd (λd=>decide (d=c)) ((s++r).drop (aX gG s))=true:=by
    have hle:=lI gG s;generalize hd0:s.drop (aX gG s)=t at hq2;cases t with
    |nil=>simp[hd]at hq2
    |cons d t=>
     have hpl:gG d=false:=by
      simp[hd]at hq2;subst hq2;simp[oP]at hq1;simp only[gG,decide_eq_false_iff_not];omega
     have hs:s=s.take (aX gG s)++d::t:=by rw[<-hd0];exact(List.take_append_drop _ _).symm
     refine⟨?_,by rw[AA _ _ _ hle,hd0];exact hq2⟩;have e1:aX gG (s++r)=(s.take (aX gG s)).length:=by
      conv=>lhs;rw[hs,cY]
      exact wY _ _ _ (sP gG s) hpl
     rw[e1,bZ];omega
   simp only[cF,gS,hlt.1,hq1,hlt.2,Bool.and_self,if_true];rw[vM _ _ _ (lI gG s)];exact hq
  .cases hq
theorem Dd {s r:Bs} (hs:s≠[]) (h:mC r) (hb:(cJ s).1.kind≠7):cJ (s++r)=cJ s:=by
 unfold cJ at hb ⊢;rw[Gg hs h];cases hn:dW s
 .rw[hn]at hb;simp only[gW,if_false]at hb ⊢;rw[show gH (s++r)=gH s from by unfold gH;rw[Fb hs h]];cases hm:gH s with
  |some x=>rfl
  |none=>
   rw[hm]at hb;cases hq:gS s with
   |some x=>rw[Bv hq]
   |none=>
    rw[hq]at hb;cases s with
    |nil=>exact absurd rfl hs
    |cons c s=>
     have hqt:oP c=false:=by
      cases hc:oP c
      .rfl
      .exfalso;apply hb;have h35:c.toNat≠35:=by simp[oP]at hc;omega
       have hmk:rF c=false:=by
        simp[oP]at hc;unfold rF;rcases hc with hc|hc
        .have:c=34:=UInt8.toNat_inj.1 hc;subst this;decide
        .have:c=39:=UInt8.toNat_inj.1 hc;subst this;decide
       simp[h35,hmk,iT]
     have hq2:gS (c::s++r)=none:=by simp[gS,hqt]
     have ht:aX bI (s++r)=aX bI s:=yR _ _ _ (h.hd _ λc hc=>(rZ hc).1);rw[hq2];simp only[cF,ht,vM _ _ _ (lI bI s)]
 .simp only[if_true,Gf h]
theorem VE {s:Bs} (h:dW s=true):1<=aX bI s:=by
 cases s with
 |nil=>simp[dW]at h
 |cons c r=>
  have:bI c=true:=by
   simp only[dW,kL,bD,decide_eq_true_eq]at h;simp only[bI,kL,decide_eq_true_eq];rcases h with h|⟨h,_⟩
   .exact .inl (.inl h)
   .exact .inr h
  simp[aX,this]
theorem Ez (s:Bs):(cQ s).tu+(cQ s).unit.length<=s.length:=by
 have h1:=RZ s;have h2:(s.drop (gY s)).length=s.length-gY s:=bL ..;unfold cQ;simp only;generalize s.drop (gY s)=u at*;have h3:=lI aQ u;have h4:(u.drop (aX aQ u)).length=u.length-aX aQ u:=bL ..;generalize u.drop (aX aQ u)=v at*;rw[bZ];rcases NN v with h5|h5
 .rw[if_pos h5,if_pos h5];have:=wX v;omega
 .by_cases h6:fV v=0
  .rw[if_pos h6,if_pos h6];have:=wX v;omega
  .rw[if_neg h6,if_neg h6];have:=wX (v.drop (fV v+1));rw[bL]at this ⊢;omega
theorem Ey (s:Bs) (h: ¬((cQ s).whole=[]/\(cQ s).part=[])):1<=(cQ s).tu:=by
 revert h;unfold cQ;simp only;generalize s.drop (gY s)=u;generalize u.drop (aX aQ u)=v;intro h;by_cases h6:fV v=0
 .rw[if_pos h6];cases hd0:aX aQ u with
  |zero=>exact absurd ⟨by rw[hd0];rfl,by rw[h6];rfl⟩ h
  |succ n=>omega
 .rw[if_neg h6];omega
theorem zN {s:Bs} {x:aK} {n:Nat} (h:gH s=some (x,n)):n=(cQ s).tu+(cQ s).unit.length/\1<=(cQ s).tu/\(x=iT\/((cQ s).whole.length<=6/\(cQ s).part.length<=3/\(cQ s).unit.length<=64/\
  x=⟨3,[],if(cQ s).neg then-(gX ((cQ s).whole++(cQ s).part++cX (3-(cQ s).part.length) 48):Int)else gX ((cQ s).whole++(cQ s).part++cX (3-(cQ s).part.length) 48),bO (cQ s).unit⟩)):=by
 have hp:=Ey s;unfold gH BO at h;split at h
 .cases h
 .rename_i h0;split at h
  .simp only[jP.injEq,Prod.mk.injEq]at h;exact⟨h.2.symm,hp h0,.inl h.1.symm⟩
  .rename_i h1;simp only[jP.injEq,Prod.mk.injEq]at h;exact⟨h.2.symm,hp h0,.inr ⟨by omega,by omega,by omega,h.1.symm⟩⟩
theorem BI {s:Bs} {x:aK} {n:Nat} (h:gS s=some (x,n)): ∃c r,s=c::r/\n=aX gG r+2/\n<=s.length/\x=⟨5,r.take (aX gG r),0,[]⟩:=by
 cases s with
 |nil=>simp[gS]at h
 |cons c r=>
  simp only[gS]at h;split at h
  .rename_i h1;rw[bD]at h1;simp only[jP.injEq,Prod.mk.injEq]at h;refine⟨c,r,rfl,h.2.symm, ?_,h.1.symm⟩;rw[<-h.2];have h2:r.drop (aX gG r)≠[]:=by intro h3;rw[h3]at h1;simp[hd]at h1
   have h3:0<(r.drop (aX gG r)).length:=pN.2 h2;rw[bL]at h3;simp;omega
  .cases h
theorem oU (s:Bs):(bO s).length=s.length:=by simp[bO]
theorem zJ {s:Bs} (hs:s≠[]) {x:aK} {n:Nat} (h:cJ s=(x,n)):1<=n/\n<=s.length/\
  (x.kind=7\/(x.kind=1/\x.text.length=n)\/(x.kind=2/\x.text.length+1=n)\/(x.kind=3/\dW s=false/\gH s=some (x,n))\/(x.kind=4/\x.text.length+1=n)\/(x.kind=5/\x.text.length+2=n)\/(x.kind=6/\x.text.length=n)):=by
 unfold cJ at h;cases hn:dW s
 .rw[hn]at h;simp only[gW,if_false]at h;cases hm:gH s with
  |some y=>
   rw[hm]at h;simp only at h;subst h;obtain⟨h1,h2,h3⟩:=zN hm;refine⟨by omega,by have:=Ez s;omega, ?_⟩;rcases h3 with rfl|⟨_,_,_,h3⟩
   .exact .inl rfl
   .exact .inr (.inr (.inr (.inl ⟨by rw[h3],rfl,rfl⟩)))
  |none=>
   rw[hm]at h;simp only at h;cases hq:gS s with
   |some y=>
    rw[hq]at h;simp only at h;subst h;obtain⟨c,r,rfl,h1,h2,rfl⟩:=BI hq;refine⟨by omega,h2,.inr (.inr (.inr (.inr (.inr (.inl ⟨rfl, ?_⟩)))))⟩;have:=lI gG r;simp;omega
   |none=>
    rw[hq]at h;simp only at h;cases s with
    |nil=>exact absurd rfl hs
    |cons c r=>
     simp only at h;split at h
     .rename_i h1;have hle:=lI bI r;simp only[Prod.mk.injEq]at h;obtain⟨rfl,rfl⟩:=h;refine⟨by omega,by simp;omega, ?_⟩;unfold mH;split
      .exact .inl rfl
      .exact .inr (.inr (.inr (.inr (.inl ⟨rfl,by simp[oU];omega⟩))))
     .split at h
      .simp only[Prod.mk.injEq]at h;obtain⟨rfl,rfl⟩:=h;exact⟨by omega,by simp,.inr (.inr (.inr (.inr (.inr (.inr ⟨rfl,rfl⟩)))))⟩
      .simp only[Prod.mk.injEq]at h;obtain⟨rfl,rfl⟩:=h;exact⟨by omega,by simp,.inl rfl⟩
 .rw[hn]at h;simp only[if_true]at h;have hp:=VE hn;have hle:=lI bI s;unfold lY at h;split at h
  .simp only[Prod.mk.injEq]at h;obtain⟨rfl,rfl⟩:=h;exact⟨hp,hle,.inl rfl⟩
  .split at h
   .rename_i h1;simp only[Prod.mk.injEq]at h;obtain⟨rfl,rfl⟩:=h;have h2:s.drop (aX bI s)≠[]:=by intro h3;rw[h3]at h1;simp[hd]at h1
    have h3:0<(s.drop (aX bI s)).length:=pN.2 h2;rw[bL]at h3;exact⟨by omega,by omega,.inr (.inr (.inl ⟨rfl,by simp[oU];omega⟩))⟩
   .simp only[Prod.mk.injEq]at h;obtain⟨rfl,rfl⟩:=h;exact⟨hp,hle,.inr (.inl ⟨rfl,by simp[oU];omega⟩)⟩
theorem ZH: ∀(s:Bs) (m:Nat),∃pre,s=pre++dC m s:=by
 intro s;induction s with
 |nil=>intro m;exact⟨[],by cases m<;>rfl⟩
 |cons c r ih=>
  intro m;match m with
  |0=>
   simp only[dC];split
   .obtain⟨p,hp⟩:=ih 0;exact⟨c::p,by rw[cF,<-hp]⟩
   .split
    .obtain⟨p,hp⟩:=ih 1;exact⟨c::p,by rw[cF,<-hp]⟩
    .exact⟨[],rfl⟩
  |1=>obtain⟨p,hp⟩:=ih 2;exact⟨c::p,by rw[cF];simp only[dC];rw[<-hp]⟩
  |2=>
   simp only[dC];split
   .obtain⟨p,hp⟩:=ih 3;exact⟨c::p,by rw[cF,<-hp]⟩
   .obtain⟨p,hp⟩:=ih 2;exact⟨c::p,by rw[cF,<-hp]⟩
  |n+3=>obtain⟨p,hp⟩:=ih 0;exact⟨c::p,by rw[cF];simp only[dC];rw[<-hp]⟩
theorem xY (s:Bs) (m:Nat):(dC m s).length<=s.length:=by
 obtain⟨p,hp⟩:=ZH s m;conv=>rhs;rw[hp]
 simp
def sQ:Bs->Prop
 |[]=>False
 |c::r=>bB c=false/\ ¬(c.toNat=47/\hd (λd=>decide (d.toNat=42)) r=true)
theorem Qw: ∀(s:Bs) (m:Nat) {c:UInt8} {r:Bs},dC m s=c::r->sQ (c::r):=by
 intro s;induction s with
 |nil=>intro m c r h;cases m<;>simp[dC]at h
 |cons d t ih=>
  intro m c r h;match m with
  |0=>
   simp only[dC]at h;split at h
   .exact ih 0 h
   .rename_i h1;split at h
    .exact ih 1 h
    .rename_i h2;cases h;exact⟨by simpa using h1,h2⟩
  |1=>exact ih 2 (by simpa only[dC]using h)
  |2=>
   simp only[dC]at h;split at h
   .exact ih 3 h
   .exact ih 2 h
  |n+3=>exact ih 0 (by simpa only[dC]using h)
theorem RT {s:Bs} (h:sQ s):dC 0 s=s:=by
 cases s with
 |nil=>exact h.elim
 |cons c r=>simp only[dC,h.1,gW,if_false,if_neg h.2]
theorem g7 {s r:Bs} (h:sQ s) (hr:mC r):sQ (s++r):=by
 cases s with
 |nil=>exact h.elim
 |cons c t=>
  refine⟨h.1,λ⟨h1,h2⟩=> ?_⟩;change hd _ (t++r)=true at h2;rw[FR]at h2;split at h2
  .rw[hr.hd _ λc hc=>by simp[(rZ hc).2.2.2.2.2.2.2.2.1]]at h2;cases h2
  .exact h.2 ⟨h1,h2⟩
theorem q9: ∀(f g:Nat) (s:Bs),s.length<f->s.length<g->oE f s=oE g s:=by
 intro f;induction f with
 |zero=>intro g s h;omega
 |succ f ih=>
  intro g s h1 h2;cases g with
  |zero=>omega
  |succ g=>
   simp only[oE];have hl:=xY s 0;cases hb:dC 0 s with
   |nil=>rfl
   |cons c r=>
    have hk:=(zJ (s:=c::r) (by simp) (x:=(cJ (c::r)).1) (n:=(cJ (c::r)).2) rfl).1;rw[hb]at hl;have he:(c::r).length=r.length+1:=rfl;simp only;congr 1;exact ih _ _ (by rw[bL];omega) (by rw[bL];omega)
theorem yY {s:Bs} (h:dC 0 s=[]):bU s=[]:=by
 unfold bU;simp only[oE,h]
theorem BD {s:Bs} {c:UInt8} {r:Bs} (h:dC 0 s=c::r):bU s=(cJ (c::r)).1::bU ((c::r).drop (cJ (c::r)).2):=by
 have hl:=xY s 0;rw[h]at hl;have hk:=(zJ (s:=c::r) (by simp) (x:=(cJ (c::r)).1) (n:=(cJ (c::r)).2) rfl).1;have he:(c::r).length=r.length+1:=rfl;conv=>lhs;unfold bU
 simp only[oE,h];congr 1;exact q9 _ _ _ (by rw[bL];omega) om
theorem t6 {s t:Bs} (h:dC 0 s=dC 0 t):bU s=bU t:=by
 cases hb:dC 0 t with
 |nil=>rw[yY (h.trans hb),yY hb]
 |cons c r=>rw[BD (h.trans hb),BD hb]
theorem BC {c:UInt8} {r:Bs} (h:bB c=true):bU (c::r)=bU r:=t6 (by simp only[dC,h,if_true])
theorem KN {s:Bs} (h:sQ s):bU s=(cJ s).1::bU (s.drop (cJ s).2):=by
 cases s with
 |nil=>exact h.elim
 |cons c r=>exact BD (RT h)
theorem YJ (d:Nat) (h:d<10):aQ (sJ d)=true:=by
 simp only[aQ,sJ,decide_eq_true_eq,UInt8.toNat_ofNat'];omega
theorem DH (d:Nat) (h:d<10):(sJ d).toNat-48=d:=by
 simp only[sJ,UInt8.toNat_ofNat'];omega
theorem CL: ∀(f n:Nat),(mA f n).all aQ=true/\mA f n≠[]:=by
 have h1:=YJ;intro f;induction f with
 |zero=>intro n;exact⟨by simp[mA,h1 _ (jx n om)],by simp[mA]⟩
 |succ f ih=>
  intro n;simp only[mA];split
  .rename_i h;exact⟨by simp[h1 _ h],by simp⟩
  .exact⟨by simp[(ih (n/10)).1,h1 _ (jx n om)],by simp⟩
theorem XX: ∀(f n k:Nat),1<=k->n<10 ^ k->(mA f n).length<=k:=by
 intro f;induction f with
 |zero=>intro n k h1 _;simpa[mA]using h1
 |succ f ih=>
  intro n k h1 h2;simp only[mA];split
  .simpa using h1
  .rename_i h;obtain⟨j,rfl⟩: ∃j,k=j+1:=⟨k-1,by omega⟩;have hj:1<=j:=by
    rcases Nat.eq_zero_or_pos j with rfl|h3
    .simp at h2;omega
    .exact h3
   have:=ih (n/10) j hj (by rw[Nat.pow_succ]at h2;omega);simp;exact this
theorem PV (a b:Bs): ∀k,(a++b).foldl (λn (c:UInt8)=>n*10+(c.toNat-48)) k=b.foldl (λn (c:UInt8)=>n*10+(c.toNat-48)) (a.foldl (λn (c:UInt8)=>n*10+(c.toNat-48)) k):=λ_=>jz ..
theorem Mj: ∀(f n:Nat),n<10 ^ (f+1)->gX (mA f n)=n:=by
 have h1:=DH;intro f;induction f with
 |zero=>intro n h;simp only[mA,gX,xi,List.foldl_nil];rw[h1 _ (jx n om)];simp at h;omega
 |succ f ih=>
  intro n h;simp only[mA];split
  .rename_i h2;simp only[gX,xi,List.foldl_nil];rw[h1 _ h2];omega
  .have:=ih (n/10) (by rw[Nat.pow_succ]at h;omega);unfold gX at this ⊢;rw[PV,this];simp only[xi,List.foldl_nil];rw[h1 _ (jx n om)];omega
def jK (p:Nat):Bs:=(nA p).drop 1
theorem FU (p:Nat):nA p=if p=0 then []else 46::jK p:=by
 unfold jK nA;split<;>rfl
theorem FV (p:Nat) (h:p<1000):(jK p).all aQ=true/\(jK p).length<=3/\(p≠0->jK p≠[]):=by
 have h1:p/100<10:=by omega
 have h2:p/10%10<10:=by omega
 have h3:p%10<10:=by omega
 unfold jK nA;split
 .exact⟨rfl,by simp,λh=>absurd (by assumption) h⟩
 .refine⟨?_, ?_,λ_=>by simp⟩<;>split<;>try split
  all_goals simp[YJ,h1,h2,h3]
theorem Ky (p k:Nat) (h:p<1000):(jK p++cX (3-(jK p).length) 48).foldl (λn (c:UInt8)=>n*10+(c.toNat-48)) k=k*1000+p:=by
 have h1:=DH (p/100) om;have h2:=DH (p/10%10) om;have h3:=DH (p%10) om;unfold jK nA;split
 .rename_i h0;subst h0;simp[cX];omega
 .split
  .simp[cX,h1];omega
  .split
   .simp[h1,h2];omega
   .simp[h1,h2,h3];omega
def AI (U:Bs):Prop:=U=[]\/U=[37]\/ ∃c r,U=c::r/\kU c=true/\U.all bI=true/\bO U=U/\U.length<=64
theorem VI (c:UInt8):kU (fR c)=kU c:=by
 unfold fR;split
 .rename_i h;simp only[dR,decide_eq_true_eq]at h;have:(c+32).toNat=c.toNat+32:=by rw[UInt8.toNat_add];simp;omega
  rw[bK];simp only[kU,dR,eG,kL,decide_eq_true_eq,this];omega
 .rfl
theorem Hy (c:UInt8):aQ (fR c)=aQ c:=by
 unfold fR;split
 .rename_i h;simp only[dR,decide_eq_true_eq]at h;have:(c+32).toNat=c.toNat+32:=by rw[UInt8.toNat_add];simp;omega
  rw[bK];simp only[aQ,decide_eq_true_eq,this];omega
 .rfl
theorem VJ (c:UInt8) (k:Nat) (hk:k<65\/122<k\/(90<k/\k<97)):decide ((fR c).toNat=k)=decide (c.toNat=k):=by
 unfold fR;split
 .rename_i h;simp only[dR,decide_eq_true_eq]at h;have:(c+32).toNat=c.toNat+32:=by rw[UInt8.toNat_add];simp;omega
  rw[bK];simp only[decide_eq_true_eq,this];omega
 .rfl
theorem MA (c:UInt8):jD (fR c)=jD c:=by unfold jD;rw[VI,VJ c 95 om]
theorem EX (c:UInt8):bI (fR c)=bI c:=by unfold bI;rw[MA,Hy,VJ c 45 om]
theorem Hw (c:UInt8):fR (fR c)=fR c:=by
 have:dR (fR c)=false:=by
  unfold fR;split
  .rename_i h;simp only[dR,decide_eq_true_eq]at h;have:(c+32).toNat=c.toNat+32:=by rw[UInt8.toNat_add];simp;omega
   simp only[dR,decide_eq_false_iff_not,this];omega
  .rename_i h;simpa using h
 rw[show fR (fR c)=if dR (fR c)=true then fR c+32 else fR c from rfl,this];rfl
theorem FA (s:Bs):bO (bO s)=bO s:=by simp[bO,Hw]
theorem MI (p:UInt8->Bool) (hp: ∀c,p (fR c)=p c) (s:Bs):(bO s).all p=s.all p:=by
 induction s with
 |nil=>rfl
 |cons c s ih=>simp only[bO,List.map_cons,nO,hp]at*;rw[ih]
theorem PY (r:Bs) (h:(r.take (pT r)).length<=64):AI (bO (r.take (pT r))):=by
 cases r with
 |nil=>exact .inl rfl
 |cons c r=>
  simp only[pT]at h ⊢;split
  .rename_i h1;have:c=37:=UInt8.toNat_inj.1 h1;subst this;exact .inr (.inl rfl)
  .split
   .rename_i h0 h1;rw[if_neg h0,if_pos h1]at h;have h2:bI c=true:=by simp only[bI,jD,h1,Bool.true_or]
    have h3:aX bI (c::r)=aX bI r+1:=by simp[aX,h2]
    rw[h3,jg]at h ⊢;refine .inr (.inr ⟨fR c,bO (r.take (aX bI r)),rfl,by rw[VI];exact h1, ?_,FA _,by rw[oU];exact h⟩);rw[MI _ EX,nO,h2,sP];rfl
   .exact .inl rfl
theorem K1 {U:Bs} (h:AI U):pT U=U.length/\hd aQ U=false/\hd (λc=>decide (c.toNat=46)) U=false/\bO U=U/\U.length<=64:=by
 rcases h with rfl|rfl|⟨c,r,rfl,h1,h2,h3,h4⟩
 .exact⟨rfl,rfl,rfl,rfl,by simp⟩
 .exact⟨by decide,by decide,by decide,by decide,by decide⟩
 .refine⟨?_, ?_, ?_,h3,h4⟩
  .have h5:c.toNat≠37:=by simp only[kU,dR,eG,kL,decide_eq_true_eq]at h1;omega
   simp only[pT,if_neg h5,h1,if_true];exact DL _ _ h2
  .simp only[hd,kU,dR,eG,aQ,kL,decide_eq_true_eq,decide_eq_false_iff_not]at*;omega
  .simp only[hd,kU,dR,eG,kL,decide_eq_true_eq,decide_eq_false_iff_not]at*;omega
def mR (n:Int):Bs:=if n<0 then [45]else []
theorem zY (n:Int):gA n=mR n++(gM (n.natAbs/1000)++nA (n.natAbs%1000)):=by
 unfold gA mR;rw[cY]
theorem Mi (k:Nat): ∃c r,gM k=c::r/\aQ c=true:=by
 have h:=CL 20 k;unfold gM;cases hf:mA 20 k with
 |nil=>exact absurd hf h.2
 |cons c r=>rw[hf]at h;simp at h;exact⟨c,r,rfl,h.1⟩
theorem Nz {c:UInt8} (h:aQ c=true):jD c=false/\kD c=false/\bB c=false/\c.toNat≠45/\c.toNat≠47/\oP c=false:=by
 simp only[aQ,jD,kU,kD,bB,oP,dR,eG,decide_eq_true_eq,oK,decide_eq_false_iff_not]at*;omega
theorem CK (n:Int) (V:Bs):gY (gA n++V)=(mR n).length/\(gA n++V).drop (mR n).length=gM (n.natAbs/1000)++(nA (n.natAbs%1000)++V)/\dW (gA n++V)=false/\sQ (gA n++V)/\hd (λc=>decide (c.toNat=45)) (gA n++V)=decide (n<0):=by
 obtain⟨c,r,hc,hd0⟩:=Mi (n.natAbs/1000);obtain⟨d1,d2,d3,d4,d5,_⟩:=Nz hd0;rw[zY,cY,cY];unfold mR;by_cases hn:n<0
 .rw[if_pos hn];refine⟨rfl,rfl, ?_,⟨by decide,by simp⟩,by simp[hd,hn]⟩;rw[hc];simp[dW,d1];decide
 .rw[if_neg hn];refine⟨?_,rfl, ?_, ?_, ?_⟩
  .rw[hc];simp[gY,hd,d2]
  .rw[hc];simp[dW,d1,d4]
  .rw[hc];exact⟨d3,λh=>d5 h.1⟩
  .rw[hc];simp[hd,d4,hn]
theorem Mg (n:Int) (V:Bs):(gA n).length<=(cQ (gA n++V)).tu:=by
 obtain⟨h1,h2,_⟩:=CK n V;have hf:=(CL 20 (n.natAbs/1000)).1;have hfr:=FV (n.natAbs%1000) (jx _ om);unfold cQ;simp only[h1,h2];have hlen:(gA n).length=(mR n).length+((gM (n.natAbs/1000)).length+(nA (n.natAbs%1000)).length):=by rw[zY];simp
 rw[hlen];rw[FU]at*;by_cases hp:n.natAbs%1000=0
 .rw[if_pos hp];have:=QB aQ (gM (n.natAbs/1000)) ([]++V) hf;simp only[List.length_nil];omega
 .rw[if_neg hp];have e1:aX aQ (gM (n.natAbs/1000)++(46::jK (n.natAbs%1000)++V))=(gM (n.natAbs/1000)).length:=wY _ _ _ hf (by rfl);rw[e1,Xw];have e2:fV (46::jK (n.natAbs%1000)++V)=aX aQ (jK (n.natAbs%1000)++V):=rfl;rw[e2];have h3:=QB aQ (jK (n.natAbs%1000)) V hfr.1;have h4:0<(jK (n.natAbs%1000)).length:=pN.2 (hfr.2.2 hp);rw[if_neg om];simp only[aY];omega
theorem UM (n:Int) (U:Bs) (hn:n.natAbs<=999999999) (hU:AI U):cJ (gA n++U)=(⟨3,[],n,U⟩,(gA n++U).length):=by
 obtain⟨h1,h2,h3,_,h5⟩:=CK n U;obtain⟨u1,u2,u3,u4,u5⟩:=K1 hU;have hf:=(CL 20 (n.natAbs/1000)).1;have hfl:(gM (n.natAbs/1000)).length<=6:=XX 20 _ 6 om om;have hfv:gX (gM (n.natAbs/1000))=n.natAbs/1000:=Mj 20 _ om;have hfr:=FV (n.natAbs%1000) (jx _ om);have hlen:(gA n).length=(mR n).length+((gM (n.natAbs/1000)).length+(nA (n.natAbs%1000)).length):=by rw[zY];simp
 have hne:gM (n.natAbs/1000)≠[]:=(CL 20 _).2;have hP:cQ (gA n++U)=⟨decide (n<0),gM (n.natAbs/1000),jK (n.natAbs%1000),U,(gA n).length⟩:=by
  unfold cQ;simp only[h1,h2,h5];rw[FU]at*;by_cases hp:n.natAbs%1000=0
  .rw[if_pos hp]at hlen ⊢;have e1:aX aQ (gM (n.natAbs/1000)++([]++U))=(gM (n.natAbs/1000)).length:=wY _ _ _ hf (by simpa using u2);rw[e1,Xw,jl];have e2:fV U=0:=by
    cases U with
    |nil=>rfl
    |cons c r=>simp only[hd,decide_eq_false_iff_not]at u3;simp[fV,u3]
   have e3:jK (n.natAbs%1000)=[]:=by rw[hp];rfl
   simp only[fG,e2,e3,if_true,qN,u1,kJ,hlen,List.length_nil];congr 1
  .rw[if_neg hp]at hlen ⊢;have e1:aX aQ (gM (n.natAbs/1000)++(46::jK (n.natAbs%1000)++U))=(gM (n.natAbs/1000)).length:=wY _ _ _ hf (by rfl);rw[e1,Xw,jl];have e2:fV (46::(jK (n.natAbs%1000)++U))=(jK (n.natAbs%1000)).length:=wY _ _ _ hfr.1 u2;have h4:0<(jK (n.natAbs%1000)).length:=pN.2 (hfr.2.2 hp);have h6:(jK (n.natAbs%1000)).length≠0:=by omega
   simp only[cF,e2,if_neg h6,qP,fJ,jl,Xw,u1,kJ,hlen,aY];congr 1;omega
 unfold cJ;rw[h3];simp only[gW,if_false];unfold gH;rw[hP];unfold BO;simp only;rw[if_neg (λh=>hne h.1),if_neg om];have hv:gX (gM (n.natAbs/1000)++jK (n.natAbs%1000)++cX (3-(jK (n.natAbs%1000)).length) 48)=n.natAbs:=by
  unfold gX at hfv ⊢;rw[cY,PV,hfv,Ky _ _ (jx _ om)];omega
 simp only[hv,u4,aZ];congr 2;by_cases h:n<0
 .simp[h];omega
 .simp[h];omega
theorem KT {x:aK} (h:cR x=true):x.kind≠7/\bU (cE x)=[x]:=by
 simpa[cR]using h
theorem KR {x:aK} (h:cR x=true):sQ (cE x)/\cJ (cE x)=(x,(cE x).length):=by
 obtain⟨h7,hs⟩:=KT h;obtain⟨pre,hpre⟩:=ZH (cE x) 0;have hl:=xY (cE x) 0;cases hb:dC 0 (cE x)with
 |nil=>rw[yY hb]at hs;cases hs
 |cons c r=>
  rw[hb]at hpre hl;rw[BD hb]at hs;have hx:=(List.cons.inj hs).1;obtain⟨n,hn⟩: ∃n,(cJ (c::r)).2=n:=⟨_,rfl⟩;have hp:cJ (c::r)=(x,n):=Prod.ext hx hn;obtain⟨n1,n2,hk⟩:=zJ (s:=c::r) (by simp) hp;have key:n=(cE x).length->sQ (cE x)/\cJ (cE x)=(x,(cE x).length):=λhe=>by
   have h0:pre=[]:=List.eq_nil_of_length_eq_zero (by have:=congrArg List.length hpre;rw[aZ]at this;omega);rw[h0,fG]at hpre;rw[<-he,hpre];exact⟨Qw _ _ hb,hp⟩
  rcases hk with hk|⟨k1,k2⟩|⟨k1,k2⟩|⟨k1,k2,k3⟩|⟨k1,k2⟩|⟨k1,k2⟩|⟨k1,k2⟩
  .exact absurd hk h7
  .exact key (by rw[cE,if_pos (.inl k1)];omega)
  .exact key (by rw[cE,if_neg om,if_pos k1];simp;omega)
  .have ht:cE x=gA x.num++x.unit:=by rw[cE,if_neg om,if_neg om,if_pos k1]
   obtain⟨_,_,_,hsol,_⟩:=CK x.num x.unit;rw[<-ht]at hsol;rw[RT hsol]at hb;rw[<-hb]at hp k3 n2;obtain⟨m1,_,m3⟩:=zN k3;have m4:x.unit.length=(cQ (cE x)).unit.length:=by
    rcases m3 with m3|⟨_,_,_,m3⟩
    .exact absurd (by rw[m3];rfl) h7
    .have:=congrArg aK.unit m3;simp only at this;rw[this,oU]
   have m5:=Mg x.num x.unit;rw[<-ht]at m5;have m6:(cE x).length=(gA x.num).length+x.unit.length:=by rw[ht];simp
   have:n=(cE x).length:=by omega
   exact⟨hsol,by rw[<-this];exact hp⟩
  .exact key (by rw[cE,if_neg om,if_neg om,if_neg om,if_pos k1];simp;omega)
  .exact key (by rw[cE,if_neg om,if_neg om,if_neg om,if_neg om,if_pos k1];simp;omega)
  .exact key (by rw[cE,if_pos (.inr k1)];omega)
theorem AU {x:aK} (h:cR x=true) {r:Bs} (hr:mC r):bU (cE x++r)=x::bU r:=by
 obtain⟨h1,h2⟩:=KR h;have hne:cE x≠[]:=by intro h0;rw[h0]at h1;exact h1
 have h3:=Dd hne hr (by rw[h2];exact(KT h).1);rw[KN (g7 h1 hr),h3,h2,Xw]
theorem O9: ∀(l:List aK),(∀x∈l,cR x=true)-> ∀r,mC r->bU (oL l++r)=l++bU r:=by
 intro l;induction l with
 |nil=>intro _ r _;rfl
 |cons x l ih=>
  intro h r hr;have hx:=h x (fX ..);have hl:=ih (λy hy=>h y (fO _ hy)) r hr;cases l with
  |nil=>exact AU hx hr
  |cons y l=>
   show bU ((cE x++32::oL (y::l))++r)=_;rw[cY,cF,AU hx (.inr ⟨32,_,rfl,by decide⟩),BC dc,hl];rfl
theorem zH {x:aK} (h1:sQ (cE x)) (h2:cJ (cE x)=(x,(cE x).length)) (h7:x.kind≠7):cR x=true:=by
 have h3:=KN h1;rw[h2,List.drop_length]at h3;simp only[cR,h3,bD,decide_eq_true_eq];exact⟨h7,by rw[yY rfl]⟩
theorem Gc {s:Bs} (h:dW s=true) (V:Bs):dW (bO (s.take (aX bI s))++V)=true:=by
 cases s with
 |nil=>simp[dW]at h
 |cons c r=>
  simp only[dW,kL,bD,decide_eq_true_eq]at h;rcases h with h|⟨h,h2⟩
  .have h3:bI c=true:=by simp only[bI,h,Bool.true_or]
   have h4:aX bI (c::r)=aX bI r+1:=by simp[aX,h3]
   rw[h4,jg];simp[bO,dW,MA,h]
  .cases r with
   |nil=>simp at h2
   |cons d r=>
    have h3:bI c=true:=by simp[bI,h]
    have h5:bI d=true:=by simp only[bI];simp only at h2;rw[h2];rfl
    have h4:aX bI (c::d::r)=aX bI r+2:=by simp[aX,h3,h5]
    have hc:c=45:=UInt8.toNat_inj.1 h;subst hc;rw[h4,jg,jg];have h6:fR 45=45:=by decide
    simp only at h2;simp[bO,dW,MA,h2,h6]
theorem VD {s:Bs} (h:dW s=true):sQ s:=by
 cases s with
 |nil=>simp[dW]at h
 |cons c r=>
  simp only[dW,kL,bD,decide_eq_true_eq]at h;have:c.toNat=45\/jD c=true:=by rcases h with h|h;exact .inr h;exact .inl h.1
  refine⟨?_,λh=> ?_⟩
  .simp only[jD,kU,dR,eG,bB,kL,decide_eq_true_eq,decide_eq_false_iff_not]at*;omega
  .have:=h.1;simp only[jD,kU,dR,eG,kL,decide_eq_true_eq]at*;omega
theorem Gy {c:UInt8} (h:rF c=true):c∈([58,59,44,40,41,47,33,42,43,46,62,61,45]:Bs):=by
 unfold rF at h;exact List.contains_iff_mem.1 h
theorem q6 {s:Bs} (hs:s≠[]) {x:aK} {n:Nat} (h:cJ s=(x,n)) (h7:x.kind≠7):cR x=true:=by
 unfold cJ at h;cases hn:dW s
 .rw[hn]at h;simp only[gW,if_false]at h;cases hm:gH s with
  |some y=>
   rw[hm]at h;simp only at h;subst h;obtain⟨_,_,h3⟩:=zN hm;rcases h3 with rfl|⟨l1,l2,l3,h3⟩
   .exact absurd rfl h7
   .have hu:AI (bO (cQ s).unit):=PY _ l3;have hv:gX ((cQ s).whole++(cQ s).part++cX (3-(cQ s).part.length) 48)<=999999999:=by
     have hb: ∀(l:Bs),l.all aQ=true-> ∀k,l.foldl (λn (c:UInt8)=>n*10+(c.toNat-48)) k+1<=(k+1)*10 ^ l.length:=by
      intro l;induction l with
      |nil=>intro _ k;simp
      |cons c l ih=>
       intro hl k;simp only[nO,bD]at hl;have:=ih hl.2 (k*10+(c.toNat-48));have hc:=hl.1;simp only[aQ,decide_eq_true_eq]at hc;simp only[xi,aY,Nat.pow_succ];refine Nat.le_trans this ?_;rw[Nat.mul_comm (10 ^ l.length) 10,<-Nat.mul_assoc];exact Nat.mul_le_mul_right _ om
     have ha:((cQ s).whole++(cQ s).part++cX (3-(cQ s).part.length) 48).all aQ=true:=by
      simp only[List.all_append,bD];refine⟨⟨sP aQ _, ?_⟩, ?_⟩
      .unfold cQ;simp only;generalize((s.drop (gY s)).drop (aX aQ (s.drop (gY s))))=v;cases v with
       |nil=>rfl
       |cons c v=>
        simp only[fV,qP,fJ];split
        .exact sP aQ _
        .rfl
      .rw[dO];intro c hc;rw[List.eq_of_mem_replicate hc];decide
     have:=hb _ ha 0;have hl:((cQ s).whole++(cQ s).part++cX (3-(cQ s).part.length) 48).length<=9:=by simp;omega
     have hp:=Nat.pow_le_pow_right (n:=10) om hl;unfold gX;omega
    have hnum:x.num.natAbs<=999999999:=by
     rw[h3];simp only;split<;>omega
    have ht:cE x=gA x.num++bO (cQ s).unit:=by rw[h3];rfl
    obtain⟨_,_,_,hsol,_⟩:=CK x.num (bO (cQ s).unit);refine zH (by rw[ht];exact hsol) ?_ h7;rw[ht,UM _ _ hnum hu];congr 1;rw[h3]
  |none=>
   rw[hm]at h;simp only at h;cases hq:gS s with
   |some y=>
    rw[hq]at h;simp only at h;subst h;obtain⟨c,r,rfl,h1,h2,rfl⟩:=BI hq;have ha:=sP gG r;generalize r.take (aX gG r)=t at*;have ht:cE ⟨5,t,0,[]⟩=34::(t++[34]):=rfl;refine zH (by rw[ht];exact⟨by decide,λh=>absurd h.1 dc⟩) ?_ h7;rw[ht];have q1:aX gG (t++[34])=t.length:=wY _ _ _ ha dc;have q2:gS (34::(t++[34]))=some (⟨5,t,0,[]⟩,t.length+2):=by
     simp only[gS,q1,Xw,jl];rfl
    have q3:gH (34::(t++[34]))=none:=by
     have e1:gY (34::(t++[34]))=0:=rfl;have e2:aX aQ (34::(t++[34]))=0:=rfl;have e3:fV (34::(t++[34]))=0:=rfl;unfold gH cQ;simp only[e1,e2,e3,fJ,qN];rfl
    have q4:dW (34::(t++[34]))=false:=by
     have:jD 34=false:=by decide
     simp[dW,this]
    unfold cJ;rw[q4,q3,q2];simp
   |none=>
    rw[hq]at h;simp only at h;cases s with
    |nil=>exact absurd rfl hs
    |cons c r=>
     simp only at h;split at h
     .rename_i h1;simp only[Prod.mk.injEq]at h;obtain⟨rfl,rfl⟩:=h;have ha:=sP bI r;have hl:(r.take (aX bI r)).length=aX bI r:=by rw[bZ];have:=lI bI r;omega
      generalize r.take (aX bI r)=t at*;unfold mH at h7 ⊢;split
      .rename_i h2;rw[if_pos h2]at h7;exact absurd rfl h7
      .rename_i h2;rw[if_neg h2]at h7;have ht:cE ⟨4,bO t,0,[]⟩=35::bO t:=rfl;refine zH (by rw[ht];exact⟨by decide,λh=>absurd h.1 dc⟩) ?_ h7;rw[ht];have q0:aX bI (bO t)=t.length:=by rw[DL _ _ (by rw[MI _ EX];exact ha),oU]
       have q2:gS (35::bO t)=none:=rfl;have q3:gH (35::bO t)=none:=by
        have e1:gY (35::bO t)=0:=rfl;have e2:aX aQ (35::bO t)=0:=rfl;have e3:fV (35::bO t)=0:=rfl;unfold gH cQ;simp only[e1,e2,e3,fJ,qN];rfl
       have q4:dW (35::bO t)=false:=by
        have:jD 35=false:=by decide
        simp[dW,this]
       unfold cJ;rw[q4,q3,q2];simp only[gW,if_false,q0];rw[if_pos ⟨by decide,by omega⟩,<-oU t,kJ];unfold mH;rw[oU,if_neg h2,FA];simp[oU]
     .split at h
      .rename_i h1 h2;simp only[Prod.mk.injEq]at h;obtain⟨rfl,rfl⟩:=h;have:=Gy h2;simp only[bJ,List.not_mem_nil,or_false]at this;rcases this with rfl|rfl|rfl|rfl|rfl|rfl|rfl|rfl|rfl|rfl|rfl|rfl|rfl<;>decide
      .simp only[Prod.mk.injEq]at h;obtain⟨rfl,rfl⟩:=h;exact absurd rfl h7
 .rw[hn]at h;simp only[if_true]at h;have hp:=VE hn;have hle:=lI bI s;have hnl:=Gc hn;have ha:=sP bI s;have hl:(s.take (aX bI s)).length=aX bI s:=by rw[bZ];omega
  have hal:(bO (s.take (aX bI s))).all bI=true:=by rw[MI _ EX];exact ha
  have hll:(bO (s.take (aX bI s))).length=aX bI s:=by rw[oU,hl]
  have hlo:=FA (s.take (aX bI s));unfold lY at h;split at h
  .simp only[Prod.mk.injEq]at h;obtain⟨rfl,rfl⟩:=h;exact absurd rfl h7
  .rename_i h64;generalize bO (s.take (aX bI s))=t at*;generalize aX bI s=m at*;split at h
   .simp only[Prod.mk.injEq]at h;obtain⟨rfl,rfl⟩:=h;have ht:cE ⟨2,t,0,[]⟩=t++[40]:=rfl;have q1:aX bI (t++[40])=t.length:=wY _ _ _ hal dc;refine zH (by rw[ht];exact VD (hnl [40])) ?_ h7;rw[ht];unfold cJ;rw[hnl [40]];simp only[if_true];unfold lY;rw[q1,Xw,jl,if_neg om,if_pos dc,hlo];simp
   .simp only[Prod.mk.injEq]at h;obtain⟨rfl,rfl⟩:=h;have ht:cE ⟨1,t,0,[]⟩=t:=rfl;have hn2:=hnl [];rw[bV]at hn2;have q1:aX bI t=t.length:=DL _ _ hal;refine zH (by rw[ht];exact VD hn2) ?_ h7;rw[ht];unfold cJ;rw[hn2];simp only[if_true];unfold lY;rw[q1,List.drop_length,kJ,if_neg om,if_neg (by simp[hd]),hlo]
theorem SC: ∀(f:Nat) (s:Bs),∀x∈oE f s,x.kind≠7->cR x=true:=by
 intro f;induction f with
 |zero=>intro s x hx;simp[oE]at hx
 |succ f ih=>
  intro s x hx h7;simp only[oE]at hx;cases hb:dC 0 s with
  |nil=>rw[hb]at hx;simp at hx
  |cons c r=>
   rw[hb]at hx;simp only[bJ]at hx;rcases hx with rfl|hx
   .exact q6 (s:=c::r) (by simp) (n:=(cJ (c::r)).2) rfl h7
   .exact ih _ x hx h7
structure bE where
 name:Bs
 value:List aK
 imp:Bool
deriving DecidableEq
def cK (k:UInt8) (x:aK):Bool:=decide (x.kind=6)&&decide (x.text=[k])
def uH (x:aK):Bool:=decide (x.kind=2)||cK 40 x
def dn (d:Nat) (x:aK):Nat:=if uH x then d+1 else if cK 41 x then d-1 else d
def fU:Nat->List aK->Bool
 |d,[]=>decide (d=0)
 |d,x::l=>if cK 41 x&&decide (d=0)then false else fU (dn d x) l
def fQ (x:aK):Bool:=decide (x.kind≠7)&& !cK 59 x&& !cK 33 x
def oS (l:List aK):Bool:= !l.isEmpty&&fU 0 l&&l.all fQ
def eB:Nat->List aK->List (List aK)
 |_,[]=>[[]]
 |d,x::l=>if cK 59 x&&decide (d=0)then []::eB 0 l else match eB (dn d x) l with
  |[]=>[[x]]
  |p::ps=>(x::p)::ps
def qB:Bs:=[105,109,112,111,114,116,97,110,116]
def zU (x:aK):Bool:=decide (x.kind=1)&&decide (x.text=qB)
def iL (l:List aK):Bool:=match l[l.length-2]?,l[l.length-1]? with
 |some a,some b=>decide (2<=l.length)&&cK 33 a&&zU b
 |_,_=>false
def dQ (l:List aK):List aK:=if iL l then l.take (l.length-2)else l
def kI:List aK->Option bE
 |a::b::r=>if decide (a.kind=1)&&cK 58 b&&oS (dQ r)then some ⟨a.text,dQ r,iL r⟩else none
 |_=>none
def gI (l:List aK):List bE:=(eB 0 l).filterMap kI
def xQ:Bs:=[32,33,32]++qB
def lJ (d:bE):Bs:=d.name++[58,32]++oL d.value++(if d.imp then xQ else [])
def oW:List Bs->Bs
 |[]=>[]
 |[u]=>u
 |u::v::l=>u++59::32::oW (v::l)
def mQ (l:List bE):Bs:=oW (l.map lJ)
def eN (d:bE):Bool:=d.value.all cR&&oS d.value&&cR ⟨1,d.name,0,[]⟩
def bP (k:UInt8):aK:=⟨6,[k],0,[]⟩
def qW (d:bE):List aK:=⟨1,d.name,0,[]⟩::bP 58::(d.value++if d.imp then [bP 33,⟨1,qB,0,[]⟩]else [])
def tY:List bE->List aK
 |[]=>[]
 |[d]=>qW d
 |d::e::l=>qW d++bP 59::tY (e::l)
theorem Cy {s:Bs} (hs:s≠[]) {x:aK} {n:Nat} (h:cJ s=(x,n)):(x.kind=1->x.num=0/\x.unit=[]/\bO x.text=x.text)/\(x.kind=6-> ∃c,x=bP c):=by
 unfold cJ at h;cases hn:dW s
 .rw[hn]at h;simp only[gW,if_false]at h;cases hm:gH s with
  |some y=>
   rw[hm]at h;simp only at h;subst h;obtain⟨_,_,h3⟩:=zN hm;rcases h3 with rfl|⟨_,_,_,rfl⟩
   .exact⟨λh=>absurd h dc,λh=>absurd h dc⟩
   .exact⟨λh=>absurd h (by simp),λh=>absurd h (by simp)⟩
  |none=>
   rw[hm]at h;simp only at h;cases hq:gS s with
   |some y=>
    rw[hq]at h;simp only at h;subst h;obtain⟨c,r,rfl,h1,h2,rfl⟩:=BI hq;exact⟨λh=>absurd h (by simp),λh=>absurd h (by simp)⟩
   |none=>
    rw[hq]at h;simp only at h;cases s with
    |nil=>exact absurd rfl hs
    |cons c r=>
     simp only at h;split at h
     .simp only[Prod.mk.injEq]at h;obtain⟨rfl,_⟩:=h;unfold mH;split
      .exact⟨λh=>absurd h dc,λh=>absurd h dc⟩
      .exact⟨λh=>absurd h (by simp),λh=>absurd h (by simp)⟩
     .split at h
      .simp only[Prod.mk.injEq]at h;obtain⟨rfl,_⟩:=h;exact⟨λh=>absurd h (by simp),λ_=>⟨c,rfl⟩⟩
      .simp only[Prod.mk.injEq]at h;obtain⟨rfl,_⟩:=h;exact⟨λh=>absurd h dc,λh=>absurd h dc⟩
 .rw[hn]at h;simp only[if_true]at h;unfold lY at h;split at h
  .simp only[Prod.mk.injEq]at h;obtain⟨rfl,_⟩:=h;exact⟨λh=>absurd h dc,λh=>absurd h dc⟩
  .split at h
   .simp only[Prod.mk.injEq]at h;obtain⟨rfl,_⟩:=h;exact⟨λh=>absurd h (by simp),λh=>absurd h (by simp)⟩
   .simp only[Prod.mk.injEq]at h;obtain⟨rfl,_⟩:=h;exact⟨λ_=>⟨rfl,rfl,FA _⟩,λh=>absurd h (by simp)⟩
theorem KV {x:aK} (h:cR x=true):(x.kind=1->x.num=0/\x.unit=[]/\bO x.text=x.text)/\(x.kind=6-> ∃c,x=bP c):=by
 obtain⟨h1,h2⟩:=KR h;exact Cy (by intro h0;rw[h0]at h1;exact h1) h2
def mB (x:aK):Prop:=(x.kind=1->x.num=0/\x.unit=[])/\(x.kind=6-> ∃c,x=bP c)
theorem TK {x:aK} (h:cR x=true):mB x:=⟨λh1=>⟨((KV h).1 h1).1,((KV h).1 h1).2.1⟩,(KV h).2⟩
theorem TJ {s:Bs}: ∀x∈bU s,mB x:=by
 intro x hx;by_cases h7:x.kind=7
 .exact⟨λh=>by omega,λh=>by omega⟩
 .exact TK (SC _ s x hx h7)
theorem Ht (k:UInt8) (h:k=58\/k=33\/k=59):cR (bP k)=true:=by
 rcases h with rfl|rfl|rfl<;>decide+kernel
theorem Jy:cR ⟨1,qB,0,[]⟩=true:=by decide+kernel
theorem NK (r:Bs):mC (32::r):= .inr ⟨32,r,rfl,by decide⟩
theorem Nf (r:Bs):mC (58::r):= .inr ⟨58,r,rfl,by decide⟩
theorem Nd (r:Bs):mC (59::r):= .inr ⟨59,r,rfl,by decide⟩
theorem SD (k:UInt8) (h:k=58\/k=33\/k=59) (r:Bs) (hr:mC r):bU (k::r)=bP k::bU r:=AU (Ht k h) hr
theorem q7 (r:Bs):bU (59::r)=bP 59::bU r:=by
 have h1:sQ (59::r):=⟨by decide,λh=>absurd h.1 dc⟩;have h2:cJ (59::r)=(bP 59,1):=by
  have q4:dW (59::r)=false:=by
   have:jD 59=false:=by decide
   simp[dW,this]
  have q3:gH (59::r)=none:=by
   have e1:gY (59::r)=0:=rfl;have e2:aX aQ (59::r)=0:=rfl;have e3:fV (59::r)=0:=rfl;unfold gH cQ;simp only[e1,e2,e3,fJ,qN];rfl
  have q2:gS (59::r)=none:=rfl;unfold cJ;rw[q4,q3,q2];rfl
 rw[KN h1,h2];rfl
theorem QK {d:bE} (h:eN d=true) (r:Bs) (hr:mC r):bU (lJ d++r)=qW d++bU r:=by
 simp only[eN,bD,dO]at h;obtain⟨⟨h1,_⟩,h3⟩:=h;have e1:lJ d++r=d.name++(58::32::(oL d.value++((if d.imp then xQ else [])++r))):=by
  unfold lJ;simp
 have hv:mC ((if d.imp then xQ else [])++r):=by
  cases d.imp
  .exact hr
  .exact NK _
 have e2:bU ((if d.imp then xQ else [])++r)=(if d.imp then [bP 33,⟨1,qB,0,[]⟩]else [])++bU r:=by
  cases d.imp
  .rfl
  .show bU (32::33::32::(qB++r))=_;rw[BC dc,SD 33 (.inr (.inl rfl)) _ (NK _),BC dc];have:=AU Jy hr;rw[show cE ⟨1,qB,0,[]⟩=qB from rfl]at this;rw[this];rfl
 rw[e1];have:=AU h3 (Nf (32::(oL d.value++((if d.imp then xQ else [])++r))));rw[show cE ⟨1,d.name,0,[]⟩=d.name from rfl]at this;rw[this,SD 58 (.inl rfl) _ (NK _),BC dc,O9 _ h1 _ hv,e2];simp[qW]
theorem O8: ∀(l:List bE),(∀d∈l,eN d=true)-> ∀r,mC r->bU (mQ l++r)=tY l++bU r:=by
 intro l;induction l with
 |nil=>intro _ r _;rfl
 |cons d l ih=>
  intro h r hr;have hd:=h d (fX ..);have hl:=ih (λy hy=>h y (fO _ hy)) r hr;cases l with
  |nil=>exact QK hd r hr
  |cons e l=>
   show bU ((lJ d++59::32::mQ (e::l))++r)=_;rw[cY,cF,cF,QK hd _ (Nd _),q7,BC dc,hl];simp[tY]
theorem TY (d:Nat) (l:List aK): ∃p ps,eB d l=p::ps:=by
 cases l with
 |nil=>exact⟨_,_,rfl⟩
 |cons x l=>
  simp only[eB];split
  .exact⟨_,_,rfl⟩
  .cases eB (dn d x) l<;>exact⟨_,_,rfl⟩
def tM (d:Nat) (l:List aK):Nat:=l.foldl dn d
theorem TX: ∀(l:List aK) (d:Nat) (rest:List aK),(∀x∈l,cK 59 x=false)-> ∀p ps,eB (tM d l) rest=p::ps->eB d (l++rest)=(l++p)::ps:=by
 intro l;induction l with
 |nil=>intro d rest _ p ps h;exact h
 |cons x l ih=>
  intro d rest hx p ps h;have:=ih (dn d x) rest (λy hy=>hx y (fO _ hy)) p ps h;rw[cF,eB,hx x (fX ..)];simp[this]
theorem Mr: ∀(l:List aK) (d:Nat),fU d l=true->tM d l=0:=by
 intro l;induction l with
 |nil=>intro d h;simpa[fU,tM]using h
 |cons x l ih=>
  intro d h;simp only[fU]at h;split at h
  .cases h
  .exact ih _ h
theorem EW {l:List aK} (h:oS l=true):l≠[]/\fU 0 l=true/\ ∀x∈l,fQ x=true:=by
 simp only[oS,bD,dO,rU,List.isEmpty_eq_false_iff]at h;exact⟨h.1.1,h.1.2,h.2⟩
theorem LN {x:aK} (h:fQ x=true):cK 59 x=false/\cK 33 x=false/\x.kind≠7:=by
 simp only[fQ,bD,rU,decide_eq_true_eq]at h;exact⟨h.1.2,h.2,h.1.1⟩
theorem QN {d:bE} (h:eN d=true):(∀x∈qW d,cK 59 x=false)/\tM 0 (qW d)=0:=by
 simp only[eN,bD]at h;obtain⟨_,he,ho⟩:=EW h.1.2;have h0:tM 0 d.value=0:=Mr _ _ he;constructor
 .intro x hx;simp only[qW,bJ,List.mem_append]at hx;rcases hx with rfl|rfl|hx|hx
  .simp[cK]
  .decide
  .exact(LN (ho x hx)).1
  .split at hx
   .simp only[bJ,List.not_mem_nil,or_false]at hx;rcases hx with rfl|rfl<;>decide
   .cases hx
 .show List.foldl dn (dn (dn 0 ⟨1,d.name,0,[]⟩) (bP 58)) (d.value++_)=0;have e1:dn 0 ⟨1,d.name,0,[]⟩=0:=by simp[dn,uH,cK]
  have e2:dn 0 (bP 58)=0:=by decide
  rw[e1,e2,jz];change List.foldl dn (tM 0 d.value) _=0;rw[h0];cases d.imp<;>decide
theorem J3 (v:List aK):iL (v++[bP 33,⟨1,qB,0,[]⟩])=true/\dQ (v++[bP 33,⟨1,qB,0,[]⟩])=v:=by
 have h1:iL (v++[bP 33,⟨1,qB,0,[]⟩])=true:=by
  unfold iL;have e1:(v++[bP 33,⟨1,qB,0,[]⟩]).length=v.length+2:=by simp
  rw[e1,Nat.add_sub_cancel,lE (Nat.le_refl _),Nat.sub_self,lE om,show v.length+2-1-v.length=1 by omega];simp;decide
 refine⟨h1, ?_⟩;unfold dQ;rw[if_pos h1];simp
theorem J4 {v:List aK} (h: ∀x∈v,fQ x=true):iL v=false/\dQ v=v:=by
 have h1:iL v=false:=by
  unfold iL;split
  .rename_i a b ha hb;have:=(LN (h a (List.mem_of_getElem? ha))).2.1;rw[this];simp
  .rfl
 exact⟨h1,by unfold dQ;rw[h1];rfl⟩
theorem YO {d:bE} (h:eN d=true):kI (qW d)=some d:=by
 simp only[eN,bD]at h;obtain⟨_,_,ho⟩:=EW h.1.2;have hm:=h.1.2;obtain⟨n,v,i⟩:=d;simp only[qW,kI];cases i
 .obtain⟨e1,e2⟩:=J4 (v:=v) ho;simp only[gW,if_false,bV,e1,e2];simp only at hm;rw[hm];rfl
 .obtain⟨e1,e2⟩:=J3 v;simp only[if_true,e1,e2];simp only at hm;rw[hm];rfl
theorem Od: ∀(l:List bE),(∀d∈l,eN d=true)->gI (tY l)=l/\ ∀rest,gI (tY l++bP 59::rest)=l++gI rest:=by
 have hs: ∀rest,eB 0 (bP 59::rest)=[]::eB 0 rest:=λrest=>by
  rw[eB,if_pos dc]
 have one: ∀d,eN d=true-> ∀rest,gI (qW d++bP 59::rest)=d::gI rest:=λd hd rest=>by
  obtain⟨h1,h2⟩:=QN hd;unfold gI;rw[TX (qW d) 0 (bP 59::rest) h1 [] (eB 0 rest) (by rw[h2,hs]),bV,ye,YO hd]
 intro l;induction l with
 |nil=>
  intro _;refine⟨rfl,λrest=> ?_⟩;unfold gI;rw[tY,fG,hs,ye];rfl
 |cons d l ih=>
  intro h;have hd:=h d (fX ..);obtain⟨i1,i2⟩:=ih (λy hy=>h y (fO _ hy));cases l with
  |nil=>
   refine⟨?_,λrest=>one d hd rest⟩;obtain⟨h1,h2⟩:=QN hd;have:=TX (qW d) 0 [] h1 [] [] (by rw[h2];rfl);rw[bV]at this;unfold gI;rw[tY,this,ye,YO hd];rfl
  |cons e l=>
   refine⟨by rw[tY,one d hd,i1],λrest=> ?_⟩;rw[tY,cY,cF,one d hd,i2];rfl
theorem Oh {l:List bE} (h: ∀d∈l,eN d=true):gI (bU (mQ l))=l:=by
 have:=O8 l h [] (.inl rfl);rw[bV,yY (s:=[]) rfl,bV]at this;rw[this];exact(Od l h).1
theorem Ds: ∀(l:List aK) (d:Nat),∀p∈eB d l,∀x∈p,x∈l:=by
 intro l;induction l with
 |nil=>intro d p hp x hx;simp[eB]at hp;subst hp;cases hx
 |cons y l ih=>
  intro d p hp x hx;simp only[eB]at hp;split at hp
  .simp only[bJ]at hp;rcases hp with rfl|hp
   .cases hx
   .exact fO _ (ih 0 p hp x hx)
  .obtain⟨q,qs,hq⟩:=TY (dn d y) l;have ih2:=ih (dn d y);rw[hq]at hp ih2;simp only[bJ]at hp;rcases hp with rfl|hp
   .simp only[bJ]at hx;rcases hx with rfl|hx
    .exact fX ..
    .exact fO _ (ih2 q (fX ..) x hx)
   .exact fO _ (ih2 p (fO _ hp) x hx)
theorem PW {l:List aK} {x:aK} (h:x∈dQ l):x∈l:=by
 unfold dQ at h;split at h
 .exact List.mem_of_mem_take h
 .exact h
theorem Og {l:List aK} (hp: ∀x∈l,mB x/\(x.kind≠7->cR x=true)) {d:bE} (h:d∈gI l):eN d=true/\(∀x∈d.value,x∈l)/\⟨1,d.name,0,[]⟩∈l:=by
 simp only[gI,List.mem_filterMap]at h;obtain⟨p,h1,h2⟩:=h;have hm:=Ds l 0 p h1;match p,h2,hm with
 |[],h2,_=>simp[kI]at h2
 |[_],h2,_=>simp[kI]at h2
 |a::b::r,h2,hm=>
  simp only[kI]at h2;split at h2
  .rename_i h3;simp only[bD,decide_eq_true_eq]at h3;simp only[jP.injEq]at h2;subst h2;obtain⟨⟨h4,h5⟩,h6⟩:=h3;have ha:=hm a (fX ..);have hv: ∀x∈dQ r,x∈l:=λx hx=>hm x (fO _ (fO _ (PW hx)));obtain⟨pa,ra⟩:=hp a ha;obtain⟨q1,q2⟩:=pa.1 h4;have ea:a=⟨1,a.text,0,[]⟩:=by
    obtain⟨k,t,m,u⟩:=a;simp only at h4 q1 q2 ⊢;rw[h4,q1,q2]
   obtain⟨_,_,ho⟩:=EW h6;refine⟨?_,hv,by rw[<-ea];exact ha⟩;simp only[eN,bD,dO];refine⟨⟨λx hx=>(hp x (hv x hx)).2 (LN (ho x hx)).2.2,h6⟩, ?_⟩;rw[<-ea];exact ra om
  .cases h2
theorem TZ {s:Bs} {d:bE} (h:d∈gI (bU s)):eN d=true/\(∀x∈d.value,x∈bU s)/\⟨1,d.name,0,[]⟩∈bU s:=
 Og (λx hx=>⟨TJ x hx,SC _ s x hx⟩) h
