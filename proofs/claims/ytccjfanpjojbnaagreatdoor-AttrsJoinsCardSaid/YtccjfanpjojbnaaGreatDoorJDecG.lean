import Derived.Sort.CutIn
import Derived.Test.YtccjfanpjojbnaaGreatDoorJDecF
namespace Go.Proofs.YtccjfanpjojbnaaGreatDoor
open Go.IntKind renaming i64→aC
open Lib renaming hid→aA
open List renaming length_cons→aY,mem_cons→bJ
open Go.Value renaming bool→aI,int→aB,pointer→aM,slice→aF,string→aD
set_option maxRecDepth 100000
set_option maxHeartbeats 8000000
open Go.RowKit Go.Shelf
theorem NQ:jX Tryz.prog 126 177 (Value.agg #[aD ⟨#[]⟩,aF none 0 0,aI false]) 3 48:=⟨by kernel_rfl,by kernel_rfl,by kernel_rfl,by decide⟩
def jA (pre:List (Value × List aK)):List bE:=pre.filterMap λx=>kI x.2
theorem NM (pre:List (Value × List aK)) (x:Value × List aK):jA (pre++[x])=jA pre++(kI x.2).toList:=by
 unfold jA;rw[List.filterMap_append];cases h:kI x.2<;>simp[h]
structure sT (W1:World) (lb db ob base:Nat) (pre:List (Value × List aK)) (W:World):Prop where
 row: ∃v vs,Boxed W ob 126 v/\W.ownsRow base 177 3 v (jA pre).length (lP (jA pre) vs)/\
  gK (λd u=>W.ownsRow base 209 4 u d.value.length (bC d.value)) (jA pre) vs
 turned:aJ (λk=>k=lb\/k=db\/k=ob) W1 W
theorem sT.step {W1:World} {lb db ob base:Nat} {pre:List (Value × List aK)} {A C:World} {pv:Nat->Prop} (h:sT W1 lb db ob base pre A) (ht:aJ pv A C) (h1: ¬pv ob) (h2: ∀k,pv k->k<base) (h3: ∀k,pv k->k<W1.heap.size->k=lb\/k=db\/k=ob):sT W1 lb db ob base pre C:=by
 obtain⟨⟨v,vs,hb,ho,ha⟩,htt⟩:=h;exact⟨⟨v,vs,ht.boxed hb h1,ht.own ho h2,ha.mono λd u _ h=>ht.own h h2⟩,htt.next ht λi hi hlt=>h3 i hi hlt⟩
theorem Oj {p:List aK} (h:p.length<2):kI p=none:=by
 match p,h with
 |[],_=>rfl
 |[_],_=>rfl
 |_::_::_,h=>simp at h;omega
theorem Ok {p:List aK} (h:2<=p.length):kI p=if decide (p[0].kind=1)&&cK 58 p[1]&&oS (dQ (p.drop 2))then some ⟨p[0].text,dQ (p.drop 2),iL (p.drop 2)⟩else none:=by
 match p,h with
 |a::b::r,_=>rfl
 |[_],h=>simp at h
 |[],h=>simp at h
theorem J7 (l:List aK):dQ l=l.take (dQ l).length:=by
 unfold dQ;split
 .simp
 .simp
theorem IP (l:List aK):(dQ l).length<=l.length:=by
 unfold dQ;split
 .rw[List.length_take];omega
 .exact Nat.le_refl _
theorem EO: ∀(l:List aK) (d:Nat),(eB d l).length<=l.length+1/\ ∀p∈eB d l,p.length<=l.length:=by
 intro l;induction l with
 |nil=>intro d;simp[eB]
 |cons x l ih=>
  intro d;simp only[eB];split
  .obtain⟨h1,h2⟩:=ih 0;refine⟨by simp only[aY];omega,λp hp=> ?_⟩;simp only[bJ]at hp;rcases hp with rfl|hp
   .simp
   .have:=h2 p hp;simp only[aY];omega
  .obtain⟨h1,h2⟩:=ih (dn d x);obtain⟨q,qs,hq⟩:=TY (dn d x) l;rw[hq]at h1 h2 ⊢;simp only[aY]at h1 ⊢;refine⟨by omega,λp hp=> ?_⟩;simp only[bJ]at hp;rcases hp with rfl|hp
   .have:=h2 q (List.mem_cons_self ..);simp only[aY];omega
   .have:=h2 p (List.mem_cons_of_mem _ hp);omega
theorem Np (pre:List (Value × List aK)):(jA pre).length<=pre.length:=List.length_filterMap_le ..
theorem sT.same {W1:World} {lb db ob base:Nat} {pre pre':List (Value × List aK)} {W:World} (h:sT W1 lb db ob base pre W) (he:jA pre'=jA pre):sT W1 lb db ob base pre' W:=by
 obtain⟨h1,h2⟩:=h;exact⟨by rw[he];exact h1,h2⟩
theorem sT.none {W1:World} {lb db ob base:Nat} {pre:List (Value × List aK)} {x:Value × List aK} {A W:World} {bw:Nat->Prop} (h:sT W1 lb db ob base pre A) (hx:kI x.2=none) (hW: ∃Y,W=A.grow Y):aJ bw A W/\sT W1 lb db ob base (pre++[x]) W:=by
 obtain⟨Y,rfl⟩:=hW;refine⟨(aJ.refl _ _).grow Y,(h.step (pv:=λ_=>False) ((aJ.refl _ _).grow Y) (λh=>h) (λ_ h=>h.elim) (λ_ h _=>h.elim)).same ?_⟩;rw[NM,hx];simp
def j5 (w:World) (n:Nat):Prop:=w.heap.size=n
theorem Ed {W1:World} {lb db ob base:Nat} {pre:List (Value × List aK)} {x:Value × List aK} {A W2:World} {Y X:Gr} {o:Obj} {Ar A9:Option Addr} {n cr n9 c9 m:Nat} {vC tv:Value} {vs:List Value} {d:bE}
  (hob:ob<base) (_hb:base<=A.heap.size) (hs1:W1.heap.size<=base) (htt:aJ (λk=>k=lb\/k=db\/k=ob) W1 A)
  (hall:gK (λd u=>A.ownsRow base 209 4 u d.value.length (bC d.value)) (jA pre) vs)
  (hov:A.ownsRow base 177 3 (aF Ar n cr) n (lP (jA pre) vs))
  (hoc:((A.grow Y).grow X).ownsRow base 209 4 vC m (bC d.value)) (hm:m=d.value.length)
  (hg:(((A.grow Y).grow X).alloc o).grownBy W2 (aF Ar n cr).ownBlock)
  (ho:W2.ownsRow base 177 3 (aF A9 n9 c9) n9 (lP (jA pre) vs++[tv,vC,aI d.imp])) (hn9:n9=(jA pre).length+1)
  (hbx:Boxed W2 ob 126 (aF Ar n cr)) (hx:kI x.2=some d) (ht:sv d.name=tv):
  aJ (λk=>k=ob\/base<=k) A (W2.setCell ⟨ob,0,none⟩ (aF A9 n9 c9))/\sT W1 lb db ob base (pre++[x]) (W2.setCell ⟨ob,0,none⟩ (aF A9 n9 c9)):=by
 subst hm hn9 ht;have hov':(((A.grow Y).grow X).alloc o).ownsRow base 177 3 (aF Ar n cr) n (lP (jA pre) vs):=(jT (jT hov _) _).alloc _;have hne: ∀k,(aF Ar n cr).ownBlock=some k->base<=k:=λk hk=>(hov.lt k hk).1;have hT0:aJ (λk=>k=ob\/base<=k) A W2:=(((aJ.refl _ A).grow Y).grow X |>.alloc o).trans (QC hg λb hb=>Or.inr (hne b hb));have hT:aJ (λk=>k=ob\/base<=k) A (W2.setCell ⟨ob,0,none⟩ (aF A9 ((jA pre).length+1) c9)):=hT0.setCell (p:=⟨ob,0,none⟩) (Or.inr (Or.inl rfl)) _;have oth: ∀{e:TypeId} {size:Nat} {u:Value} {k:Nat} {xs:List Value},W2.ownsRow base e size u k xs->(W2.setCell ⟨ob,0,none⟩ (aF A9 ((jA pre).length+1) c9)).ownsRow base e size u k xs:=λh=>Ef h (λk hk=>by have:=(h.lt k hk).1;omega) 0 _;have far: ∀{u:Value} {k:Nat} {xs:List Value},(((A.grow Y).grow X).alloc o).ownsRow base 209 4 u k xs->(W2.setCell ⟨ob,0,none⟩ (aF A9 ((jA pre).length+1) c9)).ownsRow base 209 4 u k xs:=λh=>
  oth (ER hg h (λb hb=>UF h hov' dc b hb))
 refine⟨hT,⟨⟨_,vs++[vC],hbx.set _, ?_, ?_⟩,htt.next hT λi hi hlt=>by omega⟩⟩
 .rw[NM,hx];have:=oth ho;rw[show(Option.some d).toList=[d]from rfl,FY d vC _ _ hall.len,List.length_append];exact this
 .rw[NM,hx];exact gK.snoc (p:=λd u=>(W2.setCell ⟨ob,0,none⟩ (aF A9 ((jA pre).length+1) c9)).ownsRow base 209 4 u d.value.length (bC d.value)) (far (hoc.alloc _)) (hall.mono λd u _ h=>far ((jT (jT h _) _).alloc _))
def ZW (w:World) (ds:List bE) (e:Ending) (w':World):Prop:= ∃v vs X,e=Ending.returned v/\w'=w.grow X/\(w.grow X).ownsRow w.heap.size 177 3 v ds.length (lP ds vs)/\gK (λd u=>(w.grow X).ownsRow w.heap.size 209 4 u d.value.length (bC d.value)) ds vs
theorem VR.own {W:World} {B:Nat} {d:bE} {u:Value} (h:W.ownsRow B 209 4 u d.value.length (bC d.value)):VR W d u:=by
 obtain⟨Au,cu,rfl,hcu⟩:=dF h;exact⟨Au,cu,rfl,uG h,hcu,Rd.own h⟩
theorem Ec (s:Bs) (w:World) (hw:Mx w) (hm:s.length<=100000000):Calls Tryz.prog 137 #[aD ⟨s.toArray⟩] w (ZW w (gI (bU s))):=by
 have hmx:=bX;refine(callsIn_wide (n:=0)).1 ?_;refine callsIn_of_wp_marks (n:=0) Tryz.func137 rfl trivial ?_ rfl;simp only[Tryz.ntmps137,List.size_toArray,aY,List.length_nil,Nat.reduceAdd,Nat.reduceSub,Array.replicate_succ,Array.replicate_zero,List.push_toArray,List.append_toArray,List.nil_append,List.cons_append];obtain⟨L,hL⟩: ∃L,bU s=L:=⟨_,rfl⟩;have hfew:L.length<=100000000:=by
  have:=EC _ s (Nat.lt_succ_self _);change(bU s).length<=_ at this;rw[hL]at this;omega
 have hpr: ∀x∈L,mB x:=by rw[<-hL];exact TJ
 have hMx1:Mx (w.alloc (.cells #[aF none 0 0] 126)):=by rw[qG];exact hw.grow _
 have HSc:=aA (hL ▸ SE s _ hMx1 om);have HPR:=aA hpr;rw[hL];clear hL hMx1 hpr hw;gi_wp2_with (first
  |(gi_at_call 172;(with_reducible refine(callsIn_wide.2 HSc.out).mono ?_);rintro e W0 ⟨v1,X1,rfl,hw0,ho1⟩;(rw[<-hw0]at ho1);obtain⟨A1,c1,rfl,hc1⟩:=dF ho1;have HO1:=aA ho1;have HBW0:Hid (Below w.heap.size w W0):=(by show Below _ _ _;rw[hw0];exact aG);have HBox0:Hid (Boxed W0 w.heap.size 126 (aF none 0 0)):=(by show Boxed _ _ _ _;rw[hw0];exact Boxed.grow' (Boxed.new w _ _) X1);clear ho1 hw0)
  |(gi_at_call 171;(with_reducible refine(callsIn_wide.2 (Dv A1 L.length c1 _)).mono ?_);rintro e w' ⟨rfl,rfl⟩))
 have hob:=HBox0.out.lt;obtain⟨n0,hn0⟩: ∃n,W0.heap.size=n:=⟨_,rfl⟩;obtain⟨ob,hob0⟩: ∃n,w.heap.size=n:=⟨_,rfl⟩;have hA1: ∀b off s,A1=some ⟨b,off,s⟩->s=none/\ob<b/\b<n0:=by
  intro b off s h;rcases HO1.out.2 with⟨h2,_⟩|⟨g,cap,cur,h2,h3,h4,_⟩
  .simp only[aF.injEq]at h2;rw[h2.1]at h;cases h
  .simp only[aF.injEq]at h2;rw[h2.1]at h;cases h;have:=(Array.getElem?_eq_some_iff.1 h4).1;simp at h3;exact⟨rfl,by omega,by omega⟩
 have hA0:A1=none->L=[]:=by
  intro h;rcases HO1.out.2 with⟨_,h2⟩|⟨g,cap,cur,h2,_⟩
  .exact List.eq_nil_of_length_eq_zero h2
  .simp only[aF.injEq]at h2;rw[h2.1]at h;cases h
 obtain⟨W1,hW1⟩: ∃W1,((W0.alloc (.cells #[aF A1 L.length c1] 175)).alloc (.cells #[aB aC 0] 3)).alloc (.cells #[.func (.func 204) #[] #[aM (some ⟨W0.heap.size+1,0,none⟩)]] 214)=W1:=⟨_,rfl⟩;have hs1:W1.heap.size=n0+1+1+1:=by rw[<-hW1];simp[hn0]
 have HLB:Hid (Boxed W1 n0 175 (aF A1 L.length c1)):=by show Boxed _ _ _ _;rw[<-hW1,<-hn0];exact((Boxed.new W0 _ _).alloc _).alloc _
 have HDB:Hid (Boxed W1 (n0+1) 3 (aB aC 0)):=by
  show Boxed _ _ _ _;rw[<-hW1];have:=(Boxed.new (W0.alloc (.cells #[aF A1 L.length c1] 175)) 3 (aB aC 0)).alloc (.cells #[.func (.func 204) #[] #[aM (some ⟨W0.heap.size+1,0,none⟩)]] 214);simpa[hn0]using this
 have HEB:Hid (Boxed W1 (n0+1+1) 214 (.func (.func 204) #[] #[aM (some ⟨n0+1,0,none⟩)])):=by
  show Boxed _ _ _ _;rw[<-hW1];have:=Boxed.new ((W0.alloc (.cells #[aF A1 L.length c1] 175)).alloc (.cells #[aB aC 0] 3)) 214 (.func (.func 204) #[] #[aM (some ⟨n0+1,0,none⟩)]);simpa[hn0]using this
 have HOB:Hid (Boxed W1 ob 126 (aF none 0 0)):=by show Boxed _ _ _ _;rw[<-hW1,<-hob0];exact((HBox0.out.alloc _).alloc _).alloc _
 have HR1:Hid (Rd W1 (aF A1 L.length c1) L.length 4 (bC L)):=by show Rd _ _ _ _ _;rw[<-hW1];exact((Rd.own HO1.out).alloc _ |>.alloc _).alloc _
 have HB1:Hid (Below w.heap.size w W1):=by show Below _ _ _;rw[<-hW1];exact aP HBW0.out aG
 rw[hW1];have HSz:Hid (j5 w ob):=hob0;simp only[hn0]at*;simp only[hob0]at*;clear hW1 HO1 HBox0 HBW0 HSc;refine yO (B:=n0+1+1+1) hs1 rfl (enters_of Tryz.func206 kr rfl) (encs:=λx:Value × List aK=> #[x.1]) (λ_=>rfl) (xs:=mG A1 c1 (eB 0 L)) (λk=>k=n0+1\/k=n0)
  (λk=>k=ob\/n0+1+1+1+2<=k) (by intro k hk;omega) (by intro k hk;omega) (sT W1 n0 (n0+1) ob (n0+1+1+1+2)) (λ_ _ _=>False) ?hI ?hIx ?h0 ?hiter ?hround ?hdone ?hstop
 case hI=>
  intro pre A C h ht;exact h.step ht om (by intro k hk;omega) (by intro k hk hlt;omega)
 case hIx=>intro c pre A C h _;exact h.elim
 case h0=>exact⟨⟨_,[],HOB.out,World.ownsRow_nil _ _ _ _,trivial⟩,aJ.refl _ _⟩
 case hiter=>
  intro o1 o2;refine Du (n0+1) n0 (n0+1+1) _ A1 c1 L _ ⟨_,(HDB.out.alloc o1).alloc o2⟩ ((HLB.out.alloc o1).alloc o2) ((HEB.out.alloc o1).alloc o2) om om om om om om  ((HR1.out.alloc o1).alloc o2) (λb off s h=> ?_) hA0 hc1 HPR.out om;obtain⟨h1,h2,h3⟩:=hA1 b off s h;exact⟨h1,by omega,by omega,by omega⟩
 case hround=>
  rintro l pre x A hx hI hsz;have hxm:x∈mG A1 c1 (eB 0 L):=hx.subset (by simp);have hA1': ∀b off s,A1=some ⟨b,off,s⟩->s=none/\b=(match A1 with|some a=>a.block|none=>0):=λb off s h=>by subst h;exact⟨(hA1 _ _ _ rfl).1,rfl⟩
  obtain⟨A',c',e1,e2,e3,e4,e5,e6⟩:=Dt (W:=W1) L.length L A1 c1 (Nat.le_refl _) HR1.out hA1' hA0 hc1 x hxm;have e4': ∀b off s,A'=some ⟨b,off,s⟩->s=none/\ob<b/\b<n0:=by
   intro b off s h;obtain⟨f1,f2⟩:=e4 b off s h;cases A1 with
   |none=>
    exfalso;have hL0:=hA0 rfl;subst hL0;simp only[eB,mG,bJ,List.not_mem_nil,or_false]at hxm;subst hxm;simp only[aF.injEq]at e1;rw[<-e1.1]at h;cases h
   |some a=>
    obtain⟨ab,ao,asp⟩:=a;simp only at f2;subst f2;exact⟨f1,(hA1 _ _ _ rfl).2⟩
  have hHX:=aA hx;have hlen:pre.length+1<=(eB 0 L).length:=by
   have:=hx.length_le;rw[<-EP (eB 0 L) A1 c1,List.length_map];simpa using this
  have hxm2:x.2∈eB 0 L:=by rw[<-EP (eB 0 L) A1 c1];exact List.mem_map_of_mem hxm
  have hpl9:=(EO L 0).2 _ hxm2;have hpn9:=(EO L 0).1;have hdl9:=Np pre;clear hx hxm hA1' e4 hxm2;obtain⟨xv,p⟩:=x;simp only at e1 e2 e3 e5 e6 hpl9;subst e1;have HE6:=aA (λy hy=>HPR.out y (e6 y hy));clear e6;gi_wp2;refine⟨aJ.refl _ _,λA2 ht hI2 hs2=> ?_⟩;have HI2:=aA hI2;have e3':Rd A2 (aF A' p.length c') p.length 4 (bC p):=e3.turned hI2.turned λb off s h=>by obtain⟨_,h1,h2⟩:=e4' b off s h;omega
  have hs3:n0+1+1+1+2<=A2.heap.size:=by omega
  have hp9:p.length<=9223372036854775807:=e3.2.1;clear hI2 ht hs2 hI hsz e3;by_cases h2:p.length<2
  .have HN:=aA (Oj h2);have b2:(p.length:Int)<2:=by omega
   gi_wp2_with fail
   exact HI2.out.none HN.out ⟨_,(kW _).symm⟩
  have h2': ¬(p.length:Int)<2:=by omega
  obtain⟨b,off,rfl,hb,c0,cc1,c2,c3⟩:=e3'.css 0 om;obtain⟨b',off',he,_,d0,d1,d2,d3⟩:=e3'.css 1 om;cases he;simp only[Nat.zero_mul,Nat.add_zero,Nat.one_mul,sv]at c0 cc1 c2 c3 d0 d1 d2 d3;have HAt:=aA (Ok (p:=p) om);have HMk:=aA (λW:World=>BW 58 p[1] ▸ zR p[1] [58] W (HE6.out _ (List.getElem_mem om)));obtain⟨Av,hAv⟩: ∃Av,(if c'=2 then some (⟨b,off,none⟩:Addr)else some ⟨b,off+8,none⟩)=Av:=⟨_,rfl⟩;have HAv:Hid (yC (some ⟨b,off,none⟩) c' 2=Av):=by show _=_;rw[<-hAv];rfl
  have hdl:(p.drop 2).length=p.length-2:=by rw[List.length_drop]
  have hr2:=Rd.adv e3' e2 2 om;rw[HAv.out]at hr2;have HPd:Hid (∀y∈p.drop 2,mB y):=λy hy=>HE6.out y (List.mem_of_mem_drop hy);have HR2:=aA hr2;have HUr:=aA (λX=>show Calls Tryz.prog 174 #[aF Av (p.length-2) (c'-2)] (A2.grow X) (aH (Value.tuple #[aF Av (dQ (p.drop 2)).length (c'-2),aI (iL (p.drop 2))]) (A2.grow X))from by
   have:=J2 Av (p.drop 2).length (c'-2) (p.drop 2) (A2.grow X) (HR2.out.grow X) HPd.out om;rwa[hdl]at this)
  have HRv:Hid (Rd A2 (aF Av (dQ (p.drop 2)).length (c'-2)) (dQ (p.drop 2)).length 4 (bC (dQ (p.drop 2)))):=by
   show Rd _ _ _ _ _;have hle:(dQ (p.drop 2)).length<=(p.drop 2).length:=IP _;have:=Rd.take4 HR2.out (dQ (p.drop 2)).length hle;rwa[<-J7]at this
  have hp2:p.length<=100000000:=by omega
  have hnd9:(jA pre).length<=100000001:=by omega
  have hul:(dQ (p.drop 2)).length<=1000000000:=by
   have hle:=IP (p.drop 2);omega
  have HMay:=aA (λX=>VG Av (dQ (p.drop 2)).length (c'-2) (dQ (p.drop 2)) (A2.grow X) (HRv.out.grow X) (λy hy=>HPd.out y (PW hy)) hul);simp only[aK.agg,sv]at HMk;have HNm:Hid (sv p[0].text=aD ⟨p[0].text.toArray⟩):=rfl;generalize hm1:cK 58 p[1]=m at*;generalize hk0:p[0].kind=k0 at*;generalize p[0].num=k2 at*;generalize ha1:(⟨p[0].text.toArray⟩:ByteArray)=a1 at*;generalize(⟨p[0].unit.toArray⟩:ByteArray)=a2 at*;generalize p[1].kind=y1 at*;generalize p[1].num=y3 at*;generalize(⟨p[1].text.toArray⟩:ByteArray)=z1 at*;generalize(⟨p[1].unit.toArray⟩:ByteArray)=z2 at*;have q0:0<p.length:=by omega
  have q1:1<p.length:=by omega
  have q2:2<=p.length:=by omega
  have q3:2<=c':=by omega
  by_cases hk1:k0=1
  .subst hk1;cases m
   .have HN:Hid (kI p=none):=by show _=_;rw[HAt.out];simp
    have HMk2:=aA HMk.out;clear hm1 hk0 ha1;gi_wp2_with (gi_at_call 173;(with_reducible refine(xX (HMk2.out _)).mono ?_);rintro e w' ⟨rfl,Y1,rfl⟩)
    exact HI2.out.none HN.out ⟨_,rfl⟩
   .have HMk2:=aA HMk.out;cases hmay:oS (dQ (p.drop 2))
    .have HN:Hid (kI p=none):=by show _=_;rw[HAt.out,hmay];simp
     rw[hmay]at HMay;have HMay2:=aA HMay.out;clear hm1 hk0 ha1 hmay;gi_wp2_with (first|(gi_at_call 173;(with_reducible refine(xX (HMk2.out _)).mono ?_);rintro e w' ⟨rfl,Y1,rfl⟩)|(gi_at_call 174;(with_reducible refine(xX (aH.flat (HUr.out _))).mono ?_);rintro e w' ⟨rfl,Y2,rfl⟩)|(gi_at_call 175;(with_reducible refine(xX (aH.flat (HMay2.out _))).mono ?_);rintro e w' ⟨rfl,Y3,rfl⟩))
     exact HI2.out.none HN.out ⟨_,rfl⟩
    .have HN:Hid (kI p=some ⟨p[0].text,dQ (p.drop 2),iL (p.drop 2)⟩):=by show _=_;rw[HAt.out,hmay];simp
     rw[hmay]at HMay;have HMay2:=aA HMay.out;have HMy:=aA hmay;clear hm1 hk0 hmay;gi_upto_region 7 with(first|(gi_at_call 173;(with_reducible refine(xX (HMk2.out _)).mono ?_);rintro e w' ⟨rfl,Y1,rfl⟩)|(gi_at_call 174;(with_reducible refine(xX (aH.flat (HUr.out _))).mono ?_);rintro e w' ⟨rfl,Y2,rfl⟩)|(gi_at_call 175;(with_reducible refine(xX (aH.flat (HMay2.out _))).mono ?_);rintro e w' ⟨rfl,Y3,rfl⟩))
     obtain⟨⟨v,vs,bv,ho,hall⟩,htt⟩:=HI2.out;obtain⟨Ar,cr,rfl,hcr⟩:=dF ho;have g0:=bv.cell;have gl:=bv.lt;refine E7 10 [(0,true),(1,true),(2,true),(3,true),(4,true),(5,true),(7,true),(6,false),(8,true),(9,false)] (λW=>W.cell? ⟨ob,0,none⟩=some (aF Ar (jA pre).length cr)/\W.cell? ⟨b,off+1,none⟩=some (aD a1)) hmx kr (by rintro⟨_,_,h⟩;exact h) kr kr kr dc  rfl (λ_ _ _ _ _ h=>h) kr ⟨by simp[go_sem,gl,g0],by simp[go_sem,hb,cc1]⟩ ?_;refine bN (v:= aF Ar (jA pre).length cr) rfl rfl (λ_ hW=>by obtain⟨s1,_⟩:=hW;simp[execOp,go_sem,s1]) ?_;refine bN (v:= aF (some ⟨b,off,none⟩) p.length c') rfl rfl (λ_ _=>by simp[execOp,go_sem]) ?_;refine bN (v:= aM (some ⟨b,off,none⟩)) rfl rfl (λ_ _=>by simp[execOp,go_sem,q0]) ?_;refine bN (v:= aM (some ⟨b,off+1,none⟩)) rfl rfl (λ_ _=>by simp[execOp,go_sem]) ?_;refine bN (v:= aD a1) rfl rfl (λ_ hW=>by obtain⟨_,s2⟩:=hW;simp[execOp,go_sem,s2]) ?_;refine bN (v:= aF Av (dQ (p.drop 2)).length (c'-2)) rfl rfl (λ_ _=>by simp[execOp,go_sem]) ?_;refine bN (v:= aI (iL (p.drop 2))) rfl rfl (λ_ _=>by simp[execOp,go_sem]) ?_;refine cC rfl rfl λK hK=> ?_;unfold Oper.wp;simp[execOp,go_sem];have HAd: ∃ad,Av=some ad:=by rw[<-hAv];split<;>exact⟨_,rfl⟩
     obtain⟨ad,rfl⟩:=HAd;have hne:dQ (p.drop 2)≠[]:=(EW HMy.out).1;refine(ZA ad (dQ (p.drop 2)).length (c'-2) (dQ (p.drop 2)) _ (HRv.out.grow _) hul).mono ?_;rintro e w' ⟨v3,X3,rfl,rfl,ho3⟩;obtain⟨g,cap,rfl⟩:=Go.Joins.ownsRow_form ho3 (by have:=List.length_pos_iff.2 hne;omega);apply hK;refine⟨⟨by simp[go_sem,gl,g0],by simp[go_sem,hb,cc1]⟩, ?_⟩;refine bN (v:= Value.agg #[aD a1,aF (some ⟨g,0,none⟩) (dQ (p.drop 2)).length cap,aI (iL (p.drop 2))]) rfl rfl ee ?_;refine cC rfl rfl λK2 hK2=> ?_;unfold Oper.wp;simp[execOp,go_sem];apply hK2;refine⟨⟨((show Below A2.heap.size A2 _ from aG).cell gl).trans g0,((show Below A2.heap.size A2 _ from aG).cell hb).trans cc1⟩, ?_⟩;dsimp only[dD,List.drop];have hoc:((A2.grow ⟨Y3.blocks,Y3.drawn+1⟩).grow X3).ownsRow (n0+1+1+1+2) 209 4 (aF (some ⟨g,0,none⟩) (dQ (p.drop 2)).length cap) (dQ (p.drop 2)).length (bC (dQ (p.drop 2))):=zL ho3 (by simp only[nR];omega);have HOC:=aA hoc;have HOV:=aA ho;have HAll:=aA hall;have HBV:=aA bv;have HTT:=aA htt;have hbase:(n0+1+1+1+2)<=A2.heap.size:=hs3;have hobb:ob<n0:=hob;clear hoc ho hall bv htt ho3 hK hK2 g0;go_wp2_with(at_builtin;go_loud(refine mJ rfl _ _ 126 rfl NQ (n0+1+1+1+2) rfl ((jT (jT HOV.out _) _).alloc _) (by simp[go_sem];omega) ⟨_,0,none⟩ 1 1 [aD a1,aF (some ⟨g,0,none⟩) (dQ (p.drop 2)).length cap,aI (iL (p.drop 2))] rfl rfl (eR (c:= #[aD a1,aF (some ⟨g,0,none⟩) (dQ (p.drop 2)).length cap,aI (iL (p.drop 2))]) (by simp[go_sem])) (by simp[Value.oneCell']) (by unfold maxLen;omega) om ?_);intro v2 W2 ho2 hg2;go_loud(obtain⟨A9,c9,hv9,hc9⟩:=dF ho2);go_loud(subst hv9);have HO2:=aA ho2;have HG2:=aA hg2;go_loud(have hne9: ∀k,(aF Ar (jA pre).length cr).ownBlock=some k->n0+1+1+1+2<=k:=(λk hk=>(HOV.out.lt k hk).1));go_loud(have bb2:=(QC (pv:=λk=>n0+1+1+1+2<=k) hg2 hne9).boxed (Boxed.alloc (Boxed.grow' (Boxed.grow' HBV.out _) X3) _) om);have HB2:=aA bb2;have k1:=bb2.cell;have k2:=bb2.frozen;have k3:=bb2.lt;clear ho2 hg2 bb2)
     exact Ed om hbase om HTT.out HAll.out HOV.out HOC.out rfl HG2.out HO2.out rfl HB2.out HN.out HNm.out
  .have HN:Hid (kI p=none):=by show _=_;rw[HAt.out];simp[hk1]
   have b1:(k0 !=1)=true:=by simpa using hk1
   clear hm1 ha1;gi_wp2_with fail
   exact HI2.out.none HN.out ⟨_,(kW _).symm⟩
 case hdone=>
  rintro W ⟨⟨v,vs,bv,ho,hall⟩,htt⟩ hK;have hds:jA (mG A1 c1 (eB 0 L))=gI L:=by
   have h9:=List.filterMap_map (f:=λx:Value × List aK=>x.2) (g:=kI) (l:=mG A1 c1 (eB 0 L));have h8:=EP (eB 0 L) A1 c1;unfold jA gI;rw[<-h8,h9,h8];rfl
  rw[hds]at ho hall;have d1:=bv.cell;have hs1':=hs1;gi_wp2;have hT:aJ (λk=>k=n0+1+1+1) W (W.putObj (n0+1+1+1) (.deferred none)):=aJ.putObj (pv:=λk=>k=n0+1+1+1) (aJ.refl _ _) (Or.inr rfl) _;refine⟨by simp,.inl ⟨_,_,rfl,run_takeDeferred hK, ?_⟩⟩;have ho':=hT.own ho (λk hk=>by omega);have hsz9:w.heap.size=ob:=HSz.out;have hB9:Below ob w (W.putObj (n0+1+1+1) (.deferred none)):=HB1.out.trans ((htt.next hT (λi hi hlt=>by omega):aJ (λk=>k=n0\/k=n0+1\/k=ob) W1 _).below om (λk hk=>by omega));obtain⟨X,hX⟩:=cV (hsz9 ▸ hB9);refine⟨v,by simp[results,Tryz.results137,go_sem],v,vs,X,rfl,hX, ?_, ?_⟩
  .rw[<-hX];exact zL ho' om
  .rw[<-hX];exact hall.mono λd u _ h=>zL (hT.own h (λk hk=>by omega)) om
 case hstop=>intro c pre x W _ h;exact h.elim
