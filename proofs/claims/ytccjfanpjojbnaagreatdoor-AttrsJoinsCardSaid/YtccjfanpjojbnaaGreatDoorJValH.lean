import Derived.Test.YtccjfanpjojbnaaGreatDoorJValF
namespace Go.Proofs.YtccjfanpjojbnaaGreatDoor
open Bool renaming and_eq_true→bD
open Go.Ending renaming returned→aL
open Go.IntKind renaming i64→aC
open Lib renaming hid→aA
open List renaming length_append→aZ,length_cons→aY,mem_singleton→fW
open Nat renaming le_refl→bA
open Tryz renaming prog→aE
open Go.Value renaming bool→aI,int→aB,slice→aF,tuple→aN
set_option maxRecDepth 100000
set_option maxHeartbeats 2000000
open Go.RowKit Go.Shelf
theorem MY: ∀(n:Nat) (l:List aK),l.length<=n->(eH l).length<=l.length
 |0,[],_=>by rw[MX];simp
 |_+1,[],_=>by rw[MX];simp
 |0,_::_,h=>by simp at h
 |n+1,x::l,h=>by
  have h1:=EJ x l;simp only[aY]at h;cases hf:fL (x::l)
  .rw[CE hf];simp
  .rw[CD hf];have:=MY n (gR (x::l)) om;simp only[aY];omega
theorem MZ (l:List aK):(eH l).all SB.ok=(kV l.length l).all (·.2)/\(eH l).map SB.st=(kV l.length l).map (·.1):=by
 unfold eH;constructor
 .rw[List.all_map];rfl
 .rw[List.map_map];rfl
theorem S7 {l:List aK} (h: ∀x∈eH l,x.ok=true):rA l=if gF ((eH l).map SB.st)then some ((eH l).map SB.st)else none:=by
 have h1:(kV l.length l).all (·.2)=true:=by rw[<-(MZ l).1,List.all_eq_true];exact h
 unfold rA;rw[MW l.length l (bA _),if_pos h1,<-(MZ l).2]
theorem S8 {l:List aK} {x:SB} (hx:x∈eH l) (h:x.ok=false):rA l=none:=by
 have h1:(kV l.length l).all (·.2)=false:=by
  rw[<-(MZ l).1,List.all_eq_false];exact⟨x,hx,by simp[h]⟩
 unfold rA;rw[MW l.length l (bA _),if_neg (by simp[h1])]
def wT (w:World) (r:Option (List St)) (e:Ending) (w':World):Prop:= ∃v X,e=aL (aN #[v,aI r.isSome])/\w'=w.grow X/\Sl (w.grow X) v (r.getD [])
theorem RW (w:World):Sl w (aF none 0 0) []:=⟨none,0,rfl,by simp,.inl rfl⟩
theorem wT.of {w w':World} {v:Value} {r:Option (List St)} {b:Bool} (hb:Below w.heap.size w w') (hr:b=r.isSome) (hs:Sl w' v (r.getD [])):wT w r (aL (aN #[v,aI b])) w':=by
 obtain⟨X,rfl⟩:=cV hb;exact⟨v,X,by rw[hr],rfl,hs⟩
def Su (w:World) (pre:List SB) (W:World):Prop:=
 (Boxed W w.heap.size 242 (aF none 0 0)/\Boxed W (w.heap.size+1) 4 (aI false))/\
 (∃v,Boxed W (w.heap.size+1+1) 242 v/\W.ownsRow (w.heap.size+6) 260 3 v pre.length (nC (pre.map SB.st)))/\(∀x∈pre,x.ok=true)/\Below w.heap.size w W
def Ss (w:World) (c:Code) (pre:List SB) (W:World):Prop:=
 c= .ret/\Boxed W w.heap.size 242 (aF none 0 0)/\Boxed W (w.heap.size+1) 4 (aI false)/\(∃x∈pre,x.ok=false)/\Below w.heap.size w W
theorem S6 (A:Option Addr) (n c:Nat) (l:List aK) (w:World) (h:Rd w (aF A n c) l.length 4 (bC l)) (hc:l.length<=c) (hp: ∀x∈l,jY x) (hl:l.length<=100000000):Calls aE 214 #[aF A n c] w (wT w (rA l)):=by
 have hn0:n=l.length:=by obtain⟨_,_,_,_,he,_⟩:=h;cases he;rfl
 subst hn0;have hA:l≠[]-> ∀b off s,A=some ⟨b,off,s⟩->s=none/\b<w.heap.size:=λh0 b off s hA=>by
  obtain⟨_,_,_,_,he,h4⟩:=h;cases he;obtain⟨b2,off2,h5,h6,_⟩:=h4 (List.length_pos_iff.2 h0);rw[hA]at h5;cases h5;exact⟨rfl,h6⟩
 have hA0:A=none->l=[]:=λh0=>by
  obtain⟨_,_,_,_,he,h4⟩:=h;cases he;refine List.eq_nil_of_length_eq_zero (Nat.eq_zero_of_not_pos λhp=> ?_);obtain⟨b2,off2,h5,h6,_⟩:=h4 hp;rw[h0]at h5;cases h5
 have hmx:=bX;have HRd:=aA h;have HP:=aA hp;have HA:=aA hA;have HA0:=aA hA0;clear h hp hA hA0;refine(callsIn_wide (n:=0)).1 ?_;refine callsIn_of_wp_marks (n:=0) Tryz.func214 rfl trivial ?_ rfl;simp only[Tryz.ntmps214,List.size_toArray,aY,List.length_nil,Nat.reduceAdd,Nat.reduceSub,Array.replicate_succ,Array.replicate_zero,List.push_toArray,List.append_toArray,List.nil_append,List.cons_append];gi_wp2_with (gi_at_call 231;refine(callsIn_wide.2 (T1 A l.length c _)).mono ?_;rintro e w' ⟨rfl,rfl⟩)
 refine yO (B:=w.heap.size+4) (by simp) rfl (enters_of Tryz.func252 kr rfl) (encs:=λx:SB=> #[x.st.val,aI x.ok]) (λ_=>rfl) (xs:=eH l) (λk=>k=w.heap.size+3)
  (λk=>w.heap.size<=k/\k<w.heap.size+3\/w.heap.size+6<=k) (by intro k hk;omega) (by intro k hk;omega) (Su w) (Ss w) ?hI ?hIx ?h0 ?hiter ?hround ?hdone ?hstop
 case hI=>
  rintro pre A C ⟨⟨b1,b2⟩,⟨v,bv,ho⟩,he,hB⟩ ht;refine⟨⟨ht.boxed b1 om,ht.boxed b2 om⟩,⟨v,ht.boxed bv om,ht.own ho (λk hk=>by omega)⟩,he,hB.trans (ht.below hB.size (λk hk=>by omega))⟩
 case hIx=>
  rintro c pre A C ⟨hc,b1,b2,h1,hB⟩ ht;exact⟨hc,ht.boxed b1 om,ht.boxed b2 om,h1,hB.trans (ht.below hB.size (λk hk=>by omega))⟩
 case h0=>
  have b1:=(((Boxed.new w 242 (aF none 0 0)).alloc (.cells #[aI false] 4)).alloc (.cells #[aF none 0 0] 242)).alloc (.cells #[aF A l.length c] 175);have b2:=((Boxed.new (w.alloc (.cells #[aF none 0 0] 242)) 4 (aI false)).alloc (.cells #[aF none 0 0] 242)).alloc (.cells #[aF A l.length c] 175);have b3:=(Boxed.new ((w.alloc (.cells #[aF none 0 0] 242)).alloc (.cells #[aI false] 4)) 242 (aF none 0 0)).alloc (.cells #[aF A l.length c] 175);simp only[World.size_alloc]at b2 b3;exact⟨⟨b1,b2⟩,⟨_,b3,World.ownsRow_nil _ _ _ _⟩,(λx hx=>by cases hx),aG⟩
 case hiter=>
  intro o1 o2;have b5:=(Boxed.new (((w.alloc (.cells #[aF none 0 0] 242)).alloc (.cells #[aI false] 4)).alloc (.cells #[aF none 0 0] 242)) 175 (aF A l.length c)).alloc o1 |>.alloc o2
  simp only[World.size_alloc]at b5;exact S9 _ _ A c l _ b5 om (((((HRd.out.alloc _).alloc _).alloc _).alloc _).alloc _ |>.alloc _) (λh0 b off s hA=>by obtain⟨h1,h2⟩:=HA.out h0 b off s hA;exact⟨h1,by omega,by omega⟩) HA0.out hc HP.out om
 case hround=>
  rintro ll pre ⟨⟨k,xx,yy⟩,ok⟩ A hx ⟨_,_,_,hBA⟩ hsz;simp only[St.val];gi_wp2;refine⟨(aJ.refl _ _).alloc _,λA2 ht hI2 hs2=> ?_⟩;have hx2:A2.heap[A.heap.size]? =some (.cells #[aB aC k,aB aC xx,aB aC yy] 260):=(ht.block _ (by simp) om).trans (World.alloc_heap_new A _);have c0:A2.cell? ⟨A.heap.size,0,none⟩=some (aB aC k):=by simp[World.cell?,hx2]
  have c1:A2.cell? ⟨A.heap.size,1,none⟩=some (aB aC xx):=by simp[World.cell?,hx2]
  have c2:A2.cell? ⟨A.heap.size,2,none⟩=some (aB aC yy):=by simp[World.cell?,hx2]
  clear hx2 ht;obtain⟨⟨b1,b2⟩,⟨v,bv,ho⟩,he,hB⟩:=hI2;have d1:=b1.cell;have d2:=b2.cell;have d4:=bv.cell;have e1:=b1.frozen;have e2:=b2.frozen;have HX:=aA hx;have HE:=aA he;have HB:=aA hB;have hlen:pre.length<=1000000000:=by
   have h1:=hx.length_le;have h2:=MY l.length l (bA _);simp at h1;omega
  have hs3:w.heap.size+7<=A2.heap.size:=by rw[hs2];simp;omega
  clear hx he hB hs2;cases ok
  .gi_wp2;have hT:aJ (λk=>w.heap.size<=k/\k<w.heap.size+3\/w.heap.size+6<=k) A2 ((A2.setCell ⟨w.heap.size,0,none⟩ (aF none 0 0)).setCell ⟨w.heap.size+1,0,none⟩ (aI false)):=
    ((aJ.refl _ _).setCell (Or.inr (by show _\/_;simp<;>omega)) _).setCell (Or.inr (by show _\/_;simp<;>omega)) _
   exact⟨hT,rfl,(b1.set _).other om _,(b2.other om _).set _,⟨_,List.mem_append_right _ (fW.2 rfl),rfl⟩,HB.out.trans (hT.below HB.out.size (λk hk=>by omega))⟩
  .gi_wp2_with (gi_at_builtin;go_loud(refine CW rfl _ _ 242 rfl AZ (w.heap.size+6) rfl (ho.alloc _) (by simp;omega) ⟨_,0,none⟩ 0 1 [aB aC k,aB aC xx,aB aC yy] rfl rfl (eR (c:= #[aB aC k,aB aC xx,aB aC yy]) (by simp[go_sem])) (by simp[Value.oneCell']) (by unfold maxLen;omega) om ?_);intro g cap W' ho' ht';have bv':=ht'.boxed (bv.alloc _) om;have d5:=bv'.cell;have e5:=bv'.frozen)
   have hT:aJ (λk=>w.heap.size<=k/\k<w.heap.size+3\/w.heap.size+6<=k) A2 (W'.setCell ⟨w.heap.size+1+1,0,none⟩ (aF (some ⟨g,0,none⟩) (pre.length+0+1) cap)):=
    (((aJ.refl _ _).alloc _).trans (ht'.mono λk hk=>Or.inr hk)).setCell (Or.inr (by show _\/_;simp<;>omega)) _
   refine⟨hT,⟨(ht'.boxed (b1.alloc _) om).other om _,(ht'.boxed (b2.alloc _) om).other om _⟩,⟨_,bv'.set _, ?_⟩, ?_,HB.out.trans (hT.below HB.out.size (λk hk=>by omega))⟩
   .have h1:=(aJ.setCell (pv:=λk=>k=w.heap.size+1+1) (aJ.refl _ W') (p:=⟨w.heap.size+1+1,0,none⟩) (Or.inr rfl) (aF (some ⟨g,0,none⟩) (pre.length+0+1) cap)).own ho' (λk hk=>by omega);rw[List.map_append,List.map_singleton,GI,aZ];exact h1
   .intro y hy;rcases List.mem_append.1 hy with hy|hy
    .exact HE.out y hy
    .rw[fW]at hy;subst hy;rfl
 case hdone=>
  rintro W ⟨⟨b1,b2⟩,⟨v,bv,ho⟩,he,hB⟩ hK;have d1:=b1.cell;have d2:=b2.cell;have d4:=bv.cell;have e1:=b1.frozen;have e2:=b2.frozen;have hlen:=MY l.length l (bA _);have hml:((eH l).map SB.st).length=(eH l).length:=List.length_map ..;rw[<-hml]at ho;have HSl:=aA (KL (by rw[hml];omega) ho);have HST:=aA (S7 he);have HB:=aA hB;have HK:=aA hK;have HO:=aA ho;have hlt:w.heap.size+2<W.heap.size:=bv.lt;clear hB hK ho he hml;generalize(eH l).map SB.st=SS at*;obtain⟨Ar,cr,rfl,hcr⟩:=dF HO.out;have hl0:w.heap.size<W.heap.size:=by omega
  have hl1:w.heap.size+1<W.heap.size:=by omega
  have hlK:=(Array.getElem?_eq_some_iff.1 HK.out).1;cases hr:gF SS
  .have HN:Hid (rA l=none):=by show _=_;rw[HST.out,hr];rfl
   have HRt:Hid (Calls aE 232 #[aF Ar SS.length cr] W (aH (aI false) W)):=by
    have h8:=DM _ _ W HSl.out;rwa[hr]at h8
   clear hr;gi_wp2_with (gi_at_call 232;(with_reducible refine(GJ HRt.out).mono ?_);rintro e w' ⟨rfl,X1,rfl⟩)
   have hT:aJ (λk=>w.heap.size<=k/\k<w.heap.size+2) W (((W.setCell ⟨w.heap.size,0,none⟩ (aF none 0 0)).setCell ⟨w.heap.size+1,0,none⟩ (aI false)).grow X1):=
    (((aJ.refl _ _).setCell (Or.inr (by show _/\_;simp<;>omega)) _).setCell (Or.inr (by show _/\_;simp<;>omega)) _).grow X1
   have hK2:=(hT.block (w.heap.size+4) hlK om).trans HK.out;have f1:=Boxed.grow' ((b1.set (aF none 0 0)).other (B':=w.heap.size+1) om (aI false)) X1;have f2:=Boxed.grow' ((b2.other (B':=w.heap.size) om (aF none 0 0)).set (aI false)) X1;have hB2:=HB.out.trans (hT.below HB.out.size (λk hk=>by omega));have ho2:=hT.own HO.out (λk hk=>by omega);generalize(((W.setCell ⟨w.heap.size,0,none⟩ (aF none 0 0)).setCell ⟨w.heap.size+1,0,none⟩ (aI false)).grow X1)=V at*;have hTV:aJ (λk=>k=w.heap.size+4) V (V.putObj (w.heap.size+4) (.deferred none)):=aJ.putObj (pv:=λk=>k=w.heap.size+4) (aJ.refl _ _) (Or.inr rfl) _;have g1:=(hTV.boxed f1 om).cell;have g2:=(hTV.boxed f2 om).cell;refine⟨by simp,.inl ⟨_,_,rfl,run_takeDeferred hK2, ?_⟩⟩;refine⟨aN #[(aF none 0 0),aI false], ?_, ?_⟩
   .simp[results,Tryz.results214,go_sem,g1,g2]
   .rw[HN.out];exact wT.of (hB2.trans (hTV.below hB2.size (λk hk=>by omega))) rfl (RW _)
  .have HN:Hid (rA l=some SS):=by show _=_;rw[HST.out,hr];rfl
   have HRt:Hid (Calls aE 232 #[aF Ar SS.length cr] W (aH (aI true) W)):=by
    have h8:=DM _ _ W HSl.out;rwa[hr]at h8
   clear hr;gi_wp2_with (gi_at_call 232;(with_reducible refine(GJ HRt.out).mono ?_);rintro e w' ⟨rfl,X1,rfl⟩)
   have hT:aJ (λk=>w.heap.size<=k/\k<w.heap.size+2) W (((W.setCell ⟨w.heap.size,0,none⟩ (aF Ar SS.length cr)).setCell ⟨w.heap.size+1,0,none⟩ (aI true)).grow X1):=
    (((aJ.refl _ _).setCell (Or.inr (by show _/\_;simp<;>omega)) _).setCell (Or.inr (by show _/\_;simp<;>omega)) _).grow X1
   have hK2:=(hT.block (w.heap.size+4) hlK om).trans HK.out;have f1:=Boxed.grow' ((b1.set (aF Ar SS.length cr)).other (B':=w.heap.size+1) om (aI true)) X1;have f2:=Boxed.grow' ((b2.other (B':=w.heap.size) om (aF Ar SS.length cr)).set (aI true)) X1;have hB2:=HB.out.trans (hT.below HB.out.size (λk hk=>by omega));have ho2:=hT.own HO.out (λk hk=>by omega);generalize(((W.setCell ⟨w.heap.size,0,none⟩ (aF Ar SS.length cr)).setCell ⟨w.heap.size+1,0,none⟩ (aI true)).grow X1)=V at*;have hTV:aJ (λk=>k=w.heap.size+4) V (V.putObj (w.heap.size+4) (.deferred none)):=aJ.putObj (pv:=λk=>k=w.heap.size+4) (aJ.refl _ _) (Or.inr rfl) _;have g1:=(hTV.boxed f1 om).cell;have g2:=(hTV.boxed f2 om).cell;refine⟨by simp,.inl ⟨_,_,rfl,run_takeDeferred hK2, ?_⟩⟩;refine⟨aN #[(aF Ar SS.length cr),aI true], ?_, ?_⟩
   .simp[results,Tryz.results214,go_sem,g1,g2]
   .rw[HN.out];exact wT.of (hB2.trans (hTV.below hB2.size (λk hk=>by omega))) rfl (KL HSl.out.choose_spec.choose_spec.2.1 (hTV.own ho2 (λk hk=>by omega)))
 case hstop=>
  rintro c pre x W hx ⟨rfl,b1,b2,⟨y,hy,hno⟩,hB⟩ hK;gi_wp2;have hT:aJ (λk=>k=w.heap.size+4) W (W.putObj (w.heap.size+4) (.deferred none)):=aJ.putObj (pv:=λk=>k=w.heap.size+4) (aJ.refl _ _) (Or.inr rfl) _;have g1:=(hT.boxed b1 om).cell;have g2:=(hT.boxed b2 om).cell;refine⟨by simp,.inl ⟨_,_,rfl,run_takeDeferred hK, ?_⟩⟩;refine⟨aN #[aF none 0 0,aI false], ?_, ?_⟩
  .simp[results,Tryz.results214,go_sem,g1,g2]
  .have hmem:y∈eH l:=hx.subset hy;rw[S8 hmem hno];exact wT.of (hB.trans (hT.below hB.size (λk hk=>by omega))) rfl (RW _)
def Nn (W:World) (A:Option Addr) (c:Nat):Prop:=(A=none->c=0)/\ ∀ad,A=some ad-> ∃cur z,W.heap[ad.block]? =some (.cells cur 209 z)
theorem Nn.none (W:World):Nn W none 0:=⟨λ_=>rfl,λ_ h=>by cases h⟩
theorem Nn.own {W:World} {A:Option Addr} {c n B:Nat} {xs:List Value} (h:W.ownsRow B 209 4 (aF A n c) n xs):Nn W A c:=by
 refine⟨uG h,λad hA=> ?_⟩;obtain⟨_,⟨h1,_⟩|⟨g,cap,cur,h1,_,h2,_⟩⟩:=h
 .cases h1;cases hA
 .cases h1;cases hA;exact⟨cur,_,h2⟩
theorem Nn.below {W W':World} {A:Option Addr} {c:Nat} (h:Nn W A c) (hb:Below W.heap.size W W'):Nn W' A c:=⟨h.1,λad hA=>by
 obtain⟨cur,z,h2⟩:=h.2 ad hA;exact⟨cur,z,(hb.block _ (Array.getElem?_eq_some_iff.1 h2).1).trans h2⟩⟩
def gJ (w:World) (r:Option (List aK)) (e:Ending) (w':World):Prop:= ∃A c X,e=aL (aN #[aF A (r.getD []).length c,aI r.isSome])/\w'=w.grow X/\Nn (w.grow X) A c/\(r.getD []).length<=c/\Rd (w.grow X) (aF A (r.getD []).length c) (r.getD []).length 4 (bC (r.getD []))
theorem gJ.no {w w':World} {b:Bool} (hb:Below w.heap.size w w') (h:b=false):gJ w none (aL (aN #[aF none 0 0,aI b])) w':=by
 obtain⟨X,rfl⟩:=cV hb;subst h;exact⟨_,0,X,rfl,rfl,Nn.none _,bA _,Rd.nil _ 4⟩
theorem gJ.own {w w':World} {v:Value} {l:List aK} {b:Bool} {B n:Nat} (hb:Below w.heap.size w w') (h:b=true) (hn:n=l.length) (ho:w'.ownsRow B 209 4 v n (bC l)):gJ w (some l) (aL (aN #[v,aI b])) w':=by
 obtain⟨X,rfl⟩:=cV hb;subst h hn;obtain⟨A,c,rfl,hc⟩:=dF ho;exact⟨A,c,X,rfl,rfl,Nn.own ho,hc,Rd.own ho⟩
theorem gJ.rd {w w':World} {A:Option Addr} {c n:Nat} {l:List aK} {b:Bool} (hb:Below w.heap.size w w') (h:b=true) (hn:n=l.length) (hA:Nn w' A c) (hc:l.length<=c) (hr:Rd w' (aF A l.length c) l.length 4 (bC l)):gJ w (some l) (aL (aN #[aF A n c,aI b])) w':=by
 obtain⟨X,rfl⟩:=cV hb;subst h hn;exact⟨A,c,X,rfl,rfl,hA,hc,hr⟩
theorem gJ.flat {P:Program} {f:FuncId} {args:Array Value} {w1:World} {X:Gr} {r:Option (List aK)} (h:Calls P f args (w1.grow X) (gJ (w1.grow X) r)):Calls P f args (w1.grow X) (gJ w1 r):=
 h.mono λ_ _ ⟨A,c,Y,h1,h2,h3,h4,h5⟩=>⟨A,c,_,h1,h2.trans (jV w1 X Y),by rw[<-jV];exact h3,h4,by rw[<-jV];exact h5⟩
theorem U3 {s:St} (h:dT s=true):OD s:=by
 obtain⟨k,x,y⟩:=s;unfold dT at h;simp only at h;split at h
 .rename_i h1;simp only[bD]at h;have ha:=uK h.1;have hb:=uK h.2;exact⟨by simp only;omega,by simp only;omega,by simp only;omega,by simp only;omega,by simp only;omega,by simp only;omega,λh=>by simp only at h;omega⟩
 .split at h
  .rename_i h2;simp only[bD,decide_eq_true_eq]at h;have ha:=uK h.1;exact⟨by simp only;omega,by simp only;omega,by simp only;omega,by simp only;omega,by simp only;omega,by simp only;omega,λh=>by simp only at h ⊢;omega⟩
  .split at h
   .rename_i h3;simp only[bD,decide_eq_true_eq]at h;exact⟨by simp only;omega,by simp only;omega,by simp only;omega,by simp only;omega,by simp only;omega,by simp only;omega,λh=>by simp only at h;omega⟩
   .split at h
    .simp only[bD,decide_eq_true_eq]at h;exact⟨by simp only;omega,by simp only;omega,by simp only;omega,by simp only;omega,by simp only;omega,by simp only;omega,λh=>by simp only at h;omega⟩
    .cases h
theorem Cn (l:List St) (k:Nat) (hk:k<l.length):fD (l.take (k+1))=fD (l.take k)++cZ l[k]:=by
 unfold fD;rw[List.take_succ_eq_append_getElem hk,List.flatMap_append];simp
theorem TQ (l:List St):(fD l).length<=l.length*5:=by
 induction l with
 |nil=>simp[fD]
 |cons s l ih=>
  have h:=(tX s).2;show(cZ s++fD l).length<=_;rw[aZ,aY];omega
theorem Ct (v:Value) (l:List St) (w:World) (h:Sl w v l):Calls aE 216 #[v] w (gJ w (if gF l then some (fD l)else none)):=by
 have hmx:=bX;have HRt0:=DM v l w h;obtain⟨a,cap,rfl,hl,hc⟩:=h;cases hr:gF l
 .rw[hr]at HRt0;have HRt:=aA HRt0;clear HRt0 hc;go_enter Tryz.func216,Tryz.ntmps216;go_wp2_with(go_at_call 232;(with_reducible refine HRt.out.mono ?_);rintro e w' ⟨rfl,X1,rfl⟩)
  go_ret2;exact gJ.no aG rfl
 .rw[hr]at HRt0;have HRt:=aA HRt0;obtain⟨hm,h8⟩:=EG hr;have HM:=aA hm;have HC:=aA hc;clear HRt0 hc hm hr;go_enter Tryz.func216,Tryz.ntmps216;go_wp2_with(go_at_call 232;(with_reducible refine HRt.out.mono ?_);rintro e w' ⟨rfl,X1,rfl⟩)
  go_loopw [4,12] (λvo i wr=> ∃k:Nat,k<=l.length/\i=aB aC k/\Hid (Below w.heap.size w wr)/\Hid (wr.ownsRow w.heap.size 209 4 vo (fD (l.take k)).length (bC (fD (l.take k))))) (λ_ i _=>l.length-(intOf i).toNat)
  case atStart=>exact⟨0,by omega,rfl,dG _ _,by show World.ownsRow _ _ _ _ _ _ _;rw[List.take_zero];exact World.ownsRow_nil _ _ _ _⟩
  case round=>
   obtain⟨k,hk,rfl,HB,HO⟩:=hrel;by_cases hlt:k<l.length
   .obtain⟨b,off,rfl,hb,hcs⟩: ∃b off,a=some ⟨b,off,none⟩/\b<w.heap.size/\w.cell? ⟨b,off+k*3,none⟩=some (aB aC l[k].k)/\w.cell? ⟨b,off+k*3+1,none⟩=some (aB aC l[k].x)/\w.cell? ⟨b,off+k*3+2,none⟩=some (aB aC l[k].y):=by
     rcases HC.out with rfl|⟨b,off,rfl,hc⟩
     .simp at hlt
     .exact⟨b,off,rfl,hc.1,hc.2 k l[k] (List.getElem?_eq_getElem hlt)⟩
    obtain⟨c0,c1,c2⟩:=hcs;have c0:=(HB.out.cell hb).trans c0;have c1:=(HB.out.cell hb).trans c1;have c2:=(HB.out.cell hb).trans c2;have HTo:=aA (λW=>AV l[k] W (U3 (HM.out _ (List.getElem_mem hlt))));have HS:Hid (fD (l.take (k+1))=fD (l.take k)++cZ l[k]):=Cn l k hlt;have htl:=tX l[k];have hpl:(fD (l.take k)).length<=1000:=by have:=TQ (l.take k);rw[List.length_take]at this;omega
    simp only[St.val]at HTo;generalize cZ l[k]=TS at*;generalize l[k].k=sk at*;generalize l[k].x=sx at*;generalize l[k].y=sy at*;generalize hPk:fD (l.take k)=PK at*;have hsz:=HB.out.size;go_wp2_with(first
     |(go_at_call 237;(with_reducible refine(HTo.out _).mono ?_);rintro e w' ⟨v3,X3,rfl,rfl,ho3⟩;obtain⟨g3,cap3,rfl⟩:=Go.Joins.ownsRow_form ho3 om;have HN3:=aA (xL (Rd.own ho3) (uG ho3) (Below.refl _ _));have HL3:=aA ho3.1;clear ho3)
     |(at_builtin;go_loud(refine GP rfl _ _ 175 rfl CQ w.heap.size rfl (jT (HO.out.alloc _) X3) (by simp[go_sem];omega) TS.length (bC TS) HN3.out HL3.out (YS TS) (by unfold maxLen;omega) om ?_);intro v4 W4 ho4 hg4;go_loud(have HB4:=sE hg4 (jT (HO.out.alloc _) X3) (rJ HB.out aG));have HO4:=aA ho4;clear ho4 hg4))
    go_roundw
    case rel=>exact⟨k+1,by omega,by go_num,HB4.out,by show World.ownsRow _ _ _ _ _ _ _;rw[HS.out,aZ,YU];exact HO4.out⟩
    case measure=>simp[intOf];omega
   .have hkl:k=l.length:=by omega
    subst hkl;go_wp2_with fail
    go_ret2;have hO:=HO.out;rw[List.take_length]at hO;exact gJ.own HB.out rfl rfl hO
