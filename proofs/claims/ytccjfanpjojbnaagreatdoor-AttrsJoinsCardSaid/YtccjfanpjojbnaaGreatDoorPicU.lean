import Derived.Test.YtccjfanpjojbnaaGreatDoorPicN
import Derived.Test.YtccjfanpjojbnaaGreatDoorRowU
namespace Go.Proofs.YtccjfanpjojbnaaGreatDoor
open Lib renaming hid→aA
open List renaming append_nil→bV,dropWhile_sublist→Yn,flatMap_cons→iF,length_append→aZ,length_cons→aY,length_reverse→Xe,setIfInBounds_toArray→aU,set_cons_succ→aV,set_cons_zero→aT
open Nat renaming le_refl→bA,le_trans→bG,zero_le→lT
open Go.Value renaming bool→aI,pointer→aM,slice→aF,string→aD,tuple→aN
set_option maxRecDepth 100000
set_option maxHeartbeats 8000000
def rB (P:aO) (x:cN):List cN:=match lZ P x.url with
 |some u=>if mV ⟨u,x.size⟩=true then [⟨u,x.size⟩]else []
 |none=>[]
def fF (P:aO) (l:List cN):List cN:=l.flatMap (rB P)
theorem El {P:aO} {x y:cN} (h:y∈rB P x):mV y=true/\lZ P x.url=some y.url/\y.size=x.size:=by
 unfold rB at h;split at h
 .next u hu=>
  split at h
  .next ho=>
   rw[List.mem_singleton]at h;subst h;exact⟨ho,hu,rfl⟩
  .cases h
 .cases h
theorem Em (P:aO) (x:cN):(rB P x).length<=1:=by
 unfold rB;split
 .split
  .exact bA _
  .exact lT _
 .exact lT _
theorem GB {P:aO} {l:List cN} {y:cN} (h:y∈fF P l): ∃x∈l,mV y=true/\lZ P x.url=some y.url/\y.size=x.size:=by
 unfold fF at h;rw[List.mem_flatMap]at h;obtain⟨x,hx,hy⟩:=h;exact⟨x,hx,El hy⟩
theorem Md (P:aO) (l:List cN):(fF P l).all mV=true:=by
 rw[List.all_eq_true];intro y hy;obtain⟨_,_,h,_⟩:=GB hy;exact h
theorem En {P:aO} {y:cN} (ho:mV y=true) {v:Bs} (h:lZ P v=some y.url):rB P y=[y]:=by
 unfold rB;rw[(XR h).2.1];obtain⟨u,z⟩:=y;exact if_pos ho
theorem XO {α:Type} {f:α->List α}: ∀l:List α,(∀y∈l,f y=[y])->l.flatMap f=l
 |[],_=>rfl
 |x::r,h=>by
  rw[iF,h x (by simp),XO r (λy hy=>h y (by simp[hy]))];rfl
theorem Me (P:aO) (l:List cN):fF P (fF P l)=fF P l:=
 XO _ λy hy=>by
  obtain⟨x,_,ho,hu,_⟩:=GB hy;exact En ho hu
theorem NG (P:aO): ∀l:List cN,(fF P l).length<=l.length
 |[]=>lT _
 |x::r=>by
  have h1:=NG P r;have h2:=Em P x;unfold fF at h1 ⊢;rw[iF,aZ,aY];omega
theorem NF (P:aO) (l:List cN) (x:cN):fF P (l++[x])=fF P l++rB P x:=by
 unfold fF;rw[List.flatMap_append,iF,List.flatMap_nil,bV]
theorem Ly (P:aO) (l:List cN):cO (mF (fF P l))=fF P l:=Dr _ (Md P l)
theorem WO (n k:Nat) (sep:Bs) (hs:sep.length=k): ∀l:List Bs,(∀t∈l,t.length<=n)->(jJ sep l).length<=l.length*(n+k)
 |[],_=>lT _
 |[x],h=>by
  have h1:=h x (by simp);show x.length<=1*(n+k);omega
 |x::y::r,h=>by
  have h1:=h x (by simp);have h2:=WO n k sep hs (y::r) (λt ht=>h t (by simp[ht]));show(x++sep++jJ sep (y::r)).length<=_;rw[aZ,aZ,hs];rw[show(x::y::r).length=(y::r).length+1 from rfl,Nat.succ_mul];omega
theorem Ce {p:cN} {n:Nat} (h1:p.url.length<=n) (h2:p.size.length<=n):(mP p).length<=2*n+1:=by
 unfold mP;split
 .omega
 .rw[aZ,aY];omega
theorem Cf {l:List cN} {n:Nat} (h: ∀p∈l,p.url.length<=n/\p.size.length<=n):(mF l).length<=l.length*(2*n+3):=by
 have h1:=WO (2*n+1) 2 [44,32] rfl (l.map mP) (λt ht=>by
  rw[List.mem_map]at ht;obtain⟨p,hp,rfl⟩:=ht;exact Ce (h p hp).1 (h p hp).2)
 rw[List.length_map]at h1;exact h1
theorem DF: ∀(l w:Bs),(jJ [32] (fY w l)).length<=w.length+l.length
 |[],w=>by
  unfold fY;split
  .exact lT _
  .show w.length<=_;omega
 |c::r,w=>by
  unfold fY;split
  .split
   .next hw=>subst hw;have:=DF r [];simp at this ⊢;omega
   .have h1:=DF r [];cases hq:fY [] r with
    |nil=>show w.length<=_;omega
    |cons y q=>
     rw[hq]at h1;show(w++[32]++jJ [32] (y::q)).length<=_;simp at h1 ⊢;omega
  .have h1:=DF r (w++[c]);simp at h1 ⊢;omega
theorem M4 (l:Bs):(gQ l).length<=l.length:=by
 unfold gQ;rw[Xe];have:=nB (λc=>decide (c.toNat=44)) l.reverse;rwa[Xe]at this
theorem Dm: ∀(n:Nat) (l:Bs),l.length<=n-> ∀p∈cO l,p.url.length<=n/\p.size.length<=n:=by
 intro n;induction n with
 |zero=>intro l h p hp;obtain rfl:l=[]:=List.eq_nil_of_length_eq_zero om;simp[vX]at hp
 |succ n ih=>
  intro l h p hp;cases l with
  |nil=>simp[vX]at hp
  |cons c r=>
   have hr:r.length<=n:=by simpa using h
   cases hs:dS c
   .have h1:=yS (r:=r) (xD hs);have hw:((c::r).takeWhile (λc=> !bB c)).length<=n+1:=bG (List.takeWhile_sublist _).length_le h;rw[vW hs]at hp;split at hp
    .rw[List.mem_cons]at hp;rcases hp with hp|hp
     .subst hp;exact⟨bG (M4 _) hw,lT _⟩
     .have:=ih _ (bG h1 hr) p hp;omega
    .rw[List.mem_cons]at hp;rcases hp with hp|hp
     .subst hp;refine⟨hw,bG (DF _ []) ?_⟩;rw[List.length_take];simp only[List.length_nil];omega
     .have h2:(((c::r).dropWhile (λc=> !bB c)).drop (eX 0 ((c::r).dropWhile (λc=> !bB c)))).length<=r.length:=by rw[List.length_drop];omega
      have:=ih _ (bG h2 hr) p hp;omega
   .rw[uF hs]at hp;have:=ih r hr p hp;omega
theorem Qe (l:Bs):(iE l).length<=l.length:=by
 unfold iE qV;refine bG (List.length_filter_le _ _) ?_;rw[Xe];refine bG (Yn _).length_le ?_;rw[Xe];exact(Yn _).length_le
theorem U7 {l:Bs} {x:Bs × Bs} (h:iM l=some x):x.1.length+x.2.length+1<=l.length:=by
 obtain⟨n,r⟩:=x;obtain⟨a,m,h1,h2,_⟩:=DZ h;rw[h1,h2];simp;omega
theorem XT {p:aO} {s x:Bs} (h:lZ p s=some x):x.length<=s.length:=by
 refine bG ?_ (Qe s);unfold lZ at h;split at h
 .next n r hs=>
  have:=U7 hs;split at h
  .cases h;simp at this ⊢;omega
  .cases h
 .split at h
  .cases h;exact bA _
  .cases h
open Go.RowKit Go.Shelf
theorem CT {P:Program} {l n:Nat} {f:FuncId} {args:Array Value} {w:World} {R:Ending->World->Prop} (h:Calls P f args w R):CallsIn (Fence.wide.inRound l) n P f args w R:=(callsIn_wide (n:=n)).2 h
def UJ (Q:Exit->Act->World->Prop):Exit->Act->World->Prop
 | .normal,a,w=>Q .normal a w
 |_,_,_=>False
theorem Ek {F:Fence} {n:Nat} {P:Program} {c:Code} {Q:Exit->Act->World->Prop} {a:Act} {w:World} (h:c.wpIn F n P (UJ Q) a w):c.wpIn F n P Q a w:=
 wpIn_mono h λe _ _ hq=>by cases e<;>first|exact hq|exact hq.elim
abbrev IC (w:World) (ob base:Nat) (P:aO) (pre:List cN) (A:World):Prop:=tV (λ_=>False) w ob base 118 123 2 cN.cells (fF P pre) A
theorem Lv (g:Nat) (P:aO) (s:Bs) (w:World) (hr:gB w g P) (hT:U8 w) (hm:s.length<=1000000000) (hp: ∀p∈cO s,p.url.length<=100000/\p.size.length<=100000) (hn:(cO s).length<=100000):Calls Tryz.prog 37 #[aM (some ⟨g,0,none⟩),aD ⟨s.toArray⟩] w (aH (aN #[aD ⟨(mF (fF P (cO s))).toArray⟩,aI (decide (0<(fF P (cO s)).length))]) w):=by
 have hmx:=bX;refine(callsIn_wide (n:=0)).1 ?_;refine callsIn_of_wp_marks (n:=0) Tryz.func37 rfl trivial ?_ rfl;simp only[Tryz.ntmps37,List.size_toArray,aY,List.length_nil,Nat.reduceAdd,Nat.reduceSub,Array.replicate_succ,Array.replicate_zero,List.push_toArray,List.append_toArray,List.nil_append,List.cons_append];have HSo:=aA (V9 s);have HSm:=aA hp;have HFi:=aA (λW (hb:Below w.heap.size w W) (u:Bs) (hu:u.length<=100000)=>XQ g P ⟨u.toArray⟩ W (hr.below hb) (hT.below hb) (by show u.toArray.size<=_;simp;omega));have hIt:=λ(lb:Nat) bw W h1 h2 h3 h4=>X8 s lb bw W h1 h2 h3 h4 (by omega:s.length<=140737488355);have HIt:=aA hIt;obtain⟨L,hL⟩: ∃L,cO s=L:=⟨_,rfl⟩;have hl:L.length<=100000:=by rw[<-hL];exact hn
 clear hr hT hIt hp hn;gi_wp2_with (gi_at_call 76;(with_reducible refine(callsIn_wide.2 (HSo.out _)).mono ?_);rintro e w' ⟨rfl,rfl⟩)
 obtain⟨w1,hw1⟩: ∃w1,w.alloc (.cells #[aM (some ⟨g,0,none⟩)] 25)=w1:=⟨_,rfl⟩;have hs1:w1.heap.size=w.heap.size+1:=by rw[<-hw1];simp
 have HR1:Hid (Boxed w1 w.heap.size 25 (aM (some ⟨g,0,none⟩))):=by show Boxed _ _ _ _;rw[<-hw1];exact Boxed.new w _ _
 have HB1:Hid (Below w.heap.size w w1):=by show Below _ _ _;rw[<-hw1];exact(Below.refl _ _).alloc (bA _) _
 rw[hw1];refine yO (B:=w.heap.size+4) (by simp[hs1]) rfl (enters_of Tryz.func129 kr rfl) (encs:=λp=> #[cN.agg p]) (λ_=>rfl) (xs:=cO s) (λk=>k=w.heap.size+2)
  (λk=>k=w.heap.size+1\/w.heap.size+6<=k) (by intro k hk;omega) (by intro k hk;omega) (IC w1 (w.heap.size+1) (w.heap.size+6) P) (λ_ _ _=>False) ?hI ?hIx ?h0 ?hiter ?hround ?hdone ?hstop
 case hI=>
  intro pre A C h ht;exact h.turn ht om (by intro k hk;omega) (by intro k hk hl;omega)
 case hIx=>intro c pre A C h _;exact h.elim
 case h0=>
  have h:=Boxed.new w1 118 (aF none 0 0);rw[hs1]at h;refine⟨⟨_,(h.alloc _).alloc _,World.ownsRow_nil _ _ _ _⟩,(((aJ.refl _ _).alloc _).alloc _).alloc _⟩
 case hiter=>
  intro o1 o2;have h1:=Boxed.new (w1.alloc (.cells #[aF none 0 0] 118)) 9 (aD ⟨s.toArray⟩);have h2:=Boxed.new ((w1.alloc (.cells #[aF none 0 0] 118)).alloc (.cells #[aD ⟨s.toArray⟩] 9)) 160 (.func (.func 127) #[] #[]);rw[World.size_alloc,hs1]at h1;rw[World.size_alloc,World.size_alloc,hs1]at h2;exact HIt.out (w.heap.size+2) _ _ (((h1.alloc _).alloc _).alloc _) ((h2.alloc _).alloc _) om om
 case hround=>
  rintro l pre ⟨xu,xz⟩ A hx hI hsz;obtain⟨hxu,hxz⟩:=HSm.out ⟨xu,xz⟩ (hx.subset (by simp));simp only at hxu hxz;simp only[cN.agg,sv];gi_wp2;refine⟨(aJ.refl _ _).alloc _,λA2 ht hI2 hs2=> ?_⟩;have hx2:A2.heap[A.heap.size]? =some (.cells #[aD ⟨xu.toArray⟩,aD ⟨xz.toArray⟩] 123):=(ht.block _ (by simp) om).trans (World.alloc_heap_new A _);have c0:A2.cell? ⟨A.heap.size,0,none⟩=some (aD ⟨xu.toArray⟩):=by simp[World.cell?,hx2]
  have c2:A2.frozen? ⟨A.heap.size,0,none⟩=false:=by simp[World.frozen?,hx2]
  have c1:A2.cell? ⟨A.heap.size,1,none⟩=some (aD ⟨xz.toArray⟩):=by simp[World.cell?,hx2]
  have HIA:=aA hI;obtain⟨⟨v,bv,ho⟩,hB⟩:=hI;have hTA:aJ (λk=>k=w.heap.size+5) A A2:=((aJ.refl _ _).alloc _).trans ht;have hB2:aJ (λ_=>False) w1 A2:=hB.next hTA (by intro k hk hl;omega);have ho2:=hTA.own ho (λk hk=>by omega);have bv2:=hTA.boxed bv om;have d4:=bv2.cell;have e4:=bv2.frozen;have br:=hB2.boxed HR1.out (λh=>h);have d5:=br.cell;have hF:=HFi.out A2 (HB1.out.trans (hB2.below om (λ_ h=>h.elim))) xu hxu;have hs3:w.heap.size+6<=A2.heap.size:=by rw[hs2];simp;omega
  have hsA:A.heap.size<A2.heap.size:=by rw[hs2];simp
  have hsB:w.heap.size+6<=A.heap.size:=hsz;have hpl:(fF P pre).length+1<=1000000:=by
   have h1:=NG P pre;have h2:=hx.length_le;rw[hL,aZ,List.length_singleton]at h2;omega
  have HSA:Hid (∀(V:World) (z:Value) (Y:Gr),V=(A2.setCell ⟨A.heap.size,0,none⟩ z).grow Y->aJ (λk=>k=w.heap.size+1\/w.heap.size+6<=k) A2 V/\aJ (λk=>k=w.heap.size+5) A V):=by
   intro V z Y hV;subst hV;exact⟨(aJ.setCell (aJ.refl _ _) (p:=⟨A.heap.size,0,none⟩) (Or.inr (Or.inr hsB)) _).grow _,(aJ.setCell hTA (p:=⟨A.heap.size,0,none⟩) (Or.inl (bA _)) _).grow _⟩
  have HOA:=aA ho;have HBA:=aA bv;have HTB:=aA hB;clear hB hB2 hs2 ht hI2 ho bv hTA ho2 bv2;cases hf:lZ P xu with
  |none=>
   rw[hf,show sI none=aN #[aD ⟨#[]⟩,aI false]from rfl]at hF;have HO:Hid (rB P ⟨xu,xz⟩=[]):=by show _=_;unfold rB;simp only[hf]
   have HF:=aA hF;clear hF hf;gi_wp2_with (gi_at_call 36;(with_reducible refine(CT HF.out).mono ?_);rintro e w' ⟨rfl,Y1,rfl⟩)
   obtain⟨h1,h2⟩:=HSA.out _ (aD ⟨#[]⟩) Y1 rfl;show aJ _ _ _/\IC _ _ _ _ _ _;refine⟨h1, ?_⟩;show tV _ _ _ _ _ _ _ _ _ _;rw[NF,HO.out,bV];exact HIA.out.turn h2 om (by intro k hk;omega) (by intro k hk hl;omega)
  |some C=>
   rw[hf,show sI (some C)=aN #[aD ⟨C.toArray⟩,aI true]from rfl]at hF;have HO:Hid (rB P ⟨xu,xz⟩=if mV ⟨C,xz⟩=true then [⟨C,xz⟩]else []):=by show _=_;unfold rB;simp only[hf]
   have hC:=XT hf;have HRt:=aA (λW=>Dj ⟨C,xz⟩ W (show C.length<=_ by omega) (show xz.length<=_ by omega));simp only[cN.agg,sv]at HRt;have HF:=aA hF;clear hF hf;cases hk:mV ⟨C,xz⟩
   .rw[hk]at HRt HO;gi_wp2_with (first|(gi_at_call 36;(with_reducible refine(CT HF.out).mono ?_);rintro e w' ⟨rfl,Y1,rfl⟩)|(gi_at_call 77;(with_reducible refine(CT (HRt.out _)).mono ?_);rintro e w' ⟨rfl,Y2,rfl⟩))
    obtain⟨h1,h2⟩:=HSA.out _ (aD ⟨C.toArray⟩) Y1 rfl;show aJ _ _ _/\IC _ _ _ _ _ _;refine⟨h1.grow _, ?_⟩;show tV _ _ _ _ _ _ _ _ _ _;rw[NF,HO.out,if_neg Bool.false_ne_true,bV];exact HIA.out.turn (h2.grow _) om (by intro k hk;omega) (by intro k hk hl;omega)
   .rw[hk]at HRt HO;gi_wp2_with (first|(gi_at_call 36;(with_reducible refine(CT HF.out).mono ?_);rintro e w' ⟨rfl,Y1,rfl⟩)|(gi_at_call 77;(with_reducible refine(CT (HRt.out _)).mono ?_);rintro e w' ⟨rfl,Y2,rfl⟩)|(gi_at_builtin;go_loud(refine CW rfl _ _ 118 rfl U4 (w.heap.size+6) rfl ((((HSA.out _ (aD ⟨C.toArray⟩) Y1 rfl).2.grow Y2).own HOA.out (λk hk=>by omega)).alloc _) (by have h:=((HSA.out _ (aD ⟨C.toArray⟩) Y1 rfl).1.grow Y2).size;simp only[World.size_alloc];omega) ⟨_,0,none⟩ 0 1 (cN.cells ⟨C,xz⟩) rfl rfl (eR (c:= #[sv C,sv xz]) (by simp[go_sem])) (by simp[cN.cells,sv,Value.oneCell']) (by unfold maxLen;omega) om ?_);intro g' cap W' ho' ht';have bv':=ht'.boxed ((((HSA.out _ (aD ⟨C.toArray⟩) Y1 rfl).2.grow Y2).boxed HBA.out om).alloc _) om;have d7:=bv'.cell;have e7:=bv'.frozen))
    obtain⟨h1,h2⟩:=HSA.out _ (aD ⟨C.toArray⟩) Y1 rfl;have h3:=tV.put (x:=(⟨C,xz⟩:cN)) (HTB.out.next ((h2.grow Y2).alloc _) (by intro k hk hl;omega)) (((h2.grow Y2).boxed HBA.out om).alloc _) ho' rfl ht' om om;show aJ _ _ _/\IC _ _ _ _ _ _;refine⟨((h1.grow Y2).alloc _).trans h3.1, ?_⟩;show tV _ _ _ _ _ _ _ _ _ _;rw[NF,HO.out,if_pos trivial];exact h3.2
 case hdone=>
  rintro W ⟨⟨v,bv,ho⟩,hB⟩ hK;obtain⟨A,c,rfl,hc⟩:=dF ho;have hf2: ∀p∈fF P (cO s),p.url.length<=100000/\p.size.length<=100000:=by
   intro p hp;obtain⟨x,hx,_,h1,h2⟩:=GB hp;have h3:=HSm.out x hx;have h4:=XT h1;rw[h2];omega
  have hn2:(fF P (cO s)).length<=100000:=bG (NG P _) (by rw[hL];exact hl);have hct:=Cf hf2;have HTx:=aA (Di A (fF P (cO s)).length c (fF P (cO s)) W.drew ((Rd.own ho).drew) om (by have:=Nat.mul_le_mul_right (2*100000+3) hn2;omega) (λp hp=>by have:=hf2 p hp;omega));have d1:=bv.cell;have d2:=bv.lt;have hW:Below w.heap.size w W:=HB1.out.trans (hB.below om (λ_ h=>h.elim));have HW:=aA hW;have HK:=aA hK;clear hW hK hf2 hct HIt HSo HFi HSm;gi_wp2_with fail
  refine Ek ?_;refine tW 6 [(0,true),(2,true),(3,true),(4,true),(1,false),(5,true)] (λW=>W.cell? ⟨w.heap.size+1,0,none⟩=some (aF A (fF P (cO s)).length c)) hmx (by rintro⟨_,_,h⟩;exact h) kr kr kr dc  rfl (λ_ _ _ _ _ h=>h) kr (by simpa[go_sem]using d1) ?_;refine eM (v:= aF A (fF P (cO s)).length c) 31 rfl rfl rfl (λW hW=>by simp[execOp,go_sem,hW]) ?_;simp only[Act.put,aU,aV,aT];refine eM (v:= aF A (fF P (cO s)).length c) 33 rfl rfl rfl (λW hW=>by simp[execOp,go_sem,hW]) ?_;simp only[Act.put,aU,aV,aT];refine eM (v:= Value.int IntKind.i64 ((fF P (cO s)).length:Nat)) 34 rfl rfl rfl ee ?_;simp only[Act.put,aU,aV,aT];refine eM (v:= aI (decide (0<(fF P (cO s)).length))) 35 rfl rfl rfl ee ?_;simp only[Act.put,aU,aV,aT];refine cC rfl rfl λKc hKc=> ?_;unfold Oper.wp;simp[execOp,go_sem];refine HTx.out.mono ?_;rintro e W1 ⟨rfl,X1,rfl⟩;show Kc _ _;apply hKc;refine⟨?_, ?_⟩
  .simp[go_sem,d1,d2]
  refine eM (v:= aD ⟨(mF (fF P (cO s))).toArray⟩) 4 rfl rfl rfl ee ?_;simp only[Act.put,aU,aV,aT];simp only[dD,List.drop];go_wp2_with fail
  simp only[UJ];gi_wp2;refine⟨by simp,.inl ⟨_,_,rfl,run_takeDeferred ?_, ?_⟩⟩
  .exact(((aJ.refl (λ_=>False) W).drew.grow X1).block _ (Array.getElem?_eq_some_iff.1 HK.out).1 (λh=>h)).trans HK.out
  .refine⟨aN #[aD ⟨(mF (fF P (cO s))).toArray⟩,aI (decide (0<(fF P (cO s)).length))],by simp[results,Tryz.results37,go_sem],aH.of rfl (HW.out.trans ?_)⟩;exact(aJ.putObj (pv:=λk=>k=w.heap.size+4) ((aJ.refl (λk=>k=w.heap.size+4) W).drew.grow X1) (Or.inr rfl) _).below HW.out.size (by intro k hk;omega)
 case hstop=>intro c pre x W _ h;exact h.elim
