/- The walks of values of styles: the pieces of steps; a value of movements, made neat. -/
import Derived.Test.YtiikamobcmgekaaGreatDoorJValF
namespace Go.Proofs.YtiikamobcmgekaaGreatDoor
set_option maxRecDepth 100000
set_option maxHeartbeats 2000000
open Go.RowKit Go.Shelf
attribute [local go_sem] Oper.semAt_some
theorem handV_len: ∀(n:Nat) (l:List Css),l.length<=n->(handV l).length<=l.length
 |0,[],_=>by rw[handV_nil];simp
 |_+1,[],_=>by rw[handV_nil];simp
 |0,_::_,h=>by simp at h
 |n+1,x::l,h=>by
  have h1:=rest_len x l
  simp only[List.length_cons]at h
  cases hf:fitT (x::l)
  ·rw[handV_no hf];simp
  ·rw[handV_yes hf]
   have:=handV_len n (restT (x::l)) (by omega)
   simp only[List.length_cons];omega
theorem handV_all (l:List Css):(handV l).all SB.ok=(handT l.length l).all (·.2)/\(handV l).map SB.st=(handT l.length l).map (·.1):=by
 unfold handV
 constructor
 ·rw[List.all_map];rfl
 ·rw[List.map_map];rfl
theorem stepsT_yes {l:List Css} (h: ∀x∈handV l,x.ok=true):stepsT l=if rightB ((handV l).map SB.st)then some ((handV l).map SB.st)else none:=by
 have h1:(handT l.length l).all (·.2)=true:=by rw[<-(handV_all l).1,List.all_eq_true];exact h
 unfold stepsT
 rw[hand_parse l.length l (Nat.le_refl _),if_pos h1,<-(handV_all l).2]
theorem stepsT_no {l:List Css} {x:SB} (hx:x∈handV l) (h:x.ok=false):stepsT l=none:=by
 have h1:(handT l.length l).all (·.2)=false:=by
  rw[<-(handV_all l).1,List.all_eq_false]
  exact⟨x,hx,by simp[h]⟩
 unfold stepsT
 rw[hand_parse l.length l (Nat.le_refl _),if_neg (by simp[h1])]
def RetT (w:World) (r:Option (List St)) (e:Ending) (w':World):Prop:= ∃v X,e= .returned (.tuple #[v,.bool r.isSome])/\w'=w.grow X/\Sl (w.grow X) v (r.getD [])
theorem sl_nil (w:World):Sl w (.slice none 0 0) []:=⟨none,0,rfl,by simp,.inl rfl⟩
theorem RetT.of {w w':World} {v:Value} {r:Option (List St)} {b:Bool} (hb:Below w.heap.size w w') (hr:b=r.isSome) (hs:Sl w' v (r.getD [])):RetT w r (.returned (.tuple #[v,.bool b])) w':=by
 obtain⟨X,rfl⟩:=grow_of_below hb
 exact⟨v,X,by rw[hr],rfl,hs⟩
def StepsI (w:World) (pre:List SB) (W:World):Prop:=
 (Boxed W w.heap.size 240 (.slice none 0 0)/\Boxed W (w.heap.size+1) 4 (.bool false))/\
 (∃v,Boxed W (w.heap.size+1+1) 240 v/\W.ownsRow (w.heap.size+6) 271 3 v pre.length (cells3 (pre.map SB.st)))/\(∀x∈pre,x.ok=true)/\Below w.heap.size w W
def StepsX (w:World) (c:Code) (pre:List SB) (W:World):Prop:=
 c= .ret/\Boxed W w.heap.size 240 (.slice none 0 0)/\Boxed W (w.heap.size+1) 4 (.bool false)/\(∃x∈pre,x.ok=false)/\Below w.heap.size w W
theorem steps_any (A:Option Addr) (n c:Nat) (l:List Css) (w:World) (h:Rd w (.slice A n c) l.length 4 (cssCells l)) (hc:l.length<=c) (hp: ∀x∈l,CssOk x) (hl:l.length<=100000000):Calls Tryz.prog 232 #[.slice A n c] w (RetT w (stepsT l)):=by
 have hn0:n=l.length:=by obtain⟨_,_,_,_,he,_⟩:=h;cases he;rfl
 subst hn0
 have hA:l≠[]-> ∀b off s,A=some ⟨b,off,s⟩->s=none/\b<w.heap.size:=fun h0 b off s hA=>by
  obtain⟨_,_,_,_,he,h4⟩:=h
  cases he
  obtain⟨b2,off2,h5,h6,_⟩:=h4 (List.length_pos_iff.2 h0)
  rw[hA]at h5;cases h5;exact⟨rfl,h6⟩
 have hA0:A=none->l=[]:=fun h0=>by
  obtain⟨_,_,_,_,he,h4⟩:=h
  cases he
  refine List.eq_nil_of_length_eq_zero (Nat.eq_zero_of_not_pos fun hp=> ?_)
  obtain⟨b2,off2,h5,h6,_⟩:=h4 hp
  rw[h0]at h5;cases h5
 have hmx:=mxd
 have HRd:=Lib.hid h
 have HP:=Lib.hid hp
 have HA:=Lib.hid hA
 have HA0:=Lib.hid hA0
 clear h hp hA hA0
 refine(callsIn_wide (n:=0)).1 ?_
 refine callsIn_of_wp_marks (n:=0) Tryz.func232 rfl trivial ?_ rfl
 simp only[Tryz.ntmps232,List.size_toArray,List.length_cons,List.length_nil,Nat.reduceAdd,Nat.reduceSub,Array.replicate_succ,Array.replicate_zero,List.push_toArray,List.append_toArray,List.nil_append,List.cons_append]
 gi_wp2_with (gi_at_call 265;refine(callsIn_wide.2 (steps0_any A l.length c _)).mono ?_;rintro e w' ⟨rfl,rfl⟩)
 refine wp_range (B:=w.heap.size+4) (by simp) rfl (enters_of Tryz.func289 (by kernel_rfl) rfl) (encs:=fun x:SB=> #[x.st.val,.bool x.ok]) (fun _=>rfl) (xs:=handV l) (fun k=>k=w.heap.size+3)
  (fun k=>w.heap.size<=k/\k<w.heap.size+3\/w.heap.size+6<=k) (by intro k hk;omega) (by intro k hk;omega) (StepsI w) (StepsX w) ?hI ?hIx ?h0 ?hiter ?hround ?hdone ?hstop
 case hI=>
  rintro pre A C ⟨⟨b1,b2⟩,⟨v,bv,ho⟩,he,hB⟩ ht
  refine⟨⟨ht.boxed b1 (by omega),ht.boxed b2 (by omega)⟩,⟨v,ht.boxed bv (by omega),ht.own ho (fun k hk=>by omega)⟩,he,hB.trans (ht.below hB.size (fun k hk=>by omega))⟩
 case hIx=>
  rintro c pre A C ⟨hc,b1,b2,h1,hB⟩ ht
  exact⟨hc,ht.boxed b1 (by omega),ht.boxed b2 (by omega),h1,hB.trans (ht.below hB.size (fun k hk=>by omega))⟩
 case h0=>
  have b1:=(((Boxed.new w 240 (.slice none 0 0)).alloc (.cells #[.bool false] 4)).alloc (.cells #[.slice none 0 0] 240)).alloc (.cells #[.slice A l.length c] 42)
  have b2:=((Boxed.new (w.alloc (.cells #[.slice none 0 0] 240)) 4 (.bool false)).alloc (.cells #[.slice none 0 0] 240)).alloc (.cells #[.slice A l.length c] 42)
  have b3:=(Boxed.new ((w.alloc (.cells #[.slice none 0 0] 240)).alloc (.cells #[.bool false] 4)) 240 (.slice none 0 0)).alloc (.cells #[.slice A l.length c] 42)
  simp only[World.size_alloc]at b2 b3
  exact⟨⟨b1,b2⟩,⟨_,b3,World.ownsRow_nil _ _ _ _⟩,(fun x hx=>by cases hx),bel⟩
 case hiter=>
  intro o1 o2
  have b5:=(Boxed.new (((w.alloc (.cells #[.slice none 0 0] 240)).alloc (.cells #[.bool false] 4)).alloc (.cells #[.slice none 0 0] 240)) 42 (.slice A l.length c)).alloc o1 |>.alloc o2
  simp only[World.size_alloc]at b5
  exact steps1_iter _ _ A c l _ b5 (by omega) (((((HRd.out.alloc _).alloc _).alloc _).alloc _).alloc _ |>.alloc _) (fun h0 b off s hA=>by obtain⟨h1,h2⟩:=HA.out h0 b off s hA;exact⟨h1,by omega,by omega⟩) HA0.out hc HP.out (by omega)
 case hround=>
  rintro ll pre ⟨⟨k,xx,yy⟩,ok⟩ A hx ⟨_,_,_,hBA⟩ hsz
  simp only[St.val]
  gi_wp2
  refine⟨(Turned.refl _ _).alloc _,fun A2 ht hI2 hs2=> ?_⟩
  have hx2:A2.heap[A.heap.size]? =some (.cells #[.int .i64 k,.int .i64 xx,.int .i64 yy] 271):=(ht.block _ (by simp) (by omega)).trans (World.alloc_heap_new A _)
  have c0:A2.cell? ⟨A.heap.size,0,none⟩=some (.int .i64 k):=by simp[World.cell?,hx2]
  have c1:A2.cell? ⟨A.heap.size,1,none⟩=some (.int .i64 xx):=by simp[World.cell?,hx2]
  have c2:A2.cell? ⟨A.heap.size,2,none⟩=some (.int .i64 yy):=by simp[World.cell?,hx2]
  clear hx2 ht
  obtain⟨⟨b1,b2⟩,⟨v,bv,ho⟩,he,hB⟩:=hI2
  have d1:=b1.cell
  have d2:=b2.cell
  have d4:=bv.cell
  have e1:=b1.frozen
  have e2:=b2.frozen
  have HX:=Lib.hid hx
  have HE:=Lib.hid he
  have HB:=Lib.hid hB
  have hlen:pre.length<=1000000000:=by
   have h1:=hx.length_le
   have h2:=handV_len l.length l (Nat.le_refl _)
   simp at h1;omega
  have hs3:w.heap.size+7<=A2.heap.size:=by rw[hs2];simp;omega
  clear hx he hB hs2
  cases ok
  ·gi_wp2
   have hT:Turned (fun k=>w.heap.size<=k/\k<w.heap.size+3\/w.heap.size+6<=k) A2 ((A2.setCell ⟨w.heap.size,0,none⟩ (.slice none 0 0)).setCell ⟨w.heap.size+1,0,none⟩ (.bool false)):=
    ((Turned.refl _ _).setCell (Or.inr (by show _\/_;simp<;>omega)) _).setCell (Or.inr (by show _\/_;simp<;>omega)) _
   exact⟨hT,rfl,(b1.set _).other (by omega) _,(b2.other (by omega) _).set _,⟨_,List.mem_append_right _ (List.mem_singleton.2 rfl),rfl⟩,HB.out.trans (hT.below HB.out.size (fun k hk=>by omega))⟩
  ·gi_wp2_with (gi_at_builtin;go_loud(refine appendIn_turn rfl _ _ 240 rfl steps_row (w.heap.size+6) rfl (ho.alloc _) (by simp;omega) ⟨_,0,none⟩ 0 1 [.int .i64 k,.int .i64 xx,.int .i64 yy] rfl rfl (new_cells (c:= #[.int .i64 k,.int .i64 xx,.int .i64 yy]) (by simp[go_sem])) (by simp[Value.oneCell']) (by unfold maxLen;omega) (by omega) ?_);intro g cap W' ho' ht';have bv':=ht'.boxed (bv.alloc _) (by omega);have d5:=bv'.cell;have e5:=bv'.frozen)
   have hT:Turned (fun k=>w.heap.size<=k/\k<w.heap.size+3\/w.heap.size+6<=k) A2 (W'.setCell ⟨w.heap.size+1+1,0,none⟩ (.slice (some ⟨g,0,none⟩) (pre.length+0+1) cap)):=
    (((Turned.refl _ _).alloc _).trans (ht'.mono fun k hk=>Or.inr hk)).setCell (Or.inr (by show _\/_;simp<;>omega)) _
   refine⟨hT,⟨(ht'.boxed (b1.alloc _) (by omega)).other (by omega) _,(ht'.boxed (b2.alloc _) (by omega)).other (by omega) _⟩,⟨_,bv'.set _, ?_⟩, ?_,HB.out.trans (hT.below HB.out.size (fun k hk=>by omega))⟩
   ·have h1:=(Turned.setCell (pv:=fun k=>k=w.heap.size+1+1) (Turned.refl _ W') (p:=⟨w.heap.size+1+1,0,none⟩) (Or.inr rfl) (.slice (some ⟨g,0,none⟩) (pre.length+0+1) cap)).own ho' (fun k hk=>by omega)
    rw[List.map_append,List.map_singleton,cells3_snoc,List.length_append]
    exact h1
   ·intro y hy
    rcases List.mem_append.1 hy with hy|hy
    ·exact HE.out y hy
    ·rw[List.mem_singleton]at hy;subst hy;rfl
 case hdone=>
  rintro W ⟨⟨b1,b2⟩,⟨v,bv,ho⟩,he,hB⟩ hK
  have d1:=b1.cell
  have d2:=b2.cell
  have d4:=bv.cell
  have e1:=b1.frozen
  have e2:=b2.frozen
  have hlen:=handV_len l.length l (Nat.le_refl _)
  have hml:((handV l).map SB.st).length=(handV l).length:=List.length_map ..
  rw[<-hml]at ho
  have HSl:=Lib.hid (sl_own (by rw[hml];omega) ho)
  have HST:=Lib.hid (stepsT_yes he)
  have HB:=Lib.hid hB
  have HK:=Lib.hid hK
  have HO:=Lib.hid ho
  have hlt:w.heap.size+2<W.heap.size:=bv.lt
  clear hB hK ho he hml
  generalize(handV l).map SB.st=SS at*
  obtain⟨Ar,cr,rfl,hcr⟩:=own_cap HO.out
  have hl0:w.heap.size<W.heap.size:=by omega
  have hl1:w.heap.size+1<W.heap.size:=by omega
  have hlK:=(Array.getElem?_eq_some_iff.1 HK.out).1
  cases hr:rightB SS
  ·have HN:Hid (stepsT l=none):=by show _=_;rw[HST.out,hr];rfl
   have HRt:Hid (Calls Tryz.prog 266 #[.slice Ar SS.length cr] W (Ret (.bool false) W)):=by
    have h8:=tright_any _ _ W HSl.out
    rwa[hr]at h8
   clear hr
   gi_wp2_with (gi_at_call 266;(with_reducible refine(callsIn_wide' HRt.out).mono ?_);rintro e w' ⟨rfl,X1,rfl⟩)
   have hT:Turned (fun k=>w.heap.size<=k/\k<w.heap.size+2) W (((W.setCell ⟨w.heap.size,0,none⟩ (.slice none 0 0)).setCell ⟨w.heap.size+1,0,none⟩ (.bool false)).grow X1):=
    (((Turned.refl _ _).setCell (Or.inr (by show _/\_;simp<;>omega)) _).setCell (Or.inr (by show _/\_;simp<;>omega)) _).grow X1
   have hK2:=(hT.block (w.heap.size+4) hlK (by omega)).trans HK.out
   have f1:=Boxed.grow' ((b1.set (.slice none 0 0)).other (B':=w.heap.size+1) (by omega) (.bool false)) X1
   have f2:=Boxed.grow' ((b2.other (B':=w.heap.size) (by omega) (.slice none 0 0)).set (.bool false)) X1
   have hB2:=HB.out.trans (hT.below HB.out.size (fun k hk=>by omega))
   have ho2:=hT.own HO.out (fun k hk=>by omega)
   generalize(((W.setCell ⟨w.heap.size,0,none⟩ (.slice none 0 0)).setCell ⟨w.heap.size+1,0,none⟩ (.bool false)).grow X1)=V at*
   have hTV:Turned (fun k=>k=w.heap.size+4) V (V.putObj (w.heap.size+4) (.deferred none)):=Turned.putObj (pv:=fun k=>k=w.heap.size+4) (Turned.refl _ _) (Or.inr rfl) _
   have g1:=(hTV.boxed f1 (by omega)).cell
   have g2:=(hTV.boxed f2 (by omega)).cell
   refine⟨by simp,.inl ⟨_,_,rfl,run_takeDeferred hK2, ?_⟩⟩
   refine⟨.tuple #[(.slice none 0 0),.bool false], ?_, ?_⟩
   ·simp[results,Tryz.results232,go_sem,g1,g2]
   ·rw[HN.out]
    exact RetT.of (hB2.trans (hTV.below hB2.size (fun k hk=>by omega))) rfl (sl_nil _)
  ·have HN:Hid (stepsT l=some SS):=by show _=_;rw[HST.out,hr];rfl
   have HRt:Hid (Calls Tryz.prog 266 #[.slice Ar SS.length cr] W (Ret (.bool true) W)):=by
    have h8:=tright_any _ _ W HSl.out
    rwa[hr]at h8
   clear hr
   gi_wp2_with (gi_at_call 266;(with_reducible refine(callsIn_wide' HRt.out).mono ?_);rintro e w' ⟨rfl,X1,rfl⟩)
   have hT:Turned (fun k=>w.heap.size<=k/\k<w.heap.size+2) W (((W.setCell ⟨w.heap.size,0,none⟩ (.slice Ar SS.length cr)).setCell ⟨w.heap.size+1,0,none⟩ (.bool true)).grow X1):=
    (((Turned.refl _ _).setCell (Or.inr (by show _/\_;simp<;>omega)) _).setCell (Or.inr (by show _/\_;simp<;>omega)) _).grow X1
   have hK2:=(hT.block (w.heap.size+4) hlK (by omega)).trans HK.out
   have f1:=Boxed.grow' ((b1.set (.slice Ar SS.length cr)).other (B':=w.heap.size+1) (by omega) (.bool true)) X1
   have f2:=Boxed.grow' ((b2.other (B':=w.heap.size) (by omega) (.slice Ar SS.length cr)).set (.bool true)) X1
   have hB2:=HB.out.trans (hT.below HB.out.size (fun k hk=>by omega))
   have ho2:=hT.own HO.out (fun k hk=>by omega)
   generalize(((W.setCell ⟨w.heap.size,0,none⟩ (.slice Ar SS.length cr)).setCell ⟨w.heap.size+1,0,none⟩ (.bool true)).grow X1)=V at*
   have hTV:Turned (fun k=>k=w.heap.size+4) V (V.putObj (w.heap.size+4) (.deferred none)):=Turned.putObj (pv:=fun k=>k=w.heap.size+4) (Turned.refl _ _) (Or.inr rfl) _
   have g1:=(hTV.boxed f1 (by omega)).cell
   have g2:=(hTV.boxed f2 (by omega)).cell
   refine⟨by simp,.inl ⟨_,_,rfl,run_takeDeferred hK2, ?_⟩⟩
   refine⟨.tuple #[(.slice Ar SS.length cr),.bool true], ?_, ?_⟩
   ·simp[results,Tryz.results232,go_sem,g1,g2]
   ·rw[HN.out]
    exact RetT.of (hB2.trans (hTV.below hB2.size (fun k hk=>by omega))) rfl (sl_own HSl.out.choose_spec.choose_spec.2.1 (hTV.own ho2 (fun k hk=>by omega)))
 case hstop=>
  rintro c pre x W hx ⟨rfl,b1,b2,⟨y,hy,hno⟩,hB⟩ hK
  gi_wp2
  have hT:Turned (fun k=>k=w.heap.size+4) W (W.putObj (w.heap.size+4) (.deferred none)):=Turned.putObj (pv:=fun k=>k=w.heap.size+4) (Turned.refl _ _) (Or.inr rfl) _
  have g1:=(hT.boxed b1 (by omega)).cell
  have g2:=(hT.boxed b2 (by omega)).cell
  refine⟨by simp,.inl ⟨_,_,rfl,run_takeDeferred hK, ?_⟩⟩
  refine⟨.tuple #[.slice none 0 0,.bool false], ?_, ?_⟩
  ·simp[results,Tryz.results232,go_sem,g1,g2]
  ·have hmem:y∈handV l:=hx.subset hy
   rw[stepsT_no hmem hno]
   exact RetT.of (hB.trans (hT.below hB.size (fun k hk=>by omega))) rfl (sl_nil _)
def Nn (W:World) (A:Option Addr) (c:Nat):Prop:=(A=none->c=0)/\ ∀ad,A=some ad-> ∃cur z,W.heap[ad.block]? =some (.cells cur 72 z)
theorem Nn.none (W:World):Nn W none 0:=⟨fun _=>rfl,fun _ h=>by cases h⟩
theorem Nn.own {W:World} {A:Option Addr} {c n B:Nat} {xs:List Value} (h:W.ownsRow B 72 4 (.slice A n c) n xs):Nn W A c:=by
 refine⟨own_nil h,fun ad hA=> ?_⟩
 obtain⟨_,⟨h1,_⟩|⟨g,cap,cur,h1,_,h2,_⟩⟩:=h
 ·cases h1;cases hA
 ·cases h1;cases hA;exact⟨cur,_,h2⟩
theorem Nn.below {W W':World} {A:Option Addr} {c:Nat} (h:Nn W A c) (hb:Below W.heap.size W W'):Nn W' A c:=⟨h.1,fun ad hA=>by
 obtain⟨cur,z,h2⟩:=h.2 ad hA
 exact⟨cur,z,(hb.block _ (Array.getElem?_eq_some_iff.1 h2).1).trans h2⟩⟩
def RetV (w:World) (r:Option (List Css)) (e:Ending) (w':World):Prop:= ∃A c X,e= .returned (.tuple #[.slice A (r.getD []).length c,.bool r.isSome])/\w'=w.grow X/\Nn (w.grow X) A c/\(r.getD []).length<=c/\Rd (w.grow X) (.slice A (r.getD []).length c) (r.getD []).length 4 (cssCells (r.getD []))
theorem RetV.no {w w':World} {b:Bool} (hb:Below w.heap.size w w') (h:b=false):RetV w none (.returned (.tuple #[.slice none 0 0,.bool b])) w':=by
 obtain⟨X,rfl⟩:=grow_of_below hb
 subst h
 exact⟨_,0,X,rfl,rfl,Nn.none _,Nat.le_refl _,Rd.nil _ 4⟩
theorem RetV.own {w w':World} {v:Value} {l:List Css} {b:Bool} {B n:Nat} (hb:Below w.heap.size w w') (h:b=true) (hn:n=l.length) (ho:w'.ownsRow B 72 4 v n (cssCells l)):RetV w (some l) (.returned (.tuple #[v,.bool b])) w':=by
 obtain⟨X,rfl⟩:=grow_of_below hb
 subst h hn
 obtain⟨A,c,rfl,hc⟩:=own_cap ho
 exact⟨A,c,X,rfl,rfl,Nn.own ho,hc,Rd.own ho⟩
theorem RetV.rd {w w':World} {A:Option Addr} {c n:Nat} {l:List Css} {b:Bool} (hb:Below w.heap.size w w') (h:b=true) (hn:n=l.length) (hA:Nn w' A c) (hc:l.length<=c) (hr:Rd w' (.slice A l.length c) l.length 4 (cssCells l)):RetV w (some l) (.returned (.tuple #[.slice A n c,.bool b])) w':=by
 obtain⟨X,rfl⟩:=grow_of_below hb
 subst h hn
 exact⟨A,c,X,rfl,rfl,hA,hc,hr⟩
theorem RetV.flat {P:Program} {f:FuncId} {args:Array Value} {w1:World} {X:Gr} {r:Option (List Css)} (h:Calls P f args (w1.grow X) (RetV (w1.grow X) r)):Calls P f args (w1.grow X) (RetV w1 r):=
 h.mono fun _ _ ⟨A,c,Y,h1,h2,h3,h4,h5⟩=>⟨A,c,_,h1,h2.trans (grow_grow w1 X Y),by rw[<-grow_grow];exact h3,h4,by rw[<-grow_grow];exact h5⟩
theorem st_ok {s:St} (h:mayB s=true):StOk s:=by
 obtain⟨k,x,y⟩:=s
 unfold mayB at h
 simp only at h
 split at h
 ·rename_i h1
  simp only[Bool.and_eq_true]at h
  have ha:=near_abs h.1
  have hb:=near_abs h.2
  exact⟨by simp only;omega,by simp only;omega,by simp only;omega,by simp only;omega,by simp only;omega,by simp only;omega,fun h=>by simp only at h;omega⟩
 ·split at h
  ·rename_i h2
   simp only[Bool.and_eq_true,decide_eq_true_eq]at h
   have ha:=near_abs h.1
   exact⟨by simp only;omega,by simp only;omega,by simp only;omega,by simp only;omega,by simp only;omega,by simp only;omega,fun h=>by simp only at h ⊢;omega⟩
  ·split at h
   ·rename_i h3
    simp only[Bool.and_eq_true,decide_eq_true_eq]at h
    exact⟨by simp only;omega,by simp only;omega,by simp only;omega,by simp only;omega,by simp only;omega,by simp only;omega,fun h=>by simp only at h;omega⟩
   ·split at h
    ·simp only[Bool.and_eq_true,decide_eq_true_eq]at h
     exact⟨by simp only;omega,by simp only;omega,by simp only;omega,by simp only;omega,by simp only;omega,by simp only;omega,fun h=>by simp only at h;omega⟩
    ·cases h
theorem pieces_snoc (l:List St) (k:Nat) (hk:k<l.length):piecesT (l.take (k+1))=piecesT (l.take k)++toldT l[k]:=by
 unfold piecesT
 rw[List.take_succ_eq_append_getElem hk,List.flatMap_append];simp
theorem pieces_len (l:List St):(piecesT l).length<=l.length*5:=by
 induction l with
 |nil=>simp[piecesT]
 |cons s l ih=>
  have h:=(told_len3 s).2
  show(toldT s++piecesT l).length<=_
  rw[List.length_append,List.length_cons];omega
theorem pieces16_any (v:Value) (l:List St) (w:World) (h:Sl w v l):Calls Tryz.prog 234 #[v] w (RetV w (if rightB l then some (piecesT l)else none)):=by
 have hmx:=mxd
 have HRt0:=tright_any v l w h
 obtain⟨a,cap,rfl,hl,hc⟩:=h
 cases hr:rightB l
 ·rw[hr]at HRt0
  have HRt:=Lib.hid HRt0
  clear HRt0 hc
  go_enter Tryz.func234,Tryz.ntmps234
  go_wp2_with(go_at_call 266;(with_reducible refine HRt.out.mono ?_);rintro e w' ⟨rfl,X1,rfl⟩)
  go_ret2
  exact RetV.no bel rfl
 ·rw[hr]at HRt0
  have HRt:=Lib.hid HRt0
  obtain⟨hm,h8⟩:=right_may hr
  have HM:=Lib.hid hm
  have HC:=Lib.hid hc
  clear HRt0 hc hm hr
  go_enter Tryz.func234,Tryz.ntmps234
  go_wp2_with(go_at_call 266;(with_reducible refine HRt.out.mono ?_);rintro e w' ⟨rfl,X1,rfl⟩)
  go_loopw [4,12] (fun vo i wr=> ∃k:Nat,k<=l.length/\i= .int .i64 k/\Hid (Below w.heap.size w wr)/\Hid (wr.ownsRow w.heap.size 72 4 vo (piecesT (l.take k)).length (cssCells (piecesT (l.take k))))) (fun _ i _=>l.length-(intOf i).toNat)
  case atStart=>exact⟨0,by omega,rfl,below_grow _ _,by show World.ownsRow _ _ _ _ _ _ _;rw[List.take_zero];exact World.ownsRow_nil _ _ _ _⟩
  case round=>
   obtain⟨k,hk,rfl,HB,HO⟩:=hrel
   by_cases hlt:k<l.length
   ·obtain⟨b,off,rfl,hb,hcs⟩: ∃b off,a=some ⟨b,off,none⟩/\b<w.heap.size/\w.cell? ⟨b,off+k*3,none⟩=some (.int .i64 l[k].k)/\w.cell? ⟨b,off+k*3+1,none⟩=some (.int .i64 l[k].x)/\w.cell? ⟨b,off+k*3+2,none⟩=some (.int .i64 l[k].y):=by
     rcases HC.out with rfl|⟨b,off,rfl,hc⟩
     ·simp at hlt
     ·exact⟨b,off,rfl,hc.1,hc.2 k l[k] (List.getElem?_eq_getElem hlt)⟩
    obtain⟨c0,c1,c2⟩:=hcs
    have c0:=(HB.out.cell hb).trans c0
    have c1:=(HB.out.cell hb).trans c1
    have c2:=(HB.out.cell hb).trans c2
    have HTo:=Lib.hid (fun W=>told16_any l[k] W (st_ok (HM.out _ (List.getElem_mem hlt))))
    have HS:Hid (piecesT (l.take (k+1))=piecesT (l.take k)++toldT l[k]):=pieces_snoc l k hlt
    have htl:=told_len3 l[k]
    have hpl:(piecesT (l.take k)).length<=1000:=by have:=pieces_len (l.take k);rw[List.length_take]at this;omega
    simp only[St.val]at HTo
    generalize toldT l[k]=TS at*
    generalize l[k].k=sk at*
    generalize l[k].x=sx at*
    generalize l[k].y=sy at*
    generalize hPk:piecesT (l.take k)=PK at*
    have hsz:=HB.out.size
    go_wp2_with(first
     |(go_at_call 271;(with_reducible refine(HTo.out _).mono ?_);rintro e w' ⟨v3,X3,rfl,rfl,ho3⟩;obtain⟨g3,cap3,rfl⟩:=Go.Joins.ownsRow_form ho3 (by omega);have HN3:=Lib.hid (news_rd (Rd.own ho3) (own_nil ho3) (Below.refl _ _));have HL3:=Lib.hid ho3.1;clear ho3)
     |(at_builtin;go_loud(refine append_any rfl _ _ 42 rfl css_row w.heap.size rfl (own_grow (HO.out.alloc _) X3) (by simp[go_sem];omega) TS.length (cssCells TS) HN3.out HL3.out (cssc_one TS) (by unfold maxLen;omega) (by omega) ?_);intro v4 W4 ho4 hg4;go_loud(have HB4:=own_step hg4 (own_grow (HO.out.alloc _) X3) (below_out HB.out bel));have HO4:=Lib.hid ho4;clear ho4 hg4))
    go_roundw
    case rel=>exact⟨k+1,by omega,by go_num,HB4.out,by show World.ownsRow _ _ _ _ _ _ _;rw[HS.out,List.length_append,css_app];exact HO4.out⟩
    case measure=>simp[intOf];omega
   ·have hkl:k=l.length:=by omega
    subst hkl
    go_wp2_with fail
    go_ret2
    have hO:=HO.out
    rw[List.take_length]at hO
    exact RetV.own HB.out rfl rfl hO
end Go.Proofs.YtiikamobcmgekaaGreatDoor
