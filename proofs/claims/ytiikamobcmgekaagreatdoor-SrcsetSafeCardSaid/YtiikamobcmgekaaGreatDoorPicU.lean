/- The walk of srcset.Filter. -/
import Derived.Test.YtiikamobcmgekaaGreatDoorPicN
import Derived.Test.YtiikamobcmgekaaGreatDoorPicFilt
import Derived.Test.YtiikamobcmgekaaGreatDoorD1
namespace Go.Proofs.YtiikamobcmgekaaGreatDoor
open Go.RowKit Go.Shelf
attribute [local go_sem] Oper.semAt_some
theorem callsIn_rnd {P:Program} {l n:Nat} {f:FuncId} {args:Array Value} {w:World} {R:Ending->World->Prop} (h:Calls P f args w R):CallsIn (Fence.wide.inRound l) n P f args w R:=(callsIn_wide (n:=n)).2 h
def onlyN (Q:Exit->Act->World->Prop):Exit->Act->World->Prop
 | .normal,a,w=>Q .normal a w
 |_,_,_=>False
theorem onlyN_wp {F:Fence} {n:Nat} {P:Program} {c:Code} {Q:Exit->Act->World->Prop} {a:Act} {w:World} (h:c.wpIn F n P (onlyN Q) a w):c.wpIn F n P Q a w:=
 wpIn_mono h fun e _ _ hq=>by cases e<;>first|exact hq|exact hq.elim
abbrev FilI (w:World) (ob base:Nat) (P:Pol) (pre:List Pic) (A:World):Prop:=CollT (fun _=>False) w ob base 34 38 2 Pic.cells (filtP P pre) A
set_option maxRecDepth 100000 in
set_option maxHeartbeats 8000000 in
theorem filter12_any (g:Nat) (P:Pol) (s:Bs) (w:World) (hr:RulesV w g P) (hT:U8 w) (hm:s.length<=1000000000) (hp: ∀p∈picL s,p.url.length<=100000/\p.size.length<=100000) (hn:(picL s).length<=100000):Calls Tryz.prog 10 #[.pointer (some ⟨g,0,none⟩),.string ⟨s.toArray⟩] w (Ret (.tuple #[.string ⟨(textP (filtP P (picL s))).toArray⟩,.bool (decide (0<(filtP P (picL s)).length))]) w):=by
 have hmx:Tryz.prog.follows .mixedOrders=true:=by kernel_rfl
 refine(callsIn_wide (n:=0)).1 ?_
 refine callsIn_of_wp_marks (n:=0) Tryz.func10 rfl trivial ?_ rfl
 simp only[Tryz.ntmps10,List.size_toArray,List.length_cons,List.length_nil,Nat.reduceAdd,Nat.reduceSub,Array.replicate_succ,Array.replicate_zero,List.push_toArray,List.append_toArray,List.nil_append,List.cons_append]
 have HSo:=Lib.hid (sources_any s)
 have HSm:=Lib.hid hp
 have HFi:=Lib.hid (fun W (hb:Below w.heap.size w W) (u:Bs) (hu:u.length<=100000)=>filter11_any g P ⟨u.toArray⟩ W (hr.below hb) (hT.below hb) (by show u.toArray.size<=_;simp;omega))
 have hIt:=fun(lb:Nat) bw W h1 h2 h3 h4=>sources2_iter s lb bw W h1 h2 h3 h4 (by omega:s.length<=140737488355)
 have HIt:=Lib.hid hIt
 obtain⟨L,hL⟩: ∃L,picL s=L:=⟨_,rfl⟩
 have hl:L.length<=100000:=by rw[<-hL];exact hn
 clear hr hT hIt hp hn
 gi_wp2_with (gi_at_call 24;(with_reducible refine(callsIn_wide.2 (HSo.out _)).mono ?_);rintro e w' ⟨rfl,rfl⟩)
 obtain⟨w1,hw1⟩: ∃w1,w.alloc (.cells #[.pointer (some ⟨g,0,none⟩)] 23)=w1:=⟨_,rfl⟩
 have hs1:w1.heap.size=w.heap.size+1:=by rw[<-hw1];simp
 have HR1:Hid (Boxed w1 w.heap.size 23 (.pointer (some ⟨g,0,none⟩))):=by show Boxed _ _ _ _;rw[<-hw1];exact Boxed.new w _ _
 have HB1:Hid (Below w.heap.size w w1):=by show Below _ _ _;rw[<-hw1];exact(Below.refl _ _).alloc (Nat.le_refl _) _
 rw[hw1]
 refine wp_range (B:=w.heap.size+4) (by simp[hs1]) rfl (enters_of Tryz.func65 (by kernel_rfl) rfl) (encs:=fun p=> #[Pic.agg p]) (fun _=>rfl) (xs:=picL s) (fun k=>k=w.heap.size+2)
  (fun k=>k=w.heap.size+1\/w.heap.size+6<=k) (by intro k hk;omega) (by intro k hk;omega) (FilI w1 (w.heap.size+1) (w.heap.size+6) P) (fun _ _ _=>False) ?hI ?hIx ?h0 ?hiter ?hround ?hdone ?hstop
 case hI=>
  intro pre A C h ht
  exact h.turn ht (by omega) (by intro k hk;omega) (by intro k hk hl;omega)
 case hIx=>intro c pre A C h _;exact h.elim
 case h0=>
  have h:=Boxed.new w1 34 (.slice none 0 0)
  rw[hs1]at h
  refine⟨⟨_,(h.alloc _).alloc _,World.ownsRow_nil _ _ _ _⟩,(((Turned.refl _ _).alloc _).alloc _).alloc _⟩
 case hiter=>
  intro o1 o2
  have h1:=Boxed.new (w1.alloc (.cells #[.slice none 0 0] 34)) 9 (.string ⟨s.toArray⟩)
  have h2:=Boxed.new ((w1.alloc (.cells #[.slice none 0 0] 34)).alloc (.cells #[.string ⟨s.toArray⟩] 9)) 64 (.func (.func 64) #[] #[])
  rw[World.size_alloc,hs1]at h1
  rw[World.size_alloc,World.size_alloc,hs1]at h2
  exact HIt.out (w.heap.size+2) _ _ (((h1.alloc _).alloc _).alloc _) ((h2.alloc _).alloc _) (by omega) (by omega)
 case hround=>
  rintro l pre ⟨xu,xz⟩ A hx hI hsz
  obtain⟨hxu,hxz⟩:=HSm.out ⟨xu,xz⟩ (hx.subset (by simp))
  simp only at hxu hxz
  simp only[Pic.agg,sv]
  gi_wp2
  refine⟨(Turned.refl _ _).alloc _,fun A2 ht hI2 hs2=> ?_⟩
  have hx2:A2.heap[A.heap.size]? =some (.cells #[.string ⟨xu.toArray⟩,.string ⟨xz.toArray⟩] 38):=(ht.block _ (by simp) (by omega)).trans (World.alloc_heap_new A _)
  have c0:A2.cell? ⟨A.heap.size,0,none⟩=some (.string ⟨xu.toArray⟩):=by simp[World.cell?,hx2]
  have c2:A2.frozen? ⟨A.heap.size,0,none⟩=false:=by simp[World.frozen?,hx2]
  have c1:A2.cell? ⟨A.heap.size,1,none⟩=some (.string ⟨xz.toArray⟩):=by simp[World.cell?,hx2]
  have HIA:=Lib.hid hI
  obtain⟨⟨v,bv,ho⟩,hB⟩:=hI
  have hTA:Turned (fun k=>k=w.heap.size+5) A A2:=((Turned.refl _ _).alloc _).trans ht
  have hB2:Turned (fun _=>False) w1 A2:=hB.next hTA (by intro k hk hl;omega)
  have ho2:=hTA.own ho (fun k hk=>by omega)
  have bv2:=hTA.boxed bv (by omega)
  have d4:=bv2.cell
  have e4:=bv2.frozen
  have br:=hB2.boxed HR1.out (fun h=>h)
  have d5:=br.cell
  have hF:=HFi.out A2 (HB1.out.trans (hB2.below (by omega) (fun _ h=>h.elim))) xu hxu
  have hs3:w.heap.size+6<=A2.heap.size:=by rw[hs2];simp;omega
  have hsA:A.heap.size<A2.heap.size:=by rw[hs2];simp
  have hsB:w.heap.size+6<=A.heap.size:=hsz
  have hpl:(filtP P pre).length+1<=1000000:=by
   have h1:=filtP_len P pre
   have h2:=hx.length_le
   rw[hL,List.length_append,List.length_singleton]at h2
   omega
  have HSA:Hid (∀(V:World) (z:Value) (Y:Gr),V=(A2.setCell ⟨A.heap.size,0,none⟩ z).grow Y->Turned (fun k=>k=w.heap.size+1\/w.heap.size+6<=k) A2 V/\Turned (fun k=>k=w.heap.size+5) A V):=by
   intro V z Y hV
   subst hV
   exact⟨(Turned.setCell (Turned.refl _ _) (p:=⟨A.heap.size,0,none⟩) (Or.inr (Or.inr hsB)) _).grow _,(Turned.setCell hTA (p:=⟨A.heap.size,0,none⟩) (Or.inl (Nat.le_refl _)) _).grow _⟩
  have HOA:=Lib.hid ho
  have HBA:=Lib.hid bv
  have HTB:=Lib.hid hB
  clear hB hB2 hs2 ht hI2 ho bv hTA ho2 bv2
  cases hf:filtL P xu with
  |none=>
   rw[hf,show filtV none= .tuple #[.string ⟨#[]⟩,.bool false]from rfl]at hF
   have HO:Hid (onePic P ⟨xu,xz⟩=[]):=by show _=_;unfold onePic;simp only[hf]
   have HF:=Lib.hid hF
   clear hF hf
   gi_wp2_with (gi_at_call 25;(with_reducible refine(callsIn_rnd HF.out).mono ?_);rintro e w' ⟨rfl,Y1,rfl⟩)
   obtain⟨h1,h2⟩:=HSA.out _ (.string ⟨#[]⟩) Y1 rfl
   show Turned _ _ _/\FilI _ _ _ _ _ _
   refine⟨h1, ?_⟩
   show CollT _ _ _ _ _ _ _ _ _ _
   rw[filtP_snoc,HO.out,List.append_nil]
   exact HIA.out.turn h2 (by omega) (by intro k hk;omega) (by intro k hk hl;omega)
  |some C=>
   rw[hf,show filtV (some C)= .tuple #[.string ⟨C.toArray⟩,.bool true]from rfl]at hF
   have HO:Hid (onePic P ⟨xu,xz⟩=if okP ⟨C,xz⟩=true then [⟨C,xz⟩]else []):=by show _=_;unfold onePic;simp only[hf]
   have hC:=filtL_le hf
   have HRt:=Lib.hid (fun W=>picright_any ⟨C,xz⟩ W (show C.length<=_ by omega) (show xz.length<=_ by omega))
   simp only[Pic.agg,sv]at HRt
   have HF:=Lib.hid hF
   clear hF hf
   cases hk:okP ⟨C,xz⟩
   ·rw[hk]at HRt HO
    gi_wp2_with (first|(gi_at_call 25;(with_reducible refine(callsIn_rnd HF.out).mono ?_);rintro e w' ⟨rfl,Y1,rfl⟩)|(gi_at_call 13;(with_reducible refine(callsIn_rnd (HRt.out _)).mono ?_);rintro e w' ⟨rfl,Y2,rfl⟩))
    obtain⟨h1,h2⟩:=HSA.out _ (.string ⟨C.toArray⟩) Y1 rfl
    show Turned _ _ _/\FilI _ _ _ _ _ _
    refine⟨h1.grow _, ?_⟩
    show CollT _ _ _ _ _ _ _ _ _ _
    rw[filtP_snoc,HO.out,if_neg Bool.false_ne_true,List.append_nil]
    exact HIA.out.turn (h2.grow _) (by omega) (by intro k hk;omega) (by intro k hk hl;omega)
   ·rw[hk]at HRt HO
    gi_wp2_with (first|(gi_at_call 25;(with_reducible refine(callsIn_rnd HF.out).mono ?_);rintro e w' ⟨rfl,Y1,rfl⟩)|(gi_at_call 13;(with_reducible refine(callsIn_rnd (HRt.out _)).mono ?_);rintro e w' ⟨rfl,Y2,rfl⟩)|(gi_at_builtin;go_loud(refine appendIn_turn rfl _ _ 34 rfl src_row (w.heap.size+6) rfl ((((HSA.out _ (.string ⟨C.toArray⟩) Y1 rfl).2.grow Y2).own HOA.out (fun k hk=>by omega)).alloc _) (by have h:=((HSA.out _ (.string ⟨C.toArray⟩) Y1 rfl).1.grow Y2).size;simp only[World.size_alloc];omega) ⟨_,0,none⟩ 0 1 (Pic.cells ⟨C,xz⟩) rfl rfl (new_cells (c:= #[sv C,sv xz]) (by simp[go_sem])) (by simp[Pic.cells,sv,Value.oneCell']) (by unfold maxLen;omega) (by omega) ?_);intro g' cap W' ho' ht';have bv':=ht'.boxed ((((HSA.out _ (.string ⟨C.toArray⟩) Y1 rfl).2.grow Y2).boxed HBA.out (by omega)).alloc _) (by omega);have d7:=bv'.cell;have e7:=bv'.frozen))
    obtain⟨h1,h2⟩:=HSA.out _ (.string ⟨C.toArray⟩) Y1 rfl
    have h3:=CollT.put (x:=(⟨C,xz⟩:Pic)) (HTB.out.next ((h2.grow Y2).alloc _) (by intro k hk hl;omega)) (((h2.grow Y2).boxed HBA.out (by omega)).alloc _) ho' rfl ht' (by omega) (by omega)
    show Turned _ _ _/\FilI _ _ _ _ _ _
    refine⟨((h1.grow Y2).alloc _).trans h3.1, ?_⟩
    show CollT _ _ _ _ _ _ _ _ _ _
    rw[filtP_snoc,HO.out,if_pos trivial]
    exact h3.2
 case hdone=>
  rintro W ⟨⟨v,bv,ho⟩,hB⟩ hK
  obtain⟨A,c,rfl,hc⟩:=own_cap ho
  have hf2: ∀p∈filtP P (picL s),p.url.length<=100000/\p.size.length<=100000:=by
   intro p hp
   obtain⟨x,hx,_,h1,h2⟩:=filtP_mem hp
   have h3:=HSm.out x hx
   have h4:=filtL_le h1
   rw[h2]
   omega
  have hn2:(filtP P (picL s)).length<=100000:=Nat.le_trans (filtP_len P _) (by rw[hL];exact hl)
  have hct:=ptext_len hf2
  have HTx:=Lib.hid (pictext_any A (filtP P (picL s)).length c (filtP P (picL s)) W.drew ((Rd.own ho).drew) (by omega) (by have:=Nat.mul_le_mul_right (2*100000+3) hn2;omega) (fun p hp=>by have:=hf2 p hp;omega))
  have d1:=bv.cell
  have d2:=bv.lt
  have hW:Below w.heap.size w W:=HB1.out.trans (hB.below (by omega) (fun _ h=>h.elim))
  have HW:=Lib.hid hW
  have HK:=Lib.hid hK
  clear hW hK hf2 hct HIt HSo HFi HSm
  gi_wp2_with fail
  refine onlyN_wp ?_
  refine wpIn_wide_row 6 [(0,true),(2,true),(3,true),(4,true),(1,false),(5,true)] (fun W=>W.cell? ⟨w.heap.size+1,0,none⟩=some (.slice A (filtP P (picL s)).length c)) hmx (by rintro⟨_,_,h⟩;exact h) (by kernel_rfl) (by kernel_rfl) (by kernel_rfl) (by decide) rfl (fun _ _ _ _ _ h=>h) (by kernel_rfl) (by simpa[go_sem]using d1) ?_
  refine wpRow_rdD (v:= .slice A (filtP P (picL s)).length c) 31 rfl rfl rfl (fun W hW=>by simp[execOp,go_sem,hW]) ?_
  simp only[Act.put,List.setIfInBounds_toArray,List.set_cons_succ,List.set_cons_zero]
  refine wpRow_rdD (v:= .slice A (filtP P (picL s)).length c) 33 rfl rfl rfl (fun W hW=>by simp[execOp,go_sem,hW]) ?_
  simp only[Act.put,List.setIfInBounds_toArray,List.set_cons_succ,List.set_cons_zero]
  refine wpRow_rdD (v:= .int .i64 ((filtP P (picL s)).length:Nat)) 34 rfl rfl rfl (fun W hW=>by simp[execOp,go_sem]) ?_
  simp only[Act.put,List.setIfInBounds_toArray,List.set_cons_succ,List.set_cons_zero]
  refine wpRow_rdD (v:= .bool (decide (0<(filtP P (picL s)).length))) 35 rfl rfl rfl (fun W hW=>by simp[execOp,go_sem]) ?_
  simp only[Act.put,List.setIfInBounds_toArray,List.set_cons_succ,List.set_cons_zero]
  refine wpRow_op rfl rfl fun Kc hKc=> ?_
  unfold Oper.wp
  simp[execOp,go_sem]
  refine HTx.out.mono ?_
  rintro e W1 ⟨rfl,X1,rfl⟩
  show Kc _ _
  apply hKc
  refine⟨?_, ?_⟩
  ·simp[go_sem,d1,d2]
  refine wpRow_rdD (v:= .string ⟨(textP (filtP P (picL s))).toArray⟩) 4 rfl rfl rfl (fun W hW=>by simp[execOp,go_sem]) ?_
  simp only[Act.put,List.setIfInBounds_toArray,List.set_cons_succ,List.set_cons_zero]
  simp only[wpRow,List.drop]
  go_wp2_with fail
  simp only[onlyN]
  gi_wp2
  refine⟨by simp,.inl ⟨_,_,rfl,run_takeDeferred ?_, ?_⟩⟩
  ·exact(((Turned.refl (fun _=>False) W).drew.grow X1).block _ (Array.getElem?_eq_some_iff.1 HK.out).1 (fun h=>h)).trans HK.out
  ·refine⟨.tuple #[.string ⟨(textP (filtP P (picL s))).toArray⟩,.bool (decide (0<(filtP P (picL s)).length))],by simp[results,Tryz.results10,go_sem],Ret.of rfl (HW.out.trans ?_)⟩
   exact(Turned.putObj (pv:=fun k=>k=w.heap.size+4) ((Turned.refl (fun k=>k=w.heap.size+4) W).drew.grow X1) (Or.inr rfl) _).below HW.out.size (by intro k hk;omega)
 case hstop=>intro c pre x W _ h;exact h.elim
end Go.Proofs.YtiikamobcmgekaaGreatDoor

