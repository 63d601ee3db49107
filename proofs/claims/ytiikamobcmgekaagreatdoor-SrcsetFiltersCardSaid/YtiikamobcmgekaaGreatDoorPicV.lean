/- The walk of the reference's Filter over pictures. -/
import Derived.Test.YtiikamobcmgekaaGreatDoorPicS
import Derived.Test.YtiikamobcmgekaaGreatDoorPicFilt
import Derived.Test.YtiikamobcmgekaaGreatDoorPicW
import Derived.Test.YtiikamobcmgekaaGreatDoorRowU
import Derived.Test.YtiikamobcmgekaaGreatDoorCmpV
namespace Go.Proofs.YtiikamobcmgekaaGreatDoor
open Lib renaming hid→z2c
open List renaming append_nil→z3r,setIfInBounds_toArray→z2b,set_cons_succ→z2e,set_cons_zero→z2d
open Go.Proofs.Tryz renaming prog→z2f
set_option maxRecDepth 100000
set_option maxHeartbeats 8000000
open Go.RowKit
attribute [local go_sem] Oper.semAt_some
theorem zms (g:Nat) (P:Pol) (s:ByteArray) (w:World) (hr:RefV w g P) (hm:s.size<=1000000):Calls z2f 27 #[.pointer (some ⟨g,0,none⟩),.string s] w (Ret (zo8 (zia P s.data.toList)) w):=by
 have hmx:=mxd;have HCl:=z2c (fun W=>zon s W (by omega));have HF:Hid (zia P s.data.toList=match zcg (zcu s.data.toList)with
  |some (n,r)=>if schR P n=true then some (n++58::r)else none
  |none=>if(P.rel&&zep (zcu s.data.toList))=true then some (zcu s.data.toList)else none):=rfl
 have hcl:(zcu s.data.toList).length<=1000000:=Nat.le_trans (zpg _) (by rw[zag];exact hm);obtain⟨F,hF⟩: ∃F,zia P s.data.toList=F:=⟨_,rfl⟩;obtain⟨C,hC⟩: ∃C,zcu s.data.toList=C:=⟨_,rfl⟩;rw[hF,hC]at HF;rw[hC]at HCl hcl;rw[hF];have hxs:(⟨C.toArray⟩:ByteArray).size<=1000000:=by show C.toArray.size<=_;simpa using hcl
 have HSp:=z2c (fun W=>show Calls z2f 78 #[.string ⟨C.toArray⟩] W (Ret (zlo ⟨C.toArray⟩ (zcg C)) W)from zig ⟨C.toArray⟩ W (by omega));have HLo:=z2c (fun W=>show Calls z2f 80 #[.string ⟨C.toArray⟩] W (Ret (.bool (zep C)) W)from zoi ⟨C.toArray⟩ W (by omega));have HRl:=z2c hr;obtain⟨v0,v1,v2,v3,v4,v5,hpv,hcx⟩:=hr;have hcr:=hcx 6 _ rfl;have hgl:=World.block_lt_of_cell? w _ hcr;clear hF hC hm hpv hcx;cases hs:zcg C with
 |some x=>
  obtain⟨n,r⟩:=x;have hnb1:(⟨n.toArray⟩:ByteArray).size<=1000000:=by show n.toArray.size<=_;have:=(zek hs).1;simp at this ⊢;omega
  have hrb1:(⟨r.toArray⟩:ByteArray).size<=1000000:=by show r.toArray.size<=_;have:=(zek hs).2;simp at this ⊢;omega
  have HSq:=z2c (fun W=>show Calls z2f 78 #[.string ⟨C.toArray⟩] W (Ret (.tuple #[.string ⟨n.toArray⟩,.string ⟨r.toArray⟩,.bool true]) W)from(by have h9:=HSp.out W;rw[hs]at h9;exact h9));have HSc:=z2c (fun W (hb:Below w.heap.size w W)=>show Calls z2f 79 #[.pointer (some ⟨g,0,none⟩),.string ⟨n.toArray⟩] W _ from zof g P n W (HRl.out.below hb));rw[hs]at HF;have HF2:Hid (F=if schR P n=true then some (n++58::r)else none):=HF.out;have HV:=z2c (zph n r);clear HF hs HSp hcl hxs hcr;obtain⟨D,hD⟩: ∃D,schR P n=D:=⟨_,rfl⟩;rw[hD]at HF2 HSc;clear hD;generalize hx:(⟨C.toArray⟩:ByteArray)=x at*;generalize hnb:(⟨n.toArray⟩:ByteArray)=nb at*;generalize hrb:(⟨r.toArray⟩:ByteArray)=rb at*;clear hx hnb hrb;cases D with
  |true=>
   have HR:Hid (F=some (n++58::r)):=HF2.out;go_enter Tryz.func27,Tryz.ntmps27;go_wp2_with(first
    |(go_at_call 77;(with_reducible refine(HCl.out _).mono ?_);rintro e V1 ⟨rfl,Y1,rfl⟩)
    |(go_at_call 78;(with_reducible refine(Ret.flat (HSq.out _)).mono ?_);rintro e V2 ⟨rfl,Y2,rfl⟩)
    |(go_at_call 79;(with_reducible refine(Ret.flat (HSc.out _ bel)).mono ?_);rintro e V3 ⟨rfl,Y3,rfl⟩))
   go_ret2;exact Ret.of (by rw[HR.out];show _=Value.tuple #[.string ⟨(n++58::r).toArray⟩,.bool true];rw[<-HV.out];rfl) bel
  |false=>
   have HR:Hid (F=none):=HF2.out;go_enter Tryz.func27,Tryz.ntmps27;go_wp2_with(first
    |(go_at_call 77;(with_reducible refine(HCl.out _).mono ?_);rintro e V1 ⟨rfl,Y1,rfl⟩)
    |(go_at_call 78;(with_reducible refine(Ret.flat (HSq.out _)).mono ?_);rintro e V2 ⟨rfl,Y2,rfl⟩)
    |(go_at_call 79;(with_reducible refine(Ret.flat (HSc.out _ bel)).mono ?_);rintro e V3 ⟨rfl,Y3,rfl⟩))
   go_ret2;exact Ret.of (by rw[HR.out];rfl) bel
 |none=>
  have HSq:=z2c (fun W=>show Calls z2f 78 #[.string ⟨C.toArray⟩] W (Ret (.tuple #[.string ⟨#[]⟩,.string ⟨C.toArray⟩,.bool false]) W)from(by have h9:=HSp.out W;rw[hs]at h9;exact h9));rw[hs]at HF;have HF2:Hid (F=if(P.rel&&zep C)=true then some C else none):=HF.out;have HFV:Hid (zo8 (some C)= .tuple #[.string ⟨C.toArray⟩,.bool true]):=rfl;clear HF hs HSp hcl hxs;generalize P.rel=D at*;generalize zep C=E at*;generalize(⟨C.toArray⟩:ByteArray)=x at*;cases D<;>cases E;all_goals
   have HR:=z2c HF2.out;clear HF2;go_enter Tryz.func27,Tryz.ntmps27;go_wp2_with(first
    |(go_at_call 77;(with_reducible refine(HCl.out _).mono ?_);rintro e V1 ⟨rfl,Y1,rfl⟩)
    |(go_at_call 78;(with_reducible refine(Ret.flat (HSq.out _)).mono ?_);rintro e V2 ⟨rfl,Y2,rfl⟩)
    |(go_at_call 80;(with_reducible refine(Ret.flat (HLo.out _)).mono ?_);rintro e V4 ⟨rfl,Y4,rfl⟩))
   go_ret2;exact Ret.of (by rw[HR.out];first|rfl|(simp only[Bool.and_self,if_true];rw[HFV.out];rfl)) bel
open Go.RowKit Go.Shelf
theorem zet {P:Program} {l n:Nat} {f:FuncId} {args:Array Value} {w:World} {R:Ending->World->Prop} (h:Calls P f args w R):CallsIn (Fence.wide.inRound l) n P f args w R:=(callsIn_wide (n:=n)).2 h
def onlyN (Q:Exit->Act->World->Prop):Exit->Act->World->Prop
 | .normal,a,w=>Q .normal a w
 |_,_,_=>False
theorem zz1 {F:Fence} {n:Nat} {P:Program} {c:Code} {Q:Exit->Act->World->Prop} {a:Act} {w:World} (h:c.wpIn F n P (onlyN Q) a w):c.wpIn F n P Q a w:=
 wpIn_mono h fun e _ _ hq=>by cases e<;>first|exact hq|exact hq.elim
abbrev FilI (w:World) (ob base:Nat) (P:Pol) (pre:List Pic) (A:World):Prop:=zit (fun _=>False) w ob base 34 38 2 Pic.cells (zch P pre) A
theorem zo6 (g:Nat) (P:Pol) (s:Bs) (w:World) (hr:zdh w g P) (hT:U8 w) (hm:s.length<=1000000000) (hp: ∀p∈picL s,p.url.length<=100000/\p.size.length<=100000) (hn:(picL s).length<=100000):Calls z2f 10 #[.pointer (some ⟨g,0,none⟩),.string ⟨s.toArray⟩] w (Ret (.tuple #[.string ⟨(zd0 (zch P (picL s))).toArray⟩,.bool (decide (0<(zch P (picL s)).length))]) w):=by
 have hmx:=mxd;refine(callsIn_wide (n:=0)).1 ?_;refine callsIn_of_wp_marks (n:=0) Tryz.func10 rfl trivial ?_ rfl;simp only[Tryz.ntmps10,List.size_toArray,List.length_cons,List.length_nil,Nat.reduceAdd,Nat.reduceSub,Array.replicate_succ,Array.replicate_zero,List.push_toArray,List.append_toArray,List.nil_append,List.cons_append];have HSo:=z2c (zjp s);have HSm:=z2c hp;have HFi:=z2c (fun W (hb:Below w.heap.size w W) (u:Bs) (hu:u.length<=100000)=>zo7 g P ⟨u.toArray⟩ W (hr.below hb) (hT.below hb) (by show u.toArray.size<=_;simp;omega));have hIt:=fun(lb:Nat) bw W h1 h2 h3 h4=>zg6 s lb bw W h1 h2 h3 h4 (by omega:s.length<=140737488355);have HIt:=z2c hIt;obtain⟨L,hL⟩: ∃L,picL s=L:=⟨_,rfl⟩;have hl:L.length<=100000:=by rw[<-hL];exact hn
 clear hr hT hIt hp hn;gi_wp2_with (gi_at_call 24;(with_reducible refine(callsIn_wide.2 (HSo.out _)).mono ?_);rintro e w' ⟨rfl,rfl⟩)
 obtain⟨w1,hw1⟩: ∃w1,w.alloc (.cells #[.pointer (some ⟨g,0,none⟩)] 23)=w1:=⟨_,rfl⟩;have hs1:w1.heap.size=w.heap.size+1:=by rw[<-hw1];simp
 have HR1:Hid (Boxed w1 w.heap.size 23 (.pointer (some ⟨g,0,none⟩))):=by show Boxed _ _ _ _;rw[<-hw1];exact Boxed.new w _ _
 have HB1:Hid (Below w.heap.size w w1):=by show Below _ _ _;rw[<-hw1];exact(Below.refl _ _).alloc (Nat.le_refl _) _
 rw[hw1];refine ziu (B:=w.heap.size+4) (by simp[hs1]) rfl (enters_of Tryz.func65 (by kernel_rfl) rfl) (encs:=fun p=> #[Pic.agg p]) (fun _=>rfl) (xs:=picL s) (fun k=>k=w.heap.size+2)
  (fun k=>k=w.heap.size+1\/w.heap.size+6<=k) (by intro k hk;omega) (by intro k hk;omega) (FilI w1 (w.heap.size+1) (w.heap.size+6) P) (fun _ _ _=>False) ?hI ?hIx ?h0 ?hiter ?hround ?hdone ?hstop
 case hI=>
  intro pre A C h ht;exact h.turn ht (by omega) (by intro k hk;omega) (by intro k hk hl;omega)
 case hIx=>intro c pre A C h _;exact h.elim
 case h0=>
  have h:=Boxed.new w1 34 (.slice none 0 0);rw[hs1]at h;refine⟨⟨_,(h.alloc _).alloc _,World.ownsRow_nil _ _ _ _⟩,(((zab.refl _ _).alloc _).alloc _).alloc _⟩
 case hiter=>
  intro o1 o2;have h1:=Boxed.new (w1.alloc (.cells #[.slice none 0 0] 34)) 9 (.string ⟨s.toArray⟩);have h2:=Boxed.new ((w1.alloc (.cells #[.slice none 0 0] 34)).alloc (.cells #[.string ⟨s.toArray⟩] 9)) 64 (.func (.func 64) #[] #[]);rw[World.size_alloc,hs1]at h1;rw[World.size_alloc,World.size_alloc,hs1]at h2;exact HIt.out (w.heap.size+2) _ _ (((h1.alloc _).alloc _).alloc _) ((h2.alloc _).alloc _) (by omega) (by omega)
 case hround=>
  rintro l pre ⟨xu,xz⟩ A hx hI hsz;obtain⟨hxu,hxz⟩:=HSm.out ⟨xu,xz⟩ (hx.subset (by simp));simp only at hxu hxz;simp only[Pic.agg,sv];gi_wp2;refine⟨(zab.refl _ _).alloc _,fun A2 ht hI2 hs2=> ?_⟩;have hx2:A2.heap[A.heap.size]? =some (.cells #[.string ⟨xu.toArray⟩,.string ⟨xz.toArray⟩] 38):=(ht.block _ (by simp) (by omega)).trans (World.alloc_heap_new A _);have c0:A2.cell? ⟨A.heap.size,0,none⟩=some (.string ⟨xu.toArray⟩):=by simp[World.cell?,hx2]
  have c2:A2.frozen? ⟨A.heap.size,0,none⟩=false:=by simp[World.frozen?,hx2]
  have c1:A2.cell? ⟨A.heap.size,1,none⟩=some (.string ⟨xz.toArray⟩):=by simp[World.cell?,hx2]
  have HIA:=z2c hI;obtain⟨⟨v,bv,ho⟩,hB⟩:=hI;have hTA:zab (fun k=>k=w.heap.size+5) A A2:=((zab.refl _ _).alloc _).trans ht;have hB2:zab (fun _=>False) w1 A2:=hB.next hTA (by intro k hk hl;omega);have ho2:=hTA.own ho (fun k hk=>by omega);have bv2:=hTA.boxed bv (by omega);have d4:=bv2.cell;have e4:=bv2.frozen;have br:=hB2.boxed HR1.out (fun h=>h);have d5:=br.cell;have hF:=HFi.out A2 (HB1.out.trans (hB2.below (by omega) (fun _ h=>h.elim))) xu hxu;have hs3:w.heap.size+6<=A2.heap.size:=by rw[hs2];simp;omega
  have hsA:A.heap.size<A2.heap.size:=by rw[hs2];simp
  have hsB:w.heap.size+6<=A.heap.size:=hsz;have hpl:(zch P pre).length+1<=1000000:=by
   have h1:=zf2 P pre;have h2:=hx.length_le;rw[hL,List.length_append,List.length_singleton]at h2;omega
  have HSA:Hid (∀(V:World) (z:Value) (Y:Gr),V=(A2.setCell ⟨A.heap.size,0,none⟩ z).grow Y->zab (fun k=>k=w.heap.size+1\/w.heap.size+6<=k) A2 V/\zab (fun k=>k=w.heap.size+5) A V):=by
   intro V z Y hV;subst hV;exact⟨(zab.setCell (zab.refl _ _) (p:=⟨A.heap.size,0,none⟩) (Or.inr (Or.inr hsB)) _).grow _,(zab.setCell hTA (p:=⟨A.heap.size,0,none⟩) (Or.inl (Nat.le_refl _)) _).grow _⟩
  have HOA:=z2c ho;have HBA:=z2c bv;have HTB:=z2c hB;clear hB hB2 hs2 ht hI2 ho bv hTA ho2 bv2;cases hf:zia P xu with
  |none=>
   rw[hf,show zo8 none= .tuple #[.string ⟨#[]⟩,.bool false]from rfl]at hF;have HO:Hid (zeo P ⟨xu,xz⟩=[]):=by show _=_;unfold zeo;simp only[hf]
   have HF:=z2c hF;clear hF hf;gi_wp2_with (gi_at_call 25;(with_reducible refine(zet HF.out).mono ?_);rintro e w' ⟨rfl,Y1,rfl⟩)
   obtain⟨h1,h2⟩:=HSA.out _ (.string ⟨#[]⟩) Y1 rfl;show zab _ _ _/\FilI _ _ _ _ _ _;refine⟨h1, ?_⟩;show zit _ _ _ _ _ _ _ _ _ _;rw[zgg,HO.out,z3r];exact HIA.out.turn h2 (by omega) (by intro k hk;omega) (by intro k hk hl;omega)
  |some C=>
   rw[hf,show zo8 (some C)= .tuple #[.string ⟨C.toArray⟩,.bool true]from rfl]at hF;have HO:Hid (zeo P ⟨xu,xz⟩=if okP ⟨C,xz⟩=true then [⟨C,xz⟩]else []):=by show _=_;unfold zeo;simp only[hf]
   have hC:=zi2 hf;have HRt:=z2c (fun W=>zor ⟨C,xz⟩ W (show C.length<=_ by omega) (show xz.length<=_ by omega));simp only[Pic.agg,sv]at HRt;have HF:=z2c hF;clear hF hf;cases hk:okP ⟨C,xz⟩
   ·rw[hk]at HRt HO;gi_wp2_with (first|(gi_at_call 25;(with_reducible refine(zet HF.out).mono ?_);rintro e w' ⟨rfl,Y1,rfl⟩)|(gi_at_call 13;(with_reducible refine(zet (HRt.out _)).mono ?_);rintro e w' ⟨rfl,Y2,rfl⟩))
    obtain⟨h1,h2⟩:=HSA.out _ (.string ⟨C.toArray⟩) Y1 rfl;show zab _ _ _/\FilI _ _ _ _ _ _;refine⟨h1.grow _, ?_⟩;show zit _ _ _ _ _ _ _ _ _ _;rw[zgg,HO.out,if_neg Bool.false_ne_true,z3r];exact HIA.out.turn (h2.grow _) (by omega) (by intro k hk;omega) (by intro k hk hl;omega)
   ·rw[hk]at HRt HO;gi_wp2_with (first|(gi_at_call 25;(with_reducible refine(zet HF.out).mono ?_);rintro e w' ⟨rfl,Y1,rfl⟩)|(gi_at_call 13;(with_reducible refine(zet (HRt.out _)).mono ?_);rintro e w' ⟨rfl,Y2,rfl⟩)|(gi_at_builtin;go_loud(refine zd9 rfl _ _ 34 rfl zhx (w.heap.size+6) rfl ((((HSA.out _ (.string ⟨C.toArray⟩) Y1 rfl).2.grow Y2).own HOA.out (fun k hk=>by omega)).alloc _) (by have h:=((HSA.out _ (.string ⟨C.toArray⟩) Y1 rfl).1.grow Y2).size;simp only[World.size_alloc];omega) ⟨_,0,none⟩ 0 1 (Pic.cells ⟨C,xz⟩) rfl rfl (zaf (c:= #[sv C,sv xz]) (by simp[go_sem])) (by simp[Pic.cells,sv,Value.oneCell']) (by unfold maxLen;omega) (by omega) ?_);intro g' cap W' ho' ht';have bv':=ht'.boxed ((((HSA.out _ (.string ⟨C.toArray⟩) Y1 rfl).2.grow Y2).boxed HBA.out (by omega)).alloc _) (by omega);have d7:=bv'.cell;have e7:=bv'.frozen))
    obtain⟨h1,h2⟩:=HSA.out _ (.string ⟨C.toArray⟩) Y1 rfl;have h3:=zit.put (x:=(⟨C,xz⟩:Pic)) (HTB.out.next ((h2.grow Y2).alloc _) (by intro k hk hl;omega)) (((h2.grow Y2).boxed HBA.out (by omega)).alloc _) ho' rfl ht' (by omega) (by omega);show zab _ _ _/\FilI _ _ _ _ _ _;refine⟨((h1.grow Y2).alloc _).trans h3.1, ?_⟩;show zit _ _ _ _ _ _ _ _ _ _;rw[zgg,HO.out,if_pos trivial];exact h3.2
 case hdone=>
  rintro W ⟨⟨v,bv,ho⟩,hB⟩ hK;obtain⟨A,c,rfl,hc⟩:=zah ho;have hf2: ∀p∈zch P (picL s),p.url.length<=100000/\p.size.length<=100000:=by
   intro p hp;obtain⟨x,hx,_,h1,h2⟩:=zo9 hp;have h3:=HSm.out x hx;have h4:=zi2 h1;rw[h2];omega
  have hn2:(zch P (picL s)).length<=100000:=Nat.le_trans (zf2 P _) (by rw[hL];exact hl);have hct:=zop hf2;have HTx:=z2c (zj2 A (zch P (picL s)).length c (zch P (picL s)) W.drew ((Rd.own ho).drew) (by omega) (by have:=Nat.mul_le_mul_right (2*100000+3) hn2;omega) (fun p hp=>by have:=hf2 p hp;omega));have d1:=bv.cell;have d2:=bv.lt;have hW:Below w.heap.size w W:=HB1.out.trans (hB.below (by omega) (fun _ h=>h.elim));have HW:=z2c hW;have HK:=z2c hK;clear hW hK hf2 hct HIt HSo HFi HSm;gi_wp2_with fail
  refine zz1 ?_;refine zme 6 [(0,true),(2,true),(3,true),(4,true),(1,false),(5,true)] (fun W=>W.cell? ⟨w.heap.size+1,0,none⟩=some (.slice A (zch P (picL s)).length c)) hmx (by rintro⟨_,_,h⟩;exact h) (by kernel_rfl) (by kernel_rfl) (by kernel_rfl) (by decide) rfl (fun _ _ _ _ _ h=>h) (by kernel_rfl) (by simpa[go_sem]using d1) ?_;refine zal (v:= .slice A (zch P (picL s)).length c) 31 rfl rfl rfl (fun W hW=>by simp[execOp,go_sem,hW]) ?_;simp only[Act.put,z2b,z2e,z2d];refine zal (v:= .slice A (zch P (picL s)).length c) 33 rfl rfl rfl (fun W hW=>by simp[execOp,go_sem,hW]) ?_;simp only[Act.put,z2b,z2e,z2d];refine zal (v:= .int .i64 ((zch P (picL s)).length:Nat)) 34 rfl rfl rfl (fun W hW=>by simp[execOp,go_sem]) ?_;simp only[Act.put,z2b,z2e,z2d];refine zal (v:= .bool (decide (0<(zch P (picL s)).length))) 35 rfl rfl rfl (fun W hW=>by simp[execOp,go_sem]) ?_;simp only[Act.put,z2b,z2e,z2d];refine zai rfl rfl fun Kc hKc=> ?_;unfold Oper.wp;simp[execOp,go_sem];refine HTx.out.mono ?_;rintro e W1 ⟨rfl,X1,rfl⟩;show Kc _ _;apply hKc;refine⟨?_, ?_⟩
  ·simp[go_sem,d1,d2]
  refine zal (v:= .string ⟨(zd0 (zch P (picL s))).toArray⟩) 4 rfl rfl rfl (fun W hW=>by simp[execOp,go_sem]) ?_;simp only[Act.put,z2b,z2e,z2d];simp only[zbq,List.drop];go_wp2_with fail
  simp only[onlyN];gi_wp2;refine⟨by simp,.inl ⟨_,_,rfl,run_takeDeferred ?_, ?_⟩⟩
  ·exact(((zab.refl (fun _=>False) W).drew.grow X1).block _ (Array.getElem?_eq_some_iff.1 HK.out).1 (fun h=>h)).trans HK.out
  ·refine⟨.tuple #[.string ⟨(zd0 (zch P (picL s))).toArray⟩,.bool (decide (0<(zch P (picL s)).length))],by simp[results,Tryz.results10,go_sem],Ret.of rfl (HW.out.trans ?_)⟩;exact(zab.putObj (pv:=fun k=>k=w.heap.size+4) ((zab.refl (fun k=>k=w.heap.size+4) W).drew.grow X1) (Or.inr rfl) _).below HW.out.size (by intro k hk;omega)
 case hstop=>intro c pre x W _ h;exact h.elim
theorem zmr (g:Nat) (P:Pol) (s:Bs) (w:World) (hr:RefV w g P) (hm:s.length<=1000000000) (hp: ∀p∈picL s,p.url.length<=100000/\p.size.length<=100000) (hn:(picL s).length<=100000):Calls z2f 11 #[.pointer (some ⟨g,0,none⟩),.string ⟨s.toArray⟩] w (Ret (.tuple #[.string ⟨(zd0 (zch P (picL s))).toArray⟩,.bool (decide (0<(zch P (picL s)).length))]) w):=by
 have hmx:=mxd;have HPs:=z2c (fun W=>zwr s W (by omega));generalize picL s=L at*;have HSm:=z2c hp;have HFi:=z2c (fun W (hb:Below w.heap.size w W) (u:Bs) (hu:u.length<=100000)=>zms g P ⟨u.toArray⟩ W (hr.below hb) (by show u.toArray.size<=_;simp;omega));clear hr hp;go_enter Tryz.func11,Tryz.ntmps11;go_upto_region 3 with(go_at_call 26;(with_reducible refine(HPs.out _).mono ?_);rintro e V ⟨A3,c3,X3,rfl,hV,hc3,hr3⟩;rw[<-hV]at hr3;have HR3:=z2c hr3;have HB3:Hid (Below w.heap.size w V):=(by show Below _ _ _;rw[hV];exact bel);clear hV hr3)
 go_wp2_with fail
 go_loopw [6,8] (fun v i wr=> ∃(k:Nat) (X:Gr),k<=L.length/\i= .int .i64 k/\wr=V.grow X/\(V.grow X).ownsRow V.heap.size 38 2 v (zch P (L.take k)).length ((zch P (L.take k)).flatMap Pic.cells)) (fun _ i _=>L.length-(intOf i).toNat)
 case atStart=>exact⟨0,_,by omega,rfl,(zb6 V).symm,by rw[zb6];exact World.ownsRow_nil _ _ _ _⟩
 case round=>
  obtain⟨k,X,hk,rfl,rfl,hown⟩:=hrel;by_cases hlt:k<L.length
  ·obtain⟨b,off,rfl,hb,c0,c1⟩:=(HR3.out.grow X).pic k hlt;have HL:=z2c (show zch P (L.take (k+1))=zch P (L.take k)++zeo P L[k] by rw[List.take_succ_eq_append_getElem hlt,zgg]);have hpl:(zch P (L.take k)).length+1<=1000000:=by
    have h1:=zf2 P (L.take k);rw[List.length_take]at h1;omega
   obtain⟨hxu,hxz⟩:=HSm.out _ (List.getElem_mem hlt);generalize L[k]=p at*;obtain⟨xu,xz⟩:=p;simp only at hxu hxz;simp only[sv]at c0 c1;have hF:=HFi.out (V.grow X) (HB3.out.trans ((zav V X).mono HB3.out.size)) xu hxu;have hb2:b<V.heap.size+X.blocks.size:=by simpa[go_sem]using hb
   cases hf:zia P xu with
   |none=>
    rw[hf,show zo8 none= .tuple #[.string ⟨#[]⟩,.bool false]from rfl]at hF;have HO:Hid (zeo P ⟨xu,xz⟩=[]):=by show _=_;unfold zeo;simp only[hf]
    have HF:=z2c hF;clear hF hf;go_wp2_with(go_at_call 27;(with_reducible refine HF.out.mono ?_);rintro e w' ⟨rfl,Y1,rfl⟩)
    obtain⟨Z,hZ⟩:=zao (show Below V.heap.size V (((V.grow X).grow Y1).alloc (.cells #[.string ⟨#[]⟩,.string ⟨xz.toArray⟩] 38))from bel);have ho2:=World.ownsRow.alloc (zdf hown Y1) (.cells #[.string ⟨#[]⟩,.string ⟨xz.toArray⟩] 38);rw[hZ]at ho2;go_roundw
    case rel=>exact⟨k+1,Z,by omega,by go_num,hZ,by rw[HL.out,HO.out,z3r];exact ho2⟩
    case measure=>simp[intOf];omega
   |some C=>
    rw[hf,show zo8 (some C)= .tuple #[.string ⟨C.toArray⟩,.bool true]from rfl]at hF;have HO:Hid (zeo P ⟨xu,xz⟩=if okP ⟨C,xz⟩=true then [⟨C,xz⟩]else []):=by show _=_;unfold zeo;simp only[hf]
    have hC:=zi2 hf;have HRt:=z2c (fun W=>zmq ⟨C,xz⟩ W (show C.length<=_ by omega) (show xz.length<=_ by omega));simp only[Pic.agg,sv]at HRt;have HF:=z2c hF;clear hF hf;cases hk2:okP ⟨C,xz⟩
    ·rw[hk2]at HRt HO;go_wp2_with(first|(go_at_call 27;(with_reducible refine HF.out.mono ?_);rintro e w' ⟨rfl,Y1,rfl⟩)|(go_at_call 28;(with_reducible refine(HRt.out _).mono ?_);rintro e w' ⟨rfl,Y2,rfl⟩))
     obtain⟨Z,hZ⟩:=zao (show Below V.heap.size V ((((V.grow X).grow Y1).alloc (.cells #[.string ⟨C.toArray⟩,.string ⟨xz.toArray⟩] 38)).grow Y2)from bel);have ho2:=zdf (World.ownsRow.alloc (zdf hown Y1) (.cells #[.string ⟨C.toArray⟩,.string ⟨xz.toArray⟩] 38)) Y2;rw[hZ]at ho2;go_roundw
     case rel=>exact⟨k+1,Z,by omega,by go_num,hZ,by rw[HL.out,HO.out,if_neg Bool.false_ne_true,z3r];exact ho2⟩
     case measure=>simp[intOf];omega
    ·rw[hk2,if_pos rfl]at HO;rw[hk2]at HRt;have HL2:=z2c (show zch P (L.take (k+1))=zch P (L.take k)++[⟨C,xz⟩] by rw[HL.out,HO.out]);go_wp2_with(first|(go_at_call 27;(with_reducible refine HF.out.mono ?_);rintro e w' ⟨rfl,Y1,rfl⟩)|(go_at_call 28;(with_reducible refine(HRt.out _).mono ?_);rintro e w' ⟨rfl,Y2,rfl⟩)|(at_builtin;go_loud(refine zbx rfl _ _ 34 rfl zhx V rfl (World.ownsRow.alloc (zdf (World.ownsRow.alloc (zdf hown Y1) _) Y2) _) bel ⟨_,0,none⟩ 1 1 (Pic.cells ⟨C,xz⟩) rfl rfl (zaf (c:= #[sv C,sv xz]) (by simp[go_sem])) (by simp[Pic.cells,sv,Value.oneCell']) (by unfold maxLen;omega) (by omega) ?_);intro v' X2 hown' _))
     go_roundw
     case rel=>exact⟨k+1,X2,by omega,by go_num,rfl,by rw[HL2.out,List.length_append,List.flatMap_append];simpa using hown'⟩
     case measure=>simp[intOf];omega
  ·have hkn:k=L.length:=by omega
   have hown2:(V.grow X).ownsRow V.heap.size 38 2 u6 (zch P L).length ((zch P L).flatMap Pic.cells):=by rw[hkn,List.take_length]at hown;exact hown
   have hf2: ∀p∈zch P L,p.url.length<=100000/\p.size.length<=100000:=by
    intro p hp;obtain⟨x,hx,_,h1,h2⟩:=zo9 hp;have h3:=HSm.out x hx;have h4:=zi2 h1;rw[h2];omega
   have hn2:(zch P L).length<=100000:=Nat.le_trans (zf2 P _) hn;have hct:=zop hf2;obtain⟨A,c,rfl,hc⟩:=zah hown2;have HTx:=z2c (zog A (zch P L).length c (zch P L) (V.grow X) (Rd.own hown2) (by omega) (by have:=Nat.mul_le_mul_right (2*100000+3) hn2;omega) (fun p hp=>by have:=hf2 p hp;omega));clear hf2 hct hown hown2;go_wp2_with(go_at_call 29;(with_reducible refine HTx.out.mono ?_);rintro e w' ⟨rfl,rfl⟩)
   go_ret2;exact Ret.of (by simp) (HB3.out.trans ((bel:Below V.heap.size V _).mono HB3.out.size))
end Go.Proofs.YtiikamobcmgekaaGreatDoor
