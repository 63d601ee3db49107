/- The walk of the reference's Both of chapter 09. (written by gen_rboth.py) -/
import Derived.BigRegion
import Derived.Test.YtbhhgbgfaemfdaaGreatDoorKitP
import Derived.Test.YtbhhgbgfaemfdaaGreatDoorRG
import Derived.Test.YtbhhgbgfaemfdaaGreatDoorPrwF
import Derived.Test.YtbhhgbgfaemfdaaGreatDoorPrwH
import Derived.Test.YtbhhgbgfaemfdaaGreatDoorPrnPlain
namespace Go.Proofs.YtbhhgbgfaemfdaaGreatDoor
open Lib renaming hid→z2g
open List renaming nil_append→z3r
open Nat renaming le_refl→z2m,lt_of_lt_of_le→z2h
set_option maxRecDepth 100000
set_option maxHeartbeats 16000000
open Go.RowKit
attribute [local go_sem] Oper.semAt_some
structure BtS (w W0:World) (b:Nat) (L:List Value) (W:World):Prop where
 old:Below w.heap.size w W
 box:Below b W0 W
 size:b<W.heap.size
 fz: ∀i,W.frozen? ⟨b,i,none⟩=false
 out: ∀i x,L[i]? =some x->W.cell? ⟨b,i,none⟩=some x
theorem BtS.step {w W0 W W1:World} {b n j:Nat} {L:List Value} (x:Value) (h:BtS w W0 b L W) (hn:b<n) (hw:w.heap.size<=b) (ht:zac (fun i=>n<=i) W W1):BtS w W0 b (L.set j x) (W1.setCell ⟨b,j,none⟩ x):=by
 have hs:=h.size
 have h4:Below (b+1) W W1:=ht.below (by omega) (fun k hk=>by omega)
 have h0:zac (fun k=>b<=k) W W1:=ht.mono (fun k hk=>by have:n<=k:=hk;show b<=k;omega)
 have h1:zac (fun k=>b<=k) W (W1.setCell ⟨b,j,none⟩ x):=h0.setCell (.inr (z2m _)) x
 have h2:Below b W (W1.setCell ⟨b,j,none⟩ x):=h1.below (by omega) (fun k hk=>hk)
 refine⟨h.old.trans (h2.mono hw),h.box.trans h2,z2h hs h1.size,fun i=> ?_,fun i y hy=> ?_⟩
 ·rw[World.frozen?_setCell]
  exact(h4.frozen (p:=⟨b,i,none⟩) (Nat.lt_succ_self b)).trans (h.fz i)
 ·by_cases hij:j=i
  ·subst hij
   rw[List.getElem?_set]at hy
   split at hy
   ·split at hy
    ·rename_i hjl
     cases hy
     have hl:L[j]? =some L[j]:=List.getElem?_eq_getElem hjl
     exact World.cell?_setCell_same _ _ _ ((h4.cell (p:=⟨b,j,none⟩) (Nat.lt_succ_self b)).trans (h.out j _ hl))
    ·cases hy
   ·exact absurd rfl ‹_›
  ·rw[List.getElem?_set,if_neg hij]at hy
   rw[World.cell?_setCell_other _ _ _ _ (fun e=>hij (by injection e))]
   exact(h4.cell (p:=⟨b,i,none⟩) (Nat.lt_succ_self b)).trans (h.out i y hy)
theorem zac.past {pv:Nat->Prop} {A B C:World} {n:Nat} (h:zac pv A B) (hn:A.heap.size<=n) (k:zac (fun i=>n<=i\/pv i) B C):zac pv A C:=
 ⟨k.os.trans h.os,k.tape.trans h.tape,k.output.trans h.output,Nat.le_trans h.size k.size,fun i hi hp=>(k.block i (z2h hi h.size) (fun e=>by rcases e with e|e;omega;exact hp e)).trans (h.block i hi hp)⟩
theorem own_geq {W:World} {B b:Nat} {e:TypeId} {size:Nat} {v:Value} {n:Nat} {xs:List Value} (h:W.ownsRow B e size v n xs) (hb:v.ownBlock=some b):B<=b:=by
 rcases h.2 with⟨h1,_⟩|⟨g,cap,cur,h1,h2,_⟩
 ·subst h1;cases hb
 ·subst h1;cases hb;exact h2
theorem raw_fn (p q:Pol) (j:Nat) (hj:j<6):fN (rawB p q) j=fN p j+fN q j:=by
 rcases(by omega:j=0\/j=1\/j=2\/j=3\/j=4\/j=5)with rfl|rfl|rfl|rfl|rfl|rfl<;>exact List.length_append
theorem raw_fc (p q:Pol) (j:Nat) (hj:j<6):fC (rawB p q) j=fC p j++fC q j:=by
 rcases(by omega:j=0\/j=1\/j=2\/j=3\/j=4\/j=5)with rfl|rfl|rfl|rfl|rfl|rfl<;>first|exact List.map_append|exact List.flatMap_append
theorem rboth_any (v u:Value) (p q:Pol) (w:World) (h:PolV w (fun _=>False) v p) (g:PolV w (fun _=>False) u q) (hs:zdi p) (gs:zdi q) (rs:zdi (rawB p q)):Calls Tryz.prog 37 #[v,u] w fun e w'=> ∃v',e= .returned v'/\Below w.heap.size w w'/\PolV w' (fun b=>b<w.heap.size) v' (zep p q):=by
 have hmx:Tryz.prog.follows .mixedOrders=true:=by kernel_rfl
 have HNt:=z2g (fun v' W (hv:PolV W (fun _=>False) v' (rawB p q))=>zny v' (rawB p q) W hv rs)
 obtain⟨v0,v1,v2,v3,v4,v5,rfl,⟨A0,k0,rfl,z0,h0,_⟩,⟨A1,k1,rfl,z1,h1,_⟩,⟨A2,k2,rfl,z2,h2,_⟩,⟨A3,k3,rfl,z3,h3,_⟩,⟨A4,k4,rfl,z4,h4,_⟩,⟨A5,k5,rfl,z5,h5,_⟩⟩:=h
 obtain⟨u0,u1,u2,u3,u4,u5,rfl,⟨C0,j0,rfl,x0,g0,_⟩,⟨C1,j1,rfl,x1,g1,_⟩,⟨C2,j2,rfl,x2,g2,_⟩,⟨C3,j3,rfl,x3,g3,_⟩,⟨C4,j4,rfl,x4,g4,_⟩,⟨C5,j5,rfl,x5,g5,_⟩⟩:=g
 have HP0:=z2g (fun W (hb:Below w.heap.size w W)=>zc1 h0 z0.1 hb)
 have HQ0:=z2g (fun W (hb:Below w.heap.size w W)=>zc1 g0 x0.1 hb)
 have HPl0:Hid ((fC p 0).length=fN p 0*1):=h0.1
 have HQl0:Hid ((fC q 0).length=fN q 0*1):=g0.1
 have HPo0:Hid (∀u∈fC p 0,u.oneCell'=true):=zc5 p.tags
 have HQo0:Hid (∀u∈fC q 0,u.oneCell'=true):=zc5 q.tags
 have nb0:fN p 0<=100000000:=hs.tags
 have mb0:fN q 0<=100000000:=gs.tags
 have HP1:=z2g (fun W (hb:Below w.heap.size w W)=>zc1 h1 z1.1 hb)
 have HQ1:=z2g (fun W (hb:Below w.heap.size w W)=>zc1 g1 x1.1 hb)
 have HPl1:Hid ((fC p 1).length=fN p 1*1):=h1.1
 have HQl1:Hid ((fC q 1).length=fN q 1*1):=g1.1
 have HPo1:Hid (∀u∈fC p 1,u.oneCell'=true):=zc5 p.schemes
 have HQo1:Hid (∀u∈fC q 1,u.oneCell'=true):=zc5 q.schemes
 have nb1:fN p 1<=100000000:=hs.schemes
 have mb1:fN q 1<=100000000:=gs.schemes
 have HP2:=z2g (fun W (hb:Below w.heap.size w W)=>zc1 h2 z2.1 hb)
 have HQ2:=z2g (fun W (hb:Below w.heap.size w W)=>zc1 g2 x2.1 hb)
 have HPl2:Hid ((fC p 2).length=fN p 2*1):=h2.1
 have HQl2:Hid ((fC q 2).length=fN q 2*1):=g2.1
 have HPo2:Hid (∀u∈fC p 2,u.oneCell'=true):=zc5 p.css
 have HQo2:Hid (∀u∈fC q 2,u.oneCell'=true):=zc5 q.css
 have nb2:fN p 2<=100000000:=hs.css
 have mb2:fN q 2<=100000000:=gs.css
 have HP3:=z2g (fun W (hb:Below w.heap.size w W)=>zc1 h3 z3.1 hb)
 have HQ3:=z2g (fun W (hb:Below w.heap.size w W)=>zc1 g3 x3.1 hb)
 have HPl3:Hid ((fC p 3).length=fN p 3*1):=h3.1
 have HQl3:Hid ((fC q 3).length=fN q 3*1):=g3.1
 have HPo3:Hid (∀u∈fC p 3,u.oneCell'=true):=zc5 p.drops
 have HQo3:Hid (∀u∈fC q 3,u.oneCell'=true):=zc5 q.drops
 have nb3:fN p 3<=100000000:=hs.drops
 have mb3:fN q 3<=100000000:=gs.drops
 have HP4:=z2g (fun W (hb:Below w.heap.size w W)=>zc1 h4 z4.1 hb)
 have HQ4:=z2g (fun W (hb:Below w.heap.size w W)=>zc1 g4 x4.1 hb)
 have HPl4:Hid ((fC p 4).length=fN p 4*2):=h4.1
 have HQl4:Hid ((fC q 4).length=fN q 4*2):=g4.1
 have HPo4:Hid (∀u∈fC p 4,u.oneCell'=true):=zc7 p.attrs
 have HQo4:Hid (∀u∈fC q 4,u.oneCell'=true):=zc7 q.attrs
 have nb4:fN p 4<=100000000:=hs.attrs
 have mb4:fN q 4<=100000000:=gs.attrs
 have HP5:=z2g (fun W (hb:Below w.heap.size w W)=>zc1 h5 z5.1 hb)
 have HQ5:=z2g (fun W (hb:Below w.heap.size w W)=>zc1 g5 x5.1 hb)
 have HPl5:Hid ((fC p 5).length=fN p 5*3):=h5.1
 have HQl5:Hid ((fC q 5).length=fN q 5*3):=g5.1
 have HPo5:Hid (∀u∈fC p 5,u.oneCell'=true):=zc6 p.forces
 have HQo5:Hid (∀u∈fC q 5,u.oneCell'=true):=zc6 q.forces
 have nb5:fN p 5<=100000000:=hs.forces
 have mb5:fN q 5<=100000000:=gs.forces
 clear z0 h0 x0 g0 z1 h1 x1 g1 z2 h2 x2 g2 z3 h3 x3 g3 z4 h4 x4 g4 z5 h5 x5 g5 hs gs rs
 have HRaw:Hid ((rawB p q).rel=(p.rel||q.rel)/\(rawB p q).depth=max p.depth q.depth/\(rawB p q).name=max p.name q.name/\(rawB p q).value=max p.value q.value):=⟨rfl,rfl,rfl,rfl⟩
 have HBo:Hid (zep p q=zax (rawB p q)):=rfl
 go_enter Tryz.func37,Tryz.ntmps37
 go_upto_region 1 with fail
 refine zaf fun W0 hW0=> ?_
 obtain⟨B,hB⟩: ∃B,w.heap.size=B:=⟨_,rfl⟩
 have hb0:Below w.heap.size w W0:=by rw[hW0];exact bel
 have c0:W0.cell? ⟨B,0,none⟩=some (.slice A0 (fN p 0) k0):=by rw[hW0,<-hB];simp[go_sem]
 have d0:W0.cell? ⟨B+1,0,none⟩=some (.slice C0 (fN q 0) j0):=by rw[hW0,<-hB];simp[go_sem]
 have c1:W0.cell? ⟨B,1,none⟩=some (.slice A1 (fN p 1) k1):=by rw[hW0,<-hB];simp[go_sem]
 have d1:W0.cell? ⟨B+1,1,none⟩=some (.slice C1 (fN q 1) j1):=by rw[hW0,<-hB];simp[go_sem]
 have c2:W0.cell? ⟨B,2,none⟩=some (.slice A2 (fN p 2) k2):=by rw[hW0,<-hB];simp[go_sem]
 have d2:W0.cell? ⟨B+1,2,none⟩=some (.slice C2 (fN q 2) j2):=by rw[hW0,<-hB];simp[go_sem]
 have c3:W0.cell? ⟨B,3,none⟩=some (.slice A3 (fN p 3) k3):=by rw[hW0,<-hB];simp[go_sem]
 have d3:W0.cell? ⟨B+1,3,none⟩=some (.slice C3 (fN q 3) j3):=by rw[hW0,<-hB];simp[go_sem]
 have c4:W0.cell? ⟨B,4,none⟩=some (.slice A4 (fN p 4) k4):=by rw[hW0,<-hB];simp[go_sem]
 have d4:W0.cell? ⟨B+1,4,none⟩=some (.slice C4 (fN q 4) j4):=by rw[hW0,<-hB];simp[go_sem]
 have c5:W0.cell? ⟨B,5,none⟩=some (.slice A5 (fN p 5) k5):=by rw[hW0,<-hB];simp[go_sem]
 have d5:W0.cell? ⟨B+1,5,none⟩=some (.slice C5 (fN q 5) j5):=by rw[hW0,<-hB];simp[go_sem]
 have c6:W0.cell? ⟨B,6,none⟩=some (.bool p.rel):=by rw[hW0,<-hB];simp[go_sem]
 have d6:W0.cell? ⟨B+1,6,none⟩=some (.bool q.rel):=by rw[hW0,<-hB];simp[go_sem]
 have c7:W0.cell? ⟨B,7,none⟩=some (.int .i64 p.depth):=by rw[hW0,<-hB];simp[go_sem]
 have d7:W0.cell? ⟨B+1,7,none⟩=some (.int .i64 q.depth):=by rw[hW0,<-hB];simp[go_sem]
 have c8:W0.cell? ⟨B,8,none⟩=some (.int .i64 p.name):=by rw[hW0,<-hB];simp[go_sem]
 have d8:W0.cell? ⟨B+1,8,none⟩=some (.int .i64 q.name):=by rw[hW0,<-hB];simp[go_sem]
 have c9:W0.cell? ⟨B,9,none⟩=some (.int .i64 p.value):=by rw[hW0,<-hB];simp[go_sem]
 have d9:W0.cell? ⟨B+1,9,none⟩=some (.int .i64 q.value):=by rw[hW0,<-hB];simp[go_sem]
 have hbx:W0.heap[B+2]? =some (.cells #[.slice none 0 0,.slice none 0 0,.slice none 0 0,.slice none 0 0,.slice none 0 0,.slice none 0 0,.bool false,.int .i64 0,.int .i64 0,.int .i64 0] 43):=by rw[hW0,<-hB];exact zmo (by simp)
 have hBs:W0.heap.size=B+3:=by rw[hW0,<-hB];simp
 have hBl:B<W0.heap.size:=by omega
 have hBl1:B+1<W0.heap.size:=by omega
 have HB0:=z2g hb0
 rw[hB]
 obtain⟨B2,hB2⟩: ∃B2,B+1+1=B2:=⟨_,rfl⟩
 rw[show B+2=B2 from hB2]at hbx
 have HBx:=z2g hbx
 have hBl2:B2<W0.heap.size:=by omega
 have hwB:w.heap.size<=B2:=by omega
 rw[hB2]
 clear hW0 hb0 hbx hB2 hBs
 generalize p.rel=r1 at*
 generalize q.rel=r2 at*
 generalize p.depth=pd at*
 generalize q.depth=qd at*
 generalize p.name=pn at*
 generalize q.name=qn at*
 generalize p.value=pv at*
 generalize q.value=qv at*
 have hwl:w.heap.size<=W0.heap.size:=HB0.out.size
 cases r1
 all_goals
  go_upto_region 2 with fail
  refine zaf fun V hV=> ?_
  obtain⟨B3,hB3⟩: ∃B3,W0.heap.size=B3:=⟨_,rfl⟩
  rw[hB3]at hwl hBl hBl1 hBl2
  have hS0:BtS w W0 B3 [.slice none 0 0,.slice none 0 0,.slice none 0 0,.slice none 0 0,.slice none 0 0,.slice none 0 0,.bool (rawB p q).rel,.int .i64 (rawB p q).depth,.int .i64 (rawB p q).name,.int .i64 (rawB p q).value] V:=by
   have hb1:Below W0.heap.size W0 V:=by rw[hV];exact bel
   refine⟨HB0.out.trans (hb1.mono HB0.out.size),hB3 ▸ hb1,by rw[hV,<-hB3];simp,fun i=>by rw[hV,<-hB3];simp[go_sem],fun i x hx=> ?_⟩
   have hx9:=(List.getElem?_eq_some_iff.1 hx).1
   have hx8:i<10:=hx9
   rcases(by omega:i=0\/i=1\/i=2\/i=3\/i=4\/i=5\/i=6\/i=7\/i=8\/i=9)with rfl|rfl|rfl|rfl|rfl|rfl|rfl|rfl|rfl|rfl
   all_goals
    cases hx
    first
     |(rw[hV,<-hB3];simp[go_sem];done)
     |(rw[HRaw.out.1,hV,<-hB3];simp[go_sem];done)
     |(rw[HRaw.out.2.1,hV,<-hB3];simp[go_sem];done)
     |(rw[HRaw.out.2.2.1,hV,<-hB3];simp[go_sem];done)
     |(rw[HRaw.out.2.2.2,hV,<-hB3];simp[go_sem];done)
  have HS:=z2g hS0
  rw[hB3]
  have hwB3:w.heap.size<=B3:=hwl
  clear hV hS0 hB3
  have f:=HS.out.out 0 (.slice none 0 0) rfl
  have c:=(HS.out.box.cell (p:=⟨B,0,none⟩) hBl).trans c0
  have z:=HS.out.fz 0
  have hs:=HS.out.size
  have HO:Hid (V.ownsRow V.heap.size 9 1 (.slice none 0 0) 0 []):=World.ownsRow_nil _ _ _ _
  go_upto_region 3 with(at_builtin;go_loud(refine zas rfl _ _ 39 rfl sltS V.heap.size rfl HO.out (z2m _) (fN p 0) (fC p 0) (HP0.out _ HS.out.old) HPl0.out HPo0.out (by unfold maxLen;omega) (by omega) ?_);intro v9 X1 ho1 hg1;rw[Nat.zero_add,z3r]at ho1;obtain⟨a0h,d0h,rfl,hr9⟩:=zlb ho1;clear hr9;have HO1:=z2g ho1;have HG1:=z2g hg1;have hb4:Below (B3+1) V X1:=(zac.of_own hg1 HO.out).below (by omega) (fun k hk=>by have:V.heap.size<=k:=hk;omega);have f1:=(hb4.cell (p:=⟨B3,0,none⟩) (Nat.lt_succ_self B3)).trans f;have z1:=(hb4.frozen (p:=⟨B3,0,none⟩) (Nat.lt_succ_self B3)).trans z;clear ho1 hg1 hb4)
  refine zaf fun U0 hW=> ?_
  have HTa:Hid (zac (fun k=>k=B3) V U0):=by show zac _ _ _;rw[hW];exact zac.setCell (pv:=fun k=>k=B3) (p:=⟨B3,0,none⟩) (zac.of_below ((zac.of_own HG1.out HO.out).below (z2m _) (fun _ h=>h))) (.inr rfl) _
  have HSn:Hid (BtS w W0 B3 [(.slice a0h (fN p 0) d0h),.slice none 0 0,.slice none 0 0,.slice none 0 0,.slice none 0 0,.slice none 0 0,.bool (rawB p q).rel,.int .i64 (rawB p q).depth,.int .i64 (rawB p q).name,.int .i64 (rawB p q).value] U0):=by show BtS _ _ _ _ _;rw[hW];exact HS.out.step (j:=0) (.slice a0h (fN p 0) d0h) hs hwB3 (zac.of_own HG1.out HO.out)
  have HOn:Hid (U0.ownsRow V.heap.size 9 1 (.slice a0h (fN p 0) d0h) (fN p 0) (fC p 0)):=by show World.ownsRow _ _ _ _ _ _ _;rw[hW];have h9:=((zac.refl (fun k=>k=B3) X1).setCell (p:=⟨B3,0,none⟩) (.inr rfl) (.slice a0h (fN p 0) d0h)).own HO1.out (fun k hk=>by have:k=B3:=hk;omega);exact h9
  have HSz:Hid (V.heap.size<=U0.heap.size/\B3<V.heap.size):=⟨HTa.out.size,hs⟩
  clear hW HO HO1 HG1 HS f c z hs f1 z1 X1
  have HS:=HSn
  have HO:=HOn
  clear HSn HOn
  have HSy:=HSz
  clear HSz
  have HSz:=z2g HSy.out.1
  have f:=HS.out.out 0 ((.slice a0h (fN p 0) d0h)) rfl
  have c:=(HS.out.box.cell (p:=⟨B+1,0,none⟩) hBl1).trans d0
  have z:=HS.out.fz 0
  have hs:=HS.out.size
  have hS2:V.heap.size<=U0.heap.size:=HSz.out
  have hs3:=HSy.out.2
  go_upto_region 4 with(at_builtin;go_loud(refine zas rfl _ _ 39 rfl sltS V.heap.size rfl HO.out hS2 (fN q 0) (fC q 0) (HQ0.out _ HS.out.old) HQl0.out HQo0.out (by unfold maxLen;omega) (by omega) ?_);intro v9 X1 ho1 hg1;rw[<-raw_fn p q 0 (by omega),<-raw_fc p q 0 (by omega)]at ho1;obtain⟨D0,m0,rfl,hr9⟩:=zlb ho1;clear hr9;have HO1:=z2g ho1;have HG1:=z2g hg1;have hb4:Below (B3+1) U0 X1:=(zac.of_own hg1 HO.out).below (by omega) (fun k hk=>by have:V.heap.size<=k:=hk;omega);have f1:=(hb4.cell (p:=⟨B3,0,none⟩) (Nat.lt_succ_self B3)).trans f;have z1:=(hb4.frozen (p:=⟨B3,0,none⟩) (Nat.lt_succ_self B3)).trans z;clear ho1 hg1 hb4)
  refine zaf fun V1 hW=> ?_
  have HTb:Hid (zac (fun k=>k=B3) V V1):=by show zac _ _ _;rw[hW];exact HTa.out.past (z2m _) (zac.setCell (pv:=fun i=>V.heap.size<=i\/i=B3) (p:=⟨B3,0,none⟩) ((zac.of_own HG1.out HO.out).mono (fun _ h=> .inl h)) (.inr (.inr rfl)) _)
  have HSn:Hid (BtS w W0 B3 [(.slice D0 (fN (rawB p q) 0) m0),.slice none 0 0,.slice none 0 0,.slice none 0 0,.slice none 0 0,.slice none 0 0,.bool (rawB p q).rel,.int .i64 (rawB p q).depth,.int .i64 (rawB p q).name,.int .i64 (rawB p q).value] V1):=by show BtS _ _ _ _ _;rw[hW];exact HS.out.step (j:=0) (.slice D0 (fN (rawB p q) 0) m0) hs3 hwB3 (zac.of_own HG1.out HO.out)
  have HR0:Hid (Rx V1 (fun k=>k=B3) (.slice D0 (fN (rawB p q) 0) m0) (fN (rawB p q) 0) 1 (fC (rawB p q) 0)):=by show Rx _ _ _ _ _ _;rw[hW];exact(Rx.ofOwn HO1.out (fun k hk he=>by have e:k=B3:=he;have h8:=own_geq HO1.out hk;omega)).turned ((zac.refl (fun k=>k=B3) X1).setCell (p:=⟨B3,0,none⟩) (.inr rfl) (.slice D0 (fN (rawB p q) 0) m0))
  clear hW HO HO1 HG1 HS f c z hs hs3 hS2 f1 z1 X1 HTa HTb HSz HSy HP0 HQ0 HPl0 HQl0 HPo0 HQo0 nb0 mb0
  have HS:=HSn
  clear HSn
  have f:=HS.out.out 1 (.slice none 0 0) rfl
  have c:=(HS.out.box.cell (p:=⟨B,1,none⟩) hBl).trans c1
  have z:=HS.out.fz 1
  have hs:=HS.out.size
  have HO:Hid (V1.ownsRow V1.heap.size 9 1 (.slice none 0 0) 0 []):=World.ownsRow_nil _ _ _ _
  go_upto_region 5 with(at_builtin;go_loud(refine zas rfl _ _ 39 rfl sltS V1.heap.size rfl HO.out (z2m _) (fN p 1) (fC p 1) (HP1.out _ HS.out.old) HPl1.out HPo1.out (by unfold maxLen;omega) (by omega) ?_);intro v9 X1 ho1 hg1;rw[Nat.zero_add,z3r]at ho1;obtain⟨a1h,d1h,rfl,hr9⟩:=zlb ho1;clear hr9;have HO1:=z2g ho1;have HG1:=z2g hg1;have hb4:Below (B3+1) V1 X1:=(zac.of_own hg1 HO.out).below (by omega) (fun k hk=>by have:V1.heap.size<=k:=hk;omega);have f1:=(hb4.cell (p:=⟨B3,1,none⟩) (Nat.lt_succ_self B3)).trans f;have z1:=(hb4.frozen (p:=⟨B3,1,none⟩) (Nat.lt_succ_self B3)).trans z;clear ho1 hg1 hb4)
  refine zaf fun U1 hW=> ?_
  have HTa:Hid (zac (fun k=>k=B3) V1 U1):=by show zac _ _ _;rw[hW];exact zac.setCell (pv:=fun k=>k=B3) (p:=⟨B3,1,none⟩) (zac.of_below ((zac.of_own HG1.out HO.out).below (z2m _) (fun _ h=>h))) (.inr rfl) _
  have HSn:Hid (BtS w W0 B3 [(.slice D0 (fN (rawB p q) 0) m0),(.slice a1h (fN p 1) d1h),.slice none 0 0,.slice none 0 0,.slice none 0 0,.slice none 0 0,.bool (rawB p q).rel,.int .i64 (rawB p q).depth,.int .i64 (rawB p q).name,.int .i64 (rawB p q).value] U1):=by show BtS _ _ _ _ _;rw[hW];exact HS.out.step (j:=1) (.slice a1h (fN p 1) d1h) hs hwB3 (zac.of_own HG1.out HO.out)
  have HOn:Hid (U1.ownsRow V1.heap.size 9 1 (.slice a1h (fN p 1) d1h) (fN p 1) (fC p 1)):=by show World.ownsRow _ _ _ _ _ _ _;rw[hW];have h9:=((zac.refl (fun k=>k=B3) X1).setCell (p:=⟨B3,1,none⟩) (.inr rfl) (.slice a1h (fN p 1) d1h)).own HO1.out (fun k hk=>by have:k=B3:=hk;omega);exact h9
  have HSz:Hid (V1.heap.size<=U1.heap.size/\B3<V1.heap.size):=⟨HTa.out.size,hs⟩
  clear hW HO HO1 HG1 HS f c z hs f1 z1 X1
  have HS:=HSn
  have HO:=HOn
  clear HSn HOn
  have HSy:=HSz
  clear HSz
  have HSz:=z2g HSy.out.1
  have f:=HS.out.out 1 ((.slice a1h (fN p 1) d1h)) rfl
  have c:=(HS.out.box.cell (p:=⟨B+1,1,none⟩) hBl1).trans d1
  have z:=HS.out.fz 1
  have hs:=HS.out.size
  have hS2:V1.heap.size<=U1.heap.size:=HSz.out
  have hs3:=HSy.out.2
  go_upto_region 6 with(at_builtin;go_loud(refine zas rfl _ _ 39 rfl sltS V1.heap.size rfl HO.out hS2 (fN q 1) (fC q 1) (HQ1.out _ HS.out.old) HQl1.out HQo1.out (by unfold maxLen;omega) (by omega) ?_);intro v9 X1 ho1 hg1;rw[<-raw_fn p q 1 (by omega),<-raw_fc p q 1 (by omega)]at ho1;obtain⟨D1,m1,rfl,hr9⟩:=zlb ho1;clear hr9;have HO1:=z2g ho1;have HG1:=z2g hg1;have hb4:Below (B3+1) U1 X1:=(zac.of_own hg1 HO.out).below (by omega) (fun k hk=>by have:V1.heap.size<=k:=hk;omega);have f1:=(hb4.cell (p:=⟨B3,1,none⟩) (Nat.lt_succ_self B3)).trans f;have z1:=(hb4.frozen (p:=⟨B3,1,none⟩) (Nat.lt_succ_self B3)).trans z;clear ho1 hg1 hb4)
  refine zaf fun V2 hW=> ?_
  have HTb:Hid (zac (fun k=>k=B3) V1 V2):=by show zac _ _ _;rw[hW];exact HTa.out.past (z2m _) (zac.setCell (pv:=fun i=>V1.heap.size<=i\/i=B3) (p:=⟨B3,1,none⟩) ((zac.of_own HG1.out HO.out).mono (fun _ h=> .inl h)) (.inr (.inr rfl)) _)
  have HSn:Hid (BtS w W0 B3 [(.slice D0 (fN (rawB p q) 0) m0),(.slice D1 (fN (rawB p q) 1) m1),.slice none 0 0,.slice none 0 0,.slice none 0 0,.slice none 0 0,.bool (rawB p q).rel,.int .i64 (rawB p q).depth,.int .i64 (rawB p q).name,.int .i64 (rawB p q).value] V2):=by show BtS _ _ _ _ _;rw[hW];exact HS.out.step (j:=1) (.slice D1 (fN (rawB p q) 1) m1) hs3 hwB3 (zac.of_own HG1.out HO.out)
  have HR1:Hid (Rx V2 (fun k=>k=B3) (.slice D1 (fN (rawB p q) 1) m1) (fN (rawB p q) 1) 1 (fC (rawB p q) 1)):=by show Rx _ _ _ _ _ _;rw[hW];exact(Rx.ofOwn HO1.out (fun k hk he=>by have e:k=B3:=he;have h8:=own_geq HO1.out hk;omega)).turned ((zac.refl (fun k=>k=B3) X1).setCell (p:=⟨B3,1,none⟩) (.inr rfl) (.slice D1 (fN (rawB p q) 1) m1))
  have HR0:=z2g (HR0.out.turned HTb.out)
  clear hW HO HO1 HG1 HS f c z hs hs3 hS2 f1 z1 X1 HTa HTb HSz HSy HP1 HQ1 HPl1 HQl1 HPo1 HQo1 nb1 mb1
  have HS:=HSn
  clear HSn
  have f:=HS.out.out 2 (.slice none 0 0) rfl
  have c:=(HS.out.box.cell (p:=⟨B,2,none⟩) hBl).trans c2
  have z:=HS.out.fz 2
  have hs:=HS.out.size
  have HO:Hid (V2.ownsRow V2.heap.size 9 1 (.slice none 0 0) 0 []):=World.ownsRow_nil _ _ _ _
  go_upto_region 7 with(at_builtin;go_loud(refine zas rfl _ _ 39 rfl sltS V2.heap.size rfl HO.out (z2m _) (fN p 2) (fC p 2) (HP2.out _ HS.out.old) HPl2.out HPo2.out (by unfold maxLen;omega) (by omega) ?_);intro v9 X1 ho1 hg1;rw[Nat.zero_add,z3r]at ho1;obtain⟨a2h,d2h,rfl,hr9⟩:=zlb ho1;clear hr9;have HO1:=z2g ho1;have HG1:=z2g hg1;have hb4:Below (B3+1) V2 X1:=(zac.of_own hg1 HO.out).below (by omega) (fun k hk=>by have:V2.heap.size<=k:=hk;omega);have f1:=(hb4.cell (p:=⟨B3,2,none⟩) (Nat.lt_succ_self B3)).trans f;have z1:=(hb4.frozen (p:=⟨B3,2,none⟩) (Nat.lt_succ_self B3)).trans z;clear ho1 hg1 hb4)
  refine zaf fun U2 hW=> ?_
  have HTa:Hid (zac (fun k=>k=B3) V2 U2):=by show zac _ _ _;rw[hW];exact zac.setCell (pv:=fun k=>k=B3) (p:=⟨B3,2,none⟩) (zac.of_below ((zac.of_own HG1.out HO.out).below (z2m _) (fun _ h=>h))) (.inr rfl) _
  have HSn:Hid (BtS w W0 B3 [(.slice D0 (fN (rawB p q) 0) m0),(.slice D1 (fN (rawB p q) 1) m1),(.slice a2h (fN p 2) d2h),.slice none 0 0,.slice none 0 0,.slice none 0 0,.bool (rawB p q).rel,.int .i64 (rawB p q).depth,.int .i64 (rawB p q).name,.int .i64 (rawB p q).value] U2):=by show BtS _ _ _ _ _;rw[hW];exact HS.out.step (j:=2) (.slice a2h (fN p 2) d2h) hs hwB3 (zac.of_own HG1.out HO.out)
  have HOn:Hid (U2.ownsRow V2.heap.size 9 1 (.slice a2h (fN p 2) d2h) (fN p 2) (fC p 2)):=by show World.ownsRow _ _ _ _ _ _ _;rw[hW];have h9:=((zac.refl (fun k=>k=B3) X1).setCell (p:=⟨B3,2,none⟩) (.inr rfl) (.slice a2h (fN p 2) d2h)).own HO1.out (fun k hk=>by have:k=B3:=hk;omega);exact h9
  have HSz:Hid (V2.heap.size<=U2.heap.size/\B3<V2.heap.size):=⟨HTa.out.size,hs⟩
  clear hW HO HO1 HG1 HS f c z hs f1 z1 X1
  have HS:=HSn
  have HO:=HOn
  clear HSn HOn
  have HSy:=HSz
  clear HSz
  have HSz:=z2g HSy.out.1
  have f:=HS.out.out 2 ((.slice a2h (fN p 2) d2h)) rfl
  have c:=(HS.out.box.cell (p:=⟨B+1,2,none⟩) hBl1).trans d2
  have z:=HS.out.fz 2
  have hs:=HS.out.size
  have hS2:V2.heap.size<=U2.heap.size:=HSz.out
  have hs3:=HSy.out.2
  go_upto_region 8 with(at_builtin;go_loud(refine zas rfl _ _ 39 rfl sltS V2.heap.size rfl HO.out hS2 (fN q 2) (fC q 2) (HQ2.out _ HS.out.old) HQl2.out HQo2.out (by unfold maxLen;omega) (by omega) ?_);intro v9 X1 ho1 hg1;rw[<-raw_fn p q 2 (by omega),<-raw_fc p q 2 (by omega)]at ho1;obtain⟨D2,m2,rfl,hr9⟩:=zlb ho1;clear hr9;have HO1:=z2g ho1;have HG1:=z2g hg1;have hb4:Below (B3+1) U2 X1:=(zac.of_own hg1 HO.out).below (by omega) (fun k hk=>by have:V2.heap.size<=k:=hk;omega);have f1:=(hb4.cell (p:=⟨B3,2,none⟩) (Nat.lt_succ_self B3)).trans f;have z1:=(hb4.frozen (p:=⟨B3,2,none⟩) (Nat.lt_succ_self B3)).trans z;clear ho1 hg1 hb4)
  refine zaf fun V3 hW=> ?_
  have HTb:Hid (zac (fun k=>k=B3) V2 V3):=by show zac _ _ _;rw[hW];exact HTa.out.past (z2m _) (zac.setCell (pv:=fun i=>V2.heap.size<=i\/i=B3) (p:=⟨B3,2,none⟩) ((zac.of_own HG1.out HO.out).mono (fun _ h=> .inl h)) (.inr (.inr rfl)) _)
  have HSn:Hid (BtS w W0 B3 [(.slice D0 (fN (rawB p q) 0) m0),(.slice D1 (fN (rawB p q) 1) m1),(.slice D2 (fN (rawB p q) 2) m2),.slice none 0 0,.slice none 0 0,.slice none 0 0,.bool (rawB p q).rel,.int .i64 (rawB p q).depth,.int .i64 (rawB p q).name,.int .i64 (rawB p q).value] V3):=by show BtS _ _ _ _ _;rw[hW];exact HS.out.step (j:=2) (.slice D2 (fN (rawB p q) 2) m2) hs3 hwB3 (zac.of_own HG1.out HO.out)
  have HR2:Hid (Rx V3 (fun k=>k=B3) (.slice D2 (fN (rawB p q) 2) m2) (fN (rawB p q) 2) 1 (fC (rawB p q) 2)):=by show Rx _ _ _ _ _ _;rw[hW];exact(Rx.ofOwn HO1.out (fun k hk he=>by have e:k=B3:=he;have h8:=own_geq HO1.out hk;omega)).turned ((zac.refl (fun k=>k=B3) X1).setCell (p:=⟨B3,2,none⟩) (.inr rfl) (.slice D2 (fN (rawB p q) 2) m2))
  have HR0:=z2g (HR0.out.turned HTb.out)
  have HR1:=z2g (HR1.out.turned HTb.out)
  clear hW HO HO1 HG1 HS f c z hs hs3 hS2 f1 z1 X1 HTa HTb HSz HSy HP2 HQ2 HPl2 HQl2 HPo2 HQo2 nb2 mb2
  have HS:=HSn
  clear HSn
  have f:=HS.out.out 3 (.slice none 0 0) rfl
  have c:=(HS.out.box.cell (p:=⟨B,3,none⟩) hBl).trans c3
  have z:=HS.out.fz 3
  have hs:=HS.out.size
  have HO:Hid (V3.ownsRow V3.heap.size 9 1 (.slice none 0 0) 0 []):=World.ownsRow_nil _ _ _ _
  go_upto_region 9 with(at_builtin;go_loud(refine zas rfl _ _ 39 rfl sltS V3.heap.size rfl HO.out (z2m _) (fN p 3) (fC p 3) (HP3.out _ HS.out.old) HPl3.out HPo3.out (by unfold maxLen;omega) (by omega) ?_);intro v9 X1 ho1 hg1;rw[Nat.zero_add,z3r]at ho1;obtain⟨a3h,d3h,rfl,hr9⟩:=zlb ho1;clear hr9;have HO1:=z2g ho1;have HG1:=z2g hg1;have hb4:Below (B3+1) V3 X1:=(zac.of_own hg1 HO.out).below (by omega) (fun k hk=>by have:V3.heap.size<=k:=hk;omega);have f1:=(hb4.cell (p:=⟨B3,3,none⟩) (Nat.lt_succ_self B3)).trans f;have z1:=(hb4.frozen (p:=⟨B3,3,none⟩) (Nat.lt_succ_self B3)).trans z;clear ho1 hg1 hb4)
  refine zaf fun U3 hW=> ?_
  have HTa:Hid (zac (fun k=>k=B3) V3 U3):=by show zac _ _ _;rw[hW];exact zac.setCell (pv:=fun k=>k=B3) (p:=⟨B3,3,none⟩) (zac.of_below ((zac.of_own HG1.out HO.out).below (z2m _) (fun _ h=>h))) (.inr rfl) _
  have HSn:Hid (BtS w W0 B3 [(.slice D0 (fN (rawB p q) 0) m0),(.slice D1 (fN (rawB p q) 1) m1),(.slice D2 (fN (rawB p q) 2) m2),(.slice a3h (fN p 3) d3h),.slice none 0 0,.slice none 0 0,.bool (rawB p q).rel,.int .i64 (rawB p q).depth,.int .i64 (rawB p q).name,.int .i64 (rawB p q).value] U3):=by show BtS _ _ _ _ _;rw[hW];exact HS.out.step (j:=3) (.slice a3h (fN p 3) d3h) hs hwB3 (zac.of_own HG1.out HO.out)
  have HOn:Hid (U3.ownsRow V3.heap.size 9 1 (.slice a3h (fN p 3) d3h) (fN p 3) (fC p 3)):=by show World.ownsRow _ _ _ _ _ _ _;rw[hW];have h9:=((zac.refl (fun k=>k=B3) X1).setCell (p:=⟨B3,3,none⟩) (.inr rfl) (.slice a3h (fN p 3) d3h)).own HO1.out (fun k hk=>by have:k=B3:=hk;omega);exact h9
  have HSz:Hid (V3.heap.size<=U3.heap.size/\B3<V3.heap.size):=⟨HTa.out.size,hs⟩
  clear hW HO HO1 HG1 HS f c z hs f1 z1 X1
  have HS:=HSn
  have HO:=HOn
  clear HSn HOn
  have HSy:=HSz
  clear HSz
  have HSz:=z2g HSy.out.1
  have f:=HS.out.out 3 ((.slice a3h (fN p 3) d3h)) rfl
  have c:=(HS.out.box.cell (p:=⟨B+1,3,none⟩) hBl1).trans d3
  have z:=HS.out.fz 3
  have hs:=HS.out.size
  have hS2:V3.heap.size<=U3.heap.size:=HSz.out
  have hs3:=HSy.out.2
  go_upto_region 10 with(at_builtin;go_loud(refine zas rfl _ _ 39 rfl sltS V3.heap.size rfl HO.out hS2 (fN q 3) (fC q 3) (HQ3.out _ HS.out.old) HQl3.out HQo3.out (by unfold maxLen;omega) (by omega) ?_);intro v9 X1 ho1 hg1;rw[<-raw_fn p q 3 (by omega),<-raw_fc p q 3 (by omega)]at ho1;obtain⟨D3,m3,rfl,hr9⟩:=zlb ho1;clear hr9;have HO1:=z2g ho1;have HG1:=z2g hg1;have hb4:Below (B3+1) U3 X1:=(zac.of_own hg1 HO.out).below (by omega) (fun k hk=>by have:V3.heap.size<=k:=hk;omega);have f1:=(hb4.cell (p:=⟨B3,3,none⟩) (Nat.lt_succ_self B3)).trans f;have z1:=(hb4.frozen (p:=⟨B3,3,none⟩) (Nat.lt_succ_self B3)).trans z;clear ho1 hg1 hb4)
  refine zaf fun V4 hW=> ?_
  have HTb:Hid (zac (fun k=>k=B3) V3 V4):=by show zac _ _ _;rw[hW];exact HTa.out.past (z2m _) (zac.setCell (pv:=fun i=>V3.heap.size<=i\/i=B3) (p:=⟨B3,3,none⟩) ((zac.of_own HG1.out HO.out).mono (fun _ h=> .inl h)) (.inr (.inr rfl)) _)
  have HSn:Hid (BtS w W0 B3 [(.slice D0 (fN (rawB p q) 0) m0),(.slice D1 (fN (rawB p q) 1) m1),(.slice D2 (fN (rawB p q) 2) m2),(.slice D3 (fN (rawB p q) 3) m3),.slice none 0 0,.slice none 0 0,.bool (rawB p q).rel,.int .i64 (rawB p q).depth,.int .i64 (rawB p q).name,.int .i64 (rawB p q).value] V4):=by show BtS _ _ _ _ _;rw[hW];exact HS.out.step (j:=3) (.slice D3 (fN (rawB p q) 3) m3) hs3 hwB3 (zac.of_own HG1.out HO.out)
  have HR3:Hid (Rx V4 (fun k=>k=B3) (.slice D3 (fN (rawB p q) 3) m3) (fN (rawB p q) 3) 1 (fC (rawB p q) 3)):=by show Rx _ _ _ _ _ _;rw[hW];exact(Rx.ofOwn HO1.out (fun k hk he=>by have e:k=B3:=he;have h8:=own_geq HO1.out hk;omega)).turned ((zac.refl (fun k=>k=B3) X1).setCell (p:=⟨B3,3,none⟩) (.inr rfl) (.slice D3 (fN (rawB p q) 3) m3))
  have HR0:=z2g (HR0.out.turned HTb.out)
  have HR1:=z2g (HR1.out.turned HTb.out)
  have HR2:=z2g (HR2.out.turned HTb.out)
  clear hW HO HO1 HG1 HS f c z hs hs3 hS2 f1 z1 X1 HTa HTb HSz HSy HP3 HQ3 HPl3 HQl3 HPo3 HQo3 nb3 mb3
  have HS:=HSn
  clear HSn
  have f:=HS.out.out 4 (.slice none 0 0) rfl
  have c:=(HS.out.box.cell (p:=⟨B,4,none⟩) hBl).trans c4
  have z:=HS.out.fz 4
  have hs:=HS.out.size
  have HO:Hid (V4.ownsRow V4.heap.size 80 2 (.slice none 0 0) 0 []):=World.ownsRow_nil _ _ _ _
  go_upto_region 11 with(at_builtin;go_loud(refine zas rfl _ _ 40 rfl sltA V4.heap.size rfl HO.out (z2m _) (fN p 4) (fC p 4) (HP4.out _ HS.out.old) HPl4.out HPo4.out (by unfold maxLen;omega) (by omega) ?_);intro v9 X1 ho1 hg1;rw[Nat.zero_add,z3r]at ho1;obtain⟨a4h,d4h,rfl,hr9⟩:=zlb ho1;clear hr9;have HO1:=z2g ho1;have HG1:=z2g hg1;have hb4:Below (B3+1) V4 X1:=(zac.of_own hg1 HO.out).below (by omega) (fun k hk=>by have:V4.heap.size<=k:=hk;omega);have f1:=(hb4.cell (p:=⟨B3,4,none⟩) (Nat.lt_succ_self B3)).trans f;have z1:=(hb4.frozen (p:=⟨B3,4,none⟩) (Nat.lt_succ_self B3)).trans z;clear ho1 hg1 hb4)
  refine zaf fun U4 hW=> ?_
  have HTa:Hid (zac (fun k=>k=B3) V4 U4):=by show zac _ _ _;rw[hW];exact zac.setCell (pv:=fun k=>k=B3) (p:=⟨B3,4,none⟩) (zac.of_below ((zac.of_own HG1.out HO.out).below (z2m _) (fun _ h=>h))) (.inr rfl) _
  have HSn:Hid (BtS w W0 B3 [(.slice D0 (fN (rawB p q) 0) m0),(.slice D1 (fN (rawB p q) 1) m1),(.slice D2 (fN (rawB p q) 2) m2),(.slice D3 (fN (rawB p q) 3) m3),(.slice a4h (fN p 4) d4h),.slice none 0 0,.bool (rawB p q).rel,.int .i64 (rawB p q).depth,.int .i64 (rawB p q).name,.int .i64 (rawB p q).value] U4):=by show BtS _ _ _ _ _;rw[hW];exact HS.out.step (j:=4) (.slice a4h (fN p 4) d4h) hs hwB3 (zac.of_own HG1.out HO.out)
  have HOn:Hid (U4.ownsRow V4.heap.size 80 2 (.slice a4h (fN p 4) d4h) (fN p 4) (fC p 4)):=by show World.ownsRow _ _ _ _ _ _ _;rw[hW];have h9:=((zac.refl (fun k=>k=B3) X1).setCell (p:=⟨B3,4,none⟩) (.inr rfl) (.slice a4h (fN p 4) d4h)).own HO1.out (fun k hk=>by have:k=B3:=hk;omega);exact h9
  have HSz:Hid (V4.heap.size<=U4.heap.size/\B3<V4.heap.size):=⟨HTa.out.size,hs⟩
  clear hW HO HO1 HG1 HS f c z hs f1 z1 X1
  have HS:=HSn
  have HO:=HOn
  clear HSn HOn
  have HSy:=HSz
  clear HSz
  have HSz:=z2g HSy.out.1
  have f:=HS.out.out 4 ((.slice a4h (fN p 4) d4h)) rfl
  have c:=(HS.out.box.cell (p:=⟨B+1,4,none⟩) hBl1).trans d4
  have z:=HS.out.fz 4
  have hs:=HS.out.size
  have hS2:V4.heap.size<=U4.heap.size:=HSz.out
  have hs3:=HSy.out.2
  go_upto_region 12 with(at_builtin;go_loud(refine zas rfl _ _ 40 rfl sltA V4.heap.size rfl HO.out hS2 (fN q 4) (fC q 4) (HQ4.out _ HS.out.old) HQl4.out HQo4.out (by unfold maxLen;omega) (by omega) ?_);intro v9 X1 ho1 hg1;rw[<-raw_fn p q 4 (by omega),<-raw_fc p q 4 (by omega)]at ho1;obtain⟨D4,m4,rfl,hr9⟩:=zlb ho1;clear hr9;have HO1:=z2g ho1;have HG1:=z2g hg1;have hb4:Below (B3+1) U4 X1:=(zac.of_own hg1 HO.out).below (by omega) (fun k hk=>by have:V4.heap.size<=k:=hk;omega);have f1:=(hb4.cell (p:=⟨B3,4,none⟩) (Nat.lt_succ_self B3)).trans f;have z1:=(hb4.frozen (p:=⟨B3,4,none⟩) (Nat.lt_succ_self B3)).trans z;clear ho1 hg1 hb4)
  refine zaf fun V5 hW=> ?_
  have HTb:Hid (zac (fun k=>k=B3) V4 V5):=by show zac _ _ _;rw[hW];exact HTa.out.past (z2m _) (zac.setCell (pv:=fun i=>V4.heap.size<=i\/i=B3) (p:=⟨B3,4,none⟩) ((zac.of_own HG1.out HO.out).mono (fun _ h=> .inl h)) (.inr (.inr rfl)) _)
  have HSn:Hid (BtS w W0 B3 [(.slice D0 (fN (rawB p q) 0) m0),(.slice D1 (fN (rawB p q) 1) m1),(.slice D2 (fN (rawB p q) 2) m2),(.slice D3 (fN (rawB p q) 3) m3),(.slice D4 (fN (rawB p q) 4) m4),.slice none 0 0,.bool (rawB p q).rel,.int .i64 (rawB p q).depth,.int .i64 (rawB p q).name,.int .i64 (rawB p q).value] V5):=by show BtS _ _ _ _ _;rw[hW];exact HS.out.step (j:=4) (.slice D4 (fN (rawB p q) 4) m4) hs3 hwB3 (zac.of_own HG1.out HO.out)
  have HR4:Hid (Rx V5 (fun k=>k=B3) (.slice D4 (fN (rawB p q) 4) m4) (fN (rawB p q) 4) 2 (fC (rawB p q) 4)):=by show Rx _ _ _ _ _ _;rw[hW];exact(Rx.ofOwn HO1.out (fun k hk he=>by have e:k=B3:=he;have h8:=own_geq HO1.out hk;omega)).turned ((zac.refl (fun k=>k=B3) X1).setCell (p:=⟨B3,4,none⟩) (.inr rfl) (.slice D4 (fN (rawB p q) 4) m4))
  have HR0:=z2g (HR0.out.turned HTb.out)
  have HR1:=z2g (HR1.out.turned HTb.out)
  have HR2:=z2g (HR2.out.turned HTb.out)
  have HR3:=z2g (HR3.out.turned HTb.out)
  clear hW HO HO1 HG1 HS f c z hs hs3 hS2 f1 z1 X1 HTa HTb HSz HSy HP4 HQ4 HPl4 HQl4 HPo4 HQo4 nb4 mb4
  have HS:=HSn
  clear HSn
  have f:=HS.out.out 5 (.slice none 0 0) rfl
  have c:=(HS.out.box.cell (p:=⟨B,5,none⟩) hBl).trans c5
  have z:=HS.out.fz 5
  have hs:=HS.out.size
  have HO:Hid (V5.ownsRow V5.heap.size 72 3 (.slice none 0 0) 0 []):=World.ownsRow_nil _ _ _ _
  go_upto_region 13 with(at_builtin;go_loud(refine zas rfl _ _ 41 rfl sltF V5.heap.size rfl HO.out (z2m _) (fN p 5) (fC p 5) (HP5.out _ HS.out.old) HPl5.out HPo5.out (by unfold maxLen;omega) (by omega) ?_);intro v9 X1 ho1 hg1;rw[Nat.zero_add,z3r]at ho1;obtain⟨a5h,d5h,rfl,hr9⟩:=zlb ho1;clear hr9;have HO1:=z2g ho1;have HG1:=z2g hg1;have hb4:Below (B3+1) V5 X1:=(zac.of_own hg1 HO.out).below (by omega) (fun k hk=>by have:V5.heap.size<=k:=hk;omega);have f1:=(hb4.cell (p:=⟨B3,5,none⟩) (Nat.lt_succ_self B3)).trans f;have z1:=(hb4.frozen (p:=⟨B3,5,none⟩) (Nat.lt_succ_self B3)).trans z;clear ho1 hg1 hb4)
  refine zaf fun U5 hW=> ?_
  have HTa:Hid (zac (fun k=>k=B3) V5 U5):=by show zac _ _ _;rw[hW];exact zac.setCell (pv:=fun k=>k=B3) (p:=⟨B3,5,none⟩) (zac.of_below ((zac.of_own HG1.out HO.out).below (z2m _) (fun _ h=>h))) (.inr rfl) _
  have HSn:Hid (BtS w W0 B3 [(.slice D0 (fN (rawB p q) 0) m0),(.slice D1 (fN (rawB p q) 1) m1),(.slice D2 (fN (rawB p q) 2) m2),(.slice D3 (fN (rawB p q) 3) m3),(.slice D4 (fN (rawB p q) 4) m4),(.slice a5h (fN p 5) d5h),.bool (rawB p q).rel,.int .i64 (rawB p q).depth,.int .i64 (rawB p q).name,.int .i64 (rawB p q).value] U5):=by show BtS _ _ _ _ _;rw[hW];exact HS.out.step (j:=5) (.slice a5h (fN p 5) d5h) hs hwB3 (zac.of_own HG1.out HO.out)
  have HOn:Hid (U5.ownsRow V5.heap.size 72 3 (.slice a5h (fN p 5) d5h) (fN p 5) (fC p 5)):=by show World.ownsRow _ _ _ _ _ _ _;rw[hW];have h9:=((zac.refl (fun k=>k=B3) X1).setCell (p:=⟨B3,5,none⟩) (.inr rfl) (.slice a5h (fN p 5) d5h)).own HO1.out (fun k hk=>by have:k=B3:=hk;omega);exact h9
  have HSz:Hid (V5.heap.size<=U5.heap.size/\B3<V5.heap.size):=⟨HTa.out.size,hs⟩
  clear hW HO HO1 HG1 HS f c z hs f1 z1 X1
  have HS:=HSn
  have HO:=HOn
  clear HSn HOn
  have HSy:=HSz
  clear HSz
  have HSz:=z2g HSy.out.1
  have f:=HS.out.out 5 ((.slice a5h (fN p 5) d5h)) rfl
  have c:=(HS.out.box.cell (p:=⟨B+1,5,none⟩) hBl1).trans d5
  have z:=HS.out.fz 5
  have hs:=HS.out.size
  have hS2:V5.heap.size<=U5.heap.size:=HSz.out
  have hs3:=HSy.out.2
  go_upto_region 14 with(at_builtin;go_loud(refine zas rfl _ _ 41 rfl sltF V5.heap.size rfl HO.out hS2 (fN q 5) (fC q 5) (HQ5.out _ HS.out.old) HQl5.out HQo5.out (by unfold maxLen;omega) (by omega) ?_);intro v9 X1 ho1 hg1;rw[<-raw_fn p q 5 (by omega),<-raw_fc p q 5 (by omega)]at ho1;obtain⟨D5,m5,rfl,hr9⟩:=zlb ho1;clear hr9;have HO1:=z2g ho1;have HG1:=z2g hg1;have hb4:Below (B3+1) U5 X1:=(zac.of_own hg1 HO.out).below (by omega) (fun k hk=>by have:V5.heap.size<=k:=hk;omega);have f1:=(hb4.cell (p:=⟨B3,5,none⟩) (Nat.lt_succ_self B3)).trans f;have z1:=(hb4.frozen (p:=⟨B3,5,none⟩) (Nat.lt_succ_self B3)).trans z;clear ho1 hg1 hb4)
  refine zaf fun V6 hW=> ?_
  have HTb:Hid (zac (fun k=>k=B3) V5 V6):=by show zac _ _ _;rw[hW];exact HTa.out.past (z2m _) (zac.setCell (pv:=fun i=>V5.heap.size<=i\/i=B3) (p:=⟨B3,5,none⟩) ((zac.of_own HG1.out HO.out).mono (fun _ h=> .inl h)) (.inr (.inr rfl)) _)
  have HSn:Hid (BtS w W0 B3 [(.slice D0 (fN (rawB p q) 0) m0),(.slice D1 (fN (rawB p q) 1) m1),(.slice D2 (fN (rawB p q) 2) m2),(.slice D3 (fN (rawB p q) 3) m3),(.slice D4 (fN (rawB p q) 4) m4),(.slice D5 (fN (rawB p q) 5) m5),.bool (rawB p q).rel,.int .i64 (rawB p q).depth,.int .i64 (rawB p q).name,.int .i64 (rawB p q).value] V6):=by show BtS _ _ _ _ _;rw[hW];exact HS.out.step (j:=5) (.slice D5 (fN (rawB p q) 5) m5) hs3 hwB3 (zac.of_own HG1.out HO.out)
  have HR5:Hid (Rx V6 (fun k=>k=B3) (.slice D5 (fN (rawB p q) 5) m5) (fN (rawB p q) 5) 3 (fC (rawB p q) 5)):=by show Rx _ _ _ _ _ _;rw[hW];exact(Rx.ofOwn HO1.out (fun k hk he=>by have e:k=B3:=he;have h8:=own_geq HO1.out hk;omega)).turned ((zac.refl (fun k=>k=B3) X1).setCell (p:=⟨B3,5,none⟩) (.inr rfl) (.slice D5 (fN (rawB p q) 5) m5))
  have HR0:=z2g (HR0.out.turned HTb.out)
  have HR1:=z2g (HR1.out.turned HTb.out)
  have HR2:=z2g (HR2.out.turned HTb.out)
  have HR3:=z2g (HR3.out.turned HTb.out)
  have HR4:=z2g (HR4.out.turned HTb.out)
  clear hW HO HO1 HG1 HS f c z hs hs3 hS2 f1 z1 X1 HTa HTb HSz HSy HP5 HQ5 HPl5 HQl5 HPo5 HQo5 nb5 mb5
  have HS:=HSn
  clear HSn
  obtain⟨_,_,e,w0⟩:=HR0.out
  cases e
  obtain⟨_,_,e,w1⟩:=HR1.out
  cases e
  obtain⟨_,_,e,w2⟩:=HR2.out
  cases e
  obtain⟨_,_,e,w3⟩:=HR3.out
  cases e
  obtain⟨_,_,e,w4⟩:=HR4.out
  cases e
  obtain⟨_,_,e,w5⟩:=HR5.out
  cases e
  have f0:=HS.out.out 0 (.slice D0 (fN (rawB p q) 0) m0) rfl
  have f1:=HS.out.out 1 (.slice D1 (fN (rawB p q) 1) m1) rfl
  have f2:=HS.out.out 2 (.slice D2 (fN (rawB p q) 2) m2) rfl
  have f3:=HS.out.out 3 (.slice D3 (fN (rawB p q) 3) m3) rfl
  have f4:=HS.out.out 4 (.slice D4 (fN (rawB p q) 4) m4) rfl
  have f5:=HS.out.out 5 (.slice D5 (fN (rawB p q) 5) m5) rfl
  have f6:=HS.out.out 6 (.bool (rawB p q).rel) rfl
  have f7:=HS.out.out 7 (.int .i64 (rawB p q).depth) rfl
  have f8:=HS.out.out 8 (.int .i64 (rawB p q).name) rfl
  have f9:=HS.out.out 9 (.int .i64 (rawB p q).value) rfl
  have hs:=HS.out.size
  have HPv:Hid (PolV V6 (fun _=>False) (.agg #[.slice D0 (fN (rawB p q) 0) m0,.slice D1 (fN (rawB p q) 1) m1,.slice D2 (fN (rawB p q) 2) m2,.slice D3 (fN (rawB p q) 3) m3,.slice D4 (fN (rawB p q) 4) m4,.slice D5 (fN (rawB p q) 5) m5,.bool (rawB p q).rel,.int .i64 (rawB p q).depth,.int .i64 (rawB p q).name,.int .i64 (rawB p q).value]) (rawB p q)):=⟨_,_,_,_,_,_,rfl,Rx.mono ⟨D0,m0,rfl,w0⟩ (fun _ _ h=>h.elim),Rx.mono ⟨D1,m1,rfl,w1⟩ (fun _ _ h=>h.elim),Rx.mono ⟨D2,m2,rfl,w2⟩ (fun _ _ h=>h.elim),Rx.mono ⟨D3,m3,rfl,w3⟩ (fun _ _ h=>h.elim),Rx.mono ⟨D4,m4,rfl,w4⟩ (fun _ _ h=>h.elim),Rx.mono ⟨D5,m5,rfl,w5⟩ (fun _ _ h=>h.elim)⟩
  have HBt:=z2g HS.out.old
  have HBy:Hid (V6.heap[B2]? =_):=(HS.out.box.block B2 hBl2).trans HBx.out
  have hBl3:B2<V6.heap.size:=by omega
  clear w0 HR0 w1 HR1 w2 HR2 w3 HR3 w4 HR4 w5 HR5 HS HRaw HBx HB0 c0 d0 c1 d1 c2 d2 c3 d3 c4 d4 c5 d5 c6 d6 c7 d7 c8 d8 c9 d9
  go_wp2_with(go_at_call 77;(with_reducible refine(HNt.out _ _ HPv.out).mono ?_);rintro e W9 ⟨v9,rfl,hb9,hp9⟩;have HN9:=z2g hp9;obtain⟨n0,n1,n2,n3,n4,n5,rfl,⟨E0,o0,rfl,w0⟩,⟨E1,o1,rfl,w1⟩,⟨E2,o2,rfl,w2⟩,⟨E3,o3,rfl,w3⟩,⟨E4,o4,rfl,w4⟩,⟨E5,o5,rfl,w5⟩⟩:=hp9;have HB9:=z2g hb9;have HBz:Hid (W9.heap[B2]? =_):=(hb9.block B2 hBl3).trans HBy.out;have hBl9:B2<W9.heap.size:=z2h hBl3 hb9.size;have z0:W9.cell? ⟨B2,0,none⟩=some (.slice none 0 0):=(by simp[World.cell?,HBz.out]);have z1:W9.cell? ⟨B2,1,none⟩=some (.slice none 0 0):=(by simp[World.cell?,HBz.out]);have z2:W9.cell? ⟨B2,2,none⟩=some (.slice none 0 0):=(by simp[World.cell?,HBz.out]);have z3:W9.cell? ⟨B2,3,none⟩=some (.slice none 0 0):=(by simp[World.cell?,HBz.out]);have z4:W9.cell? ⟨B2,4,none⟩=some (.slice none 0 0):=(by simp[World.cell?,HBz.out]);have z5:W9.cell? ⟨B2,5,none⟩=some (.slice none 0 0):=(by simp[World.cell?,HBz.out]);have z6:W9.cell? ⟨B2,6,none⟩=some (.bool false):=(by simp[World.cell?,HBz.out]);have z7:W9.cell? ⟨B2,7,none⟩=some (.int .i64 0):=(by simp[World.cell?,HBz.out]);have z8:W9.cell? ⟨B2,8,none⟩=some (.int .i64 0):=(by simp[World.cell?,HBz.out]);have z9:W9.cell? ⟨B2,9,none⟩=some (.int .i64 0):=(by simp[World.cell?,HBz.out]);have y0:W9.frozen? ⟨B2,0,none⟩=false:=(by simp[World.frozen?,HBz.out]);have y1:W9.frozen? ⟨B2,1,none⟩=false:=(by simp[World.frozen?,HBz.out]);have y2:W9.frozen? ⟨B2,2,none⟩=false:=(by simp[World.frozen?,HBz.out]);have y3:W9.frozen? ⟨B2,3,none⟩=false:=(by simp[World.frozen?,HBz.out]);have y4:W9.frozen? ⟨B2,4,none⟩=false:=(by simp[World.frozen?,HBz.out]);have y5:W9.frozen? ⟨B2,5,none⟩=false:=(by simp[World.frozen?,HBz.out]);have y6:W9.frozen? ⟨B2,6,none⟩=false:=(by simp[World.frozen?,HBz.out]);have y7:W9.frozen? ⟨B2,7,none⟩=false:=(by simp[World.frozen?,HBz.out]);have y8:W9.frozen? ⟨B2,8,none⟩=false:=(by simp[World.frozen?,HBz.out]);have y9:W9.frozen? ⟨B2,9,none⟩=false:=(by simp[World.frozen?,HBz.out]);clear hb9 w0 w1 w2 w3 w4 w5)
  ((try simp only[Exit.inBlock,Exit.then]);refine bodyPost_ret (v:= .agg #[.slice E0 (fN (zax (rawB p q)) 0) o0,.slice E1 (fN (zax (rawB p q)) 1) o1,.slice E2 (fN (zax (rawB p q)) 2) o2,.slice E3 (fN (zax (rawB p q)) 3) o3,.slice E4 (fN (zax (rawB p q)) 4) o4,.slice E5 (fN (zax (rawB p q)) 5) o5,.bool (zax (rawB p q)).rel,.int .i64 (zax (rawB p q)).depth,.int .i64 (zax (rawB p q)).name,.int .i64 (zax (rawB p q)).value]) (by(first|rw[results_cell_tmp rfl]|rw[zcd rfl]);go_simp) rfl ?_)
  have hbW:Below w.heap.size w W9:=HBt.out.trans (HB9.out.mono HBt.out.size)
  refine⟨_,rfl,hbW.trans ((bel:Below w.heap.size W9 _)), ?_⟩
  rw[HBo.out]
  exact((HN9.out.mono (bad':=fun k=>k=B2\/k<w.heap.size) (fun b _ h=>h.elim (fun h=>h ▸ hBl3) (fun h=>z2h h HBt.out.size))).turned tur).mono (fun _ _ h=> .inr h)
end Go.Proofs.YtbhhgbgfaemfdaaGreatDoor

