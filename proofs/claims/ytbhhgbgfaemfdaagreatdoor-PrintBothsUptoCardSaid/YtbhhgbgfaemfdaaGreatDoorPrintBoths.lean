/- Any two policies together, and whether the one is within the other one, are what the document says: PrintBoths returns true. Condition: what comes in is of bulk at most 1048576 (the statement's own second form). -/
import Derived.ProofKit
import Derived.ChangeSame
import Derived.ChangeAt
import Derived.SizedLaws
import Derived.OpenShut
import Derived.ShutString
import Derived.ChangeOld
import Derived.JoinedCond
import Derived.BigRegion
import Derived.Test.YtbhhgbgfaemfdaaGreatDoorRows
import Derived.Test.YtbhhgbgfaemfdaaGreatDoorCards
import Derived.Test.YtbhhgbgfaemfdaaGreatDoorTie
import Derived.Test.YtbhhgbgfaemfdaaGreatDoorPrwJ
import Derived.Test.YtbhhgbgfaemfdaaGreatDoorPrwH
import Derived.Test.YtbhhgbgfaemfdaaGreatDoorPrxE
import Derived.Test.YtbhhgbgfaemfdaaGreatDoorPrxB
import Derived.Test.YtbhhgbgfaemfdaaGreatDoorRiE
import Derived.Test.YtbhhgbgfaemfdaaGreatDoorRG
namespace Go.Proofs.YtbhhgbgfaemfdaaGreatDoor.printBoths
open Lib renaming hid→z2g
open List renaming length_append→z2i,setIfInBounds_toArray→z2d,set_cons_succ→z2f,set_cons_zero→z2e
set_option maxRecDepth 100000
set_option maxHeartbeats 16000000
open Go.ChangeShapes Go.WideShapes Go.ChangeAt Go.RowKit
open Go.ChangeMaps (open_string shut_string)
theorem own:ownKnob Tryz.prog.godebug=none:=by kernel_rfl
theorem laidOut:laidOutB Tryz.prog=true:=by kernel_rfl
attribute [local go_sem] Oper.semAt_some
theorem raw_sm {p q:Pol} (hp:zdz p 1048576) (hq:zdz q 1048576):zdi (rawB p q):=by
 have h: ∀a b:Nat,a<=1048576->b<=1048576->a+b<=100000000:=fun _ _ _ _=>by omega
 exact⟨by show(p.tags++q.tags).length<=_;rw[z2i];exact h _ _ (hp.rows 0 (by omega)) (hq.rows 0 (by omega)),by show(p.schemes++q.schemes).length<=_;rw[z2i];exact h _ _ (hp.rows 1 (by omega)) (hq.rows 1 (by omega)),by show(p.css++q.css).length<=_;rw[z2i];exact h _ _ (hp.rows 2 (by omega)) (hq.rows 2 (by omega)),by show(p.drops++q.drops).length<=_;rw[z2i];exact h _ _ (hp.rows 3 (by omega)) (hq.rows 3 (by omega)),by show(p.attrs++q.attrs).length<=_;rw[z2i];exact h _ _ (hp.rows 4 (by omega)) (hq.rows 4 (by omega)),by show(p.forces++q.forces).length<=_;rw[z2i];exact h _ _ (hp.rows 5 (by omega)) (hq.rows 5 (by omega))⟩
theorem both_sm {p q:Pol} (h:zdi (rawB p q)):zdi (zep p q):=h.neat
theorem walk (vp:Value) (p:Pol) (vq:Value) (q:Pol) (w:World) (hT:Ten w) (h0:PolV w (fun _=>False) vp p) (b0:zdz p 1048576) (h1:PolV w (fun _=>False) vq q) (b1:zdz q 1048576):Calls Tryz.prog 11 #[vp,vq] w (Ret (.bool true) w):=by
 have hmx:Tryz.prog.follows .mixedOrders=true:=by kernel_rfl
 have HTn:=z2g hT
 have HV0:=z2g h0
 have HK0:=z2g b0
 have HF0:=z2g (fun W (hb:Below w.heap.size w W)=>zmb vp p W (h0.below hb) b0)
 have HV1:=z2g h1
 have HK1:=z2g b1
 have HF1:=z2g (fun W (hb:Below w.heap.size w W)=>zmb vq q W (h1.below hb) b1)
 obtain⟨v0,v1,v2,v3,v4,v5,rfl,⟨A0,k0,rfl,_⟩,⟨A1,k1,rfl,_⟩,⟨A2,k2,rfl,_⟩,⟨A3,k3,rfl,_⟩,⟨A4,k4,rfl,_⟩,⟨A5,k5,rfl,_⟩⟩:=h0
 obtain⟨v0,v1,v2,v3,v4,v5,rfl,⟨C0,j0,rfl,_⟩,⟨C1,j1,rfl,_⟩,⟨C2,j2,rfl,_⟩,⟨C3,j3,rfl,_⟩,⟨C4,j4,rfl,_⟩,⟨C5,j5,rfl,_⟩⟩:=h1
 have HAw:=z2g (fun W (hb:Below w.heap.size w W)=>zkc W (hT.below hb))
 clear hT b0 b1
 obtain⟨f0,hf0⟩: ∃f,fewP p=f:=⟨_,rfl⟩
 rw[hf0]at HF0
 clear hf0
 obtain⟨f1,hf1⟩: ∃f,fewP q=f:=⟨_,rfl⟩
 rw[hf1]at HF1
 clear hf1
 go_enter Tryz.func11,Tryz.ntmps11
 go_upto_region 1 with fail
 refine zaf fun W0 hW0=> ?_
 obtain⟨B,hB⟩: ∃B,w.heap.size=B:=⟨_,rfl⟩
 have hb0:Below w.heap.size w W0:=by rw[hW0];exact bel
 have c0:W0.cell? ⟨B,0,none⟩=some (.slice A0 (fN p 0) k0):=by rw[hW0,<-hB];simp[go_sem]
 have c1:W0.cell? ⟨B,1,none⟩=some (.slice A1 (fN p 1) k1):=by rw[hW0,<-hB];simp[go_sem]
 have c2:W0.cell? ⟨B,2,none⟩=some (.slice A2 (fN p 2) k2):=by rw[hW0,<-hB];simp[go_sem]
 have c3:W0.cell? ⟨B,3,none⟩=some (.slice A3 (fN p 3) k3):=by rw[hW0,<-hB];simp[go_sem]
 have c4:W0.cell? ⟨B,4,none⟩=some (.slice A4 (fN p 4) k4):=by rw[hW0,<-hB];simp[go_sem]
 have c5:W0.cell? ⟨B,5,none⟩=some (.slice A5 (fN p 5) k5):=by rw[hW0,<-hB];simp[go_sem]
 have c6:W0.cell? ⟨B,6,none⟩=some (.bool p.rel):=by rw[hW0,<-hB];simp[go_sem]
 have c7:W0.cell? ⟨B,7,none⟩=some (.int .i64 p.depth):=by rw[hW0,<-hB];simp[go_sem]
 have c8:W0.cell? ⟨B,8,none⟩=some (.int .i64 p.name):=by rw[hW0,<-hB];simp[go_sem]
 have c9:W0.cell? ⟨B,9,none⟩=some (.int .i64 p.value):=by rw[hW0,<-hB];simp[go_sem]
 have d0:W0.cell? ⟨B+1,0,none⟩=some (.slice C0 (fN q 0) j0):=by rw[hW0,<-hB];simp[go_sem]
 have d1:W0.cell? ⟨B+1,1,none⟩=some (.slice C1 (fN q 1) j1):=by rw[hW0,<-hB];simp[go_sem]
 have d2:W0.cell? ⟨B+1,2,none⟩=some (.slice C2 (fN q 2) j2):=by rw[hW0,<-hB];simp[go_sem]
 have d3:W0.cell? ⟨B+1,3,none⟩=some (.slice C3 (fN q 3) j3):=by rw[hW0,<-hB];simp[go_sem]
 have d4:W0.cell? ⟨B+1,4,none⟩=some (.slice C4 (fN q 4) j4):=by rw[hW0,<-hB];simp[go_sem]
 have d5:W0.cell? ⟨B+1,5,none⟩=some (.slice C5 (fN q 5) j5):=by rw[hW0,<-hB];simp[go_sem]
 have d6:W0.cell? ⟨B+1,6,none⟩=some (.bool q.rel):=by rw[hW0,<-hB];simp[go_sem]
 have d7:W0.cell? ⟨B+1,7,none⟩=some (.int .i64 q.depth):=by rw[hW0,<-hB];simp[go_sem]
 have d8:W0.cell? ⟨B+1,8,none⟩=some (.int .i64 q.name):=by rw[hW0,<-hB];simp[go_sem]
 have d9:W0.cell? ⟨B+1,9,none⟩=some (.int .i64 q.value):=by rw[hW0,<-hB];simp[go_sem]
 have hBl:B+1<W0.heap.size:=by rw[hW0,<-hB];simp
 have HB0:=z2g hb0
 rw[hB]
 clear hW0 hb0 hB
 have HG0:=z2g (fun W (hb:Below W0.heap.size W0 W)=>HB0.out.trans (hb.mono HB0.out.size))
 go_upto_region 4 with(first
  |(go_at_call 29;(with_reducible refine(Ret.flat (HAw.out _ (HG0.out _ bel))).mono ?_);rintro e V0 ⟨rfl,Y0,rfl⟩)
  |(go_at_call 29;(with_reducible refine(HAw.out _ (HG0.out _ bel)).mono ?_);rintro e V0 ⟨rfl,Y0,rfl⟩)
  |(go_at_call 30;(with_reducible refine(Ret.flat (HF0.out _ (HG0.out _ bel))).mono ?_);rintro e V1 ⟨rfl,Y1,rfl⟩)
  |(go_at_call 30;(with_reducible refine(HF0.out _ (HG0.out _ bel)).mono ?_);rintro e V1 ⟨rfl,Y1,rfl⟩)
  |(go_at_call 30;(with_reducible refine(Ret.flat (HF1.out _ (HG0.out _ bel))).mono ?_);rintro e V2 ⟨rfl,Y2,rfl⟩)
  |(go_at_call 30;(with_reducible refine(HF1.out _ (HG0.out _ bel)).mono ?_);rintro e V2 ⟨rfl,Y2,rfl⟩))
 refine zaf fun V0 hV0=> ?_
 have hv0:Below W0.heap.size W0 V0:=by rw[hV0];exact bel
 have HBv:=z2g (HB0.out.trans (hv0.mono HB0.out.size))
 have hBv:B+1<V0.heap.size:=Nat.lt_of_lt_of_le hBl hv0.size
 clear hV0
 have x0:=(hv0.cell (p:=⟨B,0,none⟩) (show B<W0.heap.size by omega)).trans c0
 have x1:=(hv0.cell (p:=⟨B,1,none⟩) (show B<W0.heap.size by omega)).trans c1
 have x2:=(hv0.cell (p:=⟨B,2,none⟩) (show B<W0.heap.size by omega)).trans c2
 have x3:=(hv0.cell (p:=⟨B,3,none⟩) (show B<W0.heap.size by omega)).trans c3
 have x4:=(hv0.cell (p:=⟨B,4,none⟩) (show B<W0.heap.size by omega)).trans c4
 have x5:=(hv0.cell (p:=⟨B,5,none⟩) (show B<W0.heap.size by omega)).trans c5
 have x6:=(hv0.cell (p:=⟨B,6,none⟩) (show B<W0.heap.size by omega)).trans c6
 have x7:=(hv0.cell (p:=⟨B,7,none⟩) (show B<W0.heap.size by omega)).trans c7
 have x8:=(hv0.cell (p:=⟨B,8,none⟩) (show B<W0.heap.size by omega)).trans c8
 have x9:=(hv0.cell (p:=⟨B,9,none⟩) (show B<W0.heap.size by omega)).trans c9
 have y0:=(hv0.cell (p:=⟨B+1,0,none⟩) (show B+1<W0.heap.size by omega)).trans d0
 have y1:=(hv0.cell (p:=⟨B+1,1,none⟩) (show B+1<W0.heap.size by omega)).trans d1
 have y2:=(hv0.cell (p:=⟨B+1,2,none⟩) (show B+1<W0.heap.size by omega)).trans d2
 have y3:=(hv0.cell (p:=⟨B+1,3,none⟩) (show B+1<W0.heap.size by omega)).trans d3
 have y4:=(hv0.cell (p:=⟨B+1,4,none⟩) (show B+1<W0.heap.size by omega)).trans d4
 have y5:=(hv0.cell (p:=⟨B+1,5,none⟩) (show B+1<W0.heap.size by omega)).trans d5
 have y6:=(hv0.cell (p:=⟨B+1,6,none⟩) (show B+1<W0.heap.size by omega)).trans d6
 have y7:=(hv0.cell (p:=⟨B+1,7,none⟩) (show B+1<W0.heap.size by omega)).trans d7
 have y8:=(hv0.cell (p:=⟨B+1,8,none⟩) (show B+1<W0.heap.size by omega)).trans d8
 have y9:=(hv0.cell (p:=⟨B+1,9,none⟩) (show B+1<W0.heap.size by omega)).trans d9
 clear hv0 c0 c1 c2 c3 c4 c5 c6 c7 c8 c9 d0 d1 d2 d3 d4 d5 d6 d7 d8 d9
 have HG1:=z2g (fun W (hb:Below V0.heap.size V0 W)=>HBv.out.trans (hb.mono HBv.out.size))
 cases hff:(f0&&f1)
 case false=>
  cases f0<;>cases f1<;>try(exfalso;revert hff;decide)
  all_goals
   clear hff
   go_wp2_with fail
   go_ret
   exact Ret.of rfl (HBv.out.trans ((bel:Below V0.heap.size V0 _).mono HBv.out.size))
 obtain rfl:f0=true:=by cases f0<;>simp_all
 obtain rfl:f1=true:=by cases f1<;>simp_all
 clear hff
 have HSp:=z2g HK0.out.sm
 have HSq:=z2g HK1.out.sm
 have HRpq:Hid (zdi (rawB p q)):=raw_sm HK0.out HK1.out
 have hB0:B<V0.heap.size:=by omega
 have hS0:Below V0.heap.size V0 V0.drew:=bel
 go_upto_region 6 with fail
 refine zai 7 [(0,true),(1,true),(3,true),(4,true),(2,false),(5,false),(6,false)] (fun V=>Below V0.heap.size V0 V) hmx (by kernel_rfl) (by kernel_rfl) (by kernel_rfl) (by decide) rfl (fun c a d v w h=>by first|exact h|(obtain⟨x,y⟩:=(h:_/\_);cases d<;>exact⟨x,y⟩)) (by kernel_rfl) (by exact hS0) ?_
 refine zaa (v:=(.agg #[.slice A0 (fN p 0) k0,.slice A1 (fN p 1) k1,.slice A2 (fN p 2) k2,.slice A3 (fN p 3) k3,.slice A4 (fN p 4) k4,.slice A5 (fN p 5) k5,.bool p.rel,.int .i64 p.depth,.int .i64 p.name,.int .i64 p.value])) 25 rfl rfl rfl (fun W hW=>by have d0:=(hW.cell (p:=⟨B,0,none⟩) hB0).trans x0;have d1:=(hW.cell (p:=⟨B,1,none⟩) hB0).trans x1;have d2:=(hW.cell (p:=⟨B,2,none⟩) hB0).trans x2;have d3:=(hW.cell (p:=⟨B,3,none⟩) hB0).trans x3;have d4:=(hW.cell (p:=⟨B,4,none⟩) hB0).trans x4;have d5:=(hW.cell (p:=⟨B,5,none⟩) hB0).trans x5;have d6:=(hW.cell (p:=⟨B,6,none⟩) hB0).trans x6;have d7:=(hW.cell (p:=⟨B,7,none⟩) hB0).trans x7;have d8:=(hW.cell (p:=⟨B,8,none⟩) hB0).trans x8;have d9:=(hW.cell (p:=⟨B,9,none⟩) hB0).trans x9;simp[execOp,go_sem,d0,d1,d2,d3,d4,d5,d6,d7,d8,d9]) ?_
 simp only[Act.put,z2d,z2f,z2e]
 refine zaa (v:=(.agg #[.slice C0 (fN q 0) j0,.slice C1 (fN q 1) j1,.slice C2 (fN q 2) j2,.slice C3 (fN q 3) j3,.slice C4 (fN q 4) j4,.slice C5 (fN q 5) j5,.bool q.rel,.int .i64 q.depth,.int .i64 q.name,.int .i64 q.value])) 26 rfl rfl rfl (fun W hW=>by have d0:=(hW.cell (p:=⟨B+1,0,none⟩) hBv).trans y0;have d1:=(hW.cell (p:=⟨B+1,1,none⟩) hBv).trans y1;have d2:=(hW.cell (p:=⟨B+1,2,none⟩) hBv).trans y2;have d3:=(hW.cell (p:=⟨B+1,3,none⟩) hBv).trans y3;have d4:=(hW.cell (p:=⟨B+1,4,none⟩) hBv).trans y4;have d5:=(hW.cell (p:=⟨B+1,5,none⟩) hBv).trans y5;have d6:=(hW.cell (p:=⟨B+1,6,none⟩) hBv).trans y6;have d7:=(hW.cell (p:=⟨B+1,7,none⟩) hBv).trans y7;have d8:=(hW.cell (p:=⟨B+1,8,none⟩) hBv).trans y8;have d9:=(hW.cell (p:=⟨B+1,9,none⟩) hBv).trans y9;simp[execOp,go_sem,d0,d1,d2,d3,d4,d5,d6,d7,d8,d9]) ?_
 simp only[Act.put,z2d,z2f,z2e]
 refine zaa (v:=(.agg #[.slice A0 (fN p 0) k0,.slice A1 (fN p 1) k1,.slice A2 (fN p 2) k2,.slice A3 (fN p 3) k3,.slice A4 (fN p 4) k4,.slice A5 (fN p 5) k5,.bool p.rel,.int .i64 p.depth,.int .i64 p.name,.int .i64 p.value])) 28 rfl rfl rfl (fun W hW=>by have d0:=(hW.cell (p:=⟨B,0,none⟩) hB0).trans x0;have d1:=(hW.cell (p:=⟨B,1,none⟩) hB0).trans x1;have d2:=(hW.cell (p:=⟨B,2,none⟩) hB0).trans x2;have d3:=(hW.cell (p:=⟨B,3,none⟩) hB0).trans x3;have d4:=(hW.cell (p:=⟨B,4,none⟩) hB0).trans x4;have d5:=(hW.cell (p:=⟨B,5,none⟩) hB0).trans x5;have d6:=(hW.cell (p:=⟨B,6,none⟩) hB0).trans x6;have d7:=(hW.cell (p:=⟨B,7,none⟩) hB0).trans x7;have d8:=(hW.cell (p:=⟨B,8,none⟩) hB0).trans x8;have d9:=(hW.cell (p:=⟨B,9,none⟩) hB0).trans x9;simp[execOp,go_sem,d0,d1,d2,d3,d4,d5,d6,d7,d8,d9]) ?_
 simp only[Act.put,z2d,z2f,z2e]
 refine zaa (v:=(.agg #[.slice C0 (fN q 0) j0,.slice C1 (fN q 1) j1,.slice C2 (fN q 2) j2,.slice C3 (fN q 3) j3,.slice C4 (fN q 4) j4,.slice C5 (fN q 5) j5,.bool q.rel,.int .i64 q.depth,.int .i64 q.name,.int .i64 q.value])) 29 rfl rfl rfl (fun W hW=>by have d0:=(hW.cell (p:=⟨B+1,0,none⟩) hBv).trans y0;have d1:=(hW.cell (p:=⟨B+1,1,none⟩) hBv).trans y1;have d2:=(hW.cell (p:=⟨B+1,2,none⟩) hBv).trans y2;have d3:=(hW.cell (p:=⟨B+1,3,none⟩) hBv).trans y3;have d4:=(hW.cell (p:=⟨B+1,4,none⟩) hBv).trans y4;have d5:=(hW.cell (p:=⟨B+1,5,none⟩) hBv).trans y5;have d6:=(hW.cell (p:=⟨B+1,6,none⟩) hBv).trans y6;have d7:=(hW.cell (p:=⟨B+1,7,none⟩) hBv).trans y7;have d8:=(hW.cell (p:=⟨B+1,8,none⟩) hBv).trans y8;have d9:=(hW.cell (p:=⟨B+1,9,none⟩) hBv).trans y9;simp[execOp,go_sem,d0,d1,d2,d3,d4,d5,d6,d7,d8,d9]) ?_
 simp only[Act.put,z2d,z2f,z2e]
 refine zaj rfl rfl fun Kc hKc=> ?_
 unfold Oper.wp
 simp[execOp,go_sem]
 refine(both_any _ _ p q _ (HV0.out.below (HG1.out _ hS0)) (HV1.out.below (HG1.out _ hS0)) HSp.out HSq.out HRpq.out).mono ?_
 rintro e Wk1 ⟨vn,rfl,hb1,hv1⟩;have hk1:Below V0.heap.size V0 Wk1:=hS0.trans (hb1.mono hS0.size)
 show Kc _ _
 apply hKc
 refine⟨hk1, ?_⟩
 refine zaj rfl rfl fun Kc hKc=> ?_
 unfold Oper.wp
 simp[execOp,go_sem]
 refine(rboth_any _ _ p q _ (HV0.out.below (HG1.out _ hk1)) (HV1.out.below (HG1.out _ hk1)) HSp.out HSq.out HRpq.out).mono ?_
 rintro e Wk2 ⟨vm,rfl,hb2,hv2⟩;have hk2:Below V0.heap.size V0 Wk2:=hk1.trans (hb2.mono hk1.size)
 show Kc _ _
 apply hKc
 refine⟨hk2, ?_⟩
 refine zaj rfl rfl fun Kc hKc=> ?_
 unfold Oper.wp
 simp[execOp,go_sem]
 refine(zji vn vm (zep p q) (zep p q) _ _ _ (hv1.below hb2) hv2 (both_sm HRpq.out) (both_sm HRpq.out)).mono ?_
 rintro e Wk3 ⟨rfl,Xk3,hXk3⟩;have hk3:Below V0.heap.size V0 Wk3:=hk2.trans ((show Below Wk2.heap.size Wk2 Wk3 by rw[hXk3];exact bel).mono hk2.size);clear hXk3
 show Kc _ _
 apply hKc
 refine⟨hk3, ?_⟩
 dsimp only[zbe,List.drop]
 simp only[decide_true]
 have g0:Wk3.cell? ⟨B,0,none⟩=some (.slice A0 (fN p 0) k0):=(hk3.cell (p:=⟨B,0,none⟩) hB0).trans x0
 have g1:Wk3.cell? ⟨B,1,none⟩=some (.slice A1 (fN p 1) k1):=(hk3.cell (p:=⟨B,1,none⟩) hB0).trans x1
 have g2:Wk3.cell? ⟨B,2,none⟩=some (.slice A2 (fN p 2) k2):=(hk3.cell (p:=⟨B,2,none⟩) hB0).trans x2
 have g3:Wk3.cell? ⟨B,3,none⟩=some (.slice A3 (fN p 3) k3):=(hk3.cell (p:=⟨B,3,none⟩) hB0).trans x3
 have g4:Wk3.cell? ⟨B,4,none⟩=some (.slice A4 (fN p 4) k4):=(hk3.cell (p:=⟨B,4,none⟩) hB0).trans x4
 have g5:Wk3.cell? ⟨B,5,none⟩=some (.slice A5 (fN p 5) k5):=(hk3.cell (p:=⟨B,5,none⟩) hB0).trans x5
 have g6:Wk3.cell? ⟨B,6,none⟩=some (.bool p.rel):=(hk3.cell (p:=⟨B,6,none⟩) hB0).trans x6
 have g7:Wk3.cell? ⟨B,7,none⟩=some (.int .i64 p.depth):=(hk3.cell (p:=⟨B,7,none⟩) hB0).trans x7
 have g8:Wk3.cell? ⟨B,8,none⟩=some (.int .i64 p.name):=(hk3.cell (p:=⟨B,8,none⟩) hB0).trans x8
 have g9:Wk3.cell? ⟨B,9,none⟩=some (.int .i64 p.value):=(hk3.cell (p:=⟨B,9,none⟩) hB0).trans x9
 have h0:Wk3.cell? ⟨B+1,0,none⟩=some (.slice C0 (fN q 0) j0):=(hk3.cell (p:=⟨B+1,0,none⟩) hBv).trans y0
 have h1:Wk3.cell? ⟨B+1,1,none⟩=some (.slice C1 (fN q 1) j1):=(hk3.cell (p:=⟨B+1,1,none⟩) hBv).trans y1
 have h2:Wk3.cell? ⟨B+1,2,none⟩=some (.slice C2 (fN q 2) j2):=(hk3.cell (p:=⟨B+1,2,none⟩) hBv).trans y2
 have h3:Wk3.cell? ⟨B+1,3,none⟩=some (.slice C3 (fN q 3) j3):=(hk3.cell (p:=⟨B+1,3,none⟩) hBv).trans y3
 have h4:Wk3.cell? ⟨B+1,4,none⟩=some (.slice C4 (fN q 4) j4):=(hk3.cell (p:=⟨B+1,4,none⟩) hBv).trans y4
 have h5:Wk3.cell? ⟨B+1,5,none⟩=some (.slice C5 (fN q 5) j5):=(hk3.cell (p:=⟨B+1,5,none⟩) hBv).trans y5
 have h6:Wk3.cell? ⟨B+1,6,none⟩=some (.bool q.rel):=(hk3.cell (p:=⟨B+1,6,none⟩) hBv).trans y6
 have h7:Wk3.cell? ⟨B+1,7,none⟩=some (.int .i64 q.depth):=(hk3.cell (p:=⟨B+1,7,none⟩) hBv).trans y7
 have h8:Wk3.cell? ⟨B+1,8,none⟩=some (.int .i64 q.name):=(hk3.cell (p:=⟨B+1,8,none⟩) hBv).trans y8
 have h9:Wk3.cell? ⟨B+1,9,none⟩=some (.int .i64 q.value):=(hk3.cell (p:=⟨B+1,9,none⟩) hBv).trans y9
 have l0:B<Wk3.heap.size:=Nat.lt_of_lt_of_le hB0 hk3.size
 have l1:B+1<Wk3.heap.size:=Nat.lt_of_lt_of_le hBv hk3.size
 have HB4:=z2g (HG1.out Wk3 hk3)
 have HG4:=z2g (fun W (hb:Below Wk3.heap.size Wk3 W)=>HB4.out.trans (hb.mono HB4.out.size))
 obtain⟨mm,hmm⟩: ∃m,zlx p q=m:=⟨_,rfl⟩
 have HW0:=z2g (show ∀W,Below Wk3.heap.size Wk3 W->Calls Tryz.prog 35 #[.agg #[.slice A0 (fN p 0) k0,.slice A1 (fN p 1) k1,.slice A2 (fN p 2) k2,.slice A3 (fN p 3) k3,.slice A4 (fN p 4) k4,.slice A5 (fN p 5) k5,.bool p.rel,.int .i64 p.depth,.int .i64 p.name,.int .i64 p.value],.agg #[.slice C0 (fN q 0) j0,.slice C1 (fN q 1) j1,.slice C2 (fN q 2) j2,.slice C3 (fN q 3) j3,.slice C4 (fN q 4) j4,.slice C5 (fN q 5) j5,.bool q.rel,.int .i64 q.depth,.int .i64 q.name,.int .i64 q.value]] W (Ret (.bool mm) W)from fun W hb=>by have h9:=zo8 _ _ p q W (HV0.out.below (HG4.out W hb)) (HV1.out.below (HG4.out W hb));rwa[hmm]at h9)
 have HW1:=z2g (show ∀W,Below Wk3.heap.size Wk3 W->Calls Tryz.prog 38 #[.agg #[.slice A0 (fN p 0) k0,.slice A1 (fN p 1) k1,.slice A2 (fN p 2) k2,.slice A3 (fN p 3) k3,.slice A4 (fN p 4) k4,.slice A5 (fN p 5) k5,.bool p.rel,.int .i64 p.depth,.int .i64 p.name,.int .i64 p.value],.agg #[.slice C0 (fN q 0) j0,.slice C1 (fN q 1) j1,.slice C2 (fN q 2) j2,.slice C3 (fN q 3) j3,.slice C4 (fN q 4) j4,.slice C5 (fN q 5) j5,.bool q.rel,.int .i64 q.depth,.int .i64 q.name,.int .i64 q.value]] W (Ret (.bool mm) W)from fun W hb=>by have h9:=z1j _ _ p q W (HV0.out.below (HG4.out W hb)) (HV1.out.below (HG4.out W hb));rwa[hmm]at h9)
 clear x0 x1 x2 x3 x4 x5 x6 x7 x8 x9 y0 y1 y2 y3 y4 y5 y6 y7 y8 y9 hk1 hk2 hk3 hb1 hb2 hv1 hv2 hS0 HG1 HV0 HV1 HF0 HF1 HAw HTn HSp HSq HRpq hmm hB0 hBv
 have HG5:=z2g (fun W (hb:Below Wk3.heap.size Wk3 W)=>hb)
 have hS1:Below Wk3.heap.size Wk3 Wk3.drew:=bel
 go_upto_region 7 with fail
 refine zai 8 [(0,true),(1,true),(2,true),(3,true),(5,true),(6,true),(4,false),(7,false)] (fun V=>Below Wk3.heap.size Wk3 V) hmx (by kernel_rfl) (by kernel_rfl) (by kernel_rfl) (by decide) rfl (fun c a d v w h=>by first|exact h|(obtain⟨x,y⟩:=(h:_/\_);cases d<;>exact⟨x,y⟩)) (by kernel_rfl) (by exact hS1) ?_
 refine zaa (v:= .bool true) 32 rfl rfl rfl (fun W hW=>by simp[execOp,go_sem]) ?_
 simp only[Act.put,z2d,z2f,z2e]
 refine zaa (v:= .bool true) 33 rfl rfl rfl (fun W hW=>by simp[execOp,go_sem]) ?_
 simp only[Act.put,z2d,z2f,z2e]
 refine zaa (v:=(.agg #[.slice A0 (fN p 0) k0,.slice A1 (fN p 1) k1,.slice A2 (fN p 2) k2,.slice A3 (fN p 3) k3,.slice A4 (fN p 4) k4,.slice A5 (fN p 5) k5,.bool p.rel,.int .i64 p.depth,.int .i64 p.name,.int .i64 p.value])) 34 rfl rfl rfl (fun W hW=>by have q0:=(hW.cell (p:=⟨B,0,none⟩) l0).trans g0;have q1:=(hW.cell (p:=⟨B,1,none⟩) l0).trans g1;have q2:=(hW.cell (p:=⟨B,2,none⟩) l0).trans g2;have q3:=(hW.cell (p:=⟨B,3,none⟩) l0).trans g3;have q4:=(hW.cell (p:=⟨B,4,none⟩) l0).trans g4;have q5:=(hW.cell (p:=⟨B,5,none⟩) l0).trans g5;have q6:=(hW.cell (p:=⟨B,6,none⟩) l0).trans g6;have q7:=(hW.cell (p:=⟨B,7,none⟩) l0).trans g7;have q8:=(hW.cell (p:=⟨B,8,none⟩) l0).trans g8;have q9:=(hW.cell (p:=⟨B,9,none⟩) l0).trans g9;simp[execOp,go_sem,q0,q1,q2,q3,q4,q5,q6,q7,q8,q9]) ?_
 simp only[Act.put,z2d,z2f,z2e]
 refine zaa (v:=(.agg #[.slice C0 (fN q 0) j0,.slice C1 (fN q 1) j1,.slice C2 (fN q 2) j2,.slice C3 (fN q 3) j3,.slice C4 (fN q 4) j4,.slice C5 (fN q 5) j5,.bool q.rel,.int .i64 q.depth,.int .i64 q.name,.int .i64 q.value])) 35 rfl rfl rfl (fun W hW=>by have q0:=(hW.cell (p:=⟨B+1,0,none⟩) l1).trans h0;have q1:=(hW.cell (p:=⟨B+1,1,none⟩) l1).trans h1;have q2:=(hW.cell (p:=⟨B+1,2,none⟩) l1).trans h2;have q3:=(hW.cell (p:=⟨B+1,3,none⟩) l1).trans h3;have q4:=(hW.cell (p:=⟨B+1,4,none⟩) l1).trans h4;have q5:=(hW.cell (p:=⟨B+1,5,none⟩) l1).trans h5;have q6:=(hW.cell (p:=⟨B+1,6,none⟩) l1).trans h6;have q7:=(hW.cell (p:=⟨B+1,7,none⟩) l1).trans h7;have q8:=(hW.cell (p:=⟨B+1,8,none⟩) l1).trans h8;have q9:=(hW.cell (p:=⟨B+1,9,none⟩) l1).trans h9;simp[execOp,go_sem,q0,q1,q2,q3,q4,q5,q6,q7,q8,q9]) ?_
 simp only[Act.put,z2d,z2f,z2e]
 refine zaa (v:=(.agg #[.slice A0 (fN p 0) k0,.slice A1 (fN p 1) k1,.slice A2 (fN p 2) k2,.slice A3 (fN p 3) k3,.slice A4 (fN p 4) k4,.slice A5 (fN p 5) k5,.bool p.rel,.int .i64 p.depth,.int .i64 p.name,.int .i64 p.value])) 37 rfl rfl rfl (fun W hW=>by have q0:=(hW.cell (p:=⟨B,0,none⟩) l0).trans g0;have q1:=(hW.cell (p:=⟨B,1,none⟩) l0).trans g1;have q2:=(hW.cell (p:=⟨B,2,none⟩) l0).trans g2;have q3:=(hW.cell (p:=⟨B,3,none⟩) l0).trans g3;have q4:=(hW.cell (p:=⟨B,4,none⟩) l0).trans g4;have q5:=(hW.cell (p:=⟨B,5,none⟩) l0).trans g5;have q6:=(hW.cell (p:=⟨B,6,none⟩) l0).trans g6;have q7:=(hW.cell (p:=⟨B,7,none⟩) l0).trans g7;have q8:=(hW.cell (p:=⟨B,8,none⟩) l0).trans g8;have q9:=(hW.cell (p:=⟨B,9,none⟩) l0).trans g9;simp[execOp,go_sem,q0,q1,q2,q3,q4,q5,q6,q7,q8,q9]) ?_
 simp only[Act.put,z2d,z2f,z2e]
 refine zaa (v:=(.agg #[.slice C0 (fN q 0) j0,.slice C1 (fN q 1) j1,.slice C2 (fN q 2) j2,.slice C3 (fN q 3) j3,.slice C4 (fN q 4) j4,.slice C5 (fN q 5) j5,.bool q.rel,.int .i64 q.depth,.int .i64 q.name,.int .i64 q.value])) 38 rfl rfl rfl (fun W hW=>by have q0:=(hW.cell (p:=⟨B+1,0,none⟩) l1).trans h0;have q1:=(hW.cell (p:=⟨B+1,1,none⟩) l1).trans h1;have q2:=(hW.cell (p:=⟨B+1,2,none⟩) l1).trans h2;have q3:=(hW.cell (p:=⟨B+1,3,none⟩) l1).trans h3;have q4:=(hW.cell (p:=⟨B+1,4,none⟩) l1).trans h4;have q5:=(hW.cell (p:=⟨B+1,5,none⟩) l1).trans h5;have q6:=(hW.cell (p:=⟨B+1,6,none⟩) l1).trans h6;have q7:=(hW.cell (p:=⟨B+1,7,none⟩) l1).trans h7;have q8:=(hW.cell (p:=⟨B+1,8,none⟩) l1).trans h8;have q9:=(hW.cell (p:=⟨B+1,9,none⟩) l1).trans h9;simp[execOp,go_sem,q0,q1,q2,q3,q4,q5,q6,q7,q8,q9]) ?_
 simp only[Act.put,z2d,z2f,z2e]
 refine zaj rfl rfl fun Kc hKc=> ?_
 unfold Oper.wp
 simp[execOp,go_sem]
 refine(HW0.out _ hS1).mono ?_
 rintro e Wm1 ⟨rfl,Xm1,hXm1⟩;have hm1:Below Wk3.heap.size Wk3 Wm1:=(hS1).trans ((show Below _ _ _ by rw[hXm1];exact zal _ _).mono (hS1).size);clear hXm1
 show Kc _ _
 apply hKc
 refine⟨hm1, ?_⟩
 refine zaj rfl rfl fun Kc hKc=> ?_
 unfold Oper.wp
 simp[execOp,go_sem]
 refine(HW1.out _ hm1).mono ?_
 rintro e Wm2 ⟨rfl,Xm2,hXm2⟩;have hm2:Below Wk3.heap.size Wk3 Wm2:=(hm1).trans ((show Below _ _ _ by rw[hXm2];exact zal _ _).mono (hm1).size);clear hXm2
 show Kc _ _
 apply hKc
 refine⟨hm2, ?_⟩
 dsimp only[zbe,List.drop]
 go_wp2_with fail
 go_ret
 exact Ret.of (by simp) (HB4.out.trans (hm2.mono HB4.out.size))
theorem lifted (os:Os) (started:os.Started) (H:Type) (enc:TypeId × Value->H) (F:Stop.Interp):
  ReturnsInHanded {} Tryz.checked os 11 .any (fun w args=>((Rows.OpenSpec.upto Rows.printBothsSpec).pre enc Tryz.prog Tryz.f11 Rows.printBothsUptoRow.domain false w args/\laidMetH Tryz.prog Rows.printBothsUptoRow.laid w)/\sizedMet enc Tryz.prog Tryz.f11 (Rows.OpenSpec.upto Rows.printBothsSpec) false w args) (((Rows.OpenSpec.upto Rows.printBothsSpec).at F).post enc Tryz.prog Tryz.f11 false true false false):=by
 refine zj3 (C:=Tryz.checked) (s:=Rows.OpenSpec.upto Rows.printBothsSpec) (k:=Rows.uptoSmall) rfl (X:=fun w _=>laidMetH Tryz.prog Rows.printBothsUptoRow.laid w) (fun _ _ _ hh h=>h.of_heap hh) own started (by kernel_rfl) Tryz.func11
  (zh3 (enc:=enc) (C:=Tryz.checked) (os:=os) (s:=Rows.OpenSpec.upto Rows.printBothsSpec) (k:=Rows.uptoSmall) rfl (X:=fun w _=>laidMetH Tryz.prog Rows.printBothsUptoRow.laid w) false (World.laidAll Tryz.prog os Rows.printBothsUptoRow.laid) #[.agg #[.slice none 0 0,.slice none 0 0,.slice none 0 0,.slice none 0 0,.slice none 0 0,.slice none 0 0,.bool false,.int .i64 0,.int .i64 0,.int .i64 0],.agg #[.slice none 0 0,.slice none 0 0,.slice none 0 0,.slice none 0 0,.slice none 0 0,.slice none 0 0,.bool false,.int .i64 0,.int .i64 0,.int .i64 0]] 8 (World.laidAll_os _ _ _)
   (World.shaped_of_ZipB (by kernel_rfl) (by kernel_rfl)) (by kernel_rfl) (x:=([.agg [.nil,.nil,.nil,.nil,.nil,.nil,.lit (.bool false),.lit (.int .i64 0),.lit (.int .i64 0),.lit (.int .i64 0)],.agg [.nil,.nil,.nil,.nil,.nil,.nil,.lit (.bool false),.lit (.int .i64 0),.lit (.int .i64 0),.lit (.int .i64 0)]],[],[])) (by kernel_rfl) rfl (by kernel_rfl) (by kernel_rfl)
   (by rw[MakeChecks.laidMetH_plain _ _ _ (by kernel_rfl)];exact laidMet_laidAll _ (by kernel_rfl) (by kernel_rfl))) ?_
 intro W base args ds gs before hval0 hW hk0 hL
 show Calls Tryz.prog 11 args W fun e W'=> ∃v,e= .returned v/\Rows.printBothsSpec.post enc Tryz.prog Tryz.f11 false true false false W args v W'
 have hval: ∀(j:Nat) t v,Tryz.f11.params[j]? =some t->args[j]? =some v->Value.okWide Tryz.prog W .any base t v:=hval0
 have hW':=hW
 obtain⟨p,q,hA0,hV,rfl,hfz,hnd⟩:=hW
 have hA:DataW.TrodAll enc Tryz.prog W 0 (fun _=>true) true Tryz.f11.params.toList args.toList ds p:=hA0
 rw[Tryz.params11]at hA hval
 obtain⟨v0,vs0,d0,ds0,p0,q0,hargs,rfl,rfl,h0,r0⟩:=trodAll_cons hA
 obtain⟨v1,vs1,d1,ds1,p1,q1,rfl,rfl,rfl,h1,r1⟩:=trodAll_cons r0
 obtain⟨rfl,rfl,rfl⟩:=trodAll_nil r1
 obtain rfl:args= #[v0,v1]:=by cases args;simp_all
 obtain⟨rfl,rfl⟩:=trodVars_none hV
 obtain⟨c0,rfl,_⟩:=okWide_struct Tryz.underlying43 (hval 0 43 v0 rfl rfl)
 have k0:=h0
 have lt0: ∀x∈p0,x.block<W.heap.size:=by obtain⟨m,hm⟩:=k0;exact DataW.trod_lt m _ _ _ hm
 obtain⟨z0,w0,b0⟩: ∃z:Pol,PolV W (fun _=>False) (.agg c0) z/\zdz z (Rows.uptoBulk d0):=by obtain⟨fuel,hf⟩:=h0;have h9:=zmf (x:=(d0,p0)) (show DataW.trod enc Tryz.prog W 0 (fun _=>true) true fuel 43 c0.toList=some (d0,p0) by simpa[Value.cells]using hf);simpa using h9
 obtain⟨c1,rfl,_⟩:=okWide_struct Tryz.underlying43 (hval 1 43 v1 rfl rfl)
 have k1:=h1
 have lt1: ∀x∈p1,x.block<W.heap.size:=by obtain⟨m,hm⟩:=k1;exact DataW.trod_lt m _ _ _ hm
 obtain⟨z1,w1,b1⟩: ∃z:Pol,PolV W (fun _=>False) (.agg c1) z/\zdz z (Rows.uptoBulk d1):=by obtain⟨fuel,hf⟩:=h1;have h9:=zmf (x:=(d1,p1)) (show DataW.trod enc Tryz.prog W 0 (fun _=>true) true fuel 43 c1.toList=some (d1,p1) by simpa[Value.cells]using hf);simpa using h9
 have hk:=bulks.bound hk0
 clear hA0 hval0 hk0
 refine(walk (.agg c0) z0 (.agg c1) z1 W (zq9 hL (by rfl)) w0 (b0.mono (by simp only[List.append_nil,Rows.uptoBulkAll]at hk;omega)) w1 (b1.mono (by simp only[List.append_nil,Rows.uptoBulkAll]at hk;omega))).mono fun e W' hend=> ?_
 obtain⟨he,X,hX⟩:=hend
 have bel:Below W.heap.size W W':=by rw[hX];exact zal W X
 subst he
 exact⟨_,rfl,_,_,_,[],_,[],hW',trodAll_mk1 (shut_bool Tryz.underlying4 _),(trodAll_cons_mk (Below.trod laidOut (by kernel_rfl) (of_decide_eq_true (by kernel_rfl)) k0 bel lt0) (trodAll_cons_mk (Below.trod laidOut (by kernel_rfl) (of_decide_eq_true (by kernel_rfl)) k1 bel lt1) trodAll_mk0)),rfl,bel.frame _,fun h=>by cases h⟩
theorem over:Rows.printBothsUptoRow.holds Tryz.pinned (Rows.OpenSpec.upto Rows.printBothsSpec):=
 OpenClaim.holds_of_cond 11 Tryz.f11 rfl rfl rfl rfl rfl rfl rfl ⟨rfl,rfl,rfl,rfl,rfl⟩ rfl rfl rfl rfl rfl (by kernel_rfl) Tryz.func11 (by kernel_rfl)
  (of_decide_eq_true (by kernel_rfl)) (by unfold Func.isWrapper;first|(rw[if_pos (by decide+kernel)];kernel_rfl)|(rw[if_neg (by decide+kernel)];exact⟨rfl,rfl⟩))
  (fun os started H enc _ F=>lifted os started H enc F)
theorem proved:Rows.PrintBothsUptoCardSaid:=
 Claim7.holds_tied_plain_at .later [] [.data,.data,.data] true _ true over (fun _ h=>by cases h) (by kernel_rfl) (fun _ h=>by cases h) printBothsUpto_row_tie rfl ⟨rfl,rfl⟩ (by kernel_rfl) rfl
  (fun f fn hf hfn=>by
   obtain rfl:f=11:=Option.some.inj ((show Tryz.prog.funcNamed "cribble/cribblelaw09.PrintBoths" =some 11 by kernel_rfl).symm.trans hf) |>.symm
   obtain rfl:fn=Tryz.f11:=(Option.some.inj (Tryz.func11.symm.trans hfn)).symm
   exact⟨by kernel_rfl,fun j t ht=>by
    rw[Tryz.params11]at ht
    have hm:t∈[43,43]:=by simpa using Array.mem_of_getElem? ht
    have hall:([43,43].all fun u=> !Tryz.prog.wantsStandIn u)=true:=by kernel_rfl
    exact(show Tryz.prog.wantsStandIn t=false by simpa using List.all_eq_true.1 hall t hm)⟩)
  (by kernel_rfl)
end Go.Proofs.YtbhhgbgfaemfdaaGreatDoor.printBoths

