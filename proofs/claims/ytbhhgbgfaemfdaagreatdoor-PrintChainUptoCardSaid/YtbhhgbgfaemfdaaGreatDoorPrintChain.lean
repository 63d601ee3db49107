/- What is within what is within another one is within that one: PrintChain returns true. Condition: what comes in is of bulk at most 1048576 (the statement's own second form). -/
import Derived.ProofKit
import Derived.ChangeSame
import Derived.ChangeAt
import Derived.SizedLaws
import Derived.OpenShut
import Derived.ShutString
import Derived.ChangeOld
import Derived.JoinedCond
import Derived.BigRegion
import Derived.Test.YtbhhgbgfaemfdaaGreatDoorRows
import Derived.Test.YtbhhgbgfaemfdaaGreatDoorCards
import Derived.Test.YtbhhgbgfaemfdaaGreatDoorTie
import Derived.Test.YtbhhgbgfaemfdaaGreatDoorPrwJ
import Derived.Test.YtbhhgbgfaemfdaaGreatDoorRG
namespace Go.Proofs.YtbhhgbgfaemfdaaGreatDoor.printChain
open Go.ChangeShapes Go.WideShapes Go.ChangeAt Go.RowKit
open Go.ChangeMaps (open_string shut_string)
theorem own:ownKnob Tryz.prog.godebug=none:=by kernel_rfl
theorem laidOut:laidOutB Tryz.prog=true:=by kernel_rfl
attribute [local go_sem] Oper.semAt_some
set_option maxRecDepth 100000 in
set_option maxHeartbeats 16000000 in
theorem walk (vp:Value) (p:Pol) (vq:Value) (q:Pol) (vr:Value) (r:Pol) (w:World) (hT:Ten w) (h0:PolV w (fun _=>False) vp p) (b0:PolBk p 1048576) (h1:PolV w (fun _=>False) vq q) (b1:PolBk q 1048576) (h2:PolV w (fun _=>False) vr r) (b2:PolBk r 1048576):Calls Tryz.prog 10 #[vp,vq,vr] w (Ret (.bool true) w):=by
 have hmx:Tryz.prog.follows .mixedOrders=true:=by kernel_rfl
 have HTn:=Lib.hid hT
 have HV0:=Lib.hid h0
 have HK0:=Lib.hid b0
 have HF0:=Lib.hid (fun W (hb:Below w.heap.size w W)=>rfew_any vp p W (h0.below hb) b0)
 have HV1:=Lib.hid h1
 have HK1:=Lib.hid b1
 have HF1:=Lib.hid (fun W (hb:Below w.heap.size w W)=>rfew_any vq q W (h1.below hb) b1)
 have HV2:=Lib.hid h2
 have HK2:=Lib.hid b2
 have HF2:=Lib.hid (fun W (hb:Below w.heap.size w W)=>rfew_any vr r W (h2.below hb) b2)
 obtain⟨v0,v1,v2,v3,v4,v5,rfl,⟨A0,k0,rfl,_⟩,⟨A1,k1,rfl,_⟩,⟨A2,k2,rfl,_⟩,⟨A3,k3,rfl,_⟩,⟨A4,k4,rfl,_⟩,⟨A5,k5,rfl,_⟩⟩:=h0
 obtain⟨v0,v1,v2,v3,v4,v5,rfl,⟨C0,j0,rfl,_⟩,⟨C1,j1,rfl,_⟩,⟨C2,j2,rfl,_⟩,⟨C3,j3,rfl,_⟩,⟨C4,j4,rfl,_⟩,⟨C5,j5,rfl,_⟩⟩:=h1
 obtain⟨v0,v1,v2,v3,v4,v5,rfl,⟨E0,i0,rfl,_⟩,⟨E1,i1,rfl,_⟩,⟨E2,i2,rfl,_⟩,⟨E3,i3,rfl,_⟩,⟨E4,i4,rfl,_⟩,⟨E5,i5,rfl,_⟩⟩:=h2
 have HAw:=Lib.hid (fun W (hb:Below w.heap.size w W)=>awake09_any W (hT.below hb))
 clear hT b0 b1 b2
 obtain⟨f0,hf0⟩: ∃f,fewP p=f:=⟨_,rfl⟩
 rw[hf0]at HF0
 clear hf0
 obtain⟨f1,hf1⟩: ∃f,fewP q=f:=⟨_,rfl⟩
 rw[hf1]at HF1
 clear hf1
 obtain⟨f2,hf2⟩: ∃f,fewP r=f:=⟨_,rfl⟩
 rw[hf2]at HF2
 clear hf2
 go_enter Tryz.func10,Tryz.ntmps10
 go_upto_region 1 with fail
 refine name_world fun W0 hW0=> ?_
 obtain⟨B,hB⟩: ∃B,w.heap.size=B:=⟨_,rfl⟩
 have hb0:Below w.heap.size w W0:=by rw[hW0];exact bel
 have c0:W0.cell? ⟨B,0,none⟩=some (.slice A0 (fN p 0) k0):=by rw[hW0,<-hB];simp[go_sem]
 have c1:W0.cell? ⟨B,1,none⟩=some (.slice A1 (fN p 1) k1):=by rw[hW0,<-hB];simp[go_sem]
 have c2:W0.cell? ⟨B,2,none⟩=some (.slice A2 (fN p 2) k2):=by rw[hW0,<-hB];simp[go_sem]
 have c3:W0.cell? ⟨B,3,none⟩=some (.slice A3 (fN p 3) k3):=by rw[hW0,<-hB];simp[go_sem]
 have c4:W0.cell? ⟨B,4,none⟩=some (.slice A4 (fN p 4) k4):=by rw[hW0,<-hB];simp[go_sem]
 have c5:W0.cell? ⟨B,5,none⟩=some (.slice A5 (fN p 5) k5):=by rw[hW0,<-hB];simp[go_sem]
 have c6:W0.cell? ⟨B,6,none⟩=some (.bool p.rel):=by rw[hW0,<-hB];simp[go_sem]
 have c7:W0.cell? ⟨B,7,none⟩=some (.int .i64 p.depth):=by rw[hW0,<-hB];simp[go_sem]
 have c8:W0.cell? ⟨B,8,none⟩=some (.int .i64 p.name):=by rw[hW0,<-hB];simp[go_sem]
 have c9:W0.cell? ⟨B,9,none⟩=some (.int .i64 p.value):=by rw[hW0,<-hB];simp[go_sem]
 have d0:W0.cell? ⟨B+1,0,none⟩=some (.slice C0 (fN q 0) j0):=by rw[hW0,<-hB];simp[go_sem]
 have d1:W0.cell? ⟨B+1,1,none⟩=some (.slice C1 (fN q 1) j1):=by rw[hW0,<-hB];simp[go_sem]
 have d2:W0.cell? ⟨B+1,2,none⟩=some (.slice C2 (fN q 2) j2):=by rw[hW0,<-hB];simp[go_sem]
 have d3:W0.cell? ⟨B+1,3,none⟩=some (.slice C3 (fN q 3) j3):=by rw[hW0,<-hB];simp[go_sem]
 have d4:W0.cell? ⟨B+1,4,none⟩=some (.slice C4 (fN q 4) j4):=by rw[hW0,<-hB];simp[go_sem]
 have d5:W0.cell? ⟨B+1,5,none⟩=some (.slice C5 (fN q 5) j5):=by rw[hW0,<-hB];simp[go_sem]
 have d6:W0.cell? ⟨B+1,6,none⟩=some (.bool q.rel):=by rw[hW0,<-hB];simp[go_sem]
 have d7:W0.cell? ⟨B+1,7,none⟩=some (.int .i64 q.depth):=by rw[hW0,<-hB];simp[go_sem]
 have d8:W0.cell? ⟨B+1,8,none⟩=some (.int .i64 q.name):=by rw[hW0,<-hB];simp[go_sem]
 have d9:W0.cell? ⟨B+1,9,none⟩=some (.int .i64 q.value):=by rw[hW0,<-hB];simp[go_sem]
 have e0:W0.cell? ⟨B+2,0,none⟩=some (.slice E0 (fN r 0) i0):=by rw[hW0,<-hB];simp[go_sem]
 have e1:W0.cell? ⟨B+2,1,none⟩=some (.slice E1 (fN r 1) i1):=by rw[hW0,<-hB];simp[go_sem]
 have e2:W0.cell? ⟨B+2,2,none⟩=some (.slice E2 (fN r 2) i2):=by rw[hW0,<-hB];simp[go_sem]
 have e3:W0.cell? ⟨B+2,3,none⟩=some (.slice E3 (fN r 3) i3):=by rw[hW0,<-hB];simp[go_sem]
 have e4:W0.cell? ⟨B+2,4,none⟩=some (.slice E4 (fN r 4) i4):=by rw[hW0,<-hB];simp[go_sem]
 have e5:W0.cell? ⟨B+2,5,none⟩=some (.slice E5 (fN r 5) i5):=by rw[hW0,<-hB];simp[go_sem]
 have e6:W0.cell? ⟨B+2,6,none⟩=some (.bool r.rel):=by rw[hW0,<-hB];simp[go_sem]
 have e7:W0.cell? ⟨B+2,7,none⟩=some (.int .i64 r.depth):=by rw[hW0,<-hB];simp[go_sem]
 have e8:W0.cell? ⟨B+2,8,none⟩=some (.int .i64 r.name):=by rw[hW0,<-hB];simp[go_sem]
 have e9:W0.cell? ⟨B+2,9,none⟩=some (.int .i64 r.value):=by rw[hW0,<-hB];simp[go_sem]
 have hBl:B+2<W0.heap.size:=by rw[hW0,<-hB];simp
 have HB0:=Lib.hid hb0
 rw[hB]
 clear hW0 hb0 hB
 have HG0:=Lib.hid (fun W (hb:Below W0.heap.size W0 W)=>HB0.out.trans (hb.mono HB0.out.size))
 go_upto_region 5 with(first
  |(go_at_call 29;(with_reducible refine(Ret.flat (HAw.out _ (HG0.out _ bel))).mono ?_);rintro e V0 ⟨rfl,Y0,rfl⟩)
  |(go_at_call 29;(with_reducible refine(HAw.out _ (HG0.out _ bel)).mono ?_);rintro e V0 ⟨rfl,Y0,rfl⟩)
  |(go_at_call 30;(with_reducible refine(Ret.flat (HF0.out _ (HG0.out _ bel))).mono ?_);rintro e V1 ⟨rfl,Y1,rfl⟩)
  |(go_at_call 30;(with_reducible refine(HF0.out _ (HG0.out _ bel)).mono ?_);rintro e V1 ⟨rfl,Y1,rfl⟩)
  |(go_at_call 30;(with_reducible refine(Ret.flat (HF1.out _ (HG0.out _ bel))).mono ?_);rintro e V2 ⟨rfl,Y2,rfl⟩)
  |(go_at_call 30;(with_reducible refine(HF1.out _ (HG0.out _ bel)).mono ?_);rintro e V2 ⟨rfl,Y2,rfl⟩)
  |(go_at_call 30;(with_reducible refine(Ret.flat (HF2.out _ (HG0.out _ bel))).mono ?_);rintro e V3 ⟨rfl,Y3,rfl⟩)
  |(go_at_call 30;(with_reducible refine(HF2.out _ (HG0.out _ bel)).mono ?_);rintro e V3 ⟨rfl,Y3,rfl⟩))
 refine name_world fun V0 hV0=> ?_
 have hv0:Below W0.heap.size W0 V0:=by rw[hV0];exact bel
 have HBv:=Lib.hid (HB0.out.trans (hv0.mono HB0.out.size))
 have hBv:B+2<V0.heap.size:=Nat.lt_of_lt_of_le hBl hv0.size
 clear hV0
 have x0:=(hv0.cell (p:=⟨B,0,none⟩) (show B<W0.heap.size by omega)).trans c0
 have x1:=(hv0.cell (p:=⟨B,1,none⟩) (show B<W0.heap.size by omega)).trans c1
 have x2:=(hv0.cell (p:=⟨B,2,none⟩) (show B<W0.heap.size by omega)).trans c2
 have x3:=(hv0.cell (p:=⟨B,3,none⟩) (show B<W0.heap.size by omega)).trans c3
 have x4:=(hv0.cell (p:=⟨B,4,none⟩) (show B<W0.heap.size by omega)).trans c4
 have x5:=(hv0.cell (p:=⟨B,5,none⟩) (show B<W0.heap.size by omega)).trans c5
 have x6:=(hv0.cell (p:=⟨B,6,none⟩) (show B<W0.heap.size by omega)).trans c6
 have x7:=(hv0.cell (p:=⟨B,7,none⟩) (show B<W0.heap.size by omega)).trans c7
 have x8:=(hv0.cell (p:=⟨B,8,none⟩) (show B<W0.heap.size by omega)).trans c8
 have x9:=(hv0.cell (p:=⟨B,9,none⟩) (show B<W0.heap.size by omega)).trans c9
 have y0:=(hv0.cell (p:=⟨B+1,0,none⟩) (show B+1<W0.heap.size by omega)).trans d0
 have y1:=(hv0.cell (p:=⟨B+1,1,none⟩) (show B+1<W0.heap.size by omega)).trans d1
 have y2:=(hv0.cell (p:=⟨B+1,2,none⟩) (show B+1<W0.heap.size by omega)).trans d2
 have y3:=(hv0.cell (p:=⟨B+1,3,none⟩) (show B+1<W0.heap.size by omega)).trans d3
 have y4:=(hv0.cell (p:=⟨B+1,4,none⟩) (show B+1<W0.heap.size by omega)).trans d4
 have y5:=(hv0.cell (p:=⟨B+1,5,none⟩) (show B+1<W0.heap.size by omega)).trans d5
 have y6:=(hv0.cell (p:=⟨B+1,6,none⟩) (show B+1<W0.heap.size by omega)).trans d6
 have y7:=(hv0.cell (p:=⟨B+1,7,none⟩) (show B+1<W0.heap.size by omega)).trans d7
 have y8:=(hv0.cell (p:=⟨B+1,8,none⟩) (show B+1<W0.heap.size by omega)).trans d8
 have y9:=(hv0.cell (p:=⟨B+1,9,none⟩) (show B+1<W0.heap.size by omega)).trans d9
 have z0:=(hv0.cell (p:=⟨B+2,0,none⟩) (show B+2<W0.heap.size by omega)).trans e0
 have z1:=(hv0.cell (p:=⟨B+2,1,none⟩) (show B+2<W0.heap.size by omega)).trans e1
 have z2:=(hv0.cell (p:=⟨B+2,2,none⟩) (show B+2<W0.heap.size by omega)).trans e2
 have z3:=(hv0.cell (p:=⟨B+2,3,none⟩) (show B+2<W0.heap.size by omega)).trans e3
 have z4:=(hv0.cell (p:=⟨B+2,4,none⟩) (show B+2<W0.heap.size by omega)).trans e4
 have z5:=(hv0.cell (p:=⟨B+2,5,none⟩) (show B+2<W0.heap.size by omega)).trans e5
 have z6:=(hv0.cell (p:=⟨B+2,6,none⟩) (show B+2<W0.heap.size by omega)).trans e6
 have z7:=(hv0.cell (p:=⟨B+2,7,none⟩) (show B+2<W0.heap.size by omega)).trans e7
 have z8:=(hv0.cell (p:=⟨B+2,8,none⟩) (show B+2<W0.heap.size by omega)).trans e8
 have z9:=(hv0.cell (p:=⟨B+2,9,none⟩) (show B+2<W0.heap.size by omega)).trans e9
 clear hv0 c0 c1 c2 c3 c4 c5 c6 c7 c8 c9 d0 d1 d2 d3 d4 d5 d6 d7 d8 d9 e0 e1 e2 e3 e4 e5 e6 e7 e8 e9
 have HG1:=Lib.hid (fun W (hb:Below V0.heap.size V0 W)=>HBv.out.trans (hb.mono HBv.out.size))
 cases hff:(f0&&(f1&&f2))
 case false=>
  cases f0<;>cases f1<;>cases f2<;>try(exfalso;revert hff;decide)
  all_goals
   clear hff
   go_wp2_with fail
   go_ret
   exact Ret.of rfl (HBv.out.trans ((bel:Below V0.heap.size V0 _).mono HBv.out.size))
 obtain rfl:f0=true:=by cases f0<;>simp_all
 obtain rfl:f1=true:=by cases f1<;>simp_all
 obtain rfl:f2=true:=by cases f2<;>simp_all
 have HC:=Lib.hid (within_chain p q r)
 have HW0:=Lib.hid (fun W (hb:Below w.heap.size w W)=>within9_any _ _ p q W (HV0.out.below hb) (HV1.out.below hb))
 have HW1:=Lib.hid (fun W (hb:Below w.heap.size w W)=>within9_any _ _ q r W (HV1.out.below hb) (HV2.out.below hb))
 have HW2:=Lib.hid (fun W (hb:Below w.heap.size w W)=>within9_any _ _ p r W (HV0.out.below hb) (HV2.out.below hb))
 obtain⟨m0,hm0⟩: ∃m,withinR p q=m:=⟨_,rfl⟩
 obtain⟨m1,hm1⟩: ∃m,withinR q r=m:=⟨_,rfl⟩
 obtain⟨m2,hm2⟩: ∃m,withinR p r=m:=⟨_,rfl⟩
 rw[hm0]at HW0 HC
 rw[hm1]at HW1 HC
 rw[hm2]at HW2 HC
 clear hm0 hm1 hm2 hff HF0 HF1 HF2 HAw HV0 HV1 HV2 HK0 HK1 HK2 HTn
 cases m0<;>cases m1
 case true.true=>
  obtain rfl:m2=true:=HC.out
  clear HC
  go_wp2_with(first
   |(go_at_call 35;(with_reducible refine(Ret.flat (HW0.out _ (HG1.out _ bel))).mono ?_);rintro e V0 ⟨rfl,Y0,rfl⟩)
   |(go_at_call 35;(with_reducible refine(HW0.out _ (HG1.out _ bel)).mono ?_);rintro e V0 ⟨rfl,Y0,rfl⟩)
   |(go_at_call 35;(with_reducible refine(Ret.flat (HW1.out _ (HG1.out _ bel))).mono ?_);rintro e V1 ⟨rfl,Y1,rfl⟩)
   |(go_at_call 35;(with_reducible refine(HW1.out _ (HG1.out _ bel)).mono ?_);rintro e V1 ⟨rfl,Y1,rfl⟩)
   |(go_at_call 35;(with_reducible refine(Ret.flat (HW2.out _ (HG1.out _ bel))).mono ?_);rintro e V2 ⟨rfl,Y2,rfl⟩)
   |(go_at_call 35;(with_reducible refine(HW2.out _ (HG1.out _ bel)).mono ?_);rintro e V2 ⟨rfl,Y2,rfl⟩))
  go_ret
  exact Ret.of rfl (HBv.out.trans ((bel:Below V0.heap.size V0 _).mono HBv.out.size))
 all_goals
  clear HC
  go_wp2_with(first
   |(go_at_call 35;(with_reducible refine(Ret.flat (HW0.out _ (HG1.out _ bel))).mono ?_);rintro e V0 ⟨rfl,Y0,rfl⟩)
   |(go_at_call 35;(with_reducible refine(HW0.out _ (HG1.out _ bel)).mono ?_);rintro e V0 ⟨rfl,Y0,rfl⟩)
   |(go_at_call 35;(with_reducible refine(Ret.flat (HW1.out _ (HG1.out _ bel))).mono ?_);rintro e V1 ⟨rfl,Y1,rfl⟩)
   |(go_at_call 35;(with_reducible refine(HW1.out _ (HG1.out _ bel)).mono ?_);rintro e V1 ⟨rfl,Y1,rfl⟩)
   |(go_at_call 35;(with_reducible refine(Ret.flat (HW2.out _ (HG1.out _ bel))).mono ?_);rintro e V2 ⟨rfl,Y2,rfl⟩)
   |(go_at_call 35;(with_reducible refine(HW2.out _ (HG1.out _ bel)).mono ?_);rintro e V2 ⟨rfl,Y2,rfl⟩))
  go_ret
  exact Ret.of rfl (HBv.out.trans ((bel:Below V0.heap.size V0 _).mono HBv.out.size))
set_option maxRecDepth 100000 in
theorem lifted (os:Os) (started:os.Started) (H:Type) (enc:TypeId × Value->H) (F:Stop.Interp):
  ReturnsInHanded {} Tryz.checked os 10 .any (fun w args=>((Rows.OpenSpec.upto Rows.printChainSpec).pre enc Tryz.prog Tryz.f10 Rows.printChainUptoRow.domain false w args/\laidMetH Tryz.prog Rows.printChainUptoRow.laid w)/\sizedMet enc Tryz.prog Tryz.f10 (Rows.OpenSpec.upto Rows.printChainSpec) false w args) (((Rows.OpenSpec.upto Rows.printChainSpec).at F).post enc Tryz.prog Tryz.f10 false true false false):=by
 refine handed_cond (C:=Tryz.checked) (s:=Rows.OpenSpec.upto Rows.printChainSpec) (k:=Rows.uptoSmall) rfl (X:=fun w _=>laidMetH Tryz.prog Rows.printChainUptoRow.laid w) (fun _ _ _ hh h=>h.of_heap hh) own started (by kernel_rfl) Tryz.func10
  (witness_cond (enc:=enc) (C:=Tryz.checked) (os:=os) (s:=Rows.OpenSpec.upto Rows.printChainSpec) (k:=Rows.uptoSmall) rfl (X:=fun w _=>laidMetH Tryz.prog Rows.printChainUptoRow.laid w) false (World.laidAll Tryz.prog os Rows.printChainUptoRow.laid) #[.agg #[.slice none 0 0,.slice none 0 0,.slice none 0 0,.slice none 0 0,.slice none 0 0,.slice none 0 0,.bool false,.int .i64 0,.int .i64 0,.int .i64 0],.agg #[.slice none 0 0,.slice none 0 0,.slice none 0 0,.slice none 0 0,.slice none 0 0,.slice none 0 0,.bool false,.int .i64 0,.int .i64 0,.int .i64 0],.agg #[.slice none 0 0,.slice none 0 0,.slice none 0 0,.slice none 0 0,.slice none 0 0,.slice none 0 0,.bool false,.int .i64 0,.int .i64 0,.int .i64 0]] 8 (World.laidAll_os _ _ _)
   (World.shaped_of_ZipB (by kernel_rfl) (by kernel_rfl)) (by kernel_rfl) (x:=([.agg [.nil,.nil,.nil,.nil,.nil,.nil,.lit (.bool false),.lit (.int .i64 0),.lit (.int .i64 0),.lit (.int .i64 0)],.agg [.nil,.nil,.nil,.nil,.nil,.nil,.lit (.bool false),.lit (.int .i64 0),.lit (.int .i64 0),.lit (.int .i64 0)],.agg [.nil,.nil,.nil,.nil,.nil,.nil,.lit (.bool false),.lit (.int .i64 0),.lit (.int .i64 0),.lit (.int .i64 0)]],[],[])) (by kernel_rfl) rfl (by kernel_rfl) (by kernel_rfl)
   (by rw[MakeChecks.laidMetH_plain _ _ _ (by kernel_rfl)];exact laidMet_laidAll _ (by kernel_rfl) (by kernel_rfl))) ?_
 intro W base args ds gs before hval0 hW hk0 hL
 show Calls Tryz.prog 10 args W fun e W'=> ∃v,e= .returned v/\Rows.printChainSpec.post enc Tryz.prog Tryz.f10 false true false false W args v W'
 have hval: ∀(j:Nat) t v,Tryz.f10.params[j]? =some t->args[j]? =some v->Value.okWide Tryz.prog W .any base t v:=hval0
 have hW':=hW
 obtain⟨p,q,hA0,hV,rfl,hfz,hnd⟩:=hW
 have hA:DataW.TrodAll enc Tryz.prog W 0 (fun _=>true) true Tryz.f10.params.toList args.toList ds p:=hA0
 rw[Tryz.params10]at hA hval
 obtain⟨v0,vs0,d0,ds0,p0,q0,hargs,rfl,rfl,h0,r0⟩:=trodAll_cons hA
 obtain⟨v1,vs1,d1,ds1,p1,q1,rfl,rfl,rfl,h1,r1⟩:=trodAll_cons r0
 obtain⟨v2,vs2,d2,ds2,p2,q2,rfl,rfl,rfl,h2,r2⟩:=trodAll_cons r1
 obtain⟨rfl,rfl,rfl⟩:=trodAll_nil r2
 obtain rfl:args= #[v0,v1,v2]:=by cases args;simp_all
 obtain⟨rfl,rfl⟩:=trodVars_none hV
 obtain⟨c0,rfl,_⟩:=okWide_struct Tryz.underlying43 (hval 0 43 v0 rfl rfl)
 have k0:=h0
 have lt0: ∀x∈p0,x.block<W.heap.size:=by obtain⟨m,hm⟩:=k0;exact DataW.trod_lt m _ _ _ hm
 obtain⟨z0,w0,b0⟩: ∃z:Pol,PolV W (fun _=>False) (.agg c0) z/\PolBk z (Rows.uptoBulk d0):=by obtain⟨fuel,hf⟩:=h0;have h9:=pol_open (x:=(d0,p0)) (show DataW.trod enc Tryz.prog W 0 (fun _=>true) true fuel 43 c0.toList=some (d0,p0) by simpa[Value.cells]using hf);simpa using h9
 obtain⟨c1,rfl,_⟩:=okWide_struct Tryz.underlying43 (hval 1 43 v1 rfl rfl)
 have k1:=h1
 have lt1: ∀x∈p1,x.block<W.heap.size:=by obtain⟨m,hm⟩:=k1;exact DataW.trod_lt m _ _ _ hm
 obtain⟨z1,w1,b1⟩: ∃z:Pol,PolV W (fun _=>False) (.agg c1) z/\PolBk z (Rows.uptoBulk d1):=by obtain⟨fuel,hf⟩:=h1;have h9:=pol_open (x:=(d1,p1)) (show DataW.trod enc Tryz.prog W 0 (fun _=>true) true fuel 43 c1.toList=some (d1,p1) by simpa[Value.cells]using hf);simpa using h9
 obtain⟨c2,rfl,_⟩:=okWide_struct Tryz.underlying43 (hval 2 43 v2 rfl rfl)
 have k2:=h2
 have lt2: ∀x∈p2,x.block<W.heap.size:=by obtain⟨m,hm⟩:=k2;exact DataW.trod_lt m _ _ _ hm
 obtain⟨z2,w2,b2⟩: ∃z:Pol,PolV W (fun _=>False) (.agg c2) z/\PolBk z (Rows.uptoBulk d2):=by obtain⟨fuel,hf⟩:=h2;have h9:=pol_open (x:=(d2,p2)) (show DataW.trod enc Tryz.prog W 0 (fun _=>true) true fuel 43 c2.toList=some (d2,p2) by simpa[Value.cells]using hf);simpa using h9
 have hk:=bulks.bound hk0
 clear hA0 hval0 hk0
 refine(walk (.agg c0) z0 (.agg c1) z1 (.agg c2) z2 W (ten_laid hL (by rfl)) w0 (b0.mono (by simp only[List.append_nil,Rows.uptoBulkAll]at hk;omega)) w1 (b1.mono (by simp only[List.append_nil,Rows.uptoBulkAll]at hk;omega)) w2 (b2.mono (by simp only[List.append_nil,Rows.uptoBulkAll]at hk;omega))).mono fun e W' hend=> ?_
 obtain⟨he,X,hX⟩:=hend
 have bel:Below W.heap.size W W':=by rw[hX];exact below_grow W X
 subst he
 exact⟨_,rfl,_,_,_,[],_,[],hW',trodAll_mk1 (shut_bool Tryz.underlying4 _),(trodAll_cons_mk (Below.trod laidOut (by kernel_rfl) (of_decide_eq_true (by kernel_rfl)) k0 bel lt0) (trodAll_cons_mk (Below.trod laidOut (by kernel_rfl) (of_decide_eq_true (by kernel_rfl)) k1 bel lt1) (trodAll_cons_mk (Below.trod laidOut (by kernel_rfl) (of_decide_eq_true (by kernel_rfl)) k2 bel lt2) trodAll_mk0))),rfl,bel.frame _,fun h=>by cases h⟩
theorem over:Rows.printChainUptoRow.holds Tryz.pinned (Rows.OpenSpec.upto Rows.printChainSpec):=
 OpenClaim.holds_of_cond 10 Tryz.f10 rfl rfl rfl rfl rfl rfl rfl ⟨rfl,rfl,rfl,rfl,rfl⟩ rfl rfl rfl rfl rfl (by kernel_rfl) Tryz.func10 (by kernel_rfl)
  (of_decide_eq_true (by kernel_rfl)) (by unfold Func.isWrapper;first|(rw[if_pos (by decide+kernel)];kernel_rfl)|(rw[if_neg (by decide+kernel)];exact⟨rfl,rfl⟩))
  (fun os started H enc _ F=>lifted os started H enc F)
theorem proved:Rows.PrintChainUptoCardSaid:=
 Claim7.holds_tied_plain_at .later [] [.data,.data,.data] true _ true over (fun _ h=>by cases h) (by kernel_rfl) (fun _ h=>by cases h) printChainUpto_row_tie rfl ⟨rfl,rfl⟩ (by kernel_rfl) rfl
  (fun f fn hf hfn=>by
   obtain rfl:f=10:=Option.some.inj ((show Tryz.prog.funcNamed "cribble/cribblelaw09.PrintChain" =some 10 by kernel_rfl).symm.trans hf) |>.symm
   obtain rfl:fn=Tryz.f10:=(Option.some.inj (Tryz.func10.symm.trans hfn)).symm
   exact⟨by kernel_rfl,fun j t ht=>by
    rw[Tryz.params10]at ht
    have hm:t∈[43,43,43]:=by simpa using Array.mem_of_getElem? ht
    have hall:([43,43,43].all fun u=> !Tryz.prog.wantsStandIn u)=true:=by kernel_rfl
    exact(show Tryz.prog.wantsStandIn t=false by simpa using List.all_eq_true.1 hall t hm)⟩)
  (by kernel_rfl)
end Go.Proofs.YtbhhgbgfaemfdaaGreatDoor.printChain

