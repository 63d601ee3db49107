/- Each of two policies of one list of Drops is within both; a policy is within itself; both of the same is that, made neat: PrintWithin returns true. Condition: what comes in is of bulk at most 1048576 (the statement's own second form). -/
import Derived.ProofKit
import Derived.ChangeSame
import Derived.ChangeAt
import Derived.SizedLaws
import Derived.OpenShut
import Derived.ShutString
import Derived.ChangeOld
import Derived.JoinedCond
import Derived.BigRegion
import Derived.Test.YtbhhgbgfaemfdaaGreatDoorRows
import Derived.Test.YtbhhgbgfaemfdaaGreatDoorCards
import Derived.Test.YtbhhgbgfaemfdaaGreatDoorTie
import Derived.Test.YtbhhgbgfaemfdaaGreatDoorPrwJ
import Derived.Test.YtbhhgbgfaemfdaaGreatDoorPrwH
import Derived.Test.YtbhhgbgfaemfdaaGreatDoorRiE
import Derived.Test.YtbhhgbgfaemfdaaGreatDoorRG
namespace Go.Proofs.YtbhhgbgfaemfdaaGreatDoor.printWithin
open Go.ChangeShapes Go.WideShapes Go.ChangeAt Go.RowKit
open Go.ChangeMaps (open_string shut_string)
theorem own:ownKnob Tryz.prog.godebug=none:=by kernel_rfl
theorem laidOut:laidOutB Tryz.prog=true:=by kernel_rfl
attribute [local go_sem] Oper.semAt_some
theorem raw_sm {p q:Pol} (hp:PolBk p 1048576) (hq:PolBk q 1048576):PolSm (rawB p q):=by
 have h: ∀a b:Nat,a<=1048576->b<=1048576->a+b<=100000000:=fun _ _ _ _=>by omega
 exact⟨by show(p.tags++q.tags).length<=_;rw[List.length_append];exact h _ _ (hp.rows 0 (by omega)) (hq.rows 0 (by omega)),by show(p.schemes++q.schemes).length<=_;rw[List.length_append];exact h _ _ (hp.rows 1 (by omega)) (hq.rows 1 (by omega)),by show(p.css++q.css).length<=_;rw[List.length_append];exact h _ _ (hp.rows 2 (by omega)) (hq.rows 2 (by omega)),by show(p.drops++q.drops).length<=_;rw[List.length_append];exact h _ _ (hp.rows 3 (by omega)) (hq.rows 3 (by omega)),by show(p.attrs++q.attrs).length<=_;rw[List.length_append];exact h _ _ (hp.rows 4 (by omega)) (hq.rows 4 (by omega)),by show(p.forces++q.forces).length<=_;rw[List.length_append];exact h _ _ (hp.rows 5 (by omega)) (hq.rows 5 (by omega))⟩
theorem both_sm {p q:Pol} (h:PolSm (rawB p q)):PolSm (bothP p q):=h.neat
set_option maxRecDepth 100000 in
set_option maxHeartbeats 16000000 in
theorem walk (vp:Value) (p:Pol) (vq:Value) (q:Pol) (w:World) (hT:Ten w) (h0:PolV w (fun _=>False) vp p) (b0:PolBk p 1048576) (h1:PolV w (fun _=>False) vq q) (b1:PolBk q 1048576):Calls Tryz.prog 12 #[vp,vq] w (Ret (.bool true) w):=by
 have hmx:Tryz.prog.follows .mixedOrders=true:=by kernel_rfl
 have HTn:=Lib.hid hT
 have HV0:=Lib.hid h0
 have HK0:=Lib.hid b0
 have HF0:=Lib.hid (fun W (hb:Below w.heap.size w W)=>rfew_any vp p W (h0.below hb) b0)
 have HV1:=Lib.hid h1
 have HK1:=Lib.hid b1
 have HF1:=Lib.hid (fun W (hb:Below w.heap.size w W)=>rfew_any vq q W (h1.below hb) b1)
 obtain⟨v0,v1,v2,v3,v4,v5,rfl,⟨A0,k0,rfl,_⟩,⟨A1,k1,rfl,_⟩,⟨A2,k2,rfl,_⟩,⟨A3,k3,rfl,_⟩,⟨A4,k4,rfl,_⟩,⟨A5,k5,rfl,_⟩⟩:=h0
 obtain⟨v0,v1,v2,v3,v4,v5,rfl,⟨C0,j0,rfl,_⟩,⟨C1,j1,rfl,_⟩,⟨C2,j2,rfl,_⟩,⟨C3,j3,rfl,_⟩,⟨C4,j4,rfl,_⟩,⟨C5,j5,rfl,_⟩⟩:=h1
 have HAw:=Lib.hid (fun W (hb:Below w.heap.size w W)=>awake09_any W (hT.below hb))
 clear hT b0 b1
 obtain⟨f0,hf0⟩: ∃f,fewP p=f:=⟨_,rfl⟩
 rw[hf0]at HF0
 clear hf0
 obtain⟨f1,hf1⟩: ∃f,fewP q=f:=⟨_,rfl⟩
 rw[hf1]at HF1
 clear hf1
 go_enter Tryz.func12,Tryz.ntmps12
 go_upto_region 1 with fail
 refine name_world fun W0 hW0=> ?_
 obtain⟨B,hB⟩: ∃B,w.heap.size=B:=⟨_,rfl⟩
 have hb0:Below w.heap.size w W0:=by rw[hW0];exact bel
 have c0:W0.cell? ⟨B,0,none⟩=some (.slice A0 (fN p 0) k0):=by rw[hW0,<-hB];simp[go_sem]
 have c1:W0.cell? ⟨B,1,none⟩=some (.slice A1 (fN p 1) k1):=by rw[hW0,<-hB];simp[go_sem]
 have c2:W0.cell? ⟨B,2,none⟩=some (.slice A2 (fN p 2) k2):=by rw[hW0,<-hB];simp[go_sem]
 have c3:W0.cell? ⟨B,3,none⟩=some (.slice A3 (fN p 3) k3):=by rw[hW0,<-hB];simp[go_sem]
 have c4:W0.cell? ⟨B,4,none⟩=some (.slice A4 (fN p 4) k4):=by rw[hW0,<-hB];simp[go_sem]
 have c5:W0.cell? ⟨B,5,none⟩=some (.slice A5 (fN p 5) k5):=by rw[hW0,<-hB];simp[go_sem]
 have c6:W0.cell? ⟨B,6,none⟩=some (.bool p.rel):=by rw[hW0,<-hB];simp[go_sem]
 have c7:W0.cell? ⟨B,7,none⟩=some (.int .i64 p.depth):=by rw[hW0,<-hB];simp[go_sem]
 have c8:W0.cell? ⟨B,8,none⟩=some (.int .i64 p.name):=by rw[hW0,<-hB];simp[go_sem]
 have c9:W0.cell? ⟨B,9,none⟩=some (.int .i64 p.value):=by rw[hW0,<-hB];simp[go_sem]
 have d0:W0.cell? ⟨B+1,0,none⟩=some (.slice C0 (fN q 0) j0):=by rw[hW0,<-hB];simp[go_sem]
 have d1:W0.cell? ⟨B+1,1,none⟩=some (.slice C1 (fN q 1) j1):=by rw[hW0,<-hB];simp[go_sem]
 have d2:W0.cell? ⟨B+1,2,none⟩=some (.slice C2 (fN q 2) j2):=by rw[hW0,<-hB];simp[go_sem]
 have d3:W0.cell? ⟨B+1,3,none⟩=some (.slice C3 (fN q 3) j3):=by rw[hW0,<-hB];simp[go_sem]
 have d4:W0.cell? ⟨B+1,4,none⟩=some (.slice C4 (fN q 4) j4):=by rw[hW0,<-hB];simp[go_sem]
 have d5:W0.cell? ⟨B+1,5,none⟩=some (.slice C5 (fN q 5) j5):=by rw[hW0,<-hB];simp[go_sem]
 have d6:W0.cell? ⟨B+1,6,none⟩=some (.bool q.rel):=by rw[hW0,<-hB];simp[go_sem]
 have d7:W0.cell? ⟨B+1,7,none⟩=some (.int .i64 q.depth):=by rw[hW0,<-hB];simp[go_sem]
 have d8:W0.cell? ⟨B+1,8,none⟩=some (.int .i64 q.name):=by rw[hW0,<-hB];simp[go_sem]
 have d9:W0.cell? ⟨B+1,9,none⟩=some (.int .i64 q.value):=by rw[hW0,<-hB];simp[go_sem]
 have hBl:B+1<W0.heap.size:=by rw[hW0,<-hB];simp
 have z3:W0.frozen? ⟨B+1,3,none⟩=false:=by rw[hW0,<-hB];simp[go_sem]
 have hwB:w.heap.size<=B+1:=by omega
 have HB0:=Lib.hid hb0
 rw[hB]
 clear hW0 hb0 hB
 have HG0:=Lib.hid (fun W (hb:Below W0.heap.size W0 W)=>HB0.out.trans (hb.mono HB0.out.size))
 go_upto_region 4 with(first
  |(go_at_call 29;(with_reducible refine(Ret.flat (HAw.out _ (HG0.out _ bel))).mono ?_);rintro e V0 ⟨rfl,Y0,rfl⟩)
  |(go_at_call 29;(with_reducible refine(HAw.out _ (HG0.out _ bel)).mono ?_);rintro e V0 ⟨rfl,Y0,rfl⟩)
  |(go_at_call 30;(with_reducible refine(Ret.flat (HF0.out _ (HG0.out _ bel))).mono ?_);rintro e V1 ⟨rfl,Y1,rfl⟩)
  |(go_at_call 30;(with_reducible refine(HF0.out _ (HG0.out _ bel)).mono ?_);rintro e V1 ⟨rfl,Y1,rfl⟩)
  |(go_at_call 30;(with_reducible refine(Ret.flat (HF1.out _ (HG0.out _ bel))).mono ?_);rintro e V2 ⟨rfl,Y2,rfl⟩)
  |(go_at_call 30;(with_reducible refine(HF1.out _ (HG0.out _ bel)).mono ?_);rintro e V2 ⟨rfl,Y2,rfl⟩))
 refine name_world fun V0 hV0=> ?_
 have hv0:Below W0.heap.size W0 V0:=by rw[hV0];exact bel
 have HBv:=Lib.hid (HB0.out.trans (hv0.mono HB0.out.size))
 have hBv:B+1<V0.heap.size:=Nat.lt_of_lt_of_le hBl hv0.size
 clear hV0
 have x0:=(hv0.cell (p:=⟨B,0,none⟩) (show B<W0.heap.size by omega)).trans c0
 have x1:=(hv0.cell (p:=⟨B,1,none⟩) (show B<W0.heap.size by omega)).trans c1
 have x2:=(hv0.cell (p:=⟨B,2,none⟩) (show B<W0.heap.size by omega)).trans c2
 have x3:=(hv0.cell (p:=⟨B,3,none⟩) (show B<W0.heap.size by omega)).trans c3
 have x4:=(hv0.cell (p:=⟨B,4,none⟩) (show B<W0.heap.size by omega)).trans c4
 have x5:=(hv0.cell (p:=⟨B,5,none⟩) (show B<W0.heap.size by omega)).trans c5
 have x6:=(hv0.cell (p:=⟨B,6,none⟩) (show B<W0.heap.size by omega)).trans c6
 have x7:=(hv0.cell (p:=⟨B,7,none⟩) (show B<W0.heap.size by omega)).trans c7
 have x8:=(hv0.cell (p:=⟨B,8,none⟩) (show B<W0.heap.size by omega)).trans c8
 have x9:=(hv0.cell (p:=⟨B,9,none⟩) (show B<W0.heap.size by omega)).trans c9
 have y0:=(hv0.cell (p:=⟨B+1,0,none⟩) (show B+1<W0.heap.size by omega)).trans d0
 have y1:=(hv0.cell (p:=⟨B+1,1,none⟩) (show B+1<W0.heap.size by omega)).trans d1
 have y2:=(hv0.cell (p:=⟨B+1,2,none⟩) (show B+1<W0.heap.size by omega)).trans d2
 have y3:=(hv0.cell (p:=⟨B+1,3,none⟩) (show B+1<W0.heap.size by omega)).trans d3
 have y4:=(hv0.cell (p:=⟨B+1,4,none⟩) (show B+1<W0.heap.size by omega)).trans d4
 have y5:=(hv0.cell (p:=⟨B+1,5,none⟩) (show B+1<W0.heap.size by omega)).trans d5
 have y6:=(hv0.cell (p:=⟨B+1,6,none⟩) (show B+1<W0.heap.size by omega)).trans d6
 have y7:=(hv0.cell (p:=⟨B+1,7,none⟩) (show B+1<W0.heap.size by omega)).trans d7
 have y8:=(hv0.cell (p:=⟨B+1,8,none⟩) (show B+1<W0.heap.size by omega)).trans d8
 have y9:=(hv0.cell (p:=⟨B+1,9,none⟩) (show B+1<W0.heap.size by omega)).trans d9
 have z4:V0.frozen? ⟨B+1,3,none⟩=false:=(hv0.frozen (p:=⟨B+1,3,none⟩) hBl).trans z3
 clear hv0 c0 c1 c2 c3 c4 c5 c6 c7 c8 c9 d0 d1 d2 d3 d4 d5 d6 d7 d8 d9
 have HG1:=Lib.hid (fun W (hb:Below V0.heap.size V0 W)=>HBv.out.trans (hb.mono HBv.out.size))
 cases hff:(f0&&f1)
 case false=>
  cases f0<;>cases f1<;>try(exfalso;revert hff;decide)
  all_goals
   clear hff
   go_wp2_with fail
   go_ret
   exact Ret.of rfl (HBv.out.trans ((bel:Below V0.heap.size V0 _).mono HBv.out.size))
 obtain rfl:f0=true:=by cases f0<;>simp_all
 obtain rfl:f1=true:=by cases f1<;>simp_all
 clear hff
 obtain⟨q',hq'⟩: ∃q':Pol,{q with drops:=p.drops}=q':=⟨_,rfl⟩
 have HK2:Hid (PolBk q' 1048576):=by rw[<-hq'];exact⟨fun j hj=>by rcases(by omega:j=0\/j=1\/j=2\/j=3\/j=4\/j=5)with rfl|rfl|rfl|rfl|rfl|rfl;exact HK1.out.rows 0 hj;exact HK1.out.rows 1 hj;exact HK1.out.rows 2 hj;exact HK0.out.rows 3 hj;exact HK1.out.rows 4 hj;exact HK1.out.rows 5 hj,HK1.out.tags,HK1.out.schemes,HK1.out.css,HK0.out.drops,HK1.out.attrs,HK1.out.forces⟩
 have hD:Hid (q'.drops=p.drops):=by show _=_;rw[<-hq']
 have HE:Hid (fN q 0=fN q' 0/\fN q 1=fN q' 1/\fN q 2=fN q' 2/\fN p 3=fN q' 3/\fN q 4=fN q' 4/\fN q 5=fN q' 5/\q.rel=q'.rel/\q.depth=q'.depth/\q.name=q'.name/\q.value=q'.value):=by rw[<-hq'];exact⟨rfl,rfl,rfl,rfl,rfl,rfl,rfl,rfl,rfl,rfl⟩
 have HVq:=Lib.hid (show ∀W,Below w.heap.size w W->PolV W (fun _=>False) (.agg #[.slice C0 (fN q' 0) j0,.slice C1 (fN q' 1) j1,.slice C2 (fN q' 2) j2,.slice A3 (fN q' 3) k3,.slice C4 (fN q' 4) j4,.slice C5 (fN q' 5) j5,.bool q'.rel,.int .i64 q'.depth,.int .i64 q'.name,.int .i64 q'.value]) q' from fun W hb=>by
  obtain⟨_,_,_,_,_,_,e1,a0,a1,a2,a3,a4,a5⟩:=HV0.out.below hb
  obtain⟨_,_,_,_,_,_,e2,b0,b1,b2,b3,b4,b5⟩:=HV1.out.below hb
  cases e1
  cases e2
  rw[<-hq']
  exact⟨_,_,_,_,_,_,rfl,b0,b1,b2,a3,b4,b5⟩)
 clear hq'
 go_upto_region 7 with fail
 refine name_world fun V1 hV1=> ?_
 have hv1:Below w.heap.size w V1:=by rw[hV1];exact HBv.out.trans bel
 have hB1:B+1<V1.heap.size:=by rw[hV1];simpa using hBv
 have c0:V1.cell? ⟨B,0,none⟩=some (.slice A0 (fN p 0) k0):=by rw[hV1];simp[go_sem,x0]
 have c1:V1.cell? ⟨B,1,none⟩=some (.slice A1 (fN p 1) k1):=by rw[hV1];simp[go_sem,x1]
 have c2:V1.cell? ⟨B,2,none⟩=some (.slice A2 (fN p 2) k2):=by rw[hV1];simp[go_sem,x2]
 have c3:V1.cell? ⟨B,3,none⟩=some (.slice A3 (fN p 3) k3):=by rw[hV1];simp[go_sem,x3]
 have c4:V1.cell? ⟨B,4,none⟩=some (.slice A4 (fN p 4) k4):=by rw[hV1];simp[go_sem,x4]
 have c5:V1.cell? ⟨B,5,none⟩=some (.slice A5 (fN p 5) k5):=by rw[hV1];simp[go_sem,x5]
 have c6:V1.cell? ⟨B,6,none⟩=some (.bool p.rel):=by rw[hV1];simp[go_sem,x6]
 have c7:V1.cell? ⟨B,7,none⟩=some (.int .i64 p.depth):=by rw[hV1];simp[go_sem,x7]
 have c8:V1.cell? ⟨B,8,none⟩=some (.int .i64 p.name):=by rw[hV1];simp[go_sem,x8]
 have c9:V1.cell? ⟨B,9,none⟩=some (.int .i64 p.value):=by rw[hV1];simp[go_sem,x9]
 have d0:V1.cell? ⟨B+1,0,none⟩=some (.slice C0 (fN q' 0) j0):=by rw[hV1,<-HE.out.1];simp[go_sem,y0]
 have d1:V1.cell? ⟨B+1,1,none⟩=some (.slice C1 (fN q' 1) j1):=by rw[hV1,<-HE.out.2.1];simp[go_sem,y1]
 have d2:V1.cell? ⟨B+1,2,none⟩=some (.slice C2 (fN q' 2) j2):=by rw[hV1,<-HE.out.2.2.1];simp[go_sem,y2]
 have d3:V1.cell? ⟨B+1,3,none⟩=some (.slice A3 (fN q' 3) k3):=by rw[hV1,<-HE.out.2.2.2.1];simp[go_sem,y3]
 have d4:V1.cell? ⟨B+1,4,none⟩=some (.slice C4 (fN q' 4) j4):=by rw[hV1,<-HE.out.2.2.2.2.1];simp[go_sem,y4]
 have d5:V1.cell? ⟨B+1,5,none⟩=some (.slice C5 (fN q' 5) j5):=by rw[hV1,<-HE.out.2.2.2.2.2.1];simp[go_sem,y5]
 have d6:V1.cell? ⟨B+1,6,none⟩=some (.bool q'.rel):=by rw[hV1,<-HE.out.2.2.2.2.2.2.1];simp[go_sem,y6]
 have d7:V1.cell? ⟨B+1,7,none⟩=some (.int .i64 q'.depth):=by rw[hV1,<-HE.out.2.2.2.2.2.2.2.1];simp[go_sem,y7]
 have d8:V1.cell? ⟨B+1,8,none⟩=some (.int .i64 q'.name):=by rw[hV1,<-HE.out.2.2.2.2.2.2.2.2.1];simp[go_sem,y8]
 have d9:V1.cell? ⟨B+1,9,none⟩=some (.int .i64 q'.value):=by rw[hV1,<-HE.out.2.2.2.2.2.2.2.2.2];simp[go_sem,y9]
 have HB1:=Lib.hid hv1
 clear hV1 hv1 x0 x1 x2 x3 x4 x5 x6 x7 x8 x9 y0 y1 y2 y3 y4 y5 y6 y7 y8 y9 z3 z4 HG0 HG1 HBv hBv
 have HG1:=Lib.hid (fun W (hb:Below V1.heap.size V1 W)=>HB1.out.trans (hb.mono HB1.out.size))
 have HRq:Hid (PolSm (rawB p q')):=raw_sm HK0.out HK2.out
 have HRp:Hid (PolSm (rawB p p)):=raw_sm HK0.out HK0.out
 have HBo:=Lib.hid (fun W hb=>both_any _ _ p q' W (HV0.out.below hb) (HVq.out W hb) HK0.out.sm HK2.out.sm HRq.out)
 obtain⟨b,hb⟩: ∃b,bothP p q'=b:=⟨_,rfl⟩
 have HT:Hid (withinR p b=true/\withinR q' b=true/\withinR p p=true):=by rw[<-hb];exact within_both p q' hD.out
 rw[hb]at HBo
 clear hb
 go_upto_region 8 with(go_at_call 36;(with_reducible refine(HBo.out _ (HG1.out _ bel)).mono ?_);rintro e U3 ⟨v3,rfl,hb3,hp3⟩;have HP3:=Lib.hid hp3;have HU3:=Lib.hid hb3;obtain⟨n0,n1,n2,n3,n4,n5,rfl,⟨G0,m0,rfl,_⟩,⟨G1,m1,rfl,_⟩,⟨G2,m2,rfl,_⟩,⟨G3,m3,rfl,_⟩,⟨G4,m4,rfl,_⟩,⟨G5,m5,rfl,_⟩⟩:=hp3;clear hb3)
 refine name_world fun V2 hV2=> ?_
 have hu3:Below V1.heap.size V1 V2:=by rw[hV2];exact HU3.out.trans ((bel:Below U3.heap.size U3 _).mono HU3.out.size)
 obtain⟨B3,hB3⟩: ∃B3,U3.heap.size=B3:=⟨_,rfl⟩
 have f0:V2.cell? ⟨B3,0,none⟩=some (.slice G0 (fN b 0) m0):=by rw[hV2,<-hB3];simp[go_sem]
 have f1:V2.cell? ⟨B3,1,none⟩=some (.slice G1 (fN b 1) m1):=by rw[hV2,<-hB3];simp[go_sem]
 have f2:V2.cell? ⟨B3,2,none⟩=some (.slice G2 (fN b 2) m2):=by rw[hV2,<-hB3];simp[go_sem]
 have f3:V2.cell? ⟨B3,3,none⟩=some (.slice G3 (fN b 3) m3):=by rw[hV2,<-hB3];simp[go_sem]
 have f4:V2.cell? ⟨B3,4,none⟩=some (.slice G4 (fN b 4) m4):=by rw[hV2,<-hB3];simp[go_sem]
 have f5:V2.cell? ⟨B3,5,none⟩=some (.slice G5 (fN b 5) m5):=by rw[hV2,<-hB3];simp[go_sem]
 have f6:V2.cell? ⟨B3,6,none⟩=some (.bool b.rel):=by rw[hV2,<-hB3];simp[go_sem]
 have f7:V2.cell? ⟨B3,7,none⟩=some (.int .i64 b.depth):=by rw[hV2,<-hB3];simp[go_sem]
 have f8:V2.cell? ⟨B3,8,none⟩=some (.int .i64 b.name):=by rw[hV2,<-hB3];simp[go_sem]
 have f9:V2.cell? ⟨B3,9,none⟩=some (.int .i64 b.value):=by rw[hV2,<-hB3];simp[go_sem]
 have hPb:PolV V2 (fun _=>False) (.agg #[.slice G0 (fN b 0) m0,.slice G1 (fN b 1) m1,.slice G2 (fN b 2) m2,.slice G3 (fN b 3) m3,.slice G4 (fN b 4) m4,.slice G5 (fN b 5) m5,.bool b.rel,.int .i64 b.depth,.int .i64 b.name,.int .i64 b.value]) b:=HP3.out.below (by rw[hV2];exact bel)
 have hB0v:B<V1.heap.size:=by omega
 rw[hB3]
 have g0:V2.cell? ⟨B,0,none⟩=some (.slice A0 (fN p 0) k0):=(hu3.cell (p:=⟨B,0,none⟩) hB0v).trans c0
 have g1:V2.cell? ⟨B,1,none⟩=some (.slice A1 (fN p 1) k1):=(hu3.cell (p:=⟨B,1,none⟩) hB0v).trans c1
 have g2:V2.cell? ⟨B,2,none⟩=some (.slice A2 (fN p 2) k2):=(hu3.cell (p:=⟨B,2,none⟩) hB0v).trans c2
 have g3:V2.cell? ⟨B,3,none⟩=some (.slice A3 (fN p 3) k3):=(hu3.cell (p:=⟨B,3,none⟩) hB0v).trans c3
 have g4:V2.cell? ⟨B,4,none⟩=some (.slice A4 (fN p 4) k4):=(hu3.cell (p:=⟨B,4,none⟩) hB0v).trans c4
 have g5:V2.cell? ⟨B,5,none⟩=some (.slice A5 (fN p 5) k5):=(hu3.cell (p:=⟨B,5,none⟩) hB0v).trans c5
 have g6:V2.cell? ⟨B,6,none⟩=some (.bool p.rel):=(hu3.cell (p:=⟨B,6,none⟩) hB0v).trans c6
 have g7:V2.cell? ⟨B,7,none⟩=some (.int .i64 p.depth):=(hu3.cell (p:=⟨B,7,none⟩) hB0v).trans c7
 have g8:V2.cell? ⟨B,8,none⟩=some (.int .i64 p.name):=(hu3.cell (p:=⟨B,8,none⟩) hB0v).trans c8
 have g9:V2.cell? ⟨B,9,none⟩=some (.int .i64 p.value):=(hu3.cell (p:=⟨B,9,none⟩) hB0v).trans c9
 have h0:V2.cell? ⟨B+1,0,none⟩=some (.slice C0 (fN q' 0) j0):=(hu3.cell (p:=⟨B+1,0,none⟩) hB1).trans d0
 have h1:V2.cell? ⟨B+1,1,none⟩=some (.slice C1 (fN q' 1) j1):=(hu3.cell (p:=⟨B+1,1,none⟩) hB1).trans d1
 have h2:V2.cell? ⟨B+1,2,none⟩=some (.slice C2 (fN q' 2) j2):=(hu3.cell (p:=⟨B+1,2,none⟩) hB1).trans d2
 have h3:V2.cell? ⟨B+1,3,none⟩=some (.slice A3 (fN q' 3) k3):=(hu3.cell (p:=⟨B+1,3,none⟩) hB1).trans d3
 have h4:V2.cell? ⟨B+1,4,none⟩=some (.slice C4 (fN q' 4) j4):=(hu3.cell (p:=⟨B+1,4,none⟩) hB1).trans d4
 have h5:V2.cell? ⟨B+1,5,none⟩=some (.slice C5 (fN q' 5) j5):=(hu3.cell (p:=⟨B+1,5,none⟩) hB1).trans d5
 have h6:V2.cell? ⟨B+1,6,none⟩=some (.bool q'.rel):=(hu3.cell (p:=⟨B+1,6,none⟩) hB1).trans d6
 have h7:V2.cell? ⟨B+1,7,none⟩=some (.int .i64 q'.depth):=(hu3.cell (p:=⟨B+1,7,none⟩) hB1).trans d7
 have h8:V2.cell? ⟨B+1,8,none⟩=some (.int .i64 q'.name):=(hu3.cell (p:=⟨B+1,8,none⟩) hB1).trans d8
 have h9:V2.cell? ⟨B+1,9,none⟩=some (.int .i64 q'.value):=(hu3.cell (p:=⟨B+1,9,none⟩) hB1).trans d9
 have hBl2:B<V2.heap.size:=Nat.lt_of_lt_of_le hB0v hu3.size
 have hBl3:B+1<V2.heap.size:=Nat.lt_of_lt_of_le hB1 hu3.size
 have hBl4:B3<V2.heap.size:=World.block_lt_of_cell? V2 _ f0
 have HPb:=Lib.hid hPb
 have HB2:=Lib.hid (HG1.out V2 hu3)
 have HG2:=Lib.hid (fun W (hb:Below V2.heap.size V2 W)=>HB2.out.trans (hb.mono HB2.out.size))
 clear hV2 hu3 hPb HP3 HU3 hB3 HBo HG1 c0 c1 c2 c3 c4 c5 c6 c7 c8 c9 d0 d1 d2 d3 d4 d5 d6 d7 d8 d9
 have hS0:Below V2.heap.size V2 V2.drew:=bel
 go_upto_region 8 with fail
 refine wp_region_row 6 [(0,true),(1,true),(3,true),(2,false),(4,false),(5,false)] (fun V=>Below V2.heap.size V2 V) hmx (by kernel_rfl) (by kernel_rfl) (by kernel_rfl) (by decide) rfl (fun c a d v w h=>by first|exact h|(obtain⟨x,y⟩:=(h:_/\_);cases d<;>exact⟨x,y⟩)) (by kernel_rfl) (by exact hS0) ?_
 refine wpRow_readD (v:=(.agg #[.slice A0 (fN p 0) k0,.slice A1 (fN p 1) k1,.slice A2 (fN p 2) k2,.slice A3 (fN p 3) k3,.slice A4 (fN p 4) k4,.slice A5 (fN p 5) k5,.bool p.rel,.int .i64 p.depth,.int .i64 p.name,.int .i64 p.value])) 32 rfl rfl rfl (fun W hW=>by have d0:=(hW.cell (p:=⟨B,0,none⟩) hBl2).trans g0;have d1:=(hW.cell (p:=⟨B,1,none⟩) hBl2).trans g1;have d2:=(hW.cell (p:=⟨B,2,none⟩) hBl2).trans g2;have d3:=(hW.cell (p:=⟨B,3,none⟩) hBl2).trans g3;have d4:=(hW.cell (p:=⟨B,4,none⟩) hBl2).trans g4;have d5:=(hW.cell (p:=⟨B,5,none⟩) hBl2).trans g5;have d6:=(hW.cell (p:=⟨B,6,none⟩) hBl2).trans g6;have d7:=(hW.cell (p:=⟨B,7,none⟩) hBl2).trans g7;have d8:=(hW.cell (p:=⟨B,8,none⟩) hBl2).trans g8;have d9:=(hW.cell (p:=⟨B,9,none⟩) hBl2).trans g9;simp[execOp,go_sem,d0,d1,d2,d3,d4,d5,d6,d7,d8,d9]) ?_
 simp only[Act.put,List.setIfInBounds_toArray,List.set_cons_succ,List.set_cons_zero]
 refine wpRow_readD (v:=(.agg #[.slice A0 (fN p 0) k0,.slice A1 (fN p 1) k1,.slice A2 (fN p 2) k2,.slice A3 (fN p 3) k3,.slice A4 (fN p 4) k4,.slice A5 (fN p 5) k5,.bool p.rel,.int .i64 p.depth,.int .i64 p.name,.int .i64 p.value])) 33 rfl rfl rfl (fun W hW=>by have d0:=(hW.cell (p:=⟨B,0,none⟩) hBl2).trans g0;have d1:=(hW.cell (p:=⟨B,1,none⟩) hBl2).trans g1;have d2:=(hW.cell (p:=⟨B,2,none⟩) hBl2).trans g2;have d3:=(hW.cell (p:=⟨B,3,none⟩) hBl2).trans g3;have d4:=(hW.cell (p:=⟨B,4,none⟩) hBl2).trans g4;have d5:=(hW.cell (p:=⟨B,5,none⟩) hBl2).trans g5;have d6:=(hW.cell (p:=⟨B,6,none⟩) hBl2).trans g6;have d7:=(hW.cell (p:=⟨B,7,none⟩) hBl2).trans g7;have d8:=(hW.cell (p:=⟨B,8,none⟩) hBl2).trans g8;have d9:=(hW.cell (p:=⟨B,9,none⟩) hBl2).trans g9;simp[execOp,go_sem,d0,d1,d2,d3,d4,d5,d6,d7,d8,d9]) ?_
 simp only[Act.put,List.setIfInBounds_toArray,List.set_cons_succ,List.set_cons_zero]
 refine wpRow_readD (v:=(.agg #[.slice A0 (fN p 0) k0,.slice A1 (fN p 1) k1,.slice A2 (fN p 2) k2,.slice A3 (fN p 3) k3,.slice A4 (fN p 4) k4,.slice A5 (fN p 5) k5,.bool p.rel,.int .i64 p.depth,.int .i64 p.name,.int .i64 p.value])) 35 rfl rfl rfl (fun W hW=>by have d0:=(hW.cell (p:=⟨B,0,none⟩) hBl2).trans g0;have d1:=(hW.cell (p:=⟨B,1,none⟩) hBl2).trans g1;have d2:=(hW.cell (p:=⟨B,2,none⟩) hBl2).trans g2;have d3:=(hW.cell (p:=⟨B,3,none⟩) hBl2).trans g3;have d4:=(hW.cell (p:=⟨B,4,none⟩) hBl2).trans g4;have d5:=(hW.cell (p:=⟨B,5,none⟩) hBl2).trans g5;have d6:=(hW.cell (p:=⟨B,6,none⟩) hBl2).trans g6;have d7:=(hW.cell (p:=⟨B,7,none⟩) hBl2).trans g7;have d8:=(hW.cell (p:=⟨B,8,none⟩) hBl2).trans g8;have d9:=(hW.cell (p:=⟨B,9,none⟩) hBl2).trans g9;simp[execOp,go_sem,d0,d1,d2,d3,d4,d5,d6,d7,d8,d9]) ?_
 simp only[Act.put,List.setIfInBounds_toArray,List.set_cons_succ,List.set_cons_zero]
 refine wpRow_op rfl rfl fun Kc hKc=> ?_
 unfold Oper.wp
 simp[execOp,go_sem]
 refine(both_any _ _ p p _ (HV0.out.below (HG2.out _ hS0)) (HV0.out.below (HG2.out _ hS0)) HK0.out.sm HK0.out.sm HRp.out).mono ?_
 rintro e Wk1 ⟨vn,rfl,hb1,hv1⟩;have hk1:Below V2.heap.size V2 Wk1:=hS0.trans (hb1.mono hS0.size)
 show Kc _ _
 apply hKc
 refine⟨hk1, ?_⟩
 refine wpRow_op rfl rfl fun Kc hKc=> ?_
 unfold Oper.wp
 simp[execOp,go_sem]
 refine(neat_any _ p _ (HV0.out.below (HG2.out _ hk1)) HK0.out.sm).mono ?_
 rintro e Wk2 ⟨vm,rfl,hb2,hv2⟩;have hk2:Below V2.heap.size V2 Wk2:=hk1.trans (hb2.mono hk1.size)
 show Kc _ _
 apply hKc
 refine⟨hk2, ?_⟩
 refine wpRow_op rfl rfl fun Kc hKc=> ?_
 unfold Oper.wp
 simp[execOp,go_sem]
 refine(rsame_any vn vm (bothP p p) (neatP p) _ _ _ (hv1.below hb2) hv2 (both_sm HRp.out) HK0.out.sm.neat).mono ?_
 rintro e Wk3 ⟨rfl,Xk3,hXk3⟩;have hk3:Below V2.heap.size V2 Wk3:=hk2.trans ((show Below Wk2.heap.size Wk2 Wk3 by rw[hXk3];exact bel).mono hk2.size);clear hXk3
 show Kc _ _
 apply hKc
 refine⟨hk3, ?_⟩
 dsimp only[wpRow,List.drop]
 simp only[both_self,decide_true]
 have x0:Wk3.cell? ⟨B,0,none⟩=some (.slice A0 (fN p 0) k0):=(hk3.cell (p:=⟨B,0,none⟩) hBl2).trans g0
 have x1:Wk3.cell? ⟨B,1,none⟩=some (.slice A1 (fN p 1) k1):=(hk3.cell (p:=⟨B,1,none⟩) hBl2).trans g1
 have x2:Wk3.cell? ⟨B,2,none⟩=some (.slice A2 (fN p 2) k2):=(hk3.cell (p:=⟨B,2,none⟩) hBl2).trans g2
 have x3:Wk3.cell? ⟨B,3,none⟩=some (.slice A3 (fN p 3) k3):=(hk3.cell (p:=⟨B,3,none⟩) hBl2).trans g3
 have x4:Wk3.cell? ⟨B,4,none⟩=some (.slice A4 (fN p 4) k4):=(hk3.cell (p:=⟨B,4,none⟩) hBl2).trans g4
 have x5:Wk3.cell? ⟨B,5,none⟩=some (.slice A5 (fN p 5) k5):=(hk3.cell (p:=⟨B,5,none⟩) hBl2).trans g5
 have x6:Wk3.cell? ⟨B,6,none⟩=some (.bool p.rel):=(hk3.cell (p:=⟨B,6,none⟩) hBl2).trans g6
 have x7:Wk3.cell? ⟨B,7,none⟩=some (.int .i64 p.depth):=(hk3.cell (p:=⟨B,7,none⟩) hBl2).trans g7
 have x8:Wk3.cell? ⟨B,8,none⟩=some (.int .i64 p.name):=(hk3.cell (p:=⟨B,8,none⟩) hBl2).trans g8
 have x9:Wk3.cell? ⟨B,9,none⟩=some (.int .i64 p.value):=(hk3.cell (p:=⟨B,9,none⟩) hBl2).trans g9
 have y0:Wk3.cell? ⟨B+1,0,none⟩=some (.slice C0 (fN q' 0) j0):=(hk3.cell (p:=⟨B+1,0,none⟩) hBl3).trans h0
 have y1:Wk3.cell? ⟨B+1,1,none⟩=some (.slice C1 (fN q' 1) j1):=(hk3.cell (p:=⟨B+1,1,none⟩) hBl3).trans h1
 have y2:Wk3.cell? ⟨B+1,2,none⟩=some (.slice C2 (fN q' 2) j2):=(hk3.cell (p:=⟨B+1,2,none⟩) hBl3).trans h2
 have y3:Wk3.cell? ⟨B+1,3,none⟩=some (.slice A3 (fN q' 3) k3):=(hk3.cell (p:=⟨B+1,3,none⟩) hBl3).trans h3
 have y4:Wk3.cell? ⟨B+1,4,none⟩=some (.slice C4 (fN q' 4) j4):=(hk3.cell (p:=⟨B+1,4,none⟩) hBl3).trans h4
 have y5:Wk3.cell? ⟨B+1,5,none⟩=some (.slice C5 (fN q' 5) j5):=(hk3.cell (p:=⟨B+1,5,none⟩) hBl3).trans h5
 have y6:Wk3.cell? ⟨B+1,6,none⟩=some (.bool q'.rel):=(hk3.cell (p:=⟨B+1,6,none⟩) hBl3).trans h6
 have y7:Wk3.cell? ⟨B+1,7,none⟩=some (.int .i64 q'.depth):=(hk3.cell (p:=⟨B+1,7,none⟩) hBl3).trans h7
 have y8:Wk3.cell? ⟨B+1,8,none⟩=some (.int .i64 q'.name):=(hk3.cell (p:=⟨B+1,8,none⟩) hBl3).trans h8
 have y9:Wk3.cell? ⟨B+1,9,none⟩=some (.int .i64 q'.value):=(hk3.cell (p:=⟨B+1,9,none⟩) hBl3).trans h9
 have z0:Wk3.cell? ⟨B3,0,none⟩=some (.slice G0 (fN b 0) m0):=(hk3.cell (p:=⟨B3,0,none⟩) hBl4).trans f0
 have z1:Wk3.cell? ⟨B3,1,none⟩=some (.slice G1 (fN b 1) m1):=(hk3.cell (p:=⟨B3,1,none⟩) hBl4).trans f1
 have z2:Wk3.cell? ⟨B3,2,none⟩=some (.slice G2 (fN b 2) m2):=(hk3.cell (p:=⟨B3,2,none⟩) hBl4).trans f2
 have z3:Wk3.cell? ⟨B3,3,none⟩=some (.slice G3 (fN b 3) m3):=(hk3.cell (p:=⟨B3,3,none⟩) hBl4).trans f3
 have z4:Wk3.cell? ⟨B3,4,none⟩=some (.slice G4 (fN b 4) m4):=(hk3.cell (p:=⟨B3,4,none⟩) hBl4).trans f4
 have z5:Wk3.cell? ⟨B3,5,none⟩=some (.slice G5 (fN b 5) m5):=(hk3.cell (p:=⟨B3,5,none⟩) hBl4).trans f5
 have z6:Wk3.cell? ⟨B3,6,none⟩=some (.bool b.rel):=(hk3.cell (p:=⟨B3,6,none⟩) hBl4).trans f6
 have z7:Wk3.cell? ⟨B3,7,none⟩=some (.int .i64 b.depth):=(hk3.cell (p:=⟨B3,7,none⟩) hBl4).trans f7
 have z8:Wk3.cell? ⟨B3,8,none⟩=some (.int .i64 b.name):=(hk3.cell (p:=⟨B3,8,none⟩) hBl4).trans f8
 have z9:Wk3.cell? ⟨B3,9,none⟩=some (.int .i64 b.value):=(hk3.cell (p:=⟨B3,9,none⟩) hBl4).trans f9
 have l0:B<Wk3.heap.size:=Nat.lt_of_lt_of_le hBl2 hk3.size
 have l1:B+1<Wk3.heap.size:=Nat.lt_of_lt_of_le hBl3 hk3.size
 have l2:B3<Wk3.heap.size:=Nat.lt_of_lt_of_le hBl4 hk3.size
 have HB4:=Lib.hid (HG2.out Wk3 hk3)
 have HG4:=Lib.hid (fun W (hb:Below Wk3.heap.size Wk3 W)=>HB4.out.trans (hb.mono HB4.out.size))
 have HPk:=Lib.hid (fun W (hb:Below Wk3.heap.size Wk3 W)=>HPb.out.below (hk3.trans (hb.mono hk3.size)))
 have HW0:=Lib.hid (show ∀W,Below Wk3.heap.size Wk3 W->Calls Tryz.prog 35 #[.agg #[.slice A0 (fN p 0) k0,.slice A1 (fN p 1) k1,.slice A2 (fN p 2) k2,.slice A3 (fN p 3) k3,.slice A4 (fN p 4) k4,.slice A5 (fN p 5) k5,.bool p.rel,.int .i64 p.depth,.int .i64 p.name,.int .i64 p.value],.agg #[.slice G0 (fN b 0) m0,.slice G1 (fN b 1) m1,.slice G2 (fN b 2) m2,.slice G3 (fN b 3) m3,.slice G4 (fN b 4) m4,.slice G5 (fN b 5) m5,.bool b.rel,.int .i64 b.depth,.int .i64 b.name,.int .i64 b.value]] W (Ret (.bool true) W)from fun W hb=>by have h9:=within9_any _ _ p b W (HV0.out.below (HG4.out W hb)) (HPk.out W hb);rwa[HT.out.1]at h9)
 have HW1:=Lib.hid (show ∀W,Below Wk3.heap.size Wk3 W->Calls Tryz.prog 35 #[.agg #[.slice C0 (fN q' 0) j0,.slice C1 (fN q' 1) j1,.slice C2 (fN q' 2) j2,.slice A3 (fN q' 3) k3,.slice C4 (fN q' 4) j4,.slice C5 (fN q' 5) j5,.bool q'.rel,.int .i64 q'.depth,.int .i64 q'.name,.int .i64 q'.value],.agg #[.slice G0 (fN b 0) m0,.slice G1 (fN b 1) m1,.slice G2 (fN b 2) m2,.slice G3 (fN b 3) m3,.slice G4 (fN b 4) m4,.slice G5 (fN b 5) m5,.bool b.rel,.int .i64 b.depth,.int .i64 b.name,.int .i64 b.value]] W (Ret (.bool true) W)from fun W hb=>by have h9:=within9_any _ _ q' b W (HVq.out W (HG4.out W hb)) (HPk.out W hb);rwa[HT.out.2.1]at h9)
 have HW2:=Lib.hid (show ∀W,Below Wk3.heap.size Wk3 W->Calls Tryz.prog 35 #[.agg #[.slice A0 (fN p 0) k0,.slice A1 (fN p 1) k1,.slice A2 (fN p 2) k2,.slice A3 (fN p 3) k3,.slice A4 (fN p 4) k4,.slice A5 (fN p 5) k5,.bool p.rel,.int .i64 p.depth,.int .i64 p.name,.int .i64 p.value],.agg #[.slice A0 (fN p 0) k0,.slice A1 (fN p 1) k1,.slice A2 (fN p 2) k2,.slice A3 (fN p 3) k3,.slice A4 (fN p 4) k4,.slice A5 (fN p 5) k5,.bool p.rel,.int .i64 p.depth,.int .i64 p.name,.int .i64 p.value]] W (Ret (.bool true) W)from fun W hb=>by have h9:=within9_any _ _ p p W (HV0.out.below (HG4.out W hb)) (HV0.out.below (HG4.out W hb));rwa[HT.out.2.2]at h9)
 clear f0 f1 f2 f3 f4 f5 f6 f7 f8 f9 g0 g1 g2 g3 g4 g5 g6 g7 g8 g9 h0 h1 h2 h3 h4 h5 h6 h7 h8 h9 hk1 hk2 hk3 hb1 hb2 hv1 hv2 hS0 HG2 HPb HT HVq HV0 HV1 HF0 HF1 HAw HTn
 have HG5:=Lib.hid (fun W (hb:Below Wk3.heap.size Wk3 W)=>hb)
 go_wp2_with(first
  |(go_at_call 35;(with_reducible refine(Ret.flat (HW0.out _ (HG5.out _ bel))).mono ?_);rintro e V0 ⟨rfl,Y0,rfl⟩)
  |(go_at_call 35;(with_reducible refine(HW0.out _ (HG5.out _ bel)).mono ?_);rintro e V0 ⟨rfl,Y0,rfl⟩)
  |(go_at_call 35;(with_reducible refine(Ret.flat (HW1.out _ (HG5.out _ bel))).mono ?_);rintro e V1 ⟨rfl,Y1,rfl⟩)
  |(go_at_call 35;(with_reducible refine(HW1.out _ (HG5.out _ bel)).mono ?_);rintro e V1 ⟨rfl,Y1,rfl⟩)
  |(go_at_call 35;(with_reducible refine(Ret.flat (HW2.out _ (HG5.out _ bel))).mono ?_);rintro e V2 ⟨rfl,Y2,rfl⟩)
  |(go_at_call 35;(with_reducible refine(HW2.out _ (HG5.out _ bel)).mono ?_);rintro e V2 ⟨rfl,Y2,rfl⟩))
 go_ret
 exact Ret.of rfl (HB4.out.trans ((bel:Below Wk3.heap.size Wk3 _).mono HB4.out.size))
set_option maxRecDepth 100000 in
theorem lifted (os:Os) (started:os.Started) (H:Type) (enc:TypeId × Value->H) (F:Stop.Interp):
  ReturnsInHanded {} Tryz.checked os 12 .any (fun w args=>((Rows.OpenSpec.upto Rows.printWithinSpec).pre enc Tryz.prog Tryz.f12 Rows.printWithinUptoRow.domain false w args/\laidMetH Tryz.prog Rows.printWithinUptoRow.laid w)/\sizedMet enc Tryz.prog Tryz.f12 (Rows.OpenSpec.upto Rows.printWithinSpec) false w args) (((Rows.OpenSpec.upto Rows.printWithinSpec).at F).post enc Tryz.prog Tryz.f12 false true false false):=by
 refine handed_cond (C:=Tryz.checked) (s:=Rows.OpenSpec.upto Rows.printWithinSpec) (k:=Rows.uptoSmall) rfl (X:=fun w _=>laidMetH Tryz.prog Rows.printWithinUptoRow.laid w) (fun _ _ _ hh h=>h.of_heap hh) own started (by kernel_rfl) Tryz.func12
  (witness_cond (enc:=enc) (C:=Tryz.checked) (os:=os) (s:=Rows.OpenSpec.upto Rows.printWithinSpec) (k:=Rows.uptoSmall) rfl (X:=fun w _=>laidMetH Tryz.prog Rows.printWithinUptoRow.laid w) false (World.laidAll Tryz.prog os Rows.printWithinUptoRow.laid) #[.agg #[.slice none 0 0,.slice none 0 0,.slice none 0 0,.slice none 0 0,.slice none 0 0,.slice none 0 0,.bool false,.int .i64 0,.int .i64 0,.int .i64 0],.agg #[.slice none 0 0,.slice none 0 0,.slice none 0 0,.slice none 0 0,.slice none 0 0,.slice none 0 0,.bool false,.int .i64 0,.int .i64 0,.int .i64 0]] 8 (World.laidAll_os _ _ _)
   (World.shaped_of_ZipB (by kernel_rfl) (by kernel_rfl)) (by kernel_rfl) (x:=([.agg [.nil,.nil,.nil,.nil,.nil,.nil,.lit (.bool false),.lit (.int .i64 0),.lit (.int .i64 0),.lit (.int .i64 0)],.agg [.nil,.nil,.nil,.nil,.nil,.nil,.lit (.bool false),.lit (.int .i64 0),.lit (.int .i64 0),.lit (.int .i64 0)]],[],[])) (by kernel_rfl) rfl (by kernel_rfl) (by kernel_rfl)
   (by rw[MakeChecks.laidMetH_plain _ _ _ (by kernel_rfl)];exact laidMet_laidAll _ (by kernel_rfl) (by kernel_rfl))) ?_
 intro W base args ds gs before hval0 hW hk0 hL
 show Calls Tryz.prog 12 args W fun e W'=> ∃v,e= .returned v/\Rows.printWithinSpec.post enc Tryz.prog Tryz.f12 false true false false W args v W'
 have hval: ∀(j:Nat) t v,Tryz.f12.params[j]? =some t->args[j]? =some v->Value.okWide Tryz.prog W .any base t v:=hval0
 have hW':=hW
 obtain⟨p,q,hA0,hV,rfl,hfz,hnd⟩:=hW
 have hA:DataW.TrodAll enc Tryz.prog W 0 (fun _=>true) true Tryz.f12.params.toList args.toList ds p:=hA0
 rw[Tryz.params12]at hA hval
 obtain⟨v0,vs0,d0,ds0,p0,q0,hargs,rfl,rfl,h0,r0⟩:=trodAll_cons hA
 obtain⟨v1,vs1,d1,ds1,p1,q1,rfl,rfl,rfl,h1,r1⟩:=trodAll_cons r0
 obtain⟨rfl,rfl,rfl⟩:=trodAll_nil r1
 obtain rfl:args= #[v0,v1]:=by cases args;simp_all
 obtain⟨rfl,rfl⟩:=trodVars_none hV
 obtain⟨c0,rfl,_⟩:=okWide_struct Tryz.underlying43 (hval 0 43 v0 rfl rfl)
 have k0:=h0
 have lt0: ∀x∈p0,x.block<W.heap.size:=by obtain⟨m,hm⟩:=k0;exact DataW.trod_lt m _ _ _ hm
 obtain⟨z0,w0,b0⟩: ∃z:Pol,PolV W (fun _=>False) (.agg c0) z/\PolBk z (Rows.uptoBulk d0):=by obtain⟨fuel,hf⟩:=h0;have h9:=pol_open (x:=(d0,p0)) (show DataW.trod enc Tryz.prog W 0 (fun _=>true) true fuel 43 c0.toList=some (d0,p0) by simpa[Value.cells]using hf);simpa using h9
 obtain⟨c1,rfl,_⟩:=okWide_struct Tryz.underlying43 (hval 1 43 v1 rfl rfl)
 have k1:=h1
 have lt1: ∀x∈p1,x.block<W.heap.size:=by obtain⟨m,hm⟩:=k1;exact DataW.trod_lt m _ _ _ hm
 obtain⟨z1,w1,b1⟩: ∃z:Pol,PolV W (fun _=>False) (.agg c1) z/\PolBk z (Rows.uptoBulk d1):=by obtain⟨fuel,hf⟩:=h1;have h9:=pol_open (x:=(d1,p1)) (show DataW.trod enc Tryz.prog W 0 (fun _=>true) true fuel 43 c1.toList=some (d1,p1) by simpa[Value.cells]using hf);simpa using h9
 have hk:=bulks.bound hk0
 clear hA0 hval0 hk0
 refine(walk (.agg c0) z0 (.agg c1) z1 W (ten_laid hL (by rfl)) w0 (b0.mono (by simp only[List.append_nil,Rows.uptoBulkAll]at hk;omega)) w1 (b1.mono (by simp only[List.append_nil,Rows.uptoBulkAll]at hk;omega))).mono fun e W' hend=> ?_
 obtain⟨he,X,hX⟩:=hend
 have bel:Below W.heap.size W W':=by rw[hX];exact below_grow W X
 subst he
 exact⟨_,rfl,_,_,_,[],_,[],hW',trodAll_mk1 (shut_bool Tryz.underlying4 _),(trodAll_cons_mk (Below.trod laidOut (by kernel_rfl) (of_decide_eq_true (by kernel_rfl)) k0 bel lt0) (trodAll_cons_mk (Below.trod laidOut (by kernel_rfl) (of_decide_eq_true (by kernel_rfl)) k1 bel lt1) trodAll_mk0)),rfl,bel.frame _,fun h=>by cases h⟩
theorem over:Rows.printWithinUptoRow.holds Tryz.pinned (Rows.OpenSpec.upto Rows.printWithinSpec):=
 OpenClaim.holds_of_cond 12 Tryz.f12 rfl rfl rfl rfl rfl rfl rfl ⟨rfl,rfl,rfl,rfl,rfl⟩ rfl rfl rfl rfl rfl (by kernel_rfl) Tryz.func12 (by kernel_rfl)
  (of_decide_eq_true (by kernel_rfl)) (by unfold Func.isWrapper;first|(rw[if_pos (by decide+kernel)];kernel_rfl)|(rw[if_neg (by decide+kernel)];exact⟨rfl,rfl⟩))
  (fun os started H enc _ F=>lifted os started H enc F)
theorem proved:Rows.PrintWithinUptoCardSaid:=
 Claim7.holds_tied_plain_at .later [] [.data,.data,.data] true _ true over (fun _ h=>by cases h) (by kernel_rfl) (fun _ h=>by cases h) printWithinUpto_row_tie rfl ⟨rfl,rfl⟩ (by kernel_rfl) rfl
  (fun f fn hf hfn=>by
   obtain rfl:f=12:=Option.some.inj ((show Tryz.prog.funcNamed "cribble/cribblelaw09.PrintWithin" =some 12 by kernel_rfl).symm.trans hf) |>.symm
   obtain rfl:fn=Tryz.f12:=(Option.some.inj (Tryz.func12.symm.trans hfn)).symm
   exact⟨by kernel_rfl,fun j t ht=>by
    rw[Tryz.params12]at ht
    have hm:t∈[43,43]:=by simpa using Array.mem_of_getElem? ht
    have hall:([43,43].all fun u=> !Tryz.prog.wantsStandIn u)=true:=by kernel_rfl
    exact(show Tryz.prog.wantsStandIn t=false by simpa using List.all_eq_true.1 hall t hm)⟩)
  (by kernel_rfl)
end Go.Proofs.YtbhhgbgfaemfdaaGreatDoor.printWithin

