/- Two policies together allow what either does: either way round the lists are the same, and thrice is no more than once: PrintBoth returns true. Condition: what comes in is of bulk at most 1048576 (the statement's own second form). -/
import Derived.ProofKit
import Derived.ChangeSame
import Derived.ChangeAt
import Derived.SizedLaws
import Derived.OpenShut
import Derived.ShutString
import Derived.ChangeOld
import Derived.JoinedCond
import Derived.BigRegion
import Derived.Test.YtbhhgbgfaemfdaaGreatDoorRows
import Derived.Test.YtbhhgbgfaemfdaaGreatDoorCards
import Derived.Test.YtbhhgbgfaemfdaaGreatDoorTie
import Derived.Test.YtbhhgbgfaemfdaaGreatDoorPrwJ
import Derived.Test.YtbhhgbgfaemfdaaGreatDoorPrwH
import Derived.Test.YtbhhgbgfaemfdaaGreatDoorRiE
import Derived.Test.YtbhhgbgfaemfdaaGreatDoorRG
namespace Go.Proofs.YtbhhgbgfaemfdaaGreatDoor.printBoth
open Go.ChangeShapes Go.WideShapes Go.ChangeAt Go.RowKit
open Go.ChangeMaps (open_string shut_string)
theorem own:ownKnob Tryz.prog.godebug=none:=by kernel_rfl
theorem laidOut:laidOutB Tryz.prog=true:=by kernel_rfl
attribute [local go_sem] Oper.semAt_some
theorem raw_sm {p q:Pol} (hp:PolBk p 1048576) (hq:PolBk q 1048576):PolSm (rawB p q):=by
 have h: ∀a b:Nat,a<=1048576->b<=1048576->a+b<=100000000:=fun _ _ _ _=>by omega
 exact⟨by show(p.tags++q.tags).length<=_;rw[List.length_append];exact h _ _ (hp.rows 0 (by omega)) (hq.rows 0 (by omega)),by show(p.schemes++q.schemes).length<=_;rw[List.length_append];exact h _ _ (hp.rows 1 (by omega)) (hq.rows 1 (by omega)),by show(p.css++q.css).length<=_;rw[List.length_append];exact h _ _ (hp.rows 2 (by omega)) (hq.rows 2 (by omega)),by show(p.drops++q.drops).length<=_;rw[List.length_append];exact h _ _ (hp.rows 3 (by omega)) (hq.rows 3 (by omega)),by show(p.attrs++q.attrs).length<=_;rw[List.length_append];exact h _ _ (hp.rows 4 (by omega)) (hq.rows 4 (by omega)),by show(p.forces++q.forces).length<=_;rw[List.length_append];exact h _ _ (hp.rows 5 (by omega)) (hq.rows 5 (by omega))⟩
theorem both_sm {p q:Pol} (h:PolSm (rawB p q)):PolSm (bothP p q):=h.neat
theorem raw_smB {p q:Pol} (hp:PolBk p 1048576) (hq:PolBk q 1048576):PolSm (rawB (bothP p q) q):=by
 have h: ∀a b c:Nat,c<=a+b->a<=1048576->b<=1048576->c+b<=100000000:=fun _ _ _ _ _ _=>by omega
 have k: ∀{α:Type} (lt:α->α->Bool) (x y:List α),x.length<=1048576->y.length<=1048576->(neatL lt (x++y)++y).length<=100000000:=fun lt x y hx hy=>by
  rw[List.length_append]
  have:=neat_len lt (x++y)
  rw[List.length_append]at this
  exact h _ _ _ this hx hy
 exact⟨k _ _ _ (hp.rows 0 (by omega)) (hq.rows 0 (by omega)),k _ _ _ (hp.rows 1 (by omega)) (hq.rows 1 (by omega)),k _ _ _ (hp.rows 2 (by omega)) (hq.rows 2 (by omega)),k _ _ _ (hp.rows 3 (by omega)) (hq.rows 3 (by omega)),k _ _ _ (hp.rows 4 (by omega)) (hq.rows 4 (by omega)),k _ _ _ (hp.rows 5 (by omega)) (hq.rows 5 (by omega))⟩
theorem nof_v {W:World} {bad:Nat->Prop} {v0 v1 v2 v3 v4 v5 r d n l:Value} (p:Pol) (h:PolV W bad (.agg #[v0,v1,v2,v3,v4,v5,r,d,n,l]) p):PolV W bad (.agg #[v0,v1,v2,v3,v4,.slice none 0 0,r,d,n,l]) (noF p):=by
 obtain⟨_,_,_,_,_,_,e,h0,h1,h2,h3,h4,h5⟩:=h
 cases e
 exact⟨_,_,_,_,_,.slice none 0 0,rfl,h0,h1,h2,h3,h4,none,0,rfl,⟨fun _=>rfl,Nat.le_refl _⟩,Rd.nil _ _,fun h=>absurd h (Nat.lt_irrefl 0)⟩
theorem nof_sm {p:Pol} (h:PolSm p):PolSm (noF p):=⟨h.tags,h.schemes,h.css,h.drops,h.attrs,Nat.zero_le _⟩
set_option maxRecDepth 100000 in
set_option maxHeartbeats 16000000 in
theorem walk (vp:Value) (p:Pol) (vq:Value) (q:Pol) (w:World) (hT:Ten w) (h0:PolV w (fun _=>False) vp p) (b0:PolBk p 1048576) (h1:PolV w (fun _=>False) vq q) (b1:PolBk q 1048576):Calls Tryz.prog 13 #[vp,vq] w (Ret (.bool true) w):=by
 have hmx:Tryz.prog.follows .mixedOrders=true:=by kernel_rfl
 have HTn:=Lib.hid hT
 have HV0:=Lib.hid h0
 have HK0:=Lib.hid b0
 have HF0:=Lib.hid (fun W (hb:Below w.heap.size w W)=>rfew_any vp p W (h0.below hb) b0)
 have HV1:=Lib.hid h1
 have HK1:=Lib.hid b1
 have HF1:=Lib.hid (fun W (hb:Below w.heap.size w W)=>rfew_any vq q W (h1.below hb) b1)
 obtain⟨v0,v1,v2,v3,v4,v5,rfl,⟨A0,k0,rfl,_⟩,⟨A1,k1,rfl,_⟩,⟨A2,k2,rfl,_⟩,⟨A3,k3,rfl,_⟩,⟨A4,k4,rfl,_⟩,⟨A5,k5,rfl,_⟩⟩:=h0
 obtain⟨v0,v1,v2,v3,v4,v5,rfl,⟨C0,j0,rfl,_⟩,⟨C1,j1,rfl,_⟩,⟨C2,j2,rfl,_⟩,⟨C3,j3,rfl,_⟩,⟨C4,j4,rfl,_⟩,⟨C5,j5,rfl,_⟩⟩:=h1
 have HAw:=Lib.hid (fun W (hb:Below w.heap.size w W)=>awake09_any W (hT.below hb))
 clear hT b0 b1
 obtain⟨f0,hf0⟩: ∃f,fewP p=f:=⟨_,rfl⟩
 rw[hf0]at HF0
 clear hf0
 obtain⟨f1,hf1⟩: ∃f,fewP q=f:=⟨_,rfl⟩
 rw[hf1]at HF1
 clear hf1
 go_enter Tryz.func13,Tryz.ntmps13
 go_upto_region 1 with fail
 refine name_world fun W0 hW0=> ?_
 obtain⟨B,hB⟩: ∃B,w.heap.size=B:=⟨_,rfl⟩
 have hb0:Below w.heap.size w W0:=by rw[hW0];exact bel
 have c0:W0.cell? ⟨B,0,none⟩=some (.slice A0 (fN p 0) k0):=by rw[hW0,<-hB];simp[go_sem]
 have c1:W0.cell? ⟨B,1,none⟩=some (.slice A1 (fN p 1) k1):=by rw[hW0,<-hB];simp[go_sem]
 have c2:W0.cell? ⟨B,2,none⟩=some (.slice A2 (fN p 2) k2):=by rw[hW0,<-hB];simp[go_sem]
 have c3:W0.cell? ⟨B,3,none⟩=some (.slice A3 (fN p 3) k3):=by rw[hW0,<-hB];simp[go_sem]
 have c4:W0.cell? ⟨B,4,none⟩=some (.slice A4 (fN p 4) k4):=by rw[hW0,<-hB];simp[go_sem]
 have c5:W0.cell? ⟨B,5,none⟩=some (.slice A5 (fN p 5) k5):=by rw[hW0,<-hB];simp[go_sem]
 have c6:W0.cell? ⟨B,6,none⟩=some (.bool p.rel):=by rw[hW0,<-hB];simp[go_sem]
 have c7:W0.cell? ⟨B,7,none⟩=some (.int .i64 p.depth):=by rw[hW0,<-hB];simp[go_sem]
 have c8:W0.cell? ⟨B,8,none⟩=some (.int .i64 p.name):=by rw[hW0,<-hB];simp[go_sem]
 have c9:W0.cell? ⟨B,9,none⟩=some (.int .i64 p.value):=by rw[hW0,<-hB];simp[go_sem]
 have d0:W0.cell? ⟨B+1,0,none⟩=some (.slice C0 (fN q 0) j0):=by rw[hW0,<-hB];simp[go_sem]
 have d1:W0.cell? ⟨B+1,1,none⟩=some (.slice C1 (fN q 1) j1):=by rw[hW0,<-hB];simp[go_sem]
 have d2:W0.cell? ⟨B+1,2,none⟩=some (.slice C2 (fN q 2) j2):=by rw[hW0,<-hB];simp[go_sem]
 have d3:W0.cell? ⟨B+1,3,none⟩=some (.slice C3 (fN q 3) j3):=by rw[hW0,<-hB];simp[go_sem]
 have d4:W0.cell? ⟨B+1,4,none⟩=some (.slice C4 (fN q 4) j4):=by rw[hW0,<-hB];simp[go_sem]
 have d5:W0.cell? ⟨B+1,5,none⟩=some (.slice C5 (fN q 5) j5):=by rw[hW0,<-hB];simp[go_sem]
 have d6:W0.cell? ⟨B+1,6,none⟩=some (.bool q.rel):=by rw[hW0,<-hB];simp[go_sem]
 have d7:W0.cell? ⟨B+1,7,none⟩=some (.int .i64 q.depth):=by rw[hW0,<-hB];simp[go_sem]
 have d8:W0.cell? ⟨B+1,8,none⟩=some (.int .i64 q.name):=by rw[hW0,<-hB];simp[go_sem]
 have d9:W0.cell? ⟨B+1,9,none⟩=some (.int .i64 q.value):=by rw[hW0,<-hB];simp[go_sem]
 have hBl:B+1<W0.heap.size:=by rw[hW0,<-hB];simp
 have HB0:=Lib.hid hb0
 rw[hB]
 clear hW0 hb0 hB
 have HG0:=Lib.hid (fun W (hb:Below W0.heap.size W0 W)=>HB0.out.trans (hb.mono HB0.out.size))
 go_upto_region 4 with(first
  |(go_at_call 29;(with_reducible refine(Ret.flat (HAw.out _ (HG0.out _ bel))).mono ?_);rintro e V0 ⟨rfl,Y0,rfl⟩)
  |(go_at_call 29;(with_reducible refine(HAw.out _ (HG0.out _ bel)).mono ?_);rintro e V0 ⟨rfl,Y0,rfl⟩)
  |(go_at_call 30;(with_reducible refine(Ret.flat (HF0.out _ (HG0.out _ bel))).mono ?_);rintro e V1 ⟨rfl,Y1,rfl⟩)
  |(go_at_call 30;(with_reducible refine(HF0.out _ (HG0.out _ bel)).mono ?_);rintro e V1 ⟨rfl,Y1,rfl⟩)
  |(go_at_call 30;(with_reducible refine(Ret.flat (HF1.out _ (HG0.out _ bel))).mono ?_);rintro e V2 ⟨rfl,Y2,rfl⟩)
  |(go_at_call 30;(with_reducible refine(HF1.out _ (HG0.out _ bel)).mono ?_);rintro e V2 ⟨rfl,Y2,rfl⟩))
 refine name_world fun V0 hV0=> ?_
 have hv0:Below W0.heap.size W0 V0:=by rw[hV0];exact bel
 have HBv:=Lib.hid (HB0.out.trans (hv0.mono HB0.out.size))
 have hBv:B+1<V0.heap.size:=Nat.lt_of_lt_of_le hBl hv0.size
 clear hV0
 have x0:=(hv0.cell (p:=⟨B,0,none⟩) (show B<W0.heap.size by omega)).trans c0
 have x1:=(hv0.cell (p:=⟨B,1,none⟩) (show B<W0.heap.size by omega)).trans c1
 have x2:=(hv0.cell (p:=⟨B,2,none⟩) (show B<W0.heap.size by omega)).trans c2
 have x3:=(hv0.cell (p:=⟨B,3,none⟩) (show B<W0.heap.size by omega)).trans c3
 have x4:=(hv0.cell (p:=⟨B,4,none⟩) (show B<W0.heap.size by omega)).trans c4
 have x5:=(hv0.cell (p:=⟨B,5,none⟩) (show B<W0.heap.size by omega)).trans c5
 have x6:=(hv0.cell (p:=⟨B,6,none⟩) (show B<W0.heap.size by omega)).trans c6
 have x7:=(hv0.cell (p:=⟨B,7,none⟩) (show B<W0.heap.size by omega)).trans c7
 have x8:=(hv0.cell (p:=⟨B,8,none⟩) (show B<W0.heap.size by omega)).trans c8
 have x9:=(hv0.cell (p:=⟨B,9,none⟩) (show B<W0.heap.size by omega)).trans c9
 have y0:=(hv0.cell (p:=⟨B+1,0,none⟩) (show B+1<W0.heap.size by omega)).trans d0
 have y1:=(hv0.cell (p:=⟨B+1,1,none⟩) (show B+1<W0.heap.size by omega)).trans d1
 have y2:=(hv0.cell (p:=⟨B+1,2,none⟩) (show B+1<W0.heap.size by omega)).trans d2
 have y3:=(hv0.cell (p:=⟨B+1,3,none⟩) (show B+1<W0.heap.size by omega)).trans d3
 have y4:=(hv0.cell (p:=⟨B+1,4,none⟩) (show B+1<W0.heap.size by omega)).trans d4
 have y5:=(hv0.cell (p:=⟨B+1,5,none⟩) (show B+1<W0.heap.size by omega)).trans d5
 have y6:=(hv0.cell (p:=⟨B+1,6,none⟩) (show B+1<W0.heap.size by omega)).trans d6
 have y7:=(hv0.cell (p:=⟨B+1,7,none⟩) (show B+1<W0.heap.size by omega)).trans d7
 have y8:=(hv0.cell (p:=⟨B+1,8,none⟩) (show B+1<W0.heap.size by omega)).trans d8
 have y9:=(hv0.cell (p:=⟨B+1,9,none⟩) (show B+1<W0.heap.size by omega)).trans d9
 clear hv0 c0 c1 c2 c3 c4 c5 c6 c7 c8 c9 d0 d1 d2 d3 d4 d5 d6 d7 d8 d9
 have HG1:=Lib.hid (fun W (hb:Below V0.heap.size V0 W)=>HBv.out.trans (hb.mono HBv.out.size))
 cases hff:(f0&&f1)
 case false=>
  cases f0<;>cases f1<;>try(exfalso;revert hff;decide)
  all_goals
   clear hff
   go_wp2_with fail
   go_ret
   exact Ret.of rfl (HBv.out.trans ((bel:Below V0.heap.size V0 _).mono HBv.out.size))
 obtain rfl:f0=true:=by cases f0<;>simp_all
 obtain rfl:f1=true:=by cases f1<;>simp_all
 clear hff
 have HSp:=Lib.hid HK0.out.sm
 have HSq:=Lib.hid HK1.out.sm
 have HRpq:Hid (PolSm (rawB p q)):=raw_sm HK0.out HK1.out
 have HRqp:Hid (PolSm (rawB q p)):=raw_sm HK1.out HK0.out
 have HRaq:Hid (PolSm (rawB (bothP p q) q)):=raw_smB HK0.out HK1.out
 have hwB:w.heap.size<=V0.heap.size:=HBv.out.size
 have hB0:B<V0.heap.size:=by omega
 have HBa:=Lib.hid (fun W hb=>both_new _ _ p q W (HV0.out.below hb) (HV1.out.below hb) HSp.out HSq.out HRpq.out)
 have HBb:=Lib.hid (fun W hb=>both_new _ _ q p W (HV1.out.below hb) (HV0.out.below hb) HSq.out HSp.out HRqp.out)
 have HTu:=Lib.hid (both_turn p q)
 have HTa:=Lib.hid (both_again p q)
 have HBc:=Lib.hid (fun W u (hb:Below w.heap.size w W) (hu:PolV W (fun _=>False) u (bothP p q))=>both_new u _ (bothP p q) q W hu (HV1.out.below hb) (both_sm HRpq.out) HSq.out HRaq.out)
 have HSa:Hid (PolSm (bothP p q)):=both_sm HRpq.out
 have HSb:Hid (PolSm (bothP q p)):=both_sm HRqp.out
 have HSc:Hid (PolSm (bothP (bothP p q) q)):=both_sm HRaq.out
 obtain⟨a,ha⟩: ∃a,bothP p q=a:=⟨_,rfl⟩
 rw[ha]at HBa HTu HTa HBc HSa HSc
 obtain⟨b,hb⟩: ∃b,bothP q p=b:=⟨_,rfl⟩
 rw[hb]at HBb HTu HSb
 obtain⟨c,hc⟩: ∃c,bothP a q=c:=⟨_,rfl⟩
 rw[hc]at HBc HTa HSc
 clear ha hb hc HF0 HF1 HAw HTn HRpq HRqp HRaq
 go_upto_region 7 with(go_at_call 36;(with_reducible refine(HBa.out _ (HG1.out _ bel)).mono ?_);rintro e U1 ⟨v1,rfl,hb1,hp1⟩;have HP1:=Lib.hid hp1;have HU1:=Lib.hid hb1;obtain⟨n0,n1,n2,n3,n4,n5,rfl,⟨E0,e0,rfl,_⟩,⟨E1,e1,rfl,_⟩,⟨E2,e2,rfl,_⟩,⟨E3,e3,rfl,_⟩,⟨E4,e4,rfl,_⟩,⟨E5,e5,rfl,_⟩⟩:=hp1;clear hb1)
 refine name_world fun V1 hV1=> ?_
 have hu1:Below V0.heap.size V0 V1:=by rw[hV1];exact HU1.out.trans ((bel:Below U1.heap.size U1 _).mono HU1.out.size)
 have hs1:V0.heap.size<=U1.heap.size:=HU1.out.size
 obtain⟨B1,hB1⟩: ∃B,U1.heap.size=B:=⟨_,rfl⟩
 have hn1:V1.heap.size=B1+1:=by rw[hV1,<-hB1];simp
 have c1_0:V1.cell? ⟨B1,0,none⟩=some (.slice E0 (fN a 0) e0):=by rw[hV1,<-hB1];simp[go_sem]
 have c1_1:V1.cell? ⟨B1,1,none⟩=some (.slice E1 (fN a 1) e1):=by rw[hV1,<-hB1];simp[go_sem]
 have c1_2:V1.cell? ⟨B1,2,none⟩=some (.slice E2 (fN a 2) e2):=by rw[hV1,<-hB1];simp[go_sem]
 have c1_3:V1.cell? ⟨B1,3,none⟩=some (.slice E3 (fN a 3) e3):=by rw[hV1,<-hB1];simp[go_sem]
 have c1_4:V1.cell? ⟨B1,4,none⟩=some (.slice E4 (fN a 4) e4):=by rw[hV1,<-hB1];simp[go_sem]
 have c1_5:V1.cell? ⟨B1,5,none⟩=some (.slice E5 (fN a 5) e5):=by rw[hV1,<-hB1];simp[go_sem]
 have c1_6:V1.cell? ⟨B1,6,none⟩=some (.bool a.rel):=by rw[hV1,<-hB1];simp[go_sem]
 have c1_7:V1.cell? ⟨B1,7,none⟩=some (.int .i64 a.depth):=by rw[hV1,<-hB1];simp[go_sem]
 have c1_8:V1.cell? ⟨B1,8,none⟩=some (.int .i64 a.name):=by rw[hV1,<-hB1];simp[go_sem]
 have c1_9:V1.cell? ⟨B1,9,none⟩=some (.int .i64 a.value):=by rw[hV1,<-hB1];simp[go_sem]
 have fr1:V1.frozen? ⟨B1,5,none⟩=false:=by rw[hV1,<-hB1];simp[go_sem]
 have HQ1:=Lib.hid (show ∀pv:Nat->Prop,(∀k,k<B1->pv k->k<V0.heap.size)->PolV V1 pv (.agg #[.slice E0 (fN a 0) e0,.slice E1 (fN a 1) e1,.slice E2 (fN a 2) e2,.slice E3 (fN a 3) e3,.slice E4 (fN a 4) e4,.slice E5 (fN a 5) e5,.bool a.rel,.int .i64 a.depth,.int .i64 a.name,.int .i64 a.value]) a from fun pv hpv=>(HP1.out.mono (fun k hk hq=>hpv k (by omega) hq)).below (by rw[hV1];exact bel))
 rw[hB1]
 clear hV1 HP1 HU1
 have mx0:V1.cell? ⟨B,0,none⟩=some (.slice A0 (fN p 0) k0):=(hu1.cell (p:=⟨B,0,none⟩) hB0).trans x0
 have mx1:V1.cell? ⟨B,1,none⟩=some (.slice A1 (fN p 1) k1):=(hu1.cell (p:=⟨B,1,none⟩) hB0).trans x1
 have mx2:V1.cell? ⟨B,2,none⟩=some (.slice A2 (fN p 2) k2):=(hu1.cell (p:=⟨B,2,none⟩) hB0).trans x2
 have mx3:V1.cell? ⟨B,3,none⟩=some (.slice A3 (fN p 3) k3):=(hu1.cell (p:=⟨B,3,none⟩) hB0).trans x3
 have mx4:V1.cell? ⟨B,4,none⟩=some (.slice A4 (fN p 4) k4):=(hu1.cell (p:=⟨B,4,none⟩) hB0).trans x4
 have mx5:V1.cell? ⟨B,5,none⟩=some (.slice A5 (fN p 5) k5):=(hu1.cell (p:=⟨B,5,none⟩) hB0).trans x5
 have mx6:V1.cell? ⟨B,6,none⟩=some (.bool p.rel):=(hu1.cell (p:=⟨B,6,none⟩) hB0).trans x6
 have mx7:V1.cell? ⟨B,7,none⟩=some (.int .i64 p.depth):=(hu1.cell (p:=⟨B,7,none⟩) hB0).trans x7
 have mx8:V1.cell? ⟨B,8,none⟩=some (.int .i64 p.name):=(hu1.cell (p:=⟨B,8,none⟩) hB0).trans x8
 have mx9:V1.cell? ⟨B,9,none⟩=some (.int .i64 p.value):=(hu1.cell (p:=⟨B,9,none⟩) hB0).trans x9
 have my0:V1.cell? ⟨B+1,0,none⟩=some (.slice C0 (fN q 0) j0):=(hu1.cell (p:=⟨B+1,0,none⟩) hBv).trans y0
 have my1:V1.cell? ⟨B+1,1,none⟩=some (.slice C1 (fN q 1) j1):=(hu1.cell (p:=⟨B+1,1,none⟩) hBv).trans y1
 have my2:V1.cell? ⟨B+1,2,none⟩=some (.slice C2 (fN q 2) j2):=(hu1.cell (p:=⟨B+1,2,none⟩) hBv).trans y2
 have my3:V1.cell? ⟨B+1,3,none⟩=some (.slice C3 (fN q 3) j3):=(hu1.cell (p:=⟨B+1,3,none⟩) hBv).trans y3
 have my4:V1.cell? ⟨B+1,4,none⟩=some (.slice C4 (fN q 4) j4):=(hu1.cell (p:=⟨B+1,4,none⟩) hBv).trans y4
 have my5:V1.cell? ⟨B+1,5,none⟩=some (.slice C5 (fN q 5) j5):=(hu1.cell (p:=⟨B+1,5,none⟩) hBv).trans y5
 have my6:V1.cell? ⟨B+1,6,none⟩=some (.bool q.rel):=(hu1.cell (p:=⟨B+1,6,none⟩) hBv).trans y6
 have my7:V1.cell? ⟨B+1,7,none⟩=some (.int .i64 q.depth):=(hu1.cell (p:=⟨B+1,7,none⟩) hBv).trans y7
 have my8:V1.cell? ⟨B+1,8,none⟩=some (.int .i64 q.name):=(hu1.cell (p:=⟨B+1,8,none⟩) hBv).trans y8
 have my9:V1.cell? ⟨B+1,9,none⟩=some (.int .i64 q.value):=(hu1.cell (p:=⟨B+1,9,none⟩) hBv).trans y9
 have hl10:B<V1.heap.size:=by omega
 have hl11:B+1<V1.heap.size:=by omega
 have hl12:B1<V1.heap.size:=by omega
 have HB1:=Lib.hid (HG1.out V1 hu1)
 have HG2:=Lib.hid (fun W (hb:Below V1.heap.size V1 W)=>HB1.out.trans (hb.mono HB1.out.size))
 go_upto_region 8 with(go_at_call 36;(with_reducible refine(HBb.out _ (HG2.out _ bel)).mono ?_);rintro e U2 ⟨v2,rfl,hb2,hp2⟩;have HP2:=Lib.hid hp2;have HU2:=Lib.hid hb2;obtain⟨n0,n1,n2,n3,n4,n5,rfl,⟨F0,f0,rfl,_⟩,⟨F1,f1,rfl,_⟩,⟨F2,f2,rfl,_⟩,⟨F3,f3,rfl,_⟩,⟨F4,f4,rfl,_⟩,⟨F5,f5,rfl,_⟩⟩:=hp2;clear hb2)
 refine name_world fun V2 hV2=> ?_
 have hu2:Below V1.heap.size V1 V2:=by rw[hV2];exact HU2.out.trans ((bel:Below U2.heap.size U2 _).mono HU2.out.size)
 have hs2:V1.heap.size<=U2.heap.size:=HU2.out.size
 obtain⟨B2,hB2⟩: ∃B,U2.heap.size=B:=⟨_,rfl⟩
 have hn2:V2.heap.size=B2+1:=by rw[hV2,<-hB2];simp
 have c2_0:V2.cell? ⟨B2,0,none⟩=some (.slice F0 (fN b 0) f0):=by rw[hV2,<-hB2];simp[go_sem]
 have c2_1:V2.cell? ⟨B2,1,none⟩=some (.slice F1 (fN b 1) f1):=by rw[hV2,<-hB2];simp[go_sem]
 have c2_2:V2.cell? ⟨B2,2,none⟩=some (.slice F2 (fN b 2) f2):=by rw[hV2,<-hB2];simp[go_sem]
 have c2_3:V2.cell? ⟨B2,3,none⟩=some (.slice F3 (fN b 3) f3):=by rw[hV2,<-hB2];simp[go_sem]
 have c2_4:V2.cell? ⟨B2,4,none⟩=some (.slice F4 (fN b 4) f4):=by rw[hV2,<-hB2];simp[go_sem]
 have c2_5:V2.cell? ⟨B2,5,none⟩=some (.slice F5 (fN b 5) f5):=by rw[hV2,<-hB2];simp[go_sem]
 have c2_6:V2.cell? ⟨B2,6,none⟩=some (.bool b.rel):=by rw[hV2,<-hB2];simp[go_sem]
 have c2_7:V2.cell? ⟨B2,7,none⟩=some (.int .i64 b.depth):=by rw[hV2,<-hB2];simp[go_sem]
 have c2_8:V2.cell? ⟨B2,8,none⟩=some (.int .i64 b.name):=by rw[hV2,<-hB2];simp[go_sem]
 have c2_9:V2.cell? ⟨B2,9,none⟩=some (.int .i64 b.value):=by rw[hV2,<-hB2];simp[go_sem]
 have fr2:V2.frozen? ⟨B2,5,none⟩=false:=by rw[hV2,<-hB2];simp[go_sem]
 have HQ2:=Lib.hid (show ∀pv:Nat->Prop,(∀k,k<B2->pv k->k<V1.heap.size)->PolV V2 pv (.agg #[.slice F0 (fN b 0) f0,.slice F1 (fN b 1) f1,.slice F2 (fN b 2) f2,.slice F3 (fN b 3) f3,.slice F4 (fN b 4) f4,.slice F5 (fN b 5) f5,.bool b.rel,.int .i64 b.depth,.int .i64 b.name,.int .i64 b.value]) b from fun pv hpv=>(HP2.out.mono (fun k hk hq=>hpv k (by omega) hq)).below (by rw[hV2];exact bel))
 rw[hB2]
 clear hV2 HP2 HU2
 have mmx0:V2.cell? ⟨B,0,none⟩=some (.slice A0 (fN p 0) k0):=(hu2.cell (p:=⟨B,0,none⟩) hl10).trans mx0
 have mmx1:V2.cell? ⟨B,1,none⟩=some (.slice A1 (fN p 1) k1):=(hu2.cell (p:=⟨B,1,none⟩) hl10).trans mx1
 have mmx2:V2.cell? ⟨B,2,none⟩=some (.slice A2 (fN p 2) k2):=(hu2.cell (p:=⟨B,2,none⟩) hl10).trans mx2
 have mmx3:V2.cell? ⟨B,3,none⟩=some (.slice A3 (fN p 3) k3):=(hu2.cell (p:=⟨B,3,none⟩) hl10).trans mx3
 have mmx4:V2.cell? ⟨B,4,none⟩=some (.slice A4 (fN p 4) k4):=(hu2.cell (p:=⟨B,4,none⟩) hl10).trans mx4
 have mmx5:V2.cell? ⟨B,5,none⟩=some (.slice A5 (fN p 5) k5):=(hu2.cell (p:=⟨B,5,none⟩) hl10).trans mx5
 have mmx6:V2.cell? ⟨B,6,none⟩=some (.bool p.rel):=(hu2.cell (p:=⟨B,6,none⟩) hl10).trans mx6
 have mmx7:V2.cell? ⟨B,7,none⟩=some (.int .i64 p.depth):=(hu2.cell (p:=⟨B,7,none⟩) hl10).trans mx7
 have mmx8:V2.cell? ⟨B,8,none⟩=some (.int .i64 p.name):=(hu2.cell (p:=⟨B,8,none⟩) hl10).trans mx8
 have mmx9:V2.cell? ⟨B,9,none⟩=some (.int .i64 p.value):=(hu2.cell (p:=⟨B,9,none⟩) hl10).trans mx9
 have mmy0:V2.cell? ⟨B+1,0,none⟩=some (.slice C0 (fN q 0) j0):=(hu2.cell (p:=⟨B+1,0,none⟩) hl11).trans my0
 have mmy1:V2.cell? ⟨B+1,1,none⟩=some (.slice C1 (fN q 1) j1):=(hu2.cell (p:=⟨B+1,1,none⟩) hl11).trans my1
 have mmy2:V2.cell? ⟨B+1,2,none⟩=some (.slice C2 (fN q 2) j2):=(hu2.cell (p:=⟨B+1,2,none⟩) hl11).trans my2
 have mmy3:V2.cell? ⟨B+1,3,none⟩=some (.slice C3 (fN q 3) j3):=(hu2.cell (p:=⟨B+1,3,none⟩) hl11).trans my3
 have mmy4:V2.cell? ⟨B+1,4,none⟩=some (.slice C4 (fN q 4) j4):=(hu2.cell (p:=⟨B+1,4,none⟩) hl11).trans my4
 have mmy5:V2.cell? ⟨B+1,5,none⟩=some (.slice C5 (fN q 5) j5):=(hu2.cell (p:=⟨B+1,5,none⟩) hl11).trans my5
 have mmy6:V2.cell? ⟨B+1,6,none⟩=some (.bool q.rel):=(hu2.cell (p:=⟨B+1,6,none⟩) hl11).trans my6
 have mmy7:V2.cell? ⟨B+1,7,none⟩=some (.int .i64 q.depth):=(hu2.cell (p:=⟨B+1,7,none⟩) hl11).trans my7
 have mmy8:V2.cell? ⟨B+1,8,none⟩=some (.int .i64 q.name):=(hu2.cell (p:=⟨B+1,8,none⟩) hl11).trans my8
 have mmy9:V2.cell? ⟨B+1,9,none⟩=some (.int .i64 q.value):=(hu2.cell (p:=⟨B+1,9,none⟩) hl11).trans my9
 have mc1_0:V2.cell? ⟨B1,0,none⟩=some (.slice E0 (fN a 0) e0):=(hu2.cell (p:=⟨B1,0,none⟩) hl12).trans c1_0
 have mc1_1:V2.cell? ⟨B1,1,none⟩=some (.slice E1 (fN a 1) e1):=(hu2.cell (p:=⟨B1,1,none⟩) hl12).trans c1_1
 have mc1_2:V2.cell? ⟨B1,2,none⟩=some (.slice E2 (fN a 2) e2):=(hu2.cell (p:=⟨B1,2,none⟩) hl12).trans c1_2
 have mc1_3:V2.cell? ⟨B1,3,none⟩=some (.slice E3 (fN a 3) e3):=(hu2.cell (p:=⟨B1,3,none⟩) hl12).trans c1_3
 have mc1_4:V2.cell? ⟨B1,4,none⟩=some (.slice E4 (fN a 4) e4):=(hu2.cell (p:=⟨B1,4,none⟩) hl12).trans c1_4
 have mc1_5:V2.cell? ⟨B1,5,none⟩=some (.slice E5 (fN a 5) e5):=(hu2.cell (p:=⟨B1,5,none⟩) hl12).trans c1_5
 have mc1_6:V2.cell? ⟨B1,6,none⟩=some (.bool a.rel):=(hu2.cell (p:=⟨B1,6,none⟩) hl12).trans c1_6
 have mc1_7:V2.cell? ⟨B1,7,none⟩=some (.int .i64 a.depth):=(hu2.cell (p:=⟨B1,7,none⟩) hl12).trans c1_7
 have mc1_8:V2.cell? ⟨B1,8,none⟩=some (.int .i64 a.name):=(hu2.cell (p:=⟨B1,8,none⟩) hl12).trans c1_8
 have mc1_9:V2.cell? ⟨B1,9,none⟩=some (.int .i64 a.value):=(hu2.cell (p:=⟨B1,9,none⟩) hl12).trans c1_9
 have hl20:B<V2.heap.size:=by omega
 have hl21:B+1<V2.heap.size:=by omega
 have hl22:B1<V2.heap.size:=by omega
 have hl23:B2<V2.heap.size:=by omega
 have mf1:V2.frozen? ⟨B1,5,none⟩=false:=(hu2.frozen (p:=⟨B1,5,none⟩) hl12).trans fr1
 have HB2:=Lib.hid (HG2.out V2 hu2)
 have HG3:=Lib.hid (fun W (hb:Below V2.heap.size V2 W)=>HB2.out.trans (hb.mono HB2.out.size))
 have HA2:=Lib.hid (fun W (hb:Below V2.heap.size V2 W)=>(HQ1.out (fun _=>False) (fun _ _ h=>h.elim)).below (hu2.trans (hb.mono hu2.size)))
 go_upto_region 9 with(go_at_call 36;(with_reducible refine(HBc.out _ _ (HG3.out _ bel) (HA2.out _ bel)).mono ?_);rintro e U3 ⟨v3,rfl,hb3,hp3⟩;have HP3:=Lib.hid hp3;have HU3:=Lib.hid hb3;obtain⟨n0,n1,n2,n3,n4,n5,rfl,⟨H0,h0,rfl,_⟩,⟨H1,h1,rfl,_⟩,⟨H2,h2,rfl,_⟩,⟨H3,h3,rfl,_⟩,⟨H4,h4,rfl,_⟩,⟨H5,h5,rfl,_⟩⟩:=hp3;clear hb3)
 refine name_world fun V3 hV3=> ?_
 have hu3:Below V2.heap.size V2 V3:=by rw[hV3];exact HU3.out.trans ((bel:Below U3.heap.size U3 _).mono HU3.out.size)
 have hs3:V2.heap.size<=U3.heap.size:=HU3.out.size
 obtain⟨B3,hB3⟩: ∃B,U3.heap.size=B:=⟨_,rfl⟩
 have hn3:V3.heap.size=B3+1:=by rw[hV3,<-hB3];simp
 have c3_0:V3.cell? ⟨B3,0,none⟩=some (.slice H0 (fN c 0) h0):=by rw[hV3,<-hB3];simp[go_sem]
 have c3_1:V3.cell? ⟨B3,1,none⟩=some (.slice H1 (fN c 1) h1):=by rw[hV3,<-hB3];simp[go_sem]
 have c3_2:V3.cell? ⟨B3,2,none⟩=some (.slice H2 (fN c 2) h2):=by rw[hV3,<-hB3];simp[go_sem]
 have c3_3:V3.cell? ⟨B3,3,none⟩=some (.slice H3 (fN c 3) h3):=by rw[hV3,<-hB3];simp[go_sem]
 have c3_4:V3.cell? ⟨B3,4,none⟩=some (.slice H4 (fN c 4) h4):=by rw[hV3,<-hB3];simp[go_sem]
 have c3_5:V3.cell? ⟨B3,5,none⟩=some (.slice H5 (fN c 5) h5):=by rw[hV3,<-hB3];simp[go_sem]
 have c3_6:V3.cell? ⟨B3,6,none⟩=some (.bool c.rel):=by rw[hV3,<-hB3];simp[go_sem]
 have c3_7:V3.cell? ⟨B3,7,none⟩=some (.int .i64 c.depth):=by rw[hV3,<-hB3];simp[go_sem]
 have c3_8:V3.cell? ⟨B3,8,none⟩=some (.int .i64 c.name):=by rw[hV3,<-hB3];simp[go_sem]
 have c3_9:V3.cell? ⟨B3,9,none⟩=some (.int .i64 c.value):=by rw[hV3,<-hB3];simp[go_sem]
 have fr3:V3.frozen? ⟨B3,5,none⟩=false:=by rw[hV3,<-hB3];simp[go_sem]
 have HQ3:=Lib.hid (show ∀pv:Nat->Prop,(∀k,k<B3->pv k->k<V2.heap.size)->PolV V3 pv (.agg #[.slice H0 (fN c 0) h0,.slice H1 (fN c 1) h1,.slice H2 (fN c 2) h2,.slice H3 (fN c 3) h3,.slice H4 (fN c 4) h4,.slice H5 (fN c 5) h5,.bool c.rel,.int .i64 c.depth,.int .i64 c.name,.int .i64 c.value]) c from fun pv hpv=>(HP3.out.mono (fun k hk hq=>hpv k (by omega) hq)).below (by rw[hV3];exact bel))
 rw[hB3]
 clear hV3 HP3 HU3
 have mmc1_0:V3.cell? ⟨B1,0,none⟩=some (.slice E0 (fN a 0) e0):=(hu3.cell (p:=⟨B1,0,none⟩) hl22).trans mc1_0
 have mmc1_1:V3.cell? ⟨B1,1,none⟩=some (.slice E1 (fN a 1) e1):=(hu3.cell (p:=⟨B1,1,none⟩) hl22).trans mc1_1
 have mmc1_2:V3.cell? ⟨B1,2,none⟩=some (.slice E2 (fN a 2) e2):=(hu3.cell (p:=⟨B1,2,none⟩) hl22).trans mc1_2
 have mmc1_3:V3.cell? ⟨B1,3,none⟩=some (.slice E3 (fN a 3) e3):=(hu3.cell (p:=⟨B1,3,none⟩) hl22).trans mc1_3
 have mmc1_4:V3.cell? ⟨B1,4,none⟩=some (.slice E4 (fN a 4) e4):=(hu3.cell (p:=⟨B1,4,none⟩) hl22).trans mc1_4
 have mmc1_5:V3.cell? ⟨B1,5,none⟩=some (.slice E5 (fN a 5) e5):=(hu3.cell (p:=⟨B1,5,none⟩) hl22).trans mc1_5
 have mmc1_6:V3.cell? ⟨B1,6,none⟩=some (.bool a.rel):=(hu3.cell (p:=⟨B1,6,none⟩) hl22).trans mc1_6
 have mmc1_7:V3.cell? ⟨B1,7,none⟩=some (.int .i64 a.depth):=(hu3.cell (p:=⟨B1,7,none⟩) hl22).trans mc1_7
 have mmc1_8:V3.cell? ⟨B1,8,none⟩=some (.int .i64 a.name):=(hu3.cell (p:=⟨B1,8,none⟩) hl22).trans mc1_8
 have mmc1_9:V3.cell? ⟨B1,9,none⟩=some (.int .i64 a.value):=(hu3.cell (p:=⟨B1,9,none⟩) hl22).trans mc1_9
 have mc2_0:V3.cell? ⟨B2,0,none⟩=some (.slice F0 (fN b 0) f0):=(hu3.cell (p:=⟨B2,0,none⟩) hl23).trans c2_0
 have mc2_1:V3.cell? ⟨B2,1,none⟩=some (.slice F1 (fN b 1) f1):=(hu3.cell (p:=⟨B2,1,none⟩) hl23).trans c2_1
 have mc2_2:V3.cell? ⟨B2,2,none⟩=some (.slice F2 (fN b 2) f2):=(hu3.cell (p:=⟨B2,2,none⟩) hl23).trans c2_2
 have mc2_3:V3.cell? ⟨B2,3,none⟩=some (.slice F3 (fN b 3) f3):=(hu3.cell (p:=⟨B2,3,none⟩) hl23).trans c2_3
 have mc2_4:V3.cell? ⟨B2,4,none⟩=some (.slice F4 (fN b 4) f4):=(hu3.cell (p:=⟨B2,4,none⟩) hl23).trans c2_4
 have mc2_5:V3.cell? ⟨B2,5,none⟩=some (.slice F5 (fN b 5) f5):=(hu3.cell (p:=⟨B2,5,none⟩) hl23).trans c2_5
 have mc2_6:V3.cell? ⟨B2,6,none⟩=some (.bool b.rel):=(hu3.cell (p:=⟨B2,6,none⟩) hl23).trans c2_6
 have mc2_7:V3.cell? ⟨B2,7,none⟩=some (.int .i64 b.depth):=(hu3.cell (p:=⟨B2,7,none⟩) hl23).trans c2_7
 have mc2_8:V3.cell? ⟨B2,8,none⟩=some (.int .i64 b.name):=(hu3.cell (p:=⟨B2,8,none⟩) hl23).trans c2_8
 have mc2_9:V3.cell? ⟨B2,9,none⟩=some (.int .i64 b.value):=(hu3.cell (p:=⟨B2,9,none⟩) hl23).trans c2_9
 have mmf1:V3.frozen? ⟨B1,5,none⟩=false:=(hu3.frozen (p:=⟨B1,5,none⟩) hl22).trans mf1
 have mf2:V3.frozen? ⟨B2,5,none⟩=false:=(hu3.frozen (p:=⟨B2,5,none⟩) hl23).trans fr2
 have hl32:B1<V3.heap.size:=by omega
 have hl33:B2<V3.heap.size:=by omega
 have hl34:B3<V3.heap.size:=by omega
 have hd12: ¬B1=B2:=by omega
 have hd13: ¬B1=B3:=by omega
 have hd23: ¬B2=B3:=by omega
 have hd21: ¬B2=B1:=by omega
 have hd31: ¬B3=B1:=by omega
 have hd32: ¬B3=B2:=by omega
 have hw1:w.heap.size<=B1:=by omega
 have hw2:w.heap.size<=B2:=by omega
 have hw3:w.heap.size<=B3:=by omega
 have HB3:=Lib.hid (HG3.out V3 hu3)
 have HPa:=Lib.hid (show PolV V3 (fun k=>k=B1\/k=B2\/k=B3) (.agg #[.slice E0 (fN a 0) e0,.slice E1 (fN a 1) e1,.slice E2 (fN a 2) e2,.slice E3 (fN a 3) e3,.slice E4 (fN a 4) e4,.slice E5 (fN a 5) e5,.bool a.rel,.int .i64 a.depth,.int .i64 a.name,.int .i64 a.value]) a from((HQ1.out _ (fun k hk h=>by omega)).below hu2).below hu3)
 have HPb:=Lib.hid (show PolV V3 (fun k=>k=B1\/k=B2\/k=B3) (.agg #[.slice F0 (fN b 0) f0,.slice F1 (fN b 1) f1,.slice F2 (fN b 2) f2,.slice F3 (fN b 3) f3,.slice F4 (fN b 4) f4,.slice F5 (fN b 5) f5,.bool b.rel,.int .i64 b.depth,.int .i64 b.name,.int .i64 b.value]) b from(HQ2.out _ (fun k hk h=>by omega)).below hu3)
 have HPc:=Lib.hid (show PolV V3 (fun k=>k=B1\/k=B2\/k=B3) (.agg #[.slice H0 (fN c 0) h0,.slice H1 (fN c 1) h1,.slice H2 (fN c 2) h2,.slice H3 (fN c 3) h3,.slice H4 (fN c 4) h4,.slice H5 (fN c 5) h5,.bool c.rel,.int .i64 c.depth,.int .i64 c.name,.int .i64 c.value]) c from HQ3.out _ (fun k hk h=>by omega))
 clear HQ1 HQ2 HQ3 HA2 hu1 hu2 hu3 HBa HBb HBc HG1 HG2 HG3 HV0 HV1 hs1 hs2 hs3 hn1 hn2 hn3 hl10 hl11 hl12 hl20 hl21 hl22 hl23 fr1 fr2 mf1 hwB hB0 hB1 hB2 hB3
 go_upto_region 12 with fail
 refine name_world fun V4 hV4=> ?_
 have hb4:Below w.heap.size w V4:=by rw[hV4];exact HB3.out.trans bel
 have ht4:Turned (fun k=>k=B1\/k=B2\/k=B3) V3 V4:=by rw[hV4];exact(((Turned.refl _ _).setCell (.inr (.inl rfl)) _).setCell (.inr (.inr (.inl rfl))) _).setCell (.inr (.inr (.inr rfl))) _
 have hq1:B1<V4.heap.size:=by rw[hV4];simpa using hl32
 have hq2:B2<V4.heap.size:=by rw[hV4];simpa using hl33
 have hq3:B3<V4.heap.size:=by rw[hV4];simpa using hl34
 have p0:V4.cell? ⟨B1,0,none⟩=some (.slice E0 (fN a 0) e0):=by rw[hV4];simp[go_sem,mmc1_0]
 have p1:V4.cell? ⟨B1,1,none⟩=some (.slice E1 (fN a 1) e1):=by rw[hV4];simp[go_sem,mmc1_1]
 have p2:V4.cell? ⟨B1,2,none⟩=some (.slice E2 (fN a 2) e2):=by rw[hV4];simp[go_sem,mmc1_2]
 have p3:V4.cell? ⟨B1,3,none⟩=some (.slice E3 (fN a 3) e3):=by rw[hV4];simp[go_sem,mmc1_3]
 have p4:V4.cell? ⟨B1,4,none⟩=some (.slice E4 (fN a 4) e4):=by rw[hV4];simp[go_sem,mmc1_4]
 have p5:V4.cell? ⟨B1,5,none⟩=some (.slice none 0 0):=by rw[hV4];simp[go_sem,mmc1_5]
 have p6:V4.cell? ⟨B1,6,none⟩=some (.bool a.rel):=by rw[hV4];simp[go_sem,mmc1_6]
 have p7:V4.cell? ⟨B1,7,none⟩=some (.int .i64 a.depth):=by rw[hV4];simp[go_sem,mmc1_7]
 have p8:V4.cell? ⟨B1,8,none⟩=some (.int .i64 a.name):=by rw[hV4];simp[go_sem,mmc1_8]
 have p9:V4.cell? ⟨B1,9,none⟩=some (.int .i64 a.value):=by rw[hV4];simp[go_sem,mmc1_9]
 have q0:V4.cell? ⟨B2,0,none⟩=some (.slice F0 (fN b 0) f0):=by rw[hV4];simp[go_sem,mc2_0]
 have q1:V4.cell? ⟨B2,1,none⟩=some (.slice F1 (fN b 1) f1):=by rw[hV4];simp[go_sem,mc2_1]
 have q2:V4.cell? ⟨B2,2,none⟩=some (.slice F2 (fN b 2) f2):=by rw[hV4];simp[go_sem,mc2_2]
 have q3:V4.cell? ⟨B2,3,none⟩=some (.slice F3 (fN b 3) f3):=by rw[hV4];simp[go_sem,mc2_3]
 have q4:V4.cell? ⟨B2,4,none⟩=some (.slice F4 (fN b 4) f4):=by rw[hV4];simp[go_sem,mc2_4]
 have q5:V4.cell? ⟨B2,5,none⟩=some (.slice none 0 0):=by rw[hV4];simp[go_sem,mc2_5]
 have q6:V4.cell? ⟨B2,6,none⟩=some (.bool b.rel):=by rw[hV4];simp[go_sem,mc2_6]
 have q7:V4.cell? ⟨B2,7,none⟩=some (.int .i64 b.depth):=by rw[hV4];simp[go_sem,mc2_7]
 have q8:V4.cell? ⟨B2,8,none⟩=some (.int .i64 b.name):=by rw[hV4];simp[go_sem,mc2_8]
 have q9:V4.cell? ⟨B2,9,none⟩=some (.int .i64 b.value):=by rw[hV4];simp[go_sem,mc2_9]
 have r0:V4.cell? ⟨B3,0,none⟩=some (.slice H0 (fN c 0) h0):=by rw[hV4];simp[go_sem,c3_0]
 have r1:V4.cell? ⟨B3,1,none⟩=some (.slice H1 (fN c 1) h1):=by rw[hV4];simp[go_sem,c3_1]
 have r2:V4.cell? ⟨B3,2,none⟩=some (.slice H2 (fN c 2) h2):=by rw[hV4];simp[go_sem,c3_2]
 have r3:V4.cell? ⟨B3,3,none⟩=some (.slice H3 (fN c 3) h3):=by rw[hV4];simp[go_sem,c3_3]
 have r4:V4.cell? ⟨B3,4,none⟩=some (.slice H4 (fN c 4) h4):=by rw[hV4];simp[go_sem,c3_4]
 have r5:V4.cell? ⟨B3,5,none⟩=some (.slice none 0 0):=by rw[hV4];simp[go_sem,c3_5]
 have r6:V4.cell? ⟨B3,6,none⟩=some (.bool c.rel):=by rw[hV4];simp[go_sem,c3_6]
 have r7:V4.cell? ⟨B3,7,none⟩=some (.int .i64 c.depth):=by rw[hV4];simp[go_sem,c3_7]
 have r8:V4.cell? ⟨B3,8,none⟩=some (.int .i64 c.name):=by rw[hV4];simp[go_sem,c3_8]
 have r9:V4.cell? ⟨B3,9,none⟩=some (.int .i64 c.value):=by rw[hV4];simp[go_sem,c3_9]
 have HNa:=Lib.hid (fun W (hb:Below V4.heap.size V4 W)=>nof_v (v5:= .slice E5 (fN a 5) e5) a ((HPa.out.turned ht4).below hb))
 have HNb:=Lib.hid (fun W (hb:Below V4.heap.size V4 W)=>nof_v (v5:= .slice F5 (fN b 5) f5) b ((HPb.out.turned ht4).below hb))
 have HNc:=Lib.hid (fun W (hb:Below V4.heap.size V4 W)=>nof_v (v5:= .slice H5 (fN c 5) h5) c ((HPc.out.turned ht4).below hb))
 have HS1:=Lib.hid (show ∀W,Below V4.heap.size V4 W->Calls Tryz.prog 34 #[.agg #[.slice E0 (fN a 0) e0,.slice E1 (fN a 1) e1,.slice E2 (fN a 2) e2,.slice E3 (fN a 3) e3,.slice E4 (fN a 4) e4,.slice none 0 0,.bool a.rel,.int .i64 a.depth,.int .i64 a.name,.int .i64 a.value],.agg #[.slice F0 (fN b 0) f0,.slice F1 (fN b 1) f1,.slice F2 (fN b 2) f2,.slice F3 (fN b 3) f3,.slice F4 (fN b 4) f4,.slice none 0 0,.bool b.rel,.int .i64 b.depth,.int .i64 b.name,.int .i64 b.value]] W (Ret (.bool true) W)from fun W hb=>by have h9:=rsame_any _ _ (noF a) (noF b) _ _ W (HNa.out W hb) (HNb.out W hb) (nof_sm HSa.out) (nof_sm HSb.out);rwa[decide_eq_true HTu.out]at h9)
 have HS2:=Lib.hid (show ∀W,Below V4.heap.size V4 W->Calls Tryz.prog 34 #[.agg #[.slice E0 (fN a 0) e0,.slice E1 (fN a 1) e1,.slice E2 (fN a 2) e2,.slice E3 (fN a 3) e3,.slice E4 (fN a 4) e4,.slice none 0 0,.bool a.rel,.int .i64 a.depth,.int .i64 a.name,.int .i64 a.value],.agg #[.slice H0 (fN c 0) h0,.slice H1 (fN c 1) h1,.slice H2 (fN c 2) h2,.slice H3 (fN c 3) h3,.slice H4 (fN c 4) h4,.slice none 0 0,.bool c.rel,.int .i64 c.depth,.int .i64 c.name,.int .i64 c.value]] W (Ret (.bool true) W)from fun W hb=>by have h9:=rsame_any _ _ (noF a) (noF c) _ _ W (HNa.out W hb) (HNc.out W hb) (nof_sm HSa.out) (nof_sm HSc.out);rwa[decide_eq_true HTa.out.symm]at h9)
 have HB4:=Lib.hid hb4
 have HG5:=Lib.hid (fun W (hb:Below V4.heap.size V4 W)=>hb)
 clear hV4 hb4 ht4 HNa HNb HNc HPa HPb HPc HB3 HTu HTa
 go_wp2_with(first
  |(go_at_call 34;(with_reducible refine(Ret.flat (HS1.out _ (HG5.out _ bel))).mono ?_);rintro e V0 ⟨rfl,Y0,rfl⟩)
  |(go_at_call 34;(with_reducible refine(HS1.out _ (HG5.out _ bel)).mono ?_);rintro e V0 ⟨rfl,Y0,rfl⟩)
  |(go_at_call 34;(with_reducible refine(Ret.flat (HS2.out _ (HG5.out _ bel))).mono ?_);rintro e V1 ⟨rfl,Y1,rfl⟩)
  |(go_at_call 34;(with_reducible refine(HS2.out _ (HG5.out _ bel)).mono ?_);rintro e V1 ⟨rfl,Y1,rfl⟩))
 go_ret
 exact Ret.of rfl (HB4.out.trans ((bel:Below V4.heap.size V4 _).mono HB4.out.size))
set_option maxRecDepth 100000 in
theorem lifted (os:Os) (started:os.Started) (H:Type) (enc:TypeId × Value->H) (F:Stop.Interp):
  ReturnsInHanded {} Tryz.checked os 13 .any (fun w args=>((Rows.OpenSpec.upto Rows.printBothSpec).pre enc Tryz.prog Tryz.f13 Rows.printBothUptoRow.domain false w args/\laidMetH Tryz.prog Rows.printBothUptoRow.laid w)/\sizedMet enc Tryz.prog Tryz.f13 (Rows.OpenSpec.upto Rows.printBothSpec) false w args) (((Rows.OpenSpec.upto Rows.printBothSpec).at F).post enc Tryz.prog Tryz.f13 false true false false):=by
 refine handed_cond (C:=Tryz.checked) (s:=Rows.OpenSpec.upto Rows.printBothSpec) (k:=Rows.uptoSmall) rfl (X:=fun w _=>laidMetH Tryz.prog Rows.printBothUptoRow.laid w) (fun _ _ _ hh h=>h.of_heap hh) own started (by kernel_rfl) Tryz.func13
  (witness_cond (enc:=enc) (C:=Tryz.checked) (os:=os) (s:=Rows.OpenSpec.upto Rows.printBothSpec) (k:=Rows.uptoSmall) rfl (X:=fun w _=>laidMetH Tryz.prog Rows.printBothUptoRow.laid w) false (World.laidAll Tryz.prog os Rows.printBothUptoRow.laid) #[.agg #[.slice none 0 0,.slice none 0 0,.slice none 0 0,.slice none 0 0,.slice none 0 0,.slice none 0 0,.bool false,.int .i64 0,.int .i64 0,.int .i64 0],.agg #[.slice none 0 0,.slice none 0 0,.slice none 0 0,.slice none 0 0,.slice none 0 0,.slice none 0 0,.bool false,.int .i64 0,.int .i64 0,.int .i64 0]] 8 (World.laidAll_os _ _ _)
   (World.shaped_of_ZipB (by kernel_rfl) (by kernel_rfl)) (by kernel_rfl) (x:=([.agg [.nil,.nil,.nil,.nil,.nil,.nil,.lit (.bool false),.lit (.int .i64 0),.lit (.int .i64 0),.lit (.int .i64 0)],.agg [.nil,.nil,.nil,.nil,.nil,.nil,.lit (.bool false),.lit (.int .i64 0),.lit (.int .i64 0),.lit (.int .i64 0)]],[],[])) (by kernel_rfl) rfl (by kernel_rfl) (by kernel_rfl)
   (by rw[MakeChecks.laidMetH_plain _ _ _ (by kernel_rfl)];exact laidMet_laidAll _ (by kernel_rfl) (by kernel_rfl))) ?_
 intro W base args ds gs before hval0 hW hk0 hL
 show Calls Tryz.prog 13 args W fun e W'=> ∃v,e= .returned v/\Rows.printBothSpec.post enc Tryz.prog Tryz.f13 false true false false W args v W'
 have hval: ∀(j:Nat) t v,Tryz.f13.params[j]? =some t->args[j]? =some v->Value.okWide Tryz.prog W .any base t v:=hval0
 have hW':=hW
 obtain⟨p,q,hA0,hV,rfl,hfz,hnd⟩:=hW
 have hA:DataW.TrodAll enc Tryz.prog W 0 (fun _=>true) true Tryz.f13.params.toList args.toList ds p:=hA0
 rw[Tryz.params13]at hA hval
 obtain⟨v0,vs0,d0,ds0,p0,q0,hargs,rfl,rfl,h0,r0⟩:=trodAll_cons hA
 obtain⟨v1,vs1,d1,ds1,p1,q1,rfl,rfl,rfl,h1,r1⟩:=trodAll_cons r0
 obtain⟨rfl,rfl,rfl⟩:=trodAll_nil r1
 obtain rfl:args= #[v0,v1]:=by cases args;simp_all
 obtain⟨rfl,rfl⟩:=trodVars_none hV
 obtain⟨c0,rfl,_⟩:=okWide_struct Tryz.underlying43 (hval 0 43 v0 rfl rfl)
 have k0:=h0
 have lt0: ∀x∈p0,x.block<W.heap.size:=by obtain⟨m,hm⟩:=k0;exact DataW.trod_lt m _ _ _ hm
 obtain⟨z0,w0,b0⟩: ∃z:Pol,PolV W (fun _=>False) (.agg c0) z/\PolBk z (Rows.uptoBulk d0):=by obtain⟨fuel,hf⟩:=h0;have h9:=pol_open (x:=(d0,p0)) (show DataW.trod enc Tryz.prog W 0 (fun _=>true) true fuel 43 c0.toList=some (d0,p0) by simpa[Value.cells]using hf);simpa using h9
 obtain⟨c1,rfl,_⟩:=okWide_struct Tryz.underlying43 (hval 1 43 v1 rfl rfl)
 have k1:=h1
 have lt1: ∀x∈p1,x.block<W.heap.size:=by obtain⟨m,hm⟩:=k1;exact DataW.trod_lt m _ _ _ hm
 obtain⟨z1,w1,b1⟩: ∃z:Pol,PolV W (fun _=>False) (.agg c1) z/\PolBk z (Rows.uptoBulk d1):=by obtain⟨fuel,hf⟩:=h1;have h9:=pol_open (x:=(d1,p1)) (show DataW.trod enc Tryz.prog W 0 (fun _=>true) true fuel 43 c1.toList=some (d1,p1) by simpa[Value.cells]using hf);simpa using h9
 have hk:=bulks.bound hk0
 clear hA0 hval0 hk0
 refine(walk (.agg c0) z0 (.agg c1) z1 W (ten_laid hL (by rfl)) w0 (b0.mono (by simp only[List.append_nil,Rows.uptoBulkAll]at hk;omega)) w1 (b1.mono (by simp only[List.append_nil,Rows.uptoBulkAll]at hk;omega))).mono fun e W' hend=> ?_
 obtain⟨he,X,hX⟩:=hend
 have bel:Below W.heap.size W W':=by rw[hX];exact below_grow W X
 subst he
 exact⟨_,rfl,_,_,_,[],_,[],hW',trodAll_mk1 (shut_bool Tryz.underlying4 _),(trodAll_cons_mk (Below.trod laidOut (by kernel_rfl) (of_decide_eq_true (by kernel_rfl)) k0 bel lt0) (trodAll_cons_mk (Below.trod laidOut (by kernel_rfl) (of_decide_eq_true (by kernel_rfl)) k1 bel lt1) trodAll_mk0)),rfl,bel.frame _,fun h=>by cases h⟩
theorem over:Rows.printBothUptoRow.holds Tryz.pinned (Rows.OpenSpec.upto Rows.printBothSpec):=
 OpenClaim.holds_of_cond 13 Tryz.f13 rfl rfl rfl rfl rfl rfl rfl ⟨rfl,rfl,rfl,rfl,rfl⟩ rfl rfl rfl rfl rfl (by kernel_rfl) Tryz.func13 (by kernel_rfl)
  (of_decide_eq_true (by kernel_rfl)) (by unfold Func.isWrapper;first|(rw[if_pos (by decide+kernel)];kernel_rfl)|(rw[if_neg (by decide+kernel)];exact⟨rfl,rfl⟩))
  (fun os started H enc _ F=>lifted os started H enc F)
theorem proved:Rows.PrintBothUptoCardSaid:=
 Claim7.holds_tied_plain_at .later [] [.data,.data,.data] true _ true over (fun _ h=>by cases h) (by kernel_rfl) (fun _ h=>by cases h) printBothUpto_row_tie rfl ⟨rfl,rfl⟩ (by kernel_rfl) rfl
  (fun f fn hf hfn=>by
   obtain rfl:f=13:=Option.some.inj ((show Tryz.prog.funcNamed "cribble/cribblelaw09.PrintBoth" =some 13 by kernel_rfl).symm.trans hf) |>.symm
   obtain rfl:fn=Tryz.f13:=(Option.some.inj (Tryz.func13.symm.trans hfn)).symm
   exact⟨by kernel_rfl,fun j t ht=>by
    rw[Tryz.params13]at ht
    have hm:t∈[43,43]:=by simpa using Array.mem_of_getElem? ht
    have hall:([43,43].all fun u=> !Tryz.prog.wantsStandIn u)=true:=by kernel_rfl
    exact(show Tryz.prog.wantsStandIn t=false by simpa using List.all_eq_true.1 hall t hm)⟩)
  (by kernel_rfl)
end Go.Proofs.YtbhhgbgfaemfdaaGreatDoor.printBoth

