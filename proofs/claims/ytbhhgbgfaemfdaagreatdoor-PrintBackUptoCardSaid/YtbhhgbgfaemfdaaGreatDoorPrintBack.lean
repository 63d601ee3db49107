/- A policy's text is parsed as that policy; a text's policy, told as text, is parsed as that again: PrintBack returns true. Condition: what comes in is of bulk at most 1048576 (the statement's own second form). -/
import Derived.ProofKit
import Derived.ChangeSame
import Derived.ChangeAt
import Derived.SizedLaws
import Derived.OpenShut
import Derived.ShutString
import Derived.ChangeOld
import Derived.JoinedCond
import Derived.BigRegion
import Derived.Test.YtbhhgbgfaemfdaaGreatDoorRows
import Derived.Test.YtbhhgbgfaemfdaaGreatDoorCards
import Derived.Test.YtbhhgbgfaemfdaaGreatDoorTie
import Derived.Test.YtbhhgbgfaemfdaaGreatDoorPrnTell
import Derived.Test.YtbhhgbgfaemfdaaGreatDoorPrwJ
import Derived.Test.YtbhhgbgfaemfdaaGreatDoorRiE
import Derived.Test.YtbhhgbgfaemfdaaGreatDoorRG
namespace Go.Proofs.YtbhhgbgfaemfdaaGreatDoor.printBack
open Go.ChangeShapes Go.WideShapes Go.ChangeAt Go.RowKit
open Go.ChangeMaps (open_string shut_string)
theorem own:ownKnob Tryz.prog.godebug=none:=by kernel_rfl
theorem laidOut:laidOutB Tryz.prog=true:=by kernel_rfl
attribute [local go_sem] Oper.semAt_some
set_option maxRecDepth 100000 in
set_option maxHeartbeats 16000000 in
theorem walk (vp:Value) (p:Pol) (s:ByteArray) (w:World) (hT:Ten w) (h0:PolV w (fun _=>False) vp p) (b0:PolBk p 1048576) (_hs:s.size<=maxLen):Calls Tryz.prog 9 #[vp,.string s] w (Ret (.bool true) w):=by
 have hmx:Tryz.prog.follows .mixedOrders=true:=by kernel_rfl
 have HTn:=Lib.hid hT
 have HV0:=Lib.hid h0
 have HSp:=Lib.hid b0.sm
 have HTl:=Lib.hid (tell_of b0)
 have HF0:=Lib.hid (fun W (hb:Below w.heap.size w W)=>rfew_any vp p W (h0.below hb) b0)
 obtain⟨v0,v1,v2,v3,v4,v5,rfl,⟨A0,k0,rfl,_⟩,⟨A1,k1,rfl,_⟩,⟨A2,k2,rfl,_⟩,⟨A3,k3,rfl,_⟩,⟨A4,k4,rfl,_⟩,⟨A5,k5,rfl,_⟩⟩:=h0
 have HAw:=Lib.hid (fun W (hb:Below w.heap.size w W)=>awake09_any W (hT.below hb))
 clear hT b0
 obtain⟨f0,hf0⟩: ∃f,fewP p=f:=⟨_,rfl⟩
 rw[hf0]at HF0
 clear hf0
 go_enter Tryz.func9,Tryz.ntmps9
 go_upto_region 1 with fail
 refine name_world fun W0 hW0=> ?_
 obtain⟨B,hB⟩: ∃B,w.heap.size=B:=⟨_,rfl⟩
 have hb0:Below w.heap.size w W0:=by rw[hW0];exact bel
 have c0:W0.cell? ⟨B,0,none⟩=some (.slice A0 (fN p 0) k0):=by rw[hW0,<-hB];simp[go_sem]
 have c1:W0.cell? ⟨B,1,none⟩=some (.slice A1 (fN p 1) k1):=by rw[hW0,<-hB];simp[go_sem]
 have c2:W0.cell? ⟨B,2,none⟩=some (.slice A2 (fN p 2) k2):=by rw[hW0,<-hB];simp[go_sem]
 have c3:W0.cell? ⟨B,3,none⟩=some (.slice A3 (fN p 3) k3):=by rw[hW0,<-hB];simp[go_sem]
 have c4:W0.cell? ⟨B,4,none⟩=some (.slice A4 (fN p 4) k4):=by rw[hW0,<-hB];simp[go_sem]
 have c5:W0.cell? ⟨B,5,none⟩=some (.slice A5 (fN p 5) k5):=by rw[hW0,<-hB];simp[go_sem]
 have c6:W0.cell? ⟨B,6,none⟩=some (.bool p.rel):=by rw[hW0,<-hB];simp[go_sem]
 have c7:W0.cell? ⟨B,7,none⟩=some (.int .i64 p.depth):=by rw[hW0,<-hB];simp[go_sem]
 have c8:W0.cell? ⟨B,8,none⟩=some (.int .i64 p.name):=by rw[hW0,<-hB];simp[go_sem]
 have c9:W0.cell? ⟨B,9,none⟩=some (.int .i64 p.value):=by rw[hW0,<-hB];simp[go_sem]
 have hBl:B<W0.heap.size:=by rw[hW0,<-hB];simp
 have HB0:=Lib.hid hb0
 rw[hB]
 clear hW0 hb0 hB
 have HG0:=Lib.hid (fun W (hb:Below W0.heap.size W0 W)=>HB0.out.trans (hb.mono HB0.out.size))
 go_upto_region 3 with(first
  |(go_at_call 29;(with_reducible refine(Ret.flat (HAw.out _ (HG0.out _ bel))).mono ?_);rintro e V0 ⟨rfl,Y0,rfl⟩)
  |(go_at_call 29;(with_reducible refine(HAw.out _ (HG0.out _ bel)).mono ?_);rintro e V0 ⟨rfl,Y0,rfl⟩)
  |(go_at_call 30;(with_reducible refine(Ret.flat (HF0.out _ (HG0.out _ bel))).mono ?_);rintro e V1 ⟨rfl,Y1,rfl⟩)
  |(go_at_call 30;(with_reducible refine(HF0.out _ (HG0.out _ bel)).mono ?_);rintro e V1 ⟨rfl,Y1,rfl⟩))
 refine name_world fun V0 hV0=> ?_
 have hv0:Below W0.heap.size W0 V0:=by rw[hV0];exact bel
 have HBv:=Lib.hid (HB0.out.trans (hv0.mono HB0.out.size))
 have hBv:B<V0.heap.size:=Nat.lt_of_lt_of_le hBl hv0.size
 clear hV0
 have x0:=(hv0.cell (p:=⟨B,0,none⟩) (show B<W0.heap.size by omega)).trans c0
 have x1:=(hv0.cell (p:=⟨B,1,none⟩) (show B<W0.heap.size by omega)).trans c1
 have x2:=(hv0.cell (p:=⟨B,2,none⟩) (show B<W0.heap.size by omega)).trans c2
 have x3:=(hv0.cell (p:=⟨B,3,none⟩) (show B<W0.heap.size by omega)).trans c3
 have x4:=(hv0.cell (p:=⟨B,4,none⟩) (show B<W0.heap.size by omega)).trans c4
 have x5:=(hv0.cell (p:=⟨B,5,none⟩) (show B<W0.heap.size by omega)).trans c5
 have x6:=(hv0.cell (p:=⟨B,6,none⟩) (show B<W0.heap.size by omega)).trans c6
 have x7:=(hv0.cell (p:=⟨B,7,none⟩) (show B<W0.heap.size by omega)).trans c7
 have x8:=(hv0.cell (p:=⟨B,8,none⟩) (show B<W0.heap.size by omega)).trans c8
 have x9:=(hv0.cell (p:=⟨B,9,none⟩) (show B<W0.heap.size by omega)).trans c9
 clear hv0 c0 c1 c2 c3 c4 c5 c6 c7 c8 c9 HG0 HF0 HAw
 have HG1:=Lib.hid (fun W (hb:Below V0.heap.size V0 W)=>HBv.out.trans (hb.mono HBv.out.size))
 cases f0
 case false=>
  go_wp2_with fail
  go_ret
  exact Ret.of rfl (HBv.out.trans ((bel:Below V0.heap.size V0 _).mono HBv.out.size))
 by_cases hs:8192<s.size
 ·have b1:decide ((8192:Int)<s.size)=true:=by simp;omega
  clear hs
  go_wp2_with fail
  go_ret
  exact Ret.of rfl (HBv.out.trans ((bel:Below V0.heap.size V0 _).mono HBv.out.size))
 have b1:decide ((8192:Int)<s.size)=false:=by simp;omega
 clear hs
 have HX:=Lib.hid (fun W hb=>ptext_any _ p W (HTn.out.below hb) (HV0.out.below hb) HTl.out)
 --what is told of p
 have key: ∃(t:Bs) (k:Nat),txV p= .tuple #[.string ⟨t.toArray⟩,.int .i64 k]/\(k=0->parsePl t= .ok p):=by
  by_cases hr:rightP p=true
  ·by_cases hl:(txP p).length<=8192
   ·exact⟨txP p,0,by unfold txV;rw[if_pos hr,if_pos hl];rfl,fun _=>by rw[txP_eq hr]at hl ⊢;exact text_back hr hl⟩
   ·exact⟨[],3,by unfold txV;rw[if_pos hr,if_neg hl];rfl,fun h=>by cases h⟩
  ·exact⟨[],1,by unfold txV;rw[if_neg hr];rfl,fun h=>by cases h⟩
 obtain⟨t,k,ht,hpk⟩:=key
 rw[ht]at HX
 have HP1:=Lib.hid (fun(hk:k=0) W=>show Calls Tryz.prog 33 #[.string ⟨t.toArray⟩] W fun e w'=>Below W.heap.size W w'/\ ∃v,e= .returned (.tuple #[v,.int .i64 0,.int .i64 0])/\PolV w' (fun b=>b<W.heap.size) v p from by
  refine(parse_any t W).mono fun e w' h=> ?_
  unfold ParseOut at h
  rw[hpk hk]at h
  exact h)
 clear ht hpk HTl
 obtain⟨a,c,P,G⟩:=parse_gen s.data.toList
 have HP2:=Lib.hid (fun W=>show Calls Tryz.prog 33 #[.string s] W _ from G.run W)
 have HBk:=Lib.hid (G.bk.mono (m:=1048576) (by omega))
 have HSy:=Lib.hid G.says
 clear G
 go_upto_region 6 with(go_at_call 31;(with_reducible refine(HX.out _ (HG1.out _ bel)).mono ?_);rintro e V1 ⟨rfl,Y1,rfl⟩)
 refine name_world fun V1 hV1=> ?_
 have hv1:Below V0.heap.size V0 V1:=by rw[hV1];exact bel
 have HB1:=Lib.hid (HG1.out V1 hv1)
 have hl1:B<V1.heap.size:=Nat.lt_of_lt_of_le hBv hv1.size
 have y0:V1.cell? ⟨B,0,none⟩=some (.slice A0 (fN p 0) k0):=(hv1.cell (p:=⟨B,0,none⟩) hBv).trans x0
 have y1:V1.cell? ⟨B,1,none⟩=some (.slice A1 (fN p 1) k1):=(hv1.cell (p:=⟨B,1,none⟩) hBv).trans x1
 have y2:V1.cell? ⟨B,2,none⟩=some (.slice A2 (fN p 2) k2):=(hv1.cell (p:=⟨B,2,none⟩) hBv).trans x2
 have y3:V1.cell? ⟨B,3,none⟩=some (.slice A3 (fN p 3) k3):=(hv1.cell (p:=⟨B,3,none⟩) hBv).trans x3
 have y4:V1.cell? ⟨B,4,none⟩=some (.slice A4 (fN p 4) k4):=(hv1.cell (p:=⟨B,4,none⟩) hBv).trans x4
 have y5:V1.cell? ⟨B,5,none⟩=some (.slice A5 (fN p 5) k5):=(hv1.cell (p:=⟨B,5,none⟩) hBv).trans x5
 have y6:V1.cell? ⟨B,6,none⟩=some (.bool p.rel):=(hv1.cell (p:=⟨B,6,none⟩) hBv).trans x6
 have y7:V1.cell? ⟨B,7,none⟩=some (.int .i64 p.depth):=(hv1.cell (p:=⟨B,7,none⟩) hBv).trans x7
 have y8:V1.cell? ⟨B,8,none⟩=some (.int .i64 p.name):=(hv1.cell (p:=⟨B,8,none⟩) hBv).trans x8
 have y9:V1.cell? ⟨B,9,none⟩=some (.int .i64 p.value):=(hv1.cell (p:=⟨B,9,none⟩) hBv).trans x9
 clear hV1 hv1 x0 x1 x2 x3 x4 x5 x6 x7 x8 x9 HX HG1 HBv hBv
 have HG2:=Lib.hid (fun W (hb:Below V1.heap.size V1 W)=>HB1.out.trans (hb.mono HB1.out.size))
 generalize(⟨t.toArray⟩:ByteArray)=tb at*
 go_upto_if 43 with fail
 go_cut [4] (fun s4 wx=>s4= .bool false/\Below w.heap.size w wx)
 case first=>
  by_cases hk:k=0
  ·have b2:((k:Int)==0)=true:=by simp[hk]
   have HP9:=Lib.hid (HP1.out hk)
   clear hk HP1
   go_upto_region 8 with(go_at_call 33;(with_reducible refine(HP9.out _).mono ?_);rintro e U1 ⟨hb1,v1,rfl,hp1⟩;have HU1:=Lib.hid hb1;have HQ1:=Lib.hid hp1;obtain⟨n0,n1,n2,n3,n4,n5,rfl,⟨E0,e0,rfl,_⟩,⟨E1,e1,rfl,_⟩,⟨E2,e2,rfl,_⟩,⟨E3,e3,rfl,_⟩,⟨E4,e4,rfl,_⟩,⟨E5,e5,rfl,_⟩⟩:=hp1;clear hb1)
   refine name_world fun V2 hV2=> ?_
   have hu2:Below V1.heap.size V1 V2:=by rw[hV2];exact HU1.out.trans ((bel:Below U1.heap.size U1 _).mono HU1.out.size)
   obtain⟨B2,hB2⟩: ∃B2,U1.heap.size=B2:=⟨_,rfl⟩
   have HQ2:=Lib.hid (show PolV V2 (fun _=>False) (.agg #[.slice E0 (fN p 0) e0,.slice E1 (fN p 1) e1,.slice E2 (fN p 2) e2,.slice E3 (fN p 3) e3,.slice E4 (fN p 4) e4,.slice E5 (fN p 5) e5,.bool p.rel,.int .i64 p.depth,.int .i64 p.name,.int .i64 p.value]) p from(HQ1.out.below (by rw[hV2];exact bel)).mono (fun _ _ h=>h.elim))
   have z0:V2.cell? ⟨B2,0,none⟩=some (.slice E0 (fN p 0) e0):=by rw[hV2,<-hB2];simp[go_sem]
   have z1:V2.cell? ⟨B2,1,none⟩=some (.slice E1 (fN p 1) e1):=by rw[hV2,<-hB2];simp[go_sem]
   have z2:V2.cell? ⟨B2,2,none⟩=some (.slice E2 (fN p 2) e2):=by rw[hV2,<-hB2];simp[go_sem]
   have z3:V2.cell? ⟨B2,3,none⟩=some (.slice E3 (fN p 3) e3):=by rw[hV2,<-hB2];simp[go_sem]
   have z4:V2.cell? ⟨B2,4,none⟩=some (.slice E4 (fN p 4) e4):=by rw[hV2,<-hB2];simp[go_sem]
   have z5:V2.cell? ⟨B2,5,none⟩=some (.slice E5 (fN p 5) e5):=by rw[hV2,<-hB2];simp[go_sem]
   have z6:V2.cell? ⟨B2,6,none⟩=some (.bool p.rel):=by rw[hV2,<-hB2];simp[go_sem]
   have z7:V2.cell? ⟨B2,7,none⟩=some (.int .i64 p.depth):=by rw[hV2,<-hB2];simp[go_sem]
   have z8:V2.cell? ⟨B2,8,none⟩=some (.int .i64 p.name):=by rw[hV2,<-hB2];simp[go_sem]
   have z9:V2.cell? ⟨B2,9,none⟩=some (.int .i64 p.value):=by rw[hV2,<-hB2];simp[go_sem]
   have x0:V2.cell? ⟨B,0,none⟩=some (.slice A0 (fN p 0) k0):=(hu2.cell (p:=⟨B,0,none⟩) hl1).trans y0
   have x1:V2.cell? ⟨B,1,none⟩=some (.slice A1 (fN p 1) k1):=(hu2.cell (p:=⟨B,1,none⟩) hl1).trans y1
   have x2:V2.cell? ⟨B,2,none⟩=some (.slice A2 (fN p 2) k2):=(hu2.cell (p:=⟨B,2,none⟩) hl1).trans y2
   have x3:V2.cell? ⟨B,3,none⟩=some (.slice A3 (fN p 3) k3):=(hu2.cell (p:=⟨B,3,none⟩) hl1).trans y3
   have x4:V2.cell? ⟨B,4,none⟩=some (.slice A4 (fN p 4) k4):=(hu2.cell (p:=⟨B,4,none⟩) hl1).trans y4
   have x5:V2.cell? ⟨B,5,none⟩=some (.slice A5 (fN p 5) k5):=(hu2.cell (p:=⟨B,5,none⟩) hl1).trans y5
   have x6:V2.cell? ⟨B,6,none⟩=some (.bool p.rel):=(hu2.cell (p:=⟨B,6,none⟩) hl1).trans y6
   have x7:V2.cell? ⟨B,7,none⟩=some (.int .i64 p.depth):=(hu2.cell (p:=⟨B,7,none⟩) hl1).trans y7
   have x8:V2.cell? ⟨B,8,none⟩=some (.int .i64 p.name):=(hu2.cell (p:=⟨B,8,none⟩) hl1).trans y8
   have x9:V2.cell? ⟨B,9,none⟩=some (.int .i64 p.value):=(hu2.cell (p:=⟨B,9,none⟩) hl1).trans y9
   have l0:B<V2.heap.size:=Nat.lt_of_lt_of_le hl1 hu2.size
   have l1:B2<V2.heap.size:=World.block_lt_of_cell? V2 _ z0
   have HB2:=Lib.hid (HG2.out V2 hu2)
   rw[hB2]
   clear hV2 hu2 hB2 HQ1 HU1 HP9
   have HS:=Lib.hid (show ∀W,Below V2.heap.size V2 W->Calls Tryz.prog 34 #[.agg #[.slice A0 (fN p 0) k0,.slice A1 (fN p 1) k1,.slice A2 (fN p 2) k2,.slice A3 (fN p 3) k3,.slice A4 (fN p 4) k4,.slice A5 (fN p 5) k5,.bool p.rel,.int .i64 p.depth,.int .i64 p.name,.int .i64 p.value],.agg #[.slice E0 (fN p 0) e0,.slice E1 (fN p 1) e1,.slice E2 (fN p 2) e2,.slice E3 (fN p 3) e3,.slice E4 (fN p 4) e4,.slice E5 (fN p 5) e5,.bool p.rel,.int .i64 p.depth,.int .i64 p.name,.int .i64 p.value]] W (Ret (.bool true) W)from fun W hb=>by have h9:=rsame_any _ _ p p _ _ W (HV0.out.below (HB2.out.trans (hb.mono HB2.out.size))) (HQ2.out.below hb) HSp.out HSp.out;rwa[decide_eq_true rfl]at h9)
   go_wp2_with(go_at_call 34;(with_reducible refine(HS.out _ bel).mono ?_);rintro e W3 ⟨rfl,Y3,rfl⟩)
   go_meet
   case rel=>exact⟨rfl,HB2.out.trans ((bel:Below V2.heap.size V2 _).mono HB2.out.size)⟩
  ·have b2:((k:Int)==0)=false:=by simp;omega
   clear hk HP1
   go_wp2_with fail
   go_meet
   case rel=>exact⟨rfl,HB1.out.trans ((bel:Below V1.heap.size V1 _).mono HB1.out.size)⟩
 case rest=>
  clear HB1 HG2 hl1 y0 y1 y2 y3 y4 y5 y6 y7 y8 y9
  obtain⟨rfl,hbw⟩:=hcut
  rename_i hK
  refine hK _ _ ?_
  clear hK HP1 HSp HV0
  have HBw:=Lib.hid hbw
  clear hbw
  go_upto_region 12 with(go_at_call 33;(with_reducible refine(HP2.out _).mono ?_);rintro e U1 ⟨hb1,v1,rfl,hp1⟩;have HU1:=Lib.hid hb1;have HQ1:=Lib.hid hp1;obtain⟨n0,n1,n2,n3,n4,n5,rfl,⟨E0,e0,rfl,_⟩,⟨E1,e1,rfl,_⟩,⟨E2,e2,rfl,_⟩,⟨E3,e3,rfl,_⟩,⟨E4,e4,rfl,_⟩,⟨E5,e5,rfl,_⟩⟩:=hp1;clear hb1)
  refine name_world fun V2 hV2=> ?_
  have hu2:Below w.heap.size w V2:=by rw[hV2];exact(HBw.out.trans (HU1.out.mono HBw.out.size)).trans ((bel:Below U1.heap.size U1 _).mono (Nat.le_trans HBw.out.size HU1.out.size))
  obtain⟨B2,hB2⟩: ∃B2,U1.heap.size=B2:=⟨_,rfl⟩
  have HQ2:=Lib.hid (show PolV V2 (fun _=>False) (.agg #[.slice E0 (fN P 0) e0,.slice E1 (fN P 1) e1,.slice E2 (fN P 2) e2,.slice E3 (fN P 3) e3,.slice E4 (fN P 4) e4,.slice E5 (fN P 5) e5,.bool P.rel,.int .i64 P.depth,.int .i64 P.name,.int .i64 P.value]) P from(HQ1.out.below (by rw[hV2];exact bel)).mono (fun _ _ h=>h.elim))
  have z0:V2.cell? ⟨B2,0,none⟩=some (.slice E0 (fN P 0) e0):=by rw[hV2,<-hB2];simp[go_sem]
  have z1:V2.cell? ⟨B2,1,none⟩=some (.slice E1 (fN P 1) e1):=by rw[hV2,<-hB2];simp[go_sem]
  have z2:V2.cell? ⟨B2,2,none⟩=some (.slice E2 (fN P 2) e2):=by rw[hV2,<-hB2];simp[go_sem]
  have z3:V2.cell? ⟨B2,3,none⟩=some (.slice E3 (fN P 3) e3):=by rw[hV2,<-hB2];simp[go_sem]
  have z4:V2.cell? ⟨B2,4,none⟩=some (.slice E4 (fN P 4) e4):=by rw[hV2,<-hB2];simp[go_sem]
  have z5:V2.cell? ⟨B2,5,none⟩=some (.slice E5 (fN P 5) e5):=by rw[hV2,<-hB2];simp[go_sem]
  have z6:V2.cell? ⟨B2,6,none⟩=some (.bool P.rel):=by rw[hV2,<-hB2];simp[go_sem]
  have z7:V2.cell? ⟨B2,7,none⟩=some (.int .i64 P.depth):=by rw[hV2,<-hB2];simp[go_sem]
  have z8:V2.cell? ⟨B2,8,none⟩=some (.int .i64 P.name):=by rw[hV2,<-hB2];simp[go_sem]
  have z9:V2.cell? ⟨B2,9,none⟩=some (.int .i64 P.value):=by rw[hV2,<-hB2];simp[go_sem]
  have l1:B2<V2.heap.size:=World.block_lt_of_cell? V2 _ z0
  have HB2:=Lib.hid hu2
  rw[hB2]
  clear hV2 hu2 hB2 HQ1 HU1 HP2
  by_cases hc:c=0
  rotate_left
  ·have b3:((c:Int) !=0)=true:=by simp;omega
   clear hc
   go_wp2_with fail
   go_ret
   exact Ret.of rfl (HB2.out.trans ((bel:Below V2.heap.size V2 _).mono HB2.out.size))
  have b3:((c:Int) !=0)=false:=by simp[hc]
  have hP:parsePl s.data.toList= .ok P:=by
   rcases HSy.out with⟨_,_,h⟩|⟨h,_⟩
   ·exact h
   ·exact absurd hc h
  have hr:rightP P=true:=parse_right hP
  clear HSy hP hc
  have HX:=Lib.hid (fun W (hb:Below V2.heap.size V2 W)=>ptext_any _ P W (HTn.out.below (HB2.out.trans (hb.mono HB2.out.size))) (HQ2.out.below hb) (tell_of HBk.out))
  by_cases hl:(txP P).length<=8192
  rotate_left
  ·have hx:txV P= .tuple #[.string ⟨#[]⟩,.int .i64 3]:=by unfold txV;rw[if_pos hr,if_neg hl]
   rw[hx]at HX
   clear hx hl hr
   go_wp2_with(go_at_call 31;(with_reducible refine(HX.out _ bel).mono ?_);rintro e V3 ⟨rfl,Y3,rfl⟩)
   go_ret
   exact Ret.of rfl (HB2.out.trans ((bel:Below V2.heap.size V2 _).mono HB2.out.size))
  have hx:txV P= .tuple #[.string ⟨(txP P).toArray⟩,.int .i64 0]:=by unfold txV;rw[if_pos hr,if_pos hl]
  rw[hx]at HX
  have hpk:parsePl (txP P)= .ok P:=by rw[txP_eq hr]at hl ⊢;exact text_back hr hl
  have HP3:=Lib.hid (fun W=>show Calls Tryz.prog 33 #[.string ⟨(txP P).toArray⟩] W fun e w'=>Below W.heap.size W w'/\ ∃v,e= .returned (.tuple #[v,.int .i64 0,.int .i64 0])/\PolV w' (fun b=>b<W.heap.size) v P from by
   refine(parse_any (txP P) W).mono fun e w' h=> ?_
   unfold ParseOut at h
   rw[hpk]at h
   exact h)
  clear hx hl hr hpk
  generalize(⟨(txP P).toArray⟩:ByteArray)=tc at*
  go_upto_region 17 with(go_at_call 31;(with_reducible refine(HX.out _ bel).mono ?_);rintro e V3 ⟨rfl,Y3,rfl⟩)
  go_upto_region 18 with(go_at_call 33;(with_reducible refine(HP3.out _).mono ?_);rintro e U4 ⟨hb4,v4,rfl,hp4⟩;have HU4:=Lib.hid hb4;have HQ4:=Lib.hid hp4;obtain⟨n0,n1,n2,n3,n4,n5,rfl,⟨F0,f0,rfl,_⟩,⟨F1,f1,rfl,_⟩,⟨F2,f2,rfl,_⟩,⟨F3,f3,rfl,_⟩,⟨F4,f4,rfl,_⟩,⟨F5,f5,rfl,_⟩⟩:=hp4;clear hb4)
  refine name_world fun V5 hV5=> ?_
  have hu5:Below V2.heap.size V2 V5:=by rw[hV5];exact((below_grow V2 Y3).trans (HU4.out.mono (below_grow V2 Y3).size)).trans ((bel:Below U4.heap.size U4 _).mono (Nat.le_trans (below_grow V2 Y3).size HU4.out.size))
  obtain⟨B5,hB5⟩: ∃B5,U4.heap.size=B5:=⟨_,rfl⟩
  have HQ5:=Lib.hid (show PolV V5 (fun _=>False) (.agg #[.slice F0 (fN P 0) f0,.slice F1 (fN P 1) f1,.slice F2 (fN P 2) f2,.slice F3 (fN P 3) f3,.slice F4 (fN P 4) f4,.slice F5 (fN P 5) f5,.bool P.rel,.int .i64 P.depth,.int .i64 P.name,.int .i64 P.value]) P from(HQ4.out.below (by rw[hV5];exact bel)).mono (fun _ _ h=>h.elim))
  have y0:V5.cell? ⟨B5,0,none⟩=some (.slice F0 (fN P 0) f0):=by rw[hV5,<-hB5];simp[go_sem]
  have y1:V5.cell? ⟨B5,1,none⟩=some (.slice F1 (fN P 1) f1):=by rw[hV5,<-hB5];simp[go_sem]
  have y2:V5.cell? ⟨B5,2,none⟩=some (.slice F2 (fN P 2) f2):=by rw[hV5,<-hB5];simp[go_sem]
  have y3:V5.cell? ⟨B5,3,none⟩=some (.slice F3 (fN P 3) f3):=by rw[hV5,<-hB5];simp[go_sem]
  have y4:V5.cell? ⟨B5,4,none⟩=some (.slice F4 (fN P 4) f4):=by rw[hV5,<-hB5];simp[go_sem]
  have y5:V5.cell? ⟨B5,5,none⟩=some (.slice F5 (fN P 5) f5):=by rw[hV5,<-hB5];simp[go_sem]
  have y6:V5.cell? ⟨B5,6,none⟩=some (.bool P.rel):=by rw[hV5,<-hB5];simp[go_sem]
  have y7:V5.cell? ⟨B5,7,none⟩=some (.int .i64 P.depth):=by rw[hV5,<-hB5];simp[go_sem]
  have y8:V5.cell? ⟨B5,8,none⟩=some (.int .i64 P.name):=by rw[hV5,<-hB5];simp[go_sem]
  have y9:V5.cell? ⟨B5,9,none⟩=some (.int .i64 P.value):=by rw[hV5,<-hB5];simp[go_sem]
  have x0:V5.cell? ⟨B2,0,none⟩=some (.slice E0 (fN P 0) e0):=(hu5.cell (p:=⟨B2,0,none⟩) l1).trans z0
  have x1:V5.cell? ⟨B2,1,none⟩=some (.slice E1 (fN P 1) e1):=(hu5.cell (p:=⟨B2,1,none⟩) l1).trans z1
  have x2:V5.cell? ⟨B2,2,none⟩=some (.slice E2 (fN P 2) e2):=(hu5.cell (p:=⟨B2,2,none⟩) l1).trans z2
  have x3:V5.cell? ⟨B2,3,none⟩=some (.slice E3 (fN P 3) e3):=(hu5.cell (p:=⟨B2,3,none⟩) l1).trans z3
  have x4:V5.cell? ⟨B2,4,none⟩=some (.slice E4 (fN P 4) e4):=(hu5.cell (p:=⟨B2,4,none⟩) l1).trans z4
  have x5:V5.cell? ⟨B2,5,none⟩=some (.slice E5 (fN P 5) e5):=(hu5.cell (p:=⟨B2,5,none⟩) l1).trans z5
  have x6:V5.cell? ⟨B2,6,none⟩=some (.bool P.rel):=(hu5.cell (p:=⟨B2,6,none⟩) l1).trans z6
  have x7:V5.cell? ⟨B2,7,none⟩=some (.int .i64 P.depth):=(hu5.cell (p:=⟨B2,7,none⟩) l1).trans z7
  have x8:V5.cell? ⟨B2,8,none⟩=some (.int .i64 P.name):=(hu5.cell (p:=⟨B2,8,none⟩) l1).trans z8
  have x9:V5.cell? ⟨B2,9,none⟩=some (.int .i64 P.value):=(hu5.cell (p:=⟨B2,9,none⟩) l1).trans z9
  have l2:B2<V5.heap.size:=Nat.lt_of_lt_of_le l1 hu5.size
  have l3:B5<V5.heap.size:=World.block_lt_of_cell? V5 _ y0
  have HB5:=Lib.hid (HB2.out.trans (hu5.mono HB2.out.size))
  have HQ6:=Lib.hid (HQ2.out.below hu5)
  rw[hB5]
  clear hV5 hu5 hB5 HQ4 HU4 HP3 z0 z1 z2 z3 z4 z5 z6 z7 z8 z9
  have HS:=Lib.hid (show ∀W,Below V5.heap.size V5 W->Calls Tryz.prog 34 #[.agg #[.slice E0 (fN P 0) e0,.slice E1 (fN P 1) e1,.slice E2 (fN P 2) e2,.slice E3 (fN P 3) e3,.slice E4 (fN P 4) e4,.slice E5 (fN P 5) e5,.bool P.rel,.int .i64 P.depth,.int .i64 P.name,.int .i64 P.value],.agg #[.slice F0 (fN P 0) f0,.slice F1 (fN P 1) f1,.slice F2 (fN P 2) f2,.slice F3 (fN P 3) f3,.slice F4 (fN P 4) f4,.slice F5 (fN P 5) f5,.bool P.rel,.int .i64 P.depth,.int .i64 P.name,.int .i64 P.value]] W (Ret (.bool true) W)from fun W hb=>by have h9:=rsame_any _ _ P P _ _ W (HQ6.out.below hb) (HQ5.out.below hb) HBk.out.sm HBk.out.sm;rwa[decide_eq_true rfl]at h9)
  go_wp2_with(go_at_call 34;(with_reducible refine(HS.out _ bel).mono ?_);rintro e W6 ⟨rfl,Y6,rfl⟩)
  go_ret
  exact Ret.of rfl (HB5.out.trans ((bel:Below V5.heap.size V5 _).mono HB5.out.size))
set_option maxRecDepth 100000 in
theorem lifted (os:Os) (started:os.Started) (H:Type) (enc:TypeId × Value->H) (F:Stop.Interp):
  ReturnsInHanded {} Tryz.checked os 9 .any (fun w args=>((Rows.OpenSpec.upto Rows.printBackSpec).pre enc Tryz.prog Tryz.f9 Rows.printBackUptoRow.domain false w args/\laidMetH Tryz.prog Rows.printBackUptoRow.laid w)/\sizedMet enc Tryz.prog Tryz.f9 (Rows.OpenSpec.upto Rows.printBackSpec) false w args) (((Rows.OpenSpec.upto Rows.printBackSpec).at F).post enc Tryz.prog Tryz.f9 false true false false):=by
 refine handed_cond (C:=Tryz.checked) (s:=Rows.OpenSpec.upto Rows.printBackSpec) (k:=Rows.uptoSmall) rfl (X:=fun w _=>laidMetH Tryz.prog Rows.printBackUptoRow.laid w) (fun _ _ _ hh h=>h.of_heap hh) own started (by kernel_rfl) Tryz.func9
  (witness_cond (enc:=enc) (C:=Tryz.checked) (os:=os) (s:=Rows.OpenSpec.upto Rows.printBackSpec) (k:=Rows.uptoSmall) rfl (X:=fun w _=>laidMetH Tryz.prog Rows.printBackUptoRow.laid w) false (World.laidAll Tryz.prog os Rows.printBackUptoRow.laid) #[.agg #[.slice none 0 0,.slice none 0 0,.slice none 0 0,.slice none 0 0,.slice none 0 0,.slice none 0 0,.bool false,.int .i64 0,.int .i64 0,.int .i64 0],.string ⟨#[]⟩] 8 (World.laidAll_os _ _ _)
   (World.shaped_of_ZipB (by kernel_rfl) (by kernel_rfl)) (by kernel_rfl) (x:=([.agg [.nil,.nil,.nil,.nil,.nil,.nil,.lit (.bool false),.lit (.int .i64 0),.lit (.int .i64 0),.lit (.int .i64 0)],.lit (.string [])],[],[])) (by kernel_rfl) rfl (by kernel_rfl) (by kernel_rfl)
   (by rw[MakeChecks.laidMetH_plain _ _ _ (by kernel_rfl)];exact laidMet_laidAll _ (by kernel_rfl) (by kernel_rfl))) ?_
 intro W base args ds gs before hval0 hW hk0 hL
 show Calls Tryz.prog 9 args W fun e W'=> ∃v,e= .returned v/\Rows.printBackSpec.post enc Tryz.prog Tryz.f9 false true false false W args v W'
 have hval: ∀(j:Nat) t v,Tryz.f9.params[j]? =some t->args[j]? =some v->Value.okWide Tryz.prog W .any base t v:=hval0
 have hW':=hW
 obtain⟨p,q,hA0,hV,rfl,hfz,hnd⟩:=hW
 have hA:DataW.TrodAll enc Tryz.prog W 0 (fun _=>true) true Tryz.f9.params.toList args.toList ds p:=hA0
 rw[Tryz.params9]at hA hval
 obtain⟨v0,vs0,d0,ds0,p0,q0,hargs,rfl,rfl,h0,r0⟩:=trodAll_cons hA
 obtain⟨v1,vs1,d1,ds1,p1,q1,rfl,rfl,rfl,h1,r1⟩:=trodAll_cons r0
 obtain⟨rfl,rfl,rfl⟩:=trodAll_nil r1
 obtain rfl:args= #[v0,v1]:=by cases args;simp_all
 obtain⟨rfl,rfl⟩:=trodVars_none hV
 obtain⟨c0,rfl,_⟩:=okWide_struct Tryz.underlying43 (hval 0 43 v0 rfl rfl)
 have k0:=h0
 have lt0: ∀x∈p0,x.block<W.heap.size:=by obtain⟨m,hm⟩:=k0;exact DataW.trod_lt m _ _ _ hm
 obtain⟨z0,w0,b0⟩: ∃z:Pol,PolV W (fun _=>False) (.agg c0) z/\PolBk z (Rows.uptoBulk d0):=by obtain⟨fuel,hf⟩:=h0;have h9:=pol_open (x:=(d0,p0)) (show DataW.trod enc Tryz.prog W 0 (fun _=>true) true fuel 43 c0.toList=some (d0,p0) by simpa[Value.cells]using hf);simpa using h9
 obtain⟨s1,rfl,rfl,rfl,w1⟩:=open_string Tryz.underlying9 (hval 1 9 v1 rfl rfl) h1
 have hk:=bulks.bound hk0
 clear hA0 hval0 hk0
 refine(walk (.agg c0) z0 s1 W (ten_laid hL (by rfl)) w0 (b0.mono (by simp only[List.append_nil,Rows.uptoBulkAll]at hk;omega)) w1).mono fun e W' hend=> ?_
 obtain⟨he,X,hX⟩:=hend
 have bel:Below W.heap.size W W':=by rw[hX];exact below_grow W X
 subst he
 exact⟨_,rfl,_,_,_,[],_,[],hW',trodAll_mk1 (shut_bool Tryz.underlying4 _),(trodAll_cons_mk (Below.trod laidOut (by kernel_rfl) (of_decide_eq_true (by kernel_rfl)) k0 bel lt0) (trodAll_cons_mk (shut_string Tryz.underlying9 w1) trodAll_mk0)),rfl,bel.frame _,fun h=>by cases h⟩
theorem over:Rows.printBackUptoRow.holds Tryz.pinned (Rows.OpenSpec.upto Rows.printBackSpec):=
 OpenClaim.holds_of_cond 9 Tryz.f9 rfl rfl rfl rfl rfl rfl rfl ⟨rfl,rfl,rfl,rfl,rfl⟩ rfl rfl rfl rfl rfl (by kernel_rfl) Tryz.func9 (by kernel_rfl)
  (of_decide_eq_true (by kernel_rfl)) (by unfold Func.isWrapper;first|(rw[if_pos (by decide+kernel)];kernel_rfl)|(rw[if_neg (by decide+kernel)];exact⟨rfl,rfl⟩))
  (fun os started H enc _ F=>lifted os started H enc F)
theorem proved:Rows.PrintBackUptoCardSaid:=
 Claim7.holds_tied_plain_at .later [] [.data,.data,.data] true _ true over (fun _ h=>by cases h) (by kernel_rfl) (fun _ h=>by cases h) printBackUpto_row_tie rfl ⟨rfl,rfl⟩ (by kernel_rfl) rfl
  (fun f fn hf hfn=>by
   obtain rfl:f=9:=Option.some.inj ((show Tryz.prog.funcNamed "cribble/cribblelaw09.PrintBack" =some 9 by kernel_rfl).symm.trans hf) |>.symm
   obtain rfl:fn=Tryz.f9:=(Option.some.inj (Tryz.func9.symm.trans hfn)).symm
   exact⟨by kernel_rfl,fun j t ht=>by
    rw[Tryz.params9]at ht
    have hm:t∈[43,9]:=by simpa using Array.mem_of_getElem? ht
    have hall:([43,9].all fun u=> !Tryz.prog.wantsStandIn u)=true:=by kernel_rfl
    exact(show Tryz.prog.wantsStandIn t=false by simpa using List.all_eq_true.1 hall t hm)⟩)
  (by kernel_rfl)
end Go.Proofs.YtbhhgbgfaemfdaaGreatDoor.printBack

