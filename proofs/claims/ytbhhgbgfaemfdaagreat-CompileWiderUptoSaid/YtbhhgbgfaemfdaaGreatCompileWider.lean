/- What one policy allows another one allows that it is within, but what that drops: CompileWider returns true. Condition: what comes in is of bulk at most 1048576 (the statement's own second form). -/
import Derived.Test.YtbhhgbgfaemfdaaGreatRGW
import Derived.ProofKit
import Derived.ChangeSame
import Derived.ChangeAt
import Derived.SizedLaws
import Derived.OpenShut
import Derived.ShutString
import Derived.ChangeOld
import Derived.JoinedCond
import Derived.Test.YtbhhgbgfaemfdaaGreatRows
import Derived.Test.YtbhhgbgfaemfdaaGreatCmpM
import Derived.Test.YtbhhgbgfaemfdaaGreatCmpTwo
import Derived.Test.YtbhhgbgfaemfdaaGreatCmpWide
import Derived.Test.YtbhhgbgfaemfdaaGreatKitQ
import Derived.Test.YtbhhgbgfaemfdaaGreatPrwG
import Derived.Test.YtbhhgbgfaemfdaaGreatRiE
import Derived.Test.YtbhhgbgfaemfdaaGreatRG
namespace Go.Proofs.YtbhhgbgfaemfdaaGreat.compileWider
set_option maxRecDepth 100000
set_option maxHeartbeats 16000000
open Go.ChangeShapes Go.WideShapes Go.ChangeAt Go.RowKit
open Go.ChangeMaps (open_string shut_string)
theorem own:ownKnob Tryz.prog.godebug=none:=by kernel_rfl
theorem laidOut:laidOutB Tryz.prog=true:=by kernel_rfl
attribute [local go_sem] Oper.semAt_some
theorem str_bsX (s:ByteArray):sv s.data.toList= .string s:=rfl
theorem walk (vl:Value) (p q:Pol) (s t:ByteArray) (w:World) (h0:TwoV w vl p q) (b0:PolBk p 1048576) (b1:PolBk q 1048576) (_hs:s.size<=maxLen) (_ht:t.size<=maxLen):Calls Tryz.prog 7 #[vl,.string s,.string t] w (Ret (.bool true) w):=by
 have hmx:Tryz.prog.follows .mixedOrders=true:=by kernel_rfl
 obtain⟨v0,v1,v2,v3,v4,v5,u0,u1,u2,u3,u4,u5,rfl,h0,h1⟩:=h0
 have HF0:=Lib.hid (fun W (hb:Below w.heap.size w W)=>rfew_any _ p W (h0.below hb) b0)
 have HF1:=Lib.hid (fun W (hb:Below w.heap.size w W)=>rfew_any _ q W (h1.below hb) b1)
 have HN0:=Lib.hid (fun W (hb:Below w.heap.size w W)=>new_any _ p W (h0.below hb) (fun W' hb'=>right_any _ p W' ((h0.below hb).below hb') b0.sm b0.tx))
 have HN1:=Lib.hid (fun W (hb:Below w.heap.size w W)=>new_any _ q W (h1.below hb) (fun W' hb'=>right_any _ q W' ((h1.below hb).below hb') b1.sm b1.tx))
 have HWt:=Lib.hid (fun W (hb:Below w.heap.size w W)=>within9_any _ _ p q W (h0.below hb) (h1.below hb))
 have HWd:=Lib.hid (@wider p q)
 obtain⟨_,_,_,_,_,_,e0,⟨A0,k0,rfl,_⟩,⟨A1,k1,rfl,_⟩,⟨A2,k2,rfl,_⟩,⟨A3,k3,rfl,_⟩,⟨A4,k4,rfl,_⟩,⟨A5,k5,rfl,_⟩⟩:=h0
 obtain⟨_,_,_,_,_,_,e1,⟨C0,j0,rfl,_⟩,⟨C1,j1,rfl,_⟩,⟨C2,j2,rfl,_⟩,⟨C3,j3,rfl,_⟩,⟨C4,j4,rfl,_⟩,⟨C5,j5,rfl,_⟩⟩:=h1
 cases e0
 cases e1
 clear b0 b1
 obtain⟨f0,hf0⟩: ∃f,fewP p=f:=⟨_,rfl⟩
 rw[hf0]at HF0
 clear hf0
 obtain⟨f1,hf1⟩: ∃f,fewP q=f:=⟨_,rfl⟩
 rw[hf1]at HF1
 clear hf1
 obtain⟨m,hm⟩: ∃m,withinR p q=m:=⟨_,rfl⟩
 rw[hm]at HWt
 have HM:=Lib.hid hm
 clear hm
 go_enter Tryz.func7,Tryz.ntmps7
 go_upto_region 2 with(go_at_call 8;(with_reducible refine(awake10_any _).mono ?_);rintro e Va ⟨rfl,Ya,rfl⟩)
 refine name_world fun W0 hW0=> ?_
 obtain⟨B,hB⟩: ∃B,w.heap.size=B:=⟨_,rfl⟩
 have hb0:Below w.heap.size w W0:=by rw[hW0];exact bel
 have g0:W0.cell? ⟨B,0,none⟩=some (.slice A0 (fN p 0) k0):=by rw[hW0,<-hB];simp[go_sem]
 have g1:W0.cell? ⟨B,1,none⟩=some (.slice A1 (fN p 1) k1):=by rw[hW0,<-hB];simp[go_sem]
 have g2:W0.cell? ⟨B,2,none⟩=some (.slice A2 (fN p 2) k2):=by rw[hW0,<-hB];simp[go_sem]
 have g3:W0.cell? ⟨B,3,none⟩=some (.slice A3 (fN p 3) k3):=by rw[hW0,<-hB];simp[go_sem]
 have g4:W0.cell? ⟨B,4,none⟩=some (.slice A4 (fN p 4) k4):=by rw[hW0,<-hB];simp[go_sem]
 have g5:W0.cell? ⟨B,5,none⟩=some (.slice A5 (fN p 5) k5):=by rw[hW0,<-hB];simp[go_sem]
 have g6:W0.cell? ⟨B,6,none⟩=some (.bool p.rel):=by rw[hW0,<-hB];simp[go_sem]
 have g7:W0.cell? ⟨B,7,none⟩=some (.int .i64 p.depth):=by rw[hW0,<-hB];simp[go_sem]
 have g8:W0.cell? ⟨B,8,none⟩=some (.int .i64 p.name):=by rw[hW0,<-hB];simp[go_sem]
 have g9:W0.cell? ⟨B,9,none⟩=some (.int .i64 p.value):=by rw[hW0,<-hB];simp[go_sem]
 have g10:W0.cell? ⟨B,10,none⟩=some (.slice C0 (fN q 0) j0):=by rw[hW0,<-hB];simp[go_sem]
 have g11:W0.cell? ⟨B,11,none⟩=some (.slice C1 (fN q 1) j1):=by rw[hW0,<-hB];simp[go_sem]
 have g12:W0.cell? ⟨B,12,none⟩=some (.slice C2 (fN q 2) j2):=by rw[hW0,<-hB];simp[go_sem]
 have g13:W0.cell? ⟨B,13,none⟩=some (.slice C3 (fN q 3) j3):=by rw[hW0,<-hB];simp[go_sem]
 have g14:W0.cell? ⟨B,14,none⟩=some (.slice C4 (fN q 4) j4):=by rw[hW0,<-hB];simp[go_sem]
 have g15:W0.cell? ⟨B,15,none⟩=some (.slice C5 (fN q 5) j5):=by rw[hW0,<-hB];simp[go_sem]
 have g16:W0.cell? ⟨B,16,none⟩=some (.bool q.rel):=by rw[hW0,<-hB];simp[go_sem]
 have g17:W0.cell? ⟨B,17,none⟩=some (.int .i64 q.depth):=by rw[hW0,<-hB];simp[go_sem]
 have g18:W0.cell? ⟨B,18,none⟩=some (.int .i64 q.name):=by rw[hW0,<-hB];simp[go_sem]
 have g19:W0.cell? ⟨B,19,none⟩=some (.int .i64 q.value):=by rw[hW0,<-hB];simp[go_sem]
 have hBl:B<W0.heap.size:=World.block_lt_of_cell? W0 _ g0
 have HB0:=Lib.hid hb0
 rw[hB]
 clear hW0 hb0 hB
 go_upto_region 4 with fail
 refine name_world fun V0 hV0=> ?_
 obtain⟨B1,hB1⟩: ∃B,W0.heap.size=B:=⟨_,rfl⟩
 have hv0:Below W0.heap.size W0 V0:=by rw[hV0];exact bel
 have x0:V0.cell? ⟨B1,0,none⟩=some (.slice A0 (fN p 0) k0):=by rw[hV0,<-hB1];simp[go_sem]
 have x1:V0.cell? ⟨B1,1,none⟩=some (.slice A1 (fN p 1) k1):=by rw[hV0,<-hB1];simp[go_sem]
 have x2:V0.cell? ⟨B1,2,none⟩=some (.slice A2 (fN p 2) k2):=by rw[hV0,<-hB1];simp[go_sem]
 have x3:V0.cell? ⟨B1,3,none⟩=some (.slice A3 (fN p 3) k3):=by rw[hV0,<-hB1];simp[go_sem]
 have x4:V0.cell? ⟨B1,4,none⟩=some (.slice A4 (fN p 4) k4):=by rw[hV0,<-hB1];simp[go_sem]
 have x5:V0.cell? ⟨B1,5,none⟩=some (.slice A5 (fN p 5) k5):=by rw[hV0,<-hB1];simp[go_sem]
 have x6:V0.cell? ⟨B1,6,none⟩=some (.bool p.rel):=by rw[hV0,<-hB1];simp[go_sem]
 have x7:V0.cell? ⟨B1,7,none⟩=some (.int .i64 p.depth):=by rw[hV0,<-hB1];simp[go_sem]
 have x8:V0.cell? ⟨B1,8,none⟩=some (.int .i64 p.name):=by rw[hV0,<-hB1];simp[go_sem]
 have x9:V0.cell? ⟨B1,9,none⟩=some (.int .i64 p.value):=by rw[hV0,<-hB1];simp[go_sem]
 have y0:V0.cell? ⟨B1+1,0,none⟩=some (.slice C0 (fN q 0) j0):=by rw[hV0,<-hB1];simp[go_sem]
 have y1:V0.cell? ⟨B1+1,1,none⟩=some (.slice C1 (fN q 1) j1):=by rw[hV0,<-hB1];simp[go_sem]
 have y2:V0.cell? ⟨B1+1,2,none⟩=some (.slice C2 (fN q 2) j2):=by rw[hV0,<-hB1];simp[go_sem]
 have y3:V0.cell? ⟨B1+1,3,none⟩=some (.slice C3 (fN q 3) j3):=by rw[hV0,<-hB1];simp[go_sem]
 have y4:V0.cell? ⟨B1+1,4,none⟩=some (.slice C4 (fN q 4) j4):=by rw[hV0,<-hB1];simp[go_sem]
 have y5:V0.cell? ⟨B1+1,5,none⟩=some (.slice C5 (fN q 5) j5):=by rw[hV0,<-hB1];simp[go_sem]
 have y6:V0.cell? ⟨B1+1,6,none⟩=some (.bool q.rel):=by rw[hV0,<-hB1];simp[go_sem]
 have y7:V0.cell? ⟨B1+1,7,none⟩=some (.int .i64 q.depth):=by rw[hV0,<-hB1];simp[go_sem]
 have y8:V0.cell? ⟨B1+1,8,none⟩=some (.int .i64 q.name):=by rw[hV0,<-hB1];simp[go_sem]
 have y9:V0.cell? ⟨B1+1,9,none⟩=some (.int .i64 q.value):=by rw[hV0,<-hB1];simp[go_sem]
 have hBx:B1<V0.heap.size:=World.block_lt_of_cell? V0 _ x0
 have hBy:B1+1<V0.heap.size:=World.block_lt_of_cell? V0 _ y0
 have HBv:=Lib.hid (HB0.out.trans (hv0.mono HB0.out.size))
 rw[hB1]
 have HG1:=Lib.hid (fun W (hb:Below V0.heap.size V0 W)=>HBv.out.trans (hb.mono HBv.out.size))
 clear hV0 hv0 hB1 HB0 hBl g0 g1 g2 g3 g4 g5 g6 g7 g8 g9 g10 g11 g12 g13 g14 g15 g16 g17 g18 g19
 go_upto_region 6 with(first
  |(go_at_call 18;(with_reducible refine(HF0.out _ (HG1.out _ bel)).mono ?_);rintro e Vb ⟨rfl,Yb,rfl⟩)
  |(go_at_call 18;(with_reducible refine(Ret.flat (HF0.out _ (HG1.out _ bel))).mono ?_);rintro e Vb ⟨rfl,Yb,rfl⟩)
  |(go_at_call 18;(with_reducible refine(HF1.out _ (HG1.out _ bel)).mono ?_);rintro e Vc ⟨rfl,Yc,rfl⟩)
  |(go_at_call 18;(with_reducible refine(Ret.flat (HF1.out _ (HG1.out _ bel))).mono ?_);rintro e Vc ⟨rfl,Yc,rfl⟩))
 refine name_world fun V1 hV1=> ?_
 have hv1:Below V0.heap.size V0 V1:=by rw[hV1];exact bel
 clear hV1 HF0 HF1
 have xx0:=(hv1.cell (p:=⟨B1,0,none⟩) hBx).trans x0
 have xx1:=(hv1.cell (p:=⟨B1,1,none⟩) hBx).trans x1
 have xx2:=(hv1.cell (p:=⟨B1,2,none⟩) hBx).trans x2
 have xx3:=(hv1.cell (p:=⟨B1,3,none⟩) hBx).trans x3
 have xx4:=(hv1.cell (p:=⟨B1,4,none⟩) hBx).trans x4
 have xx5:=(hv1.cell (p:=⟨B1,5,none⟩) hBx).trans x5
 have xx6:=(hv1.cell (p:=⟨B1,6,none⟩) hBx).trans x6
 have xx7:=(hv1.cell (p:=⟨B1,7,none⟩) hBx).trans x7
 have xx8:=(hv1.cell (p:=⟨B1,8,none⟩) hBx).trans x8
 have xx9:=(hv1.cell (p:=⟨B1,9,none⟩) hBx).trans x9
 have yy0:=(hv1.cell (p:=⟨B1+1,0,none⟩) hBy).trans y0
 have yy1:=(hv1.cell (p:=⟨B1+1,1,none⟩) hBy).trans y1
 have yy2:=(hv1.cell (p:=⟨B1+1,2,none⟩) hBy).trans y2
 have yy3:=(hv1.cell (p:=⟨B1+1,3,none⟩) hBy).trans y3
 have yy4:=(hv1.cell (p:=⟨B1+1,4,none⟩) hBy).trans y4
 have yy5:=(hv1.cell (p:=⟨B1+1,5,none⟩) hBy).trans y5
 have yy6:=(hv1.cell (p:=⟨B1+1,6,none⟩) hBy).trans y6
 have yy7:=(hv1.cell (p:=⟨B1+1,7,none⟩) hBy).trans y7
 have yy8:=(hv1.cell (p:=⟨B1+1,8,none⟩) hBy).trans y8
 have yy9:=(hv1.cell (p:=⟨B1+1,9,none⟩) hBy).trans y9
 have hCx:B1<V1.heap.size:=Nat.lt_of_lt_of_le hBx hv1.size
 have hCy:B1+1<V1.heap.size:=Nat.lt_of_lt_of_le hBy hv1.size
 have HBw:=Lib.hid (HG1.out V1 hv1)
 have HG2:=Lib.hid (fun W (hb:Below V1.heap.size V1 W)=>HBw.out.trans (hb.mono HBw.out.size))
 clear hv1 HG1 hBx hBy HBv x0 x1 x2 x3 x4 x5 x6 x7 x8 x9 y0 y1 y2 y3 y4 y5 y6 y7 y8 y9
 cases hff:(f0&&f1)
 case false=>
  cases f0<;>cases f1<;>try(exfalso;revert hff;decide)
  all_goals
   clear hff
   go_wp2_with fail
   go_ret
   exact Ret.of rfl (HBw.out.trans ((bel:Below V1.heap.size V1 _).mono HBw.out.size))
 obtain rfl:f0=true:=by cases f0<;>simp_all
 obtain rfl:f1=true:=by cases f1<;>simp_all
 clear hff
 by_cases hs:200<s.size
 ·have b1:decide ((200:Int)<s.size)=true:=by simp;omega
  clear hs
  go_wp2_with fail
  go_ret
  exact Ret.of rfl (HBw.out.trans ((bel:Below V1.heap.size V1 _).mono HBw.out.size))
 have b1:decide ((200:Int)<s.size)=false:=by simp;omega
 by_cases ht:200<t.size
 ·have b2:decide ((200:Int)<t.size)=true:=by simp;omega
  clear ht hs
  go_wp2_with fail
  go_ret
  exact Ret.of rfl (HBw.out.trans ((bel:Below V1.heap.size V1 _).mono HBw.out.size))
 have b2:decide ((200:Int)<t.size)=false:=by simp;omega
 have hsl:s.data.toList.length<=maxLen:=by
  have:s.data.toList.length=s.size:=by rw[Array.length_toList];rfl
  unfold maxLen
  omega
 have htl:t.data.toList.length<=maxLen:=by
  have:t.data.toList.length=t.size:=by rw[Array.length_toList];rfl
  unfold maxLen
  omega
 have HSl:=Lib.hid (And.intro hsl htl)
 clear hs ht hsl htl _hs _ht
 cases m
 case false=>
  go_wp2_with(go_at_call 27;(with_reducible refine(HWt.out _ (HG2.out _ bel)).mono ?_);rintro e Vd ⟨rfl,Yd,rfl⟩)
  go_ret
  exact Ret.of rfl (HBw.out.trans ((bel:Below V1.heap.size V1 _).mono HBw.out.size))
 go_upto_region 8 with(go_at_call 27;(with_reducible refine(HWt.out _ (HG2.out _ bel)).mono ?_);rintro e Vd ⟨rfl,Yd,rfl⟩)
 refine name_world fun V2 hV2=> ?_
 have hv2:Below V1.heap.size V1 V2:=by rw[hV2];exact bel
 clear hV2 HWt b1 b2
 have x0:=(hv2.cell (p:=⟨B1,0,none⟩) hCx).trans xx0
 have x1:=(hv2.cell (p:=⟨B1,1,none⟩) hCx).trans xx1
 have x2:=(hv2.cell (p:=⟨B1,2,none⟩) hCx).trans xx2
 have x3:=(hv2.cell (p:=⟨B1,3,none⟩) hCx).trans xx3
 have x4:=(hv2.cell (p:=⟨B1,4,none⟩) hCx).trans xx4
 have x5:=(hv2.cell (p:=⟨B1,5,none⟩) hCx).trans xx5
 have x6:=(hv2.cell (p:=⟨B1,6,none⟩) hCx).trans xx6
 have x7:=(hv2.cell (p:=⟨B1,7,none⟩) hCx).trans xx7
 have x8:=(hv2.cell (p:=⟨B1,8,none⟩) hCx).trans xx8
 have x9:=(hv2.cell (p:=⟨B1,9,none⟩) hCx).trans xx9
 have y0:=(hv2.cell (p:=⟨B1+1,0,none⟩) hCy).trans yy0
 have y1:=(hv2.cell (p:=⟨B1+1,1,none⟩) hCy).trans yy1
 have y2:=(hv2.cell (p:=⟨B1+1,2,none⟩) hCy).trans yy2
 have y3:=(hv2.cell (p:=⟨B1+1,3,none⟩) hCy).trans yy3
 have y4:=(hv2.cell (p:=⟨B1+1,4,none⟩) hCy).trans yy4
 have y5:=(hv2.cell (p:=⟨B1+1,5,none⟩) hCy).trans yy5
 have y6:=(hv2.cell (p:=⟨B1+1,6,none⟩) hCy).trans yy6
 have y7:=(hv2.cell (p:=⟨B1+1,7,none⟩) hCy).trans yy7
 have y8:=(hv2.cell (p:=⟨B1+1,8,none⟩) hCy).trans yy8
 have y9:=(hv2.cell (p:=⟨B1+1,9,none⟩) hCy).trans yy9
 have hDx:B1<V2.heap.size:=Nat.lt_of_lt_of_le hCx hv2.size
 have hDy:B1+1<V2.heap.size:=Nat.lt_of_lt_of_le hCy hv2.size
 have HB2:=Lib.hid (HG2.out V2 hv2)
 have HG3:=Lib.hid (fun W (hb:Below V2.heap.size V2 W)=>HB2.out.trans (hb.mono HB2.out.size))
 clear hv2 HG2 hCx hCy HBw xx0 xx1 xx2 xx3 xx4 xx5 xx6 xx7 xx8 xx9 yy0 yy1 yy2 yy3 yy4 yy5 yy6 yy7 yy8 yy9
 obtain⟨R,hR⟩: ∃R,newR p=R:=⟨_,rfl⟩
 obtain⟨S,hS⟩: ∃R,newR q=R:=⟨_,rfl⟩
 have HRq:=Lib.hid hR
 have HSq:=Lib.hid hS
 clear hR hS
 have HM0:=Lib.hid (fun W hb=>(HN0.out W hb).mono (R':=fun e w'=> ∃pt,e= .returned (.tuple #[.pointer pt,.int .i64 (R:Nat)])/\Below W.heap.size W w'/\(R=0-> ∃g,pt=some ⟨g,0,none⟩/\RulesV w' g p)) (fun e w' h=>by
  obtain⟨h1,h2⟩:=h
  rcases h2 with⟨h2,h4⟩|⟨h2,g,h3,_,h5⟩
  ·rw[HRq.out]at h2 h4;exact⟨none,h4,h1,fun h=>absurd h h2⟩
  ·rw[HRq.out]at h2;subst h2;exact⟨_,h3,h1,fun _=>⟨g,rfl,h5⟩⟩))
 have HM1:=Lib.hid (fun W hb=>(HN1.out W hb).mono (R':=fun e w'=> ∃pt,e= .returned (.tuple #[.pointer pt,.int .i64 (S:Nat)])/\Below W.heap.size W w'/\(S=0-> ∃g,pt=some ⟨g,0,none⟩/\RulesV w' g q)) (fun e w' h=>by
  obtain⟨h1,h2⟩:=h
  rcases h2 with⟨h2,h4⟩|⟨h2,g,h3,_,h5⟩
  ·rw[HSq.out]at h2 h4;exact⟨none,h4,h1,fun h=>absurd h h2⟩
  ·rw[HSq.out]at h2;subst h2;exact⟨_,h3,h1,fun _=>⟨g,rfl,h5⟩⟩))
 clear HN0 HN1 HRq HSq
 go_upto_region 9 with(go_at_call 19;(with_reducible refine(HM0.out _ (HG3.out _ bel)).mono ?_);rintro e V3 ⟨pt,rfl,hb3,hr3⟩;have HB3:=Lib.hid hb3;have HR3:=Lib.hid hr3;clear hr3 hb3)
 have z0:=(HB3.out.cell (p:=⟨B1+1,0,none⟩) hDy).trans y0
 have z1:=(HB3.out.cell (p:=⟨B1+1,1,none⟩) hDy).trans y1
 have z2:=(HB3.out.cell (p:=⟨B1+1,2,none⟩) hDy).trans y2
 have z3:=(HB3.out.cell (p:=⟨B1+1,3,none⟩) hDy).trans y3
 have z4:=(HB3.out.cell (p:=⟨B1+1,4,none⟩) hDy).trans y4
 have z5:=(HB3.out.cell (p:=⟨B1+1,5,none⟩) hDy).trans y5
 have z6:=(HB3.out.cell (p:=⟨B1+1,6,none⟩) hDy).trans y6
 have z7:=(HB3.out.cell (p:=⟨B1+1,7,none⟩) hDy).trans y7
 have z8:=(HB3.out.cell (p:=⟨B1+1,8,none⟩) hDy).trans y8
 have z9:=(HB3.out.cell (p:=⟨B1+1,9,none⟩) hDy).trans y9
 have hEy:B1+1<V3.heap.size:=Nat.lt_of_lt_of_le hDy HB3.out.size
 have HG4:=Lib.hid (fun W (hb:Below V3.heap.size V3 W)=>HG3.out W (HB3.out.trans (hb.mono HB3.out.size)))
 clear HM0 x0 x1 x2 x3 x4 x5 x6 x7 x8 x9 y0 y1 y2 y3 y4 y5 y6 y7 y8 y9
 go_upto_region 10 with(go_at_call 19;(with_reducible refine(HM1.out _ (HG4.out _ bel)).mono ?_);rintro e V4 ⟨pu,rfl,hb4,hr4⟩;have HB4:=Lib.hid hb4;have HR4:=Lib.hid hr4;clear hr4 hb4)
 have HBz:=Lib.hid (HG4.out V4 HB4.out)
 clear HM1 HG3 HG4 z0 z1 z2 z3 z4 z5 z6 z7 z8 z9
 by_cases hR:R=0
 rotate_left
 ·have b3:((R:Int) !=0)=true:=by simp;omega
  clear hR
  go_wp2_with fail
  go_ret
  exact Ret.of rfl (HBz.out.trans ((bel:Below V4.heap.size V4 _).mono HBz.out.size))
 by_cases hS:S=0
 rotate_left
 ·have b4:((S:Int) !=0)=true:=by simp;omega
  subst hR
  clear hS
  go_wp2_with fail
  go_ret
  exact Ret.of rfl (HBz.out.trans ((bel:Below V4.heap.size V4 _).mono HBz.out.size))
 obtain⟨g,rfl,hg⟩:=HR3.out hR
 obtain⟨gg,rfl,hgg⟩:=HR4.out hS
 subst hR hS
 have hg4:=hg.below HB4.out
 have HTa:=Lib.hid (fun W (hb:Below V4.heap.size V4 W)=>show Calls Tryz.prog 12 #[.pointer (some ⟨g,0,none⟩),.string s] W _ from tag_any g p s.data.toList W (hg4.below hb) HSl.out.1)
 have HTb:=Lib.hid (fun W (hb:Below V4.heap.size V4 W)=>show Calls Tryz.prog 12 #[.pointer (some ⟨gg,0,none⟩),.string s] W _ from tag_any gg q s.data.toList W (hgg.below hb) HSl.out.1)
 have HAa:=Lib.hid (fun W (hb:Below V4.heap.size V4 W)=>show Calls Tryz.prog 16 #[.pointer (some ⟨g,0,none⟩),.string s,.string t] W _ from attr_any g p s.data.toList t.data.toList W (hg4.below hb) HSl.out.1 HSl.out.2)
 have HAb:=Lib.hid (fun W (hb:Below V4.heap.size V4 W)=>show Calls Tryz.prog 16 #[.pointer (some ⟨gg,0,none⟩),.string s,.string t] W _ from attr_any gg q s.data.toList t.data.toList W (hgg.below hb) HSl.out.1 HSl.out.2)
 have HSa:=Lib.hid (fun W (hb:Below V4.heap.size V4 W)=>show Calls Tryz.prog 17 #[.pointer (some ⟨g,0,none⟩),.string s] W _ from scheme_any g p s.data.toList W (hg4.below hb) HSl.out.1)
 have HSb:=Lib.hid (fun W (hb:Below V4.heap.size V4 W)=>show Calls Tryz.prog 17 #[.pointer (some ⟨gg,0,none⟩),.string s] W _ from scheme_any gg q s.data.toList W (hgg.below hb) HSl.out.1)
 have HCa:=Lib.hid (fun W (hb:Below V4.heap.size V4 W)=>show Calls Tryz.prog 28 #[.pointer (some ⟨g,0,none⟩),.string s] W _ from css_any g p s.data.toList W (hg4.below hb) HSl.out.1)
 have HCb:=Lib.hid (fun W (hb:Below V4.heap.size V4 W)=>show Calls Tryz.prog 28 #[.pointer (some ⟨gg,0,none⟩),.string s] W _ from css_any gg q s.data.toList W (hgg.below hb) HSl.out.1)
 have HDa:=Lib.hid (fun W (hb:Below V4.heap.size V4 W)=>show Calls Tryz.prog 15 #[.pointer (some ⟨g,0,none⟩),.string s] W _ from drop_any g p s.data.toList W (hg4.below hb) HSl.out.1)
 have HDb:=Lib.hid (fun W (hb:Below V4.heap.size V4 W)=>show Calls Tryz.prog 15 #[.pointer (some ⟨gg,0,none⟩),.string s] W _ from drop_any gg q s.data.toList W (hgg.below hb) HSl.out.1)
 have HEa:=Lib.hid (fun W (hb:Below V4.heap.size V4 W)=>relative_any g p W (hg4.below hb))
 have HEb:=Lib.hid (fun W (hb:Below V4.heap.size V4 W)=>relative_any gg q W (hgg.below hb))
 have hW:=HWd.out HM.out s.data.toList t.data.toList
 simp only[Bool.and_eq_true]at hW
 obtain⟨w1,w2,w3,w4,w5,w6⟩:=hW
 clear HWd HM hg hgg hg4 HR3 HR4 HSl HB3 HB4
 generalize tagR p s.data.toList=ta at*
 generalize tagR q s.data.toList=tb at*
 generalize attrR p s.data.toList t.data.toList=aa at*
 generalize attrR q s.data.toList t.data.toList=ab at*
 generalize schR p s.data.toList=sa at*
 generalize schR q s.data.toList=sb at*
 generalize cssR p s.data.toList=ca at*
 generalize cssR q s.data.toList=cb at*
 generalize dropR p s.data.toList=da at*
 generalize dropR q s.data.toList=db at*
 generalize p.rel=ea at*
 generalize q.rel=eb at*
 have w1':ta=true->tb=true:=by cases ta<;>simp_all
 have w2':aa=true->ab=true:=by cases aa<;>simp_all
 have w3':sa=true->sb=true:=by cases sa<;>simp_all
 have w4':ca=true->cb=true:=by cases ca<;>simp_all
 have w5':db=true->da=true:=by cases db<;>simp_all
 have w6':ea=true->eb=true:=by cases ea<;>simp_all
 clear w1 w2 w3 w4 w5 w6
 go_upto_region 12 with fail
 simp only[show((0:Nat):Int)=0 from rfl]
 refine wp_region_list ?_
 refine wpList_cut 10 (fun a a' w'=>(∃x70 x71 x72 x73 x74 x75:Value,a'=((((((((((a.put (some 68) (.pointer (some ⟨g,0,none⟩))).put (some 69) (.string s)).put (some 70) (x70)).put (some 71) (x71)).put (some 72) (x72)).put (some 73) (x73)).put (some 74) (x74)).put (some 75) (x75)).put (some 76) (.bool true)).put (some 77) (.bool true)))/\Below V4.heap.size V4 w') ?_ ?_
 ·dsimp only[List.take,List.append]
  cases ta<;>(first|(obtain rfl:=w1' rfl)|skip)
  all_goals
   go_wp2_with(first
   |(go_at_call 12;(with_reducible refine(Ret.flat (HTa.out _ bel)).mono ?_);rintro e Vz ⟨rfl,Yz,rfl⟩)
   |(go_at_call 12;(with_reducible refine(HTa.out _ bel).mono ?_);rintro e Vz ⟨rfl,Yz,rfl⟩)
   |(go_at_call 12;(with_reducible refine(Ret.flat (HTb.out _ bel)).mono ?_);rintro e Vz ⟨rfl,Yz,rfl⟩)
   |(go_at_call 12;(with_reducible refine(HTb.out _ bel).mono ?_);rintro e Vz ⟨rfl,Yz,rfl⟩))
   first
    |(refine CutQ.here ⟨⟨.bool false,.bool true,.bool true,undef,undef,undef, ?_⟩,bel⟩;simp only[Act.put,List.setIfInBounds_toArray,List.set_cons_succ,List.set_cons_zero];done)
    |(refine CutQ.here ⟨⟨.bool true,.bool false,.bool false,.pointer (some ⟨gg,0,none⟩),.string s,.bool true, ?_⟩,bel⟩;simp only[Act.put,List.setIfInBounds_toArray,List.set_cons_succ,List.set_cons_zero];done)
 rintro _ W0 ⟨⟨x70,x71,x72,x73,x74,x75,rfl⟩,hb9⟩
 clear w1' HTa HTb
 have HAa:=Lib.hid (fun W (hb:Below W0.heap.size W0 W)=>HAa.out W (hb9.trans (hb.mono hb9.size)))
 have HAb:=Lib.hid (fun W (hb:Below W0.heap.size W0 W)=>HAb.out W (hb9.trans (hb.mono hb9.size)))
 have HSa:=Lib.hid (fun W (hb:Below W0.heap.size W0 W)=>HSa.out W (hb9.trans (hb.mono hb9.size)))
 have HSb:=Lib.hid (fun W (hb:Below W0.heap.size W0 W)=>HSb.out W (hb9.trans (hb.mono hb9.size)))
 have HCa:=Lib.hid (fun W (hb:Below W0.heap.size W0 W)=>HCa.out W (hb9.trans (hb.mono hb9.size)))
 have HCb:=Lib.hid (fun W (hb:Below W0.heap.size W0 W)=>HCb.out W (hb9.trans (hb.mono hb9.size)))
 have HDb:=Lib.hid (fun W (hb:Below W0.heap.size W0 W)=>HDb.out W (hb9.trans (hb.mono hb9.size)))
 have HDa:=Lib.hid (fun W (hb:Below W0.heap.size W0 W)=>HDa.out W (hb9.trans (hb.mono hb9.size)))
 have HEa:=Lib.hid (fun W (hb:Below W0.heap.size W0 W)=>HEa.out W (hb9.trans (hb.mono hb9.size)))
 have HEb:=Lib.hid (fun W (hb:Below W0.heap.size W0 W)=>HEb.out W (hb9.trans (hb.mono hb9.size)))
 have HBz:=Lib.hid (HBz.out.trans (hb9.mono HBz.out.size))
 clear hb9
 dsimp only[List.drop,List.append]
 simp only[Act.put,List.setIfInBounds_toArray,List.set_cons_succ,List.set_cons_zero]
 refine wpList_cut 13 (fun a a' w'=>(∃x81 x82 x83 x84 x85 x86 x87:Value,a'=(((((((((((((a.put (some 78) (.pointer (some ⟨g,0,none⟩))).put (some 79) (.string s)).put (some 80) (.string t)).put (some 81) (x81)).put (some 82) (x82)).put (some 83) (x83)).put (some 84) (x84)).put (some 85) (x85)).put (some 86) (x86)).put (some 87) (x87)).put (some 88) (.bool true)).put (some 89) (.bool true)).put (some 90) (.bool true)))/\Below W0.heap.size W0 w') ?_ ?_
 ·dsimp only[List.take,List.append]
  cases aa<;>(first|(obtain rfl:=w2' rfl)|skip)
  all_goals
   go_wp2_with(first
   |(go_at_call 16;(with_reducible refine(Ret.flat (HAa.out _ bel)).mono ?_);rintro e Vz ⟨rfl,Yz,rfl⟩)
   |(go_at_call 16;(with_reducible refine(HAa.out _ bel).mono ?_);rintro e Vz ⟨rfl,Yz,rfl⟩)
   |(go_at_call 16;(with_reducible refine(Ret.flat (HAb.out _ bel)).mono ?_);rintro e Vz ⟨rfl,Yz,rfl⟩)
   |(go_at_call 16;(with_reducible refine(HAb.out _ bel).mono ?_);rintro e Vz ⟨rfl,Yz,rfl⟩))
   first
    |(refine CutQ.here ⟨⟨.bool false,.bool true,.bool true,undef,undef,undef,undef, ?_⟩,bel⟩;simp only[Act.put,List.setIfInBounds_toArray,List.set_cons_succ,List.set_cons_zero];done)
    |(refine CutQ.here ⟨⟨.bool true,.bool false,.bool false,.pointer (some ⟨gg,0,none⟩),.string s,.string t,.bool true, ?_⟩,bel⟩;simp only[Act.put,List.setIfInBounds_toArray,List.set_cons_succ,List.set_cons_zero];done)
 rintro _ W1 ⟨⟨x81,x82,x83,x84,x85,x86,x87,rfl⟩,hb9⟩
 clear w2' HAa HAb
 have HSa:=Lib.hid (fun W (hb:Below W1.heap.size W1 W)=>HSa.out W (hb9.trans (hb.mono hb9.size)))
 have HSb:=Lib.hid (fun W (hb:Below W1.heap.size W1 W)=>HSb.out W (hb9.trans (hb.mono hb9.size)))
 have HCa:=Lib.hid (fun W (hb:Below W1.heap.size W1 W)=>HCa.out W (hb9.trans (hb.mono hb9.size)))
 have HCb:=Lib.hid (fun W (hb:Below W1.heap.size W1 W)=>HCb.out W (hb9.trans (hb.mono hb9.size)))
 have HDb:=Lib.hid (fun W (hb:Below W1.heap.size W1 W)=>HDb.out W (hb9.trans (hb.mono hb9.size)))
 have HDa:=Lib.hid (fun W (hb:Below W1.heap.size W1 W)=>HDa.out W (hb9.trans (hb.mono hb9.size)))
 have HEa:=Lib.hid (fun W (hb:Below W1.heap.size W1 W)=>HEa.out W (hb9.trans (hb.mono hb9.size)))
 have HEb:=Lib.hid (fun W (hb:Below W1.heap.size W1 W)=>HEb.out W (hb9.trans (hb.mono hb9.size)))
 have HBz:=Lib.hid (HBz.out.trans (hb9.mono HBz.out.size))
 clear hb9
 dsimp only[List.drop,List.append]
 simp only[Act.put,List.setIfInBounds_toArray,List.set_cons_succ,List.set_cons_zero]
 refine wpList_cut 11 (fun a a' w'=>(∃x93 x94 x95 x96 x97 x98:Value,a'=(((((((((((a.put (some 91) (.pointer (some ⟨g,0,none⟩))).put (some 92) (.string s)).put (some 93) (x93)).put (some 94) (x94)).put (some 95) (x95)).put (some 96) (x96)).put (some 97) (x97)).put (some 98) (x98)).put (some 99) (.bool true)).put (some 100) (.bool true)).put (some 101) (.bool true)))/\Below W1.heap.size W1 w') ?_ ?_
 ·dsimp only[List.take,List.append]
  cases sa<;>(first|(obtain rfl:=w3' rfl)|skip)
  all_goals
   go_wp2_with(first
   |(go_at_call 17;(with_reducible refine(Ret.flat (HSa.out _ bel)).mono ?_);rintro e Vz ⟨rfl,Yz,rfl⟩)
   |(go_at_call 17;(with_reducible refine(HSa.out _ bel).mono ?_);rintro e Vz ⟨rfl,Yz,rfl⟩)
   |(go_at_call 17;(with_reducible refine(Ret.flat (HSb.out _ bel)).mono ?_);rintro e Vz ⟨rfl,Yz,rfl⟩)
   |(go_at_call 17;(with_reducible refine(HSb.out _ bel).mono ?_);rintro e Vz ⟨rfl,Yz,rfl⟩))
   first
    |(refine CutQ.here ⟨⟨.bool false,.bool true,.bool true,undef,undef,undef, ?_⟩,bel⟩;simp only[Act.put,List.setIfInBounds_toArray,List.set_cons_succ,List.set_cons_zero];done)
    |(refine CutQ.here ⟨⟨.bool true,.bool false,.bool false,.pointer (some ⟨gg,0,none⟩),.string s,.bool true, ?_⟩,bel⟩;simp only[Act.put,List.setIfInBounds_toArray,List.set_cons_succ,List.set_cons_zero];done)
 rintro _ W2 ⟨⟨x93,x94,x95,x96,x97,x98,rfl⟩,hb9⟩
 clear w3' HSa HSb
 have HCa:=Lib.hid (fun W (hb:Below W2.heap.size W2 W)=>HCa.out W (hb9.trans (hb.mono hb9.size)))
 have HCb:=Lib.hid (fun W (hb:Below W2.heap.size W2 W)=>HCb.out W (hb9.trans (hb.mono hb9.size)))
 have HDb:=Lib.hid (fun W (hb:Below W2.heap.size W2 W)=>HDb.out W (hb9.trans (hb.mono hb9.size)))
 have HDa:=Lib.hid (fun W (hb:Below W2.heap.size W2 W)=>HDa.out W (hb9.trans (hb.mono hb9.size)))
 have HEa:=Lib.hid (fun W (hb:Below W2.heap.size W2 W)=>HEa.out W (hb9.trans (hb.mono hb9.size)))
 have HEb:=Lib.hid (fun W (hb:Below W2.heap.size W2 W)=>HEb.out W (hb9.trans (hb.mono hb9.size)))
 have HBz:=Lib.hid (HBz.out.trans (hb9.mono HBz.out.size))
 clear hb9
 dsimp only[List.drop,List.append]
 simp only[Act.put,List.setIfInBounds_toArray,List.set_cons_succ,List.set_cons_zero]
 refine wpList_cut 11 (fun a a' w'=>(∃x104 x105 x106 x107 x108 x109:Value,a'=(((((((((((a.put (some 102) (.pointer (some ⟨g,0,none⟩))).put (some 103) (.string s)).put (some 104) (x104)).put (some 105) (x105)).put (some 106) (x106)).put (some 107) (x107)).put (some 108) (x108)).put (some 109) (x109)).put (some 110) (.bool true)).put (some 111) (.bool true)).put (some 112) (.bool true)))/\Below W2.heap.size W2 w') ?_ ?_
 ·dsimp only[List.take,List.append]
  cases ca<;>(first|(obtain rfl:=w4' rfl)|skip)
  all_goals
   go_wp2_with(first
   |(go_at_call 28;(with_reducible refine(Ret.flat (HCa.out _ bel)).mono ?_);rintro e Vz ⟨rfl,Yz,rfl⟩)
   |(go_at_call 28;(with_reducible refine(HCa.out _ bel).mono ?_);rintro e Vz ⟨rfl,Yz,rfl⟩)
   |(go_at_call 28;(with_reducible refine(Ret.flat (HCb.out _ bel)).mono ?_);rintro e Vz ⟨rfl,Yz,rfl⟩)
   |(go_at_call 28;(with_reducible refine(HCb.out _ bel).mono ?_);rintro e Vz ⟨rfl,Yz,rfl⟩))
   first
    |(refine CutQ.here ⟨⟨.bool false,.bool true,.bool true,undef,undef,undef, ?_⟩,bel⟩;simp only[Act.put,List.setIfInBounds_toArray,List.set_cons_succ,List.set_cons_zero];done)
    |(refine CutQ.here ⟨⟨.bool true,.bool false,.bool false,.pointer (some ⟨gg,0,none⟩),.string s,.bool true, ?_⟩,bel⟩;simp only[Act.put,List.setIfInBounds_toArray,List.set_cons_succ,List.set_cons_zero];done)
 rintro _ W3 ⟨⟨x104,x105,x106,x107,x108,x109,rfl⟩,hb9⟩
 clear w4' HCa HCb
 have HDb:=Lib.hid (fun W (hb:Below W3.heap.size W3 W)=>HDb.out W (hb9.trans (hb.mono hb9.size)))
 have HDa:=Lib.hid (fun W (hb:Below W3.heap.size W3 W)=>HDa.out W (hb9.trans (hb.mono hb9.size)))
 have HEa:=Lib.hid (fun W (hb:Below W3.heap.size W3 W)=>HEa.out W (hb9.trans (hb.mono hb9.size)))
 have HEb:=Lib.hid (fun W (hb:Below W3.heap.size W3 W)=>HEb.out W (hb9.trans (hb.mono hb9.size)))
 have HBz:=Lib.hid (HBz.out.trans (hb9.mono HBz.out.size))
 clear hb9
 dsimp only[List.drop,List.append]
 simp only[Act.put,List.setIfInBounds_toArray,List.set_cons_succ,List.set_cons_zero]
 refine wpList_cut 11 (fun a a' w'=>(∃x115 x116 x117 x118 x119 x120:Value,a'=(((((((((((a.put (some 113) (.pointer (some ⟨gg,0,none⟩))).put (some 114) (.string s)).put (some 115) (x115)).put (some 116) (x116)).put (some 117) (x117)).put (some 118) (x118)).put (some 119) (x119)).put (some 120) (x120)).put (some 121) (.bool true)).put (some 122) (.bool true)).put (some 123) (.bool true)))/\Below W3.heap.size W3 w') ?_ ?_
 ·dsimp only[List.take,List.append]
  cases db<;>(first|(obtain rfl:=w5' rfl)|skip)
  all_goals
   go_wp2_with(first
   |(go_at_call 15;(with_reducible refine(Ret.flat (HDb.out _ bel)).mono ?_);rintro e Vz ⟨rfl,Yz,rfl⟩)
   |(go_at_call 15;(with_reducible refine(HDb.out _ bel).mono ?_);rintro e Vz ⟨rfl,Yz,rfl⟩)
   |(go_at_call 15;(with_reducible refine(Ret.flat (HDa.out _ bel)).mono ?_);rintro e Vz ⟨rfl,Yz,rfl⟩)
   |(go_at_call 15;(with_reducible refine(HDa.out _ bel).mono ?_);rintro e Vz ⟨rfl,Yz,rfl⟩))
   first
    |(refine CutQ.here ⟨⟨.bool false,.bool true,.bool true,undef,undef,undef, ?_⟩,bel⟩;simp only[Act.put,List.setIfInBounds_toArray,List.set_cons_succ,List.set_cons_zero];done)
    |(refine CutQ.here ⟨⟨.bool true,.bool false,.bool false,.pointer (some ⟨g,0,none⟩),.string s,.bool true, ?_⟩,bel⟩;simp only[Act.put,List.setIfInBounds_toArray,List.set_cons_succ,List.set_cons_zero];done)
 rintro _ W4 ⟨⟨x115,x116,x117,x118,x119,x120,rfl⟩,hb9⟩
 clear w5' HDb HDa
 have HEa:=Lib.hid (fun W (hb:Below W4.heap.size W4 W)=>HEa.out W (hb9.trans (hb.mono hb9.size)))
 have HEb:=Lib.hid (fun W (hb:Below W4.heap.size W4 W)=>HEb.out W (hb9.trans (hb.mono hb9.size)))
 have HBz:=Lib.hid (HBz.out.trans (hb9.mono HBz.out.size))
 clear hb9
 dsimp only[List.drop,List.append]
 simp only[Act.put,List.setIfInBounds_toArray,List.set_cons_succ,List.set_cons_zero]
 cases ea<;>(first|(obtain rfl:=w6' rfl)|skip)
 all_goals
  go_wp2_with(first
   |(go_at_call 29;(with_reducible refine(Ret.flat (HEa.out _ bel)).mono ?_);rintro e Vz ⟨rfl,Yz,rfl⟩)
   |(go_at_call 29;(with_reducible refine(HEa.out _ bel).mono ?_);rintro e Vz ⟨rfl,Yz,rfl⟩)
   |(go_at_call 29;(with_reducible refine(Ret.flat (HEb.out _ bel)).mono ?_);rintro e Vz ⟨rfl,Yz,rfl⟩)
   |(go_at_call 29;(with_reducible refine(HEb.out _ bel).mono ?_);rintro e Vz ⟨rfl,Yz,rfl⟩))
  go_ret
  exact Ret.of rfl (HBz.out.trans ((bel:Below W4.heap.size W4 _).mono HBz.out.size))
theorem lifted (os:Os) (started:os.Started) (H:Type) (enc:TypeId × Value->H) (F:Stop.Interp):
  ReturnsInHanded {} Tryz.checked os 7 .any ((Rows.OpenSpec.upto Rows.compileWiderSpec).pre6 enc Tryz.prog Tryz.f7 Rows.compileWiderUptoRow.domain false) (((Rows.OpenSpec.upto Rows.compileWiderSpec).at F).post enc Tryz.prog Tryz.f7 false true false false):=by
 refine returnsInHanded_of_cond (C:=Tryz.checked) (s:=Rows.OpenSpec.upto Rows.compileWiderSpec) (k:=Rows.uptoSmall) rfl own started (by kernel_rfl) Tryz.func7
  (OpenSpec.witness (enc:=enc) (C:=Tryz.checked) (s:=Rows.OpenSpec.upto Rows.compileWiderSpec) (k:=Rows.uptoSmall) rfl false ⟨#[],#[.agg #[.slice none 0 0,.slice none 0 0,.slice none 0 0,.slice none 0 0,.slice none 0 0,.slice none 0 0,.bool false,.int .i64 0,.int .i64 0,.int .i64 0,.slice none 0 0,.slice none 0 0,.slice none 0 0,.slice none 0 0,.slice none 0 0,.slice none 0 0,.bool false,.int .i64 0,.int .i64 0,.int .i64 0],.string ⟨#[]⟩,.string ⟨#[]⟩],[]⟩ 8 (by kernel_rfl) (by kernel_rfl) (by kernel_rfl) (x:=([.agg [.agg [.nil,.nil,.nil,.nil,.nil,.nil,.lit (.bool false),.lit (.int .i64 0),.lit (.int .i64 0),.lit (.int .i64 0)],.agg [.nil,.nil,.nil,.nil,.nil,.nil,.lit (.bool false),.lit (.int .i64 0),.lit (.int .i64 0),.lit (.int .i64 0)]],.lit (.string []),.lit (.string [])],[],[])) (by kernel_rfl) rfl (by kernel_rfl)) ?_
 intro W base args ds gs before hval0 hW _ hk0 _
 show Calls Tryz.prog 7 args W fun e W'=> ∃v,e= .returned v/\Rows.compileWiderSpec.post enc Tryz.prog Tryz.f7 false true false false W args v W'
 have hval: ∀(j:Nat) t v,Tryz.f7.params[j]? =some t->args[j]? =some v->Value.okWide Tryz.prog W .any base t v:=hval0
 have hW':=hW
 obtain⟨p,q,hA0,hV,rfl,hfz,hnd⟩:=hW
 have hA:DataW.TrodAll enc Tryz.prog W 0 (fun _=>true) true Tryz.f7.params.toList args.toList ds p:=hA0
 rw[Tryz.params7]at hA hval
 obtain⟨v0,vs0,d0,ds0,p0,q0,hargs,rfl,rfl,h0,r0⟩:=trodAll_cons hA
 obtain⟨v1,vs1,d1,ds1,p1,q1,rfl,rfl,rfl,h1,r1⟩:=trodAll_cons r0
 obtain⟨v2,vs2,d2,ds2,p2,q2,rfl,rfl,rfl,h2,r2⟩:=trodAll_cons r1
 obtain⟨rfl,rfl,rfl⟩:=trodAll_nil r2
 obtain rfl:args= #[v0,v1,v2]:=by cases args;simp_all
 obtain⟨rfl,rfl⟩:=trodVars_none hV
 obtain⟨c0,rfl⟩:=okWide_two (hval 0 51 v0 rfl rfl)
 have k0:=h0
 have lt0: ∀x∈p0,x.block<W.heap.size:=by obtain⟨m,hm⟩:=k0;exact DataW.trod_lt m _ _ _ hm
 obtain⟨z0,y0,w0,b0,bb0⟩: ∃z y:Pol,TwoV W (.agg c0) z y/\PolBk z (Rows.uptoBulk d0)/\PolBk y (Rows.uptoBulk d0):=by obtain⟨fuel,hf⟩:=h0;have h9:=two_open (x:=(d0,p0)) (show DataW.trod enc Tryz.prog W 0 (fun _=>true) true fuel 51 c0.toList=some (d0,p0) by simpa[Value.cells]using hf);simpa using h9
 obtain⟨s1,rfl,rfl,rfl,w1⟩:=open_string Tryz.underlying9 (hval 1 9 v1 rfl rfl) h1
 obtain⟨s2,rfl,rfl,rfl,w2⟩:=open_string Tryz.underlying9 (hval 2 9 v2 rfl rfl) h2
 have hk:=bulks.bound hk0
 clear hA0 hval0 hk0
 refine(walk (.agg c0) z0 y0 s1 s2 W w0 (b0.mono (by simp only[List.append_nil,Rows.uptoBulkAll]at hk;omega)) (bb0.mono (by simp only[List.append_nil,Rows.uptoBulkAll]at hk;omega)) w1 w2).mono fun e W' hend=> ?_
 obtain⟨he,X,hX⟩:=hend
 have bel:Below W.heap.size W W':=by rw[hX];exact below_grow W X
 subst he
 exact⟨_,rfl,_,_,_,[],_,[],hW',trodAll_mk1 (shut_bool Tryz.underlying4 _),(trodAll_cons_mk (Below.trod laidOut (by kernel_rfl) (of_decide_eq_true (by kernel_rfl)) k0 bel lt0) (trodAll_cons_mk (shut_string Tryz.underlying9 w1) (trodAll_cons_mk (shut_string Tryz.underlying9 w2) trodAll_mk0))),rfl,bel.frame _,fun h=>by cases h⟩
theorem proved:Rows.CompileWiderUptoSaid:=
 OpenClaim.holds_of_cond 7 Tryz.f7 rfl rfl rfl rfl rfl rfl rfl ⟨rfl,rfl,rfl,rfl,rfl⟩ rfl rfl rfl rfl rfl (by kernel_rfl) Tryz.func7 (by kernel_rfl)
  (of_decide_eq_true (by kernel_rfl)) (by unfold Func.isWrapper;first|(rw[if_pos (by decide+kernel)];kernel_rfl)|(rw[if_neg (by decide+kernel)];exact⟨rfl,rfl⟩))
  (fun os started H enc _ F=>lifted os started H enc F)
end Go.Proofs.YtbhhgbgfaemfdaaGreat.compileWider

