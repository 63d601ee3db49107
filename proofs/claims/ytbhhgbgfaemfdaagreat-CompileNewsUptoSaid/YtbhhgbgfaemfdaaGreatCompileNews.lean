/- The rules of any policy, of which anything is asked, are what the reference says: CompileNews returns true. Condition: what comes in is of bulk at most 1048576 (the statement's own second form). -/
import Derived.ProofKit
import Derived.ChangeSame
import Derived.ChangeAt
import Derived.SizedLaws
import Derived.OpenShut
import Derived.ShutString
import Derived.ChangeOld
import Derived.JoinedCond
import Derived.Test.YtbhhgbgfaemfdaaGreatRows
import Derived.Test.YtbhhgbgfaemfdaaGreatCmpU
import Derived.Test.YtbhhgbgfaemfdaaGreatRiE
import Derived.Test.YtbhhgbgfaemfdaaGreatRG
namespace Go.Proofs.YtbhhgbgfaemfdaaGreat.compileNews
open Go.ChangeShapes Go.WideShapes Go.ChangeAt Go.RowKit
open Go.ChangeMaps (open_string shut_string)
theorem own:ownKnob Tryz.prog.godebug=none:=by kernel_rfl
theorem laidOut:laidOutB Tryz.prog=true:=by kernel_rfl
attribute [local go_sem] Oper.semAt_some
theorem str_bsN (s:ByteArray):sv s.data.toList= .string s:=rfl
set_option maxRecDepth 100000 in
set_option maxHeartbeats 8000000 in
theorem walk (vp:Value) (p:Pol) (s t:ByteArray) (w:World) (h0:PolV w (fun _=>False) vp p) (b0:PolBk p 1048576) (_hs:s.size<=maxLen) (_ht:t.size<=maxLen):Calls Tryz.prog 4 #[vp,.string s,.string t] w (Ret (.bool true) w):=by
 have hmx:Tryz.prog.follows .mixedOrders=true:=by kernel_rfl
 have HF0:=Lib.hid (fun W (hb:Below w.heap.size w W)=>rfew_any vp p W (h0.below hb) b0)
 have HNw:=Lib.hid (fun W (hb:Below w.heap.size w W)=>new_any vp p W (h0.below hb) (fun W' hb'=>right_any vp p W' ((h0.below hb).below hb') b0.sm b0.tx))
 have HRn:=Lib.hid (fun W (hb:Below w.heap.size w W)=>rnew_any vp p W (h0.below hb) b0.sm b0.tx)
 obtain⟨v0,v1,v2,v3,v4,v5,rfl,⟨A0,k0,rfl,_⟩,⟨A1,k1,rfl,_⟩,⟨A2,k2,rfl,_⟩,⟨A3,k3,rfl,_⟩,⟨A4,k4,rfl,_⟩,⟨A5,k5,rfl,_⟩⟩:=h0
 clear b0
 obtain⟨f0,hf0⟩: ∃f,fewP p=f:=⟨_,rfl⟩
 rw[hf0]at HF0
 clear hf0
 go_enter Tryz.func4,Tryz.ntmps4
 go_upto_region 1 with fail
 refine name_world fun W0 hW0=> ?_
 obtain⟨B,hB⟩: ∃B,w.heap.size=B:=⟨_,rfl⟩
 have hb0:Below w.heap.size w W0:=by rw[hW0];exact bel
 have c0:W0.cell? ⟨B,0,none⟩=some (.slice A0 (fN p 0) k0):=by rw[hW0,<-hB];simp[go_sem]
 have c1:W0.cell? ⟨B,1,none⟩=some (.slice A1 (fN p 1) k1):=by rw[hW0,<-hB];simp[go_sem]
 have c2:W0.cell? ⟨B,2,none⟩=some (.slice A2 (fN p 2) k2):=by rw[hW0,<-hB];simp[go_sem]
 have c3:W0.cell? ⟨B,3,none⟩=some (.slice A3 (fN p 3) k3):=by rw[hW0,<-hB];simp[go_sem]
 have c4:W0.cell? ⟨B,4,none⟩=some (.slice A4 (fN p 4) k4):=by rw[hW0,<-hB];simp[go_sem]
 have c5:W0.cell? ⟨B,5,none⟩=some (.slice A5 (fN p 5) k5):=by rw[hW0,<-hB];simp[go_sem]
 have c6:W0.cell? ⟨B,6,none⟩=some (.bool p.rel):=by rw[hW0,<-hB];simp[go_sem]
 have c7:W0.cell? ⟨B,7,none⟩=some (.int .i64 p.depth):=by rw[hW0,<-hB];simp[go_sem]
 have c8:W0.cell? ⟨B,8,none⟩=some (.int .i64 p.name):=by rw[hW0,<-hB];simp[go_sem]
 have c9:W0.cell? ⟨B,9,none⟩=some (.int .i64 p.value):=by rw[hW0,<-hB];simp[go_sem]
 have hBl:B<W0.heap.size:=World.block_lt_of_cell? W0 _ c0
 have HB0:=Lib.hid hb0
 rw[hB]
 clear hW0 hb0 hB
 have HG0:=Lib.hid (fun W (hb:Below W0.heap.size W0 W)=>HB0.out.trans (hb.mono HB0.out.size))
 go_upto_region 3 with(first
  |(go_at_call 8;(with_reducible refine(awake10_any _).mono ?_);rintro e Va ⟨rfl,Ya,rfl⟩)
  |(go_at_call 18;(with_reducible refine(Ret.flat (HF0.out _ (HG0.out _ bel))).mono ?_);rintro e Vb ⟨rfl,Yb,rfl⟩))
 refine name_world fun V0 hV0=> ?_
 have hv0:Below W0.heap.size W0 V0:=by rw[hV0];exact bel
 have HBv:=Lib.hid (HB0.out.trans (hv0.mono HB0.out.size))
 have hBv:B<V0.heap.size:=Nat.lt_of_lt_of_le hBl hv0.size
 clear hV0
 have x0:V0.cell? ⟨B,0,none⟩=some (.slice A0 (fN p 0) k0):=(hv0.cell (p:=⟨B,0,none⟩) hBl).trans c0
 have x1:V0.cell? ⟨B,1,none⟩=some (.slice A1 (fN p 1) k1):=(hv0.cell (p:=⟨B,1,none⟩) hBl).trans c1
 have x2:V0.cell? ⟨B,2,none⟩=some (.slice A2 (fN p 2) k2):=(hv0.cell (p:=⟨B,2,none⟩) hBl).trans c2
 have x3:V0.cell? ⟨B,3,none⟩=some (.slice A3 (fN p 3) k3):=(hv0.cell (p:=⟨B,3,none⟩) hBl).trans c3
 have x4:V0.cell? ⟨B,4,none⟩=some (.slice A4 (fN p 4) k4):=(hv0.cell (p:=⟨B,4,none⟩) hBl).trans c4
 have x5:V0.cell? ⟨B,5,none⟩=some (.slice A5 (fN p 5) k5):=(hv0.cell (p:=⟨B,5,none⟩) hBl).trans c5
 have x6:V0.cell? ⟨B,6,none⟩=some (.bool p.rel):=(hv0.cell (p:=⟨B,6,none⟩) hBl).trans c6
 have x7:V0.cell? ⟨B,7,none⟩=some (.int .i64 p.depth):=(hv0.cell (p:=⟨B,7,none⟩) hBl).trans c7
 have x8:V0.cell? ⟨B,8,none⟩=some (.int .i64 p.name):=(hv0.cell (p:=⟨B,8,none⟩) hBl).trans c8
 have x9:V0.cell? ⟨B,9,none⟩=some (.int .i64 p.value):=(hv0.cell (p:=⟨B,9,none⟩) hBl).trans c9
 clear hv0 HG0 HF0 c0 c1 c2 c3 c4 c5 c6 c7 c8 c9
 cases f0
 case false=>
  go_wp2_with fail
  go_ret
  exact Ret.of rfl (HBv.out.trans ((bel:Below V0.heap.size V0 _).mono HBv.out.size))
 by_cases hs:200<s.size
 ·have b1:decide ((200:Int)<s.size)=true:=by simp;omega
  clear hs
  go_wp2_with fail
  go_ret
  exact Ret.of rfl (HBv.out.trans ((bel:Below V0.heap.size V0 _).mono HBv.out.size))
 have b1:decide ((200:Int)<s.size)=false:=by simp;omega
 by_cases ht:200<t.size
 ·have b2:decide ((200:Int)<t.size)=true:=by simp;omega
  clear ht hs
  go_wp2_with fail
  go_ret
  exact Ret.of rfl (HBv.out.trans ((bel:Below V0.heap.size V0 _).mono HBv.out.size))
 have b2:decide ((200:Int)<t.size)=false:=by simp;omega
 have hsl:s.data.toList.length<=200:=by
  have:s.data.toList.length=s.size:=by rw[Array.length_toList];rfl
  omega
 have htl:t.data.toList.length<=200:=by
  have:t.data.toList.length=t.size:=by rw[Array.length_toList];rfl
  omega
 have HSl:=Lib.hid (And.intro hsl htl)
 clear hs ht hsl htl _hs _ht
 have HG1:=Lib.hid (fun W (hb:Below V0.heap.size V0 W)=>HBv.out.trans (hb.mono HBv.out.size))
 obtain⟨R,hR⟩: ∃R,newR p=R:=⟨_,rfl⟩
 have HRq:=Lib.hid hR
 by_cases hz:R=0
 ·have hr:rightP p=true:=by
   unfold newR at hR
   by_cases h:rightP p=true
   ·exact h
   ·rw[if_neg h]at hR;omega
  have HWd:=Lib.hid (right_wd hr)
  have HFw:=Lib.hid (show p.tags.length<=200/\p.drops.length<=200/\p.css.length<=200/\p.forces.length<=200 from by
   unfold rightP fitB at hr
   simp only[Bool.and_eq_true,decide_eq_true_eq]at hr
   obtain⟨a0,a1,a2,a3,a4,a5⟩:=hr.1.2
   exact⟨by first|exact a0|omega,by first|exact a3|omega,by first|exact a2|omega,by first|exact a5|omega⟩)
  have HN2:=Lib.hid (fun W hb=>(HNw.out W hb).mono (R':=fun e w'=> ∃g,e= .returned (.tuple #[.pointer (some ⟨g,0,none⟩),.int .i64 0])/\Below W.heap.size W w'/\RulesV w' g p) (fun e w' h=>by
   obtain⟨h1,h2⟩:=h
   rcases h2 with⟨h2,_⟩|⟨_,g,h3,_,h5⟩
   ·exact absurd (HRq.out.trans hz) h2
   ·exact⟨g,h3,h1,h5⟩))
  have HM2:=Lib.hid (fun W hb=>(HRn.out W hb).mono (R':=fun e w'=> ∃g,e= .returned (.tuple #[.pointer (some ⟨g,0,none⟩),.int .i64 0])/\Below W.heap.size W w'/\RefV w' g p) (fun e w' h=>by
   obtain⟨h1,h2⟩:=h
   rcases h2 with⟨h2,_⟩|⟨_,g,h3,h5⟩
   ·exact absurd (HRq.out.trans hz) h2
   ·exact⟨g,h3,h1,h5⟩))
  clear HNw HRn hz hr hR HRq
  go_upto_region 6 with(go_at_call 19;(with_reducible refine(HN2.out _ (HG1.out _ bel)).mono ?_);rintro e V1 ⟨g,rfl,hb1,hr1⟩;have HB1:=Lib.hid hb1;have HR1:=Lib.hid hr1;clear hr1)
  have y0:V1.cell? ⟨B,0,none⟩=some (.slice A0 (fN p 0) k0):=(HB1.out.cell (p:=⟨B,0,none⟩) hBv).trans x0
  have y1:V1.cell? ⟨B,1,none⟩=some (.slice A1 (fN p 1) k1):=(HB1.out.cell (p:=⟨B,1,none⟩) hBv).trans x1
  have y2:V1.cell? ⟨B,2,none⟩=some (.slice A2 (fN p 2) k2):=(HB1.out.cell (p:=⟨B,2,none⟩) hBv).trans x2
  have y3:V1.cell? ⟨B,3,none⟩=some (.slice A3 (fN p 3) k3):=(HB1.out.cell (p:=⟨B,3,none⟩) hBv).trans x3
  have y4:V1.cell? ⟨B,4,none⟩=some (.slice A4 (fN p 4) k4):=(HB1.out.cell (p:=⟨B,4,none⟩) hBv).trans x4
  have y5:V1.cell? ⟨B,5,none⟩=some (.slice A5 (fN p 5) k5):=(HB1.out.cell (p:=⟨B,5,none⟩) hBv).trans x5
  have y6:V1.cell? ⟨B,6,none⟩=some (.bool p.rel):=(HB1.out.cell (p:=⟨B,6,none⟩) hBv).trans x6
  have y7:V1.cell? ⟨B,7,none⟩=some (.int .i64 p.depth):=(HB1.out.cell (p:=⟨B,7,none⟩) hBv).trans x7
  have y8:V1.cell? ⟨B,8,none⟩=some (.int .i64 p.name):=(HB1.out.cell (p:=⟨B,8,none⟩) hBv).trans x8
  have y9:V1.cell? ⟨B,9,none⟩=some (.int .i64 p.value):=(HB1.out.cell (p:=⟨B,9,none⟩) hBv).trans x9
  have hBw:B<V1.heap.size:=Nat.lt_of_lt_of_le hBv HB1.out.size
  clear x0 x1 x2 x3 x4 x5 x6 x7 x8 x9 hb1
  have HG2:=Lib.hid (fun W (hb:Below V1.heap.size V1 W)=>HG1.out W (HB1.out.trans (hb.mono HB1.out.size)))
  go_upto_region 7 with(go_at_call 20;(with_reducible refine(HM2.out _ (HG2.out _ bel)).mono ?_);rintro e V2 ⟨gx,rfl,hb2,hr2⟩;have HB2:=Lib.hid (HG2.out V2 hb2);have HR2:=Lib.hid (HR1.out.below hb2);have HX2:=Lib.hid hr2;clear hb2 hr2)
  have HA:=Lib.hid (fun W (hb:Below V2.heap.size V2 W)=>show Calls Tryz.prog 21 #[.pointer (some ⟨g,0,none⟩),.pointer (some ⟨gx,0,none⟩),.string s,.string t] W (Ret (.bool true) W)from alike_any g gx p s.data.toList t.data.toList W (HR2.out.below hb) (HX2.out.below hb) HWd.out HFw.out HSl.out.1 HSl.out.2)
  clear HG2 HG1 HN2 HM2 y0 y1 y2 y3 y4 y5 y6 y7 y8 y9
  go_wp2_with(go_at_call 21;(with_reducible refine(HA.out _ bel).mono ?_);rintro e V3 ⟨rfl,Y3,rfl⟩)
  go_ret
  exact Ret.of rfl (HB2.out.trans ((bel:Below V2.heap.size V2 _).mono HB2.out.size))
 ·have HN2:=Lib.hid (fun W hb=>(HNw.out W hb).mono (R':=fun e w'=>e= .returned (.tuple #[.pointer none,.int .i64 (R:Nat)])/\Below W.heap.size W w') (fun e w' h=>by
   obtain⟨h1,h2⟩:=h
   rcases h2 with⟨_,h2⟩|⟨h2,_⟩
   ·rw[HRq.out]at h2;exact⟨h2,h1⟩
   ·exact absurd (HRq.out.symm.trans h2) hz))
  have HM2:=Lib.hid (fun W hb=>(HRn.out W hb).mono (R':=fun e w'=>e= .returned (.tuple #[.pointer none,.int .i64 (R:Nat)])/\Below W.heap.size W w') (fun e w' h=>by
   obtain⟨h1,h2⟩:=h
   rcases h2 with⟨_,h2⟩|⟨h2,_⟩
   ·rw[HRq.out]at h2;exact⟨h2,h1⟩
   ·exact absurd (HRq.out.symm.trans h2) hz))
  have b3:((R:Int) !=R)=false:=by simp
  clear HNw HRn hz hR HRq HSl
  go_upto_region 6 with(go_at_call 19;(with_reducible refine(HN2.out _ (HG1.out _ bel)).mono ?_);rintro e V1 ⟨rfl,hb1⟩;have HB1:=Lib.hid hb1)
  have y0:V1.cell? ⟨B,0,none⟩=some (.slice A0 (fN p 0) k0):=(HB1.out.cell (p:=⟨B,0,none⟩) hBv).trans x0
  have y1:V1.cell? ⟨B,1,none⟩=some (.slice A1 (fN p 1) k1):=(HB1.out.cell (p:=⟨B,1,none⟩) hBv).trans x1
  have y2:V1.cell? ⟨B,2,none⟩=some (.slice A2 (fN p 2) k2):=(HB1.out.cell (p:=⟨B,2,none⟩) hBv).trans x2
  have y3:V1.cell? ⟨B,3,none⟩=some (.slice A3 (fN p 3) k3):=(HB1.out.cell (p:=⟨B,3,none⟩) hBv).trans x3
  have y4:V1.cell? ⟨B,4,none⟩=some (.slice A4 (fN p 4) k4):=(HB1.out.cell (p:=⟨B,4,none⟩) hBv).trans x4
  have y5:V1.cell? ⟨B,5,none⟩=some (.slice A5 (fN p 5) k5):=(HB1.out.cell (p:=⟨B,5,none⟩) hBv).trans x5
  have y6:V1.cell? ⟨B,6,none⟩=some (.bool p.rel):=(HB1.out.cell (p:=⟨B,6,none⟩) hBv).trans x6
  have y7:V1.cell? ⟨B,7,none⟩=some (.int .i64 p.depth):=(HB1.out.cell (p:=⟨B,7,none⟩) hBv).trans x7
  have y8:V1.cell? ⟨B,8,none⟩=some (.int .i64 p.name):=(HB1.out.cell (p:=⟨B,8,none⟩) hBv).trans x8
  have y9:V1.cell? ⟨B,9,none⟩=some (.int .i64 p.value):=(HB1.out.cell (p:=⟨B,9,none⟩) hBv).trans x9
  have hBw:B<V1.heap.size:=Nat.lt_of_lt_of_le hBv HB1.out.size
  clear x0 x1 x2 x3 x4 x5 x6 x7 x8 x9 hb1
  have HG2:=Lib.hid (fun W (hb:Below V1.heap.size V1 W)=>HG1.out W (HB1.out.trans (hb.mono HB1.out.size)))
  go_upto_region 7 with(go_at_call 20;(with_reducible refine(HM2.out _ (HG2.out _ bel)).mono ?_);rintro e V2 ⟨rfl,hb2⟩;have HB2:=Lib.hid (HG2.out V2 hb2);clear hb2)
  clear HG2 HG1 HN2 HM2 y0 y1 y2 y3 y4 y5 y6 y7 y8 y9
  go_wp2_with fail
  go_ret
  exact Ret.of rfl (HB2.out.trans ((bel:Below V2.heap.size V2 _).mono HB2.out.size))
set_option maxRecDepth 100000 in
theorem lifted (os:Os) (started:os.Started) (H:Type) (enc:TypeId × Value->H) (F:Stop.Interp):
  ReturnsInHanded {} Tryz.checked os 4 .any ((Rows.OpenSpec.upto Rows.compileNewsSpec).pre6 enc Tryz.prog Tryz.f4 Rows.compileNewsUptoRow.domain false) (((Rows.OpenSpec.upto Rows.compileNewsSpec).at F).post enc Tryz.prog Tryz.f4 false true false false):=by
 refine returnsInHanded_of_cond (C:=Tryz.checked) (s:=Rows.OpenSpec.upto Rows.compileNewsSpec) (k:=Rows.uptoSmall) rfl own started (by kernel_rfl) Tryz.func4
  (OpenSpec.witness (enc:=enc) (C:=Tryz.checked) (s:=Rows.OpenSpec.upto Rows.compileNewsSpec) (k:=Rows.uptoSmall) rfl false ⟨#[],#[.agg #[.slice none 0 0,.slice none 0 0,.slice none 0 0,.slice none 0 0,.slice none 0 0,.slice none 0 0,.bool false,.int .i64 0,.int .i64 0,.int .i64 0],.string ⟨#[]⟩,.string ⟨#[]⟩],[]⟩ 8 (by kernel_rfl) (by kernel_rfl) (by kernel_rfl) (x:=([.agg [.nil,.nil,.nil,.nil,.nil,.nil,.lit (.bool false),.lit (.int .i64 0),.lit (.int .i64 0),.lit (.int .i64 0)],.lit (.string []),.lit (.string [])],[],[])) (by kernel_rfl) rfl (by kernel_rfl)) ?_
 intro W base args ds gs before hval0 hW _ hk0 _
 show Calls Tryz.prog 4 args W fun e W'=> ∃v,e= .returned v/\Rows.compileNewsSpec.post enc Tryz.prog Tryz.f4 false true false false W args v W'
 have hval: ∀(j:Nat) t v,Tryz.f4.params[j]? =some t->args[j]? =some v->Value.okWide Tryz.prog W .any base t v:=hval0
 have hW':=hW
 obtain⟨p,q,hA0,hV,rfl,hfz,hnd⟩:=hW
 have hA:DataW.TrodAll enc Tryz.prog W 0 (fun _=>true) true Tryz.f4.params.toList args.toList ds p:=hA0
 rw[Tryz.params4]at hA hval
 obtain⟨v0,vs0,d0,ds0,p0,q0,hargs,rfl,rfl,h0,r0⟩:=trodAll_cons hA
 obtain⟨v1,vs1,d1,ds1,p1,q1,rfl,rfl,rfl,h1,r1⟩:=trodAll_cons r0
 obtain⟨v2,vs2,d2,ds2,p2,q2,rfl,rfl,rfl,h2,r2⟩:=trodAll_cons r1
 obtain⟨rfl,rfl,rfl⟩:=trodAll_nil r2
 obtain rfl:args= #[v0,v1,v2]:=by cases args;simp_all
 obtain⟨rfl,rfl⟩:=trodVars_none hV
 obtain⟨c0,rfl,_⟩:=okWide_struct Tryz.underlying40 (hval 0 40 v0 rfl rfl)
 have k0:=h0
 have lt0: ∀x∈p0,x.block<W.heap.size:=by obtain⟨m,hm⟩:=k0;exact DataW.trod_lt m _ _ _ hm
 obtain⟨z0,w0,b0⟩: ∃z:Pol,PolV W (fun _=>False) (.agg c0) z/\PolBk z (Rows.uptoBulk d0):=by obtain⟨fuel,hf⟩:=h0;have h9:=pol_open (x:=(d0,p0)) (show DataW.trod enc Tryz.prog W 0 (fun _=>true) true fuel 40 c0.toList=some (d0,p0) by simpa[Value.cells]using hf);simpa using h9
 obtain⟨s1,rfl,rfl,rfl,w1⟩:=open_string Tryz.underlying9 (hval 1 9 v1 rfl rfl) h1
 obtain⟨s2,rfl,rfl,rfl,w2⟩:=open_string Tryz.underlying9 (hval 2 9 v2 rfl rfl) h2
 have hk:=bulks.bound hk0
 clear hA0 hval0 hk0
 refine(walk (.agg c0) z0 s1 s2 W w0 (b0.mono (by simp only[List.append_nil,Rows.uptoBulkAll]at hk;omega)) w1 w2).mono fun e W' hend=> ?_
 obtain⟨he,X,hX⟩:=hend
 have bel:Below W.heap.size W W':=by rw[hX];exact below_grow W X
 subst he
 exact⟨_,rfl,_,_,_,[],_,[],hW',trodAll_mk1 (shut_bool Tryz.underlying4 _),(trodAll_cons_mk (Below.trod laidOut (by kernel_rfl) (of_decide_eq_true (by kernel_rfl)) k0 bel lt0) (trodAll_cons_mk (shut_string Tryz.underlying9 w1) (trodAll_cons_mk (shut_string Tryz.underlying9 w2) trodAll_mk0))),rfl,bel.frame _,fun h=>by cases h⟩
theorem proved:Rows.CompileNewsUptoSaid:=
 OpenClaim.holds_of_cond 4 Tryz.f4 rfl rfl rfl rfl rfl rfl rfl ⟨rfl,rfl,rfl,rfl,rfl⟩ rfl rfl rfl rfl rfl (by kernel_rfl) Tryz.func4 (by kernel_rfl)
  (of_decide_eq_true (by kernel_rfl)) (by unfold Func.isWrapper;first|(rw[if_pos (by decide+kernel)];kernel_rfl)|(rw[if_neg (by decide+kernel)];exact⟨rfl,rfl⟩))
  (fun os started H enc _ F=>lifted os started H enc F)
end Go.Proofs.YtbhhgbgfaemfdaaGreat.compileNews

