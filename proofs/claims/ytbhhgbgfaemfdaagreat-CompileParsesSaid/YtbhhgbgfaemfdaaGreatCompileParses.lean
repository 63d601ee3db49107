/- The rules of any text, of which anything is asked, are what the reference says; so is the fault: CompileParses returns true. No condition: whatever the arguments. -/
import Derived.ProofKit
import Derived.ChangeSame
import Derived.ChangeAt
import Derived.SizedLaws
import Derived.OpenShut
import Derived.ShutString
import Derived.ChangeOld
import Derived.JoinedCond
import Derived.Test.YtbhhgbgfaemfdaaGreatRows
import Derived.Test.YtbhhgbgfaemfdaaGreatCmpV
namespace Go.Proofs.YtbhhgbgfaemfdaaGreat.compileParses
set_option maxRecDepth 100000
set_option maxHeartbeats 8000000
open Go.ChangeShapes Go.WideShapes Go.ChangeAt Go.RowKit
open Go.ChangeMaps (open_string shut_string)
theorem own:ownKnob Tryz.prog.godebug=none:=by kernel_rfl
theorem laidOut:laidOutB Tryz.prog=true:=by kernel_rfl
attribute [local go_sem] Oper.semAt_some
theorem str_bsP (s:ByteArray):sv s.data.toList= .string s:=rfl
theorem walk (x s t:ByteArray) (w:World) (_hx:x.size<=maxLen) (_hs:s.size<=maxLen) (_ht:t.size<=maxLen):Calls Tryz.prog 5 #[.string x,.string s,.string t] w (Ret (.bool true) w):=by
 have hmx:Tryz.prog.follows .mixedOrders=true:=by kernel_rfl
 by_cases h1:9000<x.size
 ·have b1:decide ((9000:Int)<x.size)=true:=by simp;omega
  clear h1 _hs _ht _hx
  go_enter Tryz.func5,Tryz.ntmps5
  go_wp2_with(go_at_call 8;(with_reducible refine(awake10_any _).mono ?_);rintro e Wa ⟨rfl,Xa,rfl⟩)
  go_ret
  exact Ret.of rfl bel
 have b1:decide ((9000:Int)<x.size)=false:=by simp;omega
 by_cases h2:200<s.size
 ·have b2:decide ((200:Int)<s.size)=true:=by simp;omega
  clear h1 h2 _hs _ht _hx
  go_enter Tryz.func5,Tryz.ntmps5
  go_wp2_with(go_at_call 8;(with_reducible refine(awake10_any _).mono ?_);rintro e Wa ⟨rfl,Xa,rfl⟩)
  go_ret
  exact Ret.of rfl bel
 have b2:decide ((200:Int)<s.size)=false:=by simp;omega
 by_cases h3:200<t.size
 ·have b3:decide ((200:Int)<t.size)=true:=by simp;omega
  clear h1 h2 h3 _hs _ht _hx
  go_enter Tryz.func5,Tryz.ntmps5
  go_wp2_with(go_at_call 8;(with_reducible refine(awake10_any _).mono ?_);rintro e Wa ⟨rfl,Xa,rfl⟩)
  go_ret
  exact Ret.of rfl bel
 have b3:decide ((200:Int)<t.size)=false:=by simp;omega
 have hsl:s.data.toList.length<=200:=by
  have:s.data.toList.length=s.size:=by rw[Array.length_toList];rfl
  omega
 have htl:t.data.toList.length<=200:=by
  have:t.data.toList.length=t.size:=by rw[Array.length_toList];rfl
  omega
 have HSl:=Lib.hid (And.intro hsl htl)
 obtain⟨a,c,P,G⟩:=comp_gen x.data.toList
 have HP:=Lib.hid (fun W=>show Calls Tryz.prog 9 #[.string x] W _ from G.run W)
 clear h1 h2 h3 hsl htl _hs _ht _hx
 by_cases hc:c=0
 ·obtain⟨ha,hP,hr⟩:a=0/\compR x.data.toList= .ok P/\rightP P=true:=by
   rcases G.says with⟨_,h1,h2,h3⟩|⟨h1,_⟩
   ·exact⟨h1,h2,h3⟩
   ·exact absurd hc h1
  have HWd:=Lib.hid (right_wd hr)
  have HFw:=Lib.hid (show P.tags.length<=200/\P.drops.length<=200/\P.css.length<=200/\P.forces.length<=200 from by
   unfold rightP fitB at hr
   simp only[Bool.and_eq_true,decide_eq_true_eq]at hr
   obtain⟨a0,a1,a2,a3,a4,a5⟩:=hr.1.2
   exact⟨by first|exact a0|omega,by first|exact a3|omega,by first|exact a2|omega,by first|exact a5|omega⟩)
  have HP1:=Lib.hid (fun W=>(HP.out W).mono (R':=fun e w'=> ∃g,e= .returned (.tuple #[.pointer (some ⟨g,0,none⟩),.int .i64 0,.int .i64 0])/\Below W.heap.size W w'/\RulesV w' g P) (fun e w' h=>by
   obtain⟨h1,h2|⟨_,g,h3,_,h5⟩⟩:=h
   ·exact absurd hc h2.1
   ·exact⟨g,h3,h1,h5⟩))
  have HQ1:=Lib.hid (fun W=>show Calls Tryz.prog 22 #[.string x] W _ from rcomp_ok hP W)
  clear HP G hr ha hP hc
  go_enter Tryz.func5,Tryz.ntmps5
  go_upto_region 4 with(go_at_call 8;(with_reducible refine(awake10_any _).mono ?_);rintro e Wa ⟨rfl,Xa,hXa⟩;have hba:Below w.heap.size w Wa:=(by rw[hXa];exact bel);have HA0:=Lib.hid hba;clear hXa hba)
  go_upto_region 5 with(go_at_call 9;(with_reducible refine(HP1.out _).mono ?_);rintro e W1 ⟨g,rfl,hb1,hr1⟩;have HB1:=Lib.hid (HA0.out.trans (hb1.mono HA0.out.size));have HR1:=Lib.hid hr1;clear hb1 hr1)
  go_upto_region 6 with(go_at_call 22;(with_reducible refine(HQ1.out _).mono ?_);rintro e W2 ⟨gx,rfl,hb2,hr2⟩;have HB2:=Lib.hid (HB1.out.trans (hb2.mono HB1.out.size));have HR2:=Lib.hid (HR1.out.below hb2);have HX2:=Lib.hid hr2;clear hb2 hr2)
  have HA:=Lib.hid (fun W (hb:Below W2.heap.size W2 W)=>show Calls Tryz.prog 21 #[.pointer (some ⟨g,0,none⟩),.pointer (some ⟨gx,0,none⟩),.string s,.string t] W (Ret (.bool true) W)from alike_any g gx P s.data.toList t.data.toList W (HR2.out.below hb) (HX2.out.below hb) HWd.out HFw.out HSl.out.1 HSl.out.2)
  clear HP1 HQ1 HB1 HR1 HA0
  go_wp2_with(go_at_call 21;(with_reducible refine(HA.out _ bel).mono ?_);rintro e V3 ⟨rfl,Y3,rfl⟩)
  go_ret
  exact Ret.of rfl (HB2.out.trans ((bel:Below W2.heap.size W2 _).mono HB2.out.size))
 ·have hP:compR x.data.toList= .error ⟨a,c⟩:=by
   rcases G.says with⟨h1,_⟩|⟨_,_,h2⟩
   ·exact absurd h1 hc
   ·exact h2
  have HP1:=Lib.hid (fun W=>(HP.out W).mono (R':=fun e w'=>e= .returned (.tuple #[.pointer none,.int .i64 a,.int .i64 c])/\Below W.heap.size W w') (fun e w' h=>by
   obtain⟨h1,h2|h2⟩:=h
   ·exact⟨h2.2,h1⟩
   ·exact absurd h2.1 hc))
  have HQ1:=Lib.hid (fun W=>show Calls Tryz.prog 22 #[.string x] W _ from rcomp_err hP W)
  have b4:((a:Int) !=a)=false:=by simp
  have b5:((c:Int) !=c)=false:=by simp
  clear HP G hP hc
  go_enter Tryz.func5,Tryz.ntmps5
  go_upto_region 4 with(go_at_call 8;(with_reducible refine(awake10_any _).mono ?_);rintro e Wa ⟨rfl,Xa,hXa⟩;have hba:Below w.heap.size w Wa:=(by rw[hXa];exact bel);have HA0:=Lib.hid hba;clear hXa hba)
  go_upto_region 5 with(go_at_call 9;(with_reducible refine(HP1.out _).mono ?_);rintro e W1 ⟨rfl,hb1⟩;have HB1:=Lib.hid (HA0.out.trans (hb1.mono HA0.out.size));clear hb1)
  go_upto_region 6 with(go_at_call 22;(with_reducible refine(HQ1.out _).mono ?_);rintro e W2 ⟨rfl,hb2⟩;have HB2:=Lib.hid (HB1.out.trans (hb2.mono HB1.out.size));clear hb2)
  go_wp2_with fail
  go_ret
  exact Ret.of rfl (HB2.out.trans ((bel:Below W2.heap.size W2 _).mono HB2.out.size))
theorem lifted (os:Os) (started:os.Started) (H:Type) (enc:TypeId × Value->H):
  ReturnsInHanded {} Tryz.checked os 5 .any (Rows.compileParsesSpec.pre6 enc Tryz.prog Tryz.f5 Rows.compileParsesRow.domain false) (Rows.compileParsesSpec.post enc Tryz.prog Tryz.f5 false true false false):=by
 refine returnsInHanded_of_change (C:=Tryz.checked) own started (by kernel_rfl) Tryz.func5
  (ChangeSpec.witness6 (enc:=enc) (C:=Tryz.checked) false ⟨#[],#[.string ⟨#[]⟩,.string ⟨#[]⟩,.string ⟨#[]⟩],[]⟩ 8 (by kernel_rfl) (by kernel_rfl) (by kernel_rfl) (by kernel_rfl)) ?_
 intro W base args ds gs before hval0 hW hcnd _
 have hval: ∀(j:Nat) t v,Tryz.f5.params[j]? =some t->args[j]? =some v->Value.okWide Tryz.prog W .any base t v:=hval0
 have hW':=hW
 obtain⟨p,q,hA0,hV,rfl,hfz,hnd⟩:=hW
 have hA:DataW.TrodAll enc Tryz.prog W 0 (fun _=>true) true Tryz.f5.params.toList args.toList ds p:=hA0
 rw[Tryz.params5]at hA hval
 obtain⟨v0,vs0,d0,ds0,p0,q0,hargs,rfl,rfl,h0,r0⟩:=trodAll_cons hA
 obtain⟨v1,vs1,d1,ds1,p1,q1,rfl,rfl,rfl,h1,r1⟩:=trodAll_cons r0
 obtain⟨v2,vs2,d2,ds2,p2,q2,rfl,rfl,rfl,h2,r2⟩:=trodAll_cons r1
 obtain⟨rfl,rfl,rfl⟩:=trodAll_nil r2
 obtain rfl:args= #[v0,v1,v2]:=by cases args;simp_all
 obtain⟨rfl,rfl⟩:=trodVars_none hV
 obtain⟨s0,rfl,rfl,rfl,w0⟩:=open_string Tryz.underlying9 (hval 0 9 v0 rfl rfl) h0
 obtain⟨s1,rfl,rfl,rfl,w1⟩:=open_string Tryz.underlying9 (hval 1 9 v1 rfl rfl) h1
 obtain⟨s2,rfl,rfl,rfl,w2⟩:=open_string Tryz.underlying9 (hval 2 9 v2 rfl rfl) h2
 clear hA0 hval0
 refine(walk s0 s1 s2 W w0 w1 w2).mono fun e W' hend=> ?_
 obtain⟨he,X,hX⟩:=hend
 have bel:Below W.heap.size W W':=by rw[hX];exact below_grow W X
 subst he
 exact⟨_,rfl,_,_,_,[],_,[],hW',trodAll_mk1 (shut_bool Tryz.underlying4 _),(trodAll_cons_mk (shut_string Tryz.underlying9 w0) (trodAll_cons_mk (shut_string Tryz.underlying9 w1) (trodAll_cons_mk (shut_string Tryz.underlying9 w2) trodAll_mk0))),rfl,bel.frame _,fun h=>by cases h⟩
theorem over:Rows.compileParsesRow.holds Tryz.pinned (OpenSpec.ofChange Rows.compileParsesSpec):=
 OpenClaim.holds_of_wide 5 Tryz.f5 rfl rfl rfl rfl rfl rfl rfl ⟨rfl,rfl,rfl,rfl,rfl⟩ rfl rfl rfl rfl rfl (by kernel_rfl) Tryz.func5 (by kernel_rfl)
  (of_decide_eq_true (by kernel_rfl)) (by unfold Func.isWrapper;rw[if_neg (of_decide_eq_false (by kernel_rfl))];exact⟨rfl,rfl⟩)
  (fun os started H enc _=>lifted os started H enc)
theorem proved:Rows.CompileParsesSaid:=over
end Go.Proofs.YtbhhgbgfaemfdaaGreat.compileParses

