/- Any address, by any rules, is told as the document says: SchemeFilters returns true. No condition: whatever the arguments. -/
import Derived.ProofKit
import Derived.ChangeSame
import Derived.ChangeAt
import Derived.SizedLaws
import Derived.OpenShut
import Derived.ShutString
import Derived.ChangeOld
import Derived.LaidMore
import Derived.Lay
import Derived.SevenTiedAt
import Derived.Stop.Joined
import Derived.Test.YtbhhgbgfaemfdaaGreatDoorRows
import Derived.Test.YtbhhgbgfaemfdaaGreatDoorCards
import Derived.Test.YtbhhgbgfaemfdaaGreatDoorTie
import Derived.Test.YtbhhgbgfaemfdaaGreatDoorSchI
import Derived.Test.YtbhhgbgfaemfdaaGreatDoorSchH
import Derived.Test.YtbhhgbgfaemfdaaGreatDoorCmpV
namespace Go.Proofs.YtbhhgbgfaemfdaaGreatDoor.schemeFilters
open Lib renaming hid→z2g
set_option maxRecDepth 100000
set_option maxHeartbeats 8000000
open Go.ChangeShapes Go.WideShapes Go.ChangeAt Go.RowKit
open Go.ChangeMaps (open_string shut_string)
theorem own:ownKnob Tryz.prog.godebug=none:=by kernel_rfl
theorem laidOut:laidOutB Tryz.prog=true:=by kernel_rfl
attribute [local go_sem] Oper.semAt_some
theorem walk (t s:ByteArray) (w:World) (hT:U8 w) (_ht:t.size<=maxLen) (_hs:s.size<=maxLen):Calls Tryz.prog 4 #[.string t,.string s] w (Ret (.bool true) w):=by
 have hmx:Tryz.prog.follows .mixedOrders=true:=by kernel_rfl
 have HT:=z2g hT
 have HAw:=z2g (zqz w hT)
 clear hT
 by_cases h0:9000<t.size
 ·have b0:decide ((9000:Int)<t.size)=true:=by simp;omega
  clear h0 _ht _hs
  go_enter Tryz.func4,Tryz.ntmps4
  go_wp2_with(go_at_call 14;(with_reducible refine HAw.out.mono ?_);rintro e Wa ⟨rfl,Xa,rfl⟩)
  go_ret
  exact Ret.of rfl bel
 have b0:decide ((9000:Int)<t.size)=false:=by simp;omega
 by_cases h1:2000<s.size
 ·have b1:decide ((2000:Int)<s.size)=true:=by simp;omega
  clear h0 h1 _ht _hs
  go_enter Tryz.func4,Tryz.ntmps4
  go_wp2_with(go_at_call 14;(with_reducible refine HAw.out.mono ?_);rintro e Wa ⟨rfl,Xa,rfl⟩)
  go_ret
  exact Ret.of rfl bel
 have b1:decide ((2000:Int)<s.size)=false:=by simp;omega
 obtain⟨a,c,P,G⟩:=zr6 t.data.toList
 have HP:=z2g (fun W=>show Calls Tryz.prog 23 #[.string t] W _ from G.run W)
 by_cases hc:c=0
 rotate_left
 ·have hce:zhf t.data.toList= .error ⟨a,c⟩:=by
   rcases G.says with⟨h1,_⟩|⟨_,_,h1⟩
   ·exact absurd h1 hc
   ·exact h1
  have HP1:=z2g (fun W=>(HP.out W).mono (R':=fun e w'=>e= .returned (.tuple #[.pointer none,.int .i64 a,.int .i64 c])/\Below W.heap.size W w') (fun e w' h=>by
   obtain⟨h1,h2|h2⟩:=h
   ·exact⟨h2.2,h1⟩
   ·exact absurd h2.1 hc))
  have HQ1:=z2g (fun W=>show Calls Tryz.prog 24 #[.string t] W _ from zv9 hce W)
  have b9:((c:Int) !=0)=true:=by simp;omega
  have b8:((c:Int)==c)=true:=by simp
  clear HP G hce h0 h1 _ht _hs
  go_enter Tryz.func4,Tryz.ntmps4
  go_wp2_with(first
   |(go_at_call 14;(with_reducible refine HAw.out.mono ?_);rintro e Wa ⟨rfl,Xa,hXa⟩;have hba:Below w.heap.size w Wa:=(by rw[hXa];exact bel);have HA0:=z2g hba;clear hXa hba)
   |(go_at_call 23;(with_reducible refine(HP1.out _).mono ?_);rintro e W1 ⟨rfl,hb1⟩;have HB1:=z2g (HA0.out.trans (hb1.mono HA0.out.size));clear hb1)
   |(go_at_call 24;(with_reducible refine(HQ1.out _).mono ?_);rintro e W2 ⟨rfl,hb2⟩;have HB2:=z2g (HB1.out.trans (hb2.mono HB1.out.size));clear hb2))
  go_ret
  exact Ret.of rfl HB2.out
 obtain⟨hP,hr⟩:zhf t.data.toList= .ok P/\zbu P=true:=by
  rcases G.says with⟨_,_,h2,h3⟩|⟨h1,_⟩
  ·exact⟨h2,h3⟩
  ·exact absurd hc h1
 have HP1:=z2g (fun W=>(HP.out W).mono (R':=fun e w'=> ∃g,e= .returned (.tuple #[.pointer (some ⟨g,0,none⟩),.int .i64 0,.int .i64 0])/\Below W.heap.size W w'/\zdg w' g P) (fun e w' h=>by
  obtain⟨h1,h2|⟨_,g,h3,_,h5⟩⟩:=h
  ·exact absurd hc h2.1
  ·exact⟨g,h3,h1,h5⟩))
 have HQ1:=z2g (fun W=>show Calls Tryz.prog 24 #[.string t] W _ from zzf hP W)
 clear HP G hc hP hr
 go_enter Tryz.func4,Tryz.ntmps4
 go_upto_region 4 with(go_at_call 14;(with_reducible refine HAw.out.mono ?_);rintro e Wa ⟨rfl,Xa,hXa⟩;have hba:Below w.heap.size w Wa:=(by rw[hXa];exact bel);have HA0:=z2g hba;clear hXa hba)
 go_upto_region 5 with(go_at_call 23;(with_reducible refine(HP1.out _).mono ?_);rintro e W1 ⟨g,rfl,hb1,hr1⟩;have HB1:=z2g (HA0.out.trans (hb1.mono HA0.out.size));have HR1:=z2g hr1;clear hb1 hr1)
 go_upto_region 7 with(go_at_call 24;(with_reducible refine(HQ1.out _).mono ?_);rintro e W2 ⟨gx,rfl,hb2,hr2⟩;have HB2:=z2g (HB1.out.trans (hb2.mono HB1.out.size));have HR2:=z2g (HR1.out.below hb2);have HX2:=z2g hr2;clear hb2 hr2)
 clear HP1 HQ1 HAw HA0 HB1 HR1
 have HFi:=z2g (fun W (hb:Below W2.heap.size W2 W)=>zfu g P s W (HR2.out.below hb) ((HT.out.below HB2.out).below hb) (by omega))
 have HFj:=z2g (fun W (hb:Below W2.heap.size W2 W)=>zl9 gx P s W (HX2.out.below hb) (by omega))
 obtain⟨fa,fb,hV⟩: ∃fa fb,zxj (zig P s.data.toList)= .tuple #[.string fa,.bool fb]:=by
  cases zig P s.data.toList with
  |none=>exact⟨_,_,rfl⟩
  |some x=>exact⟨_,_,rfl⟩
 rw[hV]at HFi HFj
 clear hV h0 h1 _ht _hs HR2 HX2
 go_wp2_with(first
  |(go_at_call 25;(with_reducible refine(HFi.out _ bel).mono ?_);rintro e V1 ⟨rfl,Y1,rfl⟩)
  |(go_at_call 25;(with_reducible refine(Ret.flat (HFi.out _ bel)).mono ?_);rintro e V1 ⟨rfl,Y1,rfl⟩)
  |(go_at_call 26;(with_reducible refine(Ret.flat (HFj.out _ bel)).mono ?_);rintro e V2 ⟨rfl,Y2,rfl⟩))
 go_ret
 exact Ret.of (by simp) (HB2.out.trans ((bel:Below W2.heap.size W2 _).mono HB2.out.size))
theorem lifted (os:Os) (started:os.Started) (H:Type) (enc:TypeId × Value->H):
  ReturnsInHanded {} Tryz.checked os 4 .any (fun w args=>(Rows.schemeFiltersSpec.pre enc Tryz.prog Tryz.f4 Rows.schemeFiltersRow.domain false w args/\laidMetH Tryz.prog Rows.schemeFiltersRow.laid w)/\sizedMet enc Tryz.prog Tryz.f4 (OpenSpec.ofChange Rows.schemeFiltersSpec) false w args) (Rows.schemeFiltersSpec.post enc Tryz.prog Tryz.f4 false true false false):=by
 refine zzx (C:=Tryz.checked) (X:=fun w _=>laidMetH Tryz.prog Rows.schemeFiltersRow.laid w) (fun _ _ _ hh h=>h.of_heap hh) own started (by kernel_rfl) Tryz.func4
  (ChangeSpec.witness_shaped (enc:=enc) (C:=Tryz.checked) (os:=os) (X:=fun w _=>laidMetH Tryz.prog Rows.schemeFiltersRow.laid w) false (World.laidAll Tryz.prog os Rows.schemeFiltersRow.laid) #[.string ⟨#[]⟩,.string ⟨#[]⟩] 8 (World.laidAll_os _ _ _)
   (World.shaped_of_ZipB (by kernel_rfl) (by kernel_rfl)) (by kernel_rfl) (by kernel_rfl) (by kernel_rfl)
   (by rw[MakeChecks.laidMetH_plain _ _ _ (by kernel_rfl)];exact laidMet_laidAll _ (by kernel_rfl) (by kernel_rfl))) ?_
 intro W base args ds gs before hval0 hW hL _
 have hval: ∀(j:Nat) t v,Tryz.f4.params[j]? =some t->args[j]? =some v->Value.okWide Tryz.prog W .any base t v:=hval0
 have hW':=hW
 obtain⟨p,q,hA0,hV,rfl,hfz,hnd⟩:=hW
 have hA:DataW.TrodAll enc Tryz.prog W 0 (fun _=>true) true Tryz.f4.params.toList args.toList ds p:=hA0
 rw[Tryz.params4]at hA hval
 obtain⟨v0,vs0,d0,ds0,p0,q0,hargs,rfl,rfl,h0,r0⟩:=trodAll_cons hA
 obtain⟨v1,vs1,d1,ds1,p1,q1,rfl,rfl,rfl,h1,r1⟩:=trodAll_cons r0
 obtain⟨rfl,rfl,rfl⟩:=trodAll_nil r1
 obtain rfl:args= #[v0,v1]:=by cases args;simp_all
 obtain⟨rfl,rfl⟩:=trodVars_none hV
 obtain⟨s0,rfl,rfl,rfl,w0⟩:=open_string Tryz.underlying9 (hval 0 9 v0 rfl rfl) h0
 obtain⟨s1,rfl,rfl,rfl,w1⟩:=open_string Tryz.underlying9 (hval 1 9 v1 rfl rfl) h1
 clear hA0 hval0
 refine(walk s0 s1 W (z08 hL (by rfl)) w0 w1).mono fun e W' hend=> ?_
 obtain⟨he,X,hX⟩:=hend
 have bel:Below W.heap.size W W':=by rw[hX];exact zal W X
 subst he
 exact⟨_,rfl,_,_,_,[],_,[],hW',trodAll_mk1 (shut_bool Tryz.underlying4 _),(trodAll_cons_mk (shut_string Tryz.underlying9 w0) (trodAll_cons_mk (shut_string Tryz.underlying9 w1) trodAll_mk0)),rfl,bel.frame _,fun h=>by cases h⟩
theorem over:Rows.schemeFiltersRow.holds Tryz.pinned (OpenSpec.ofChange Rows.schemeFiltersSpec):=
 OpenClaim.holds_of_wide 4 Tryz.f4 rfl rfl rfl rfl rfl rfl rfl ⟨rfl,rfl,rfl,rfl,rfl⟩ rfl rfl rfl rfl rfl (by kernel_rfl) Tryz.func4 (by kernel_rfl)
  (of_decide_eq_true (by kernel_rfl)) (by unfold Func.isWrapper;rw[if_neg (of_decide_eq_false (by kernel_rfl))];exact⟨rfl,rfl⟩)
  (fun os started H enc _=>lifted os started H enc)
theorem proved:Rows.SchemeFiltersCardSaid:=
 Claim7.holds_tied_plain_at .later [] [.data,.pinned] true _ true over (fun _ h=>by cases h) (by kernel_rfl) (fun _ h=>by cases h) schemeFilters_row_tie rfl ⟨rfl,rfl⟩ (by kernel_rfl) rfl
  (fun f fn hf hfn=>by
   obtain rfl:f=4:=Option.some.inj ((show Tryz.prog.funcNamed "cribble/cribblelaw11.SchemeFilters" =some 4 by kernel_rfl).symm.trans hf) |>.symm
   obtain rfl:fn=Tryz.f4:=(Option.some.inj (Tryz.func4.symm.trans hfn)).symm
   exact⟨by kernel_rfl,fun j t ht=>by
    rw[Tryz.params4]at ht
    have hm:t∈[9,9]:=by simpa using Array.mem_of_getElem? ht
    have hall:([9,9].all fun u=> !Tryz.prog.wantsStandIn u)=true:=by kernel_rfl
    exact(show Tryz.prog.wantsStandIn t=false by simpa using List.all_eq_true.1 hall t hm)⟩)
  (by kernel_rfl)
end Go.Proofs.YtbhhgbgfaemfdaaGreatDoor.schemeFilters

