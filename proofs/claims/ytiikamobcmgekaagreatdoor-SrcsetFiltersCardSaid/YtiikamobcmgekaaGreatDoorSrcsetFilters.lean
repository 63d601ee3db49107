/- Any text, by any rules: SrcsetFilters returns true. No condition: whatever the arguments. -/
import Derived.ProofKit
import Derived.ChangeSame
import Derived.ChangeAt
import Derived.SizedLaws
import Derived.OpenShut
import Derived.ShutString
import Derived.ChangeOld
import Derived.LaidMore
import Derived.Lay
import Derived.SevenTiedAt
import Derived.Stop.Joined
import Derived.Test.YtiikamobcmgekaaGreatDoorRows
import Derived.Test.YtiikamobcmgekaaGreatDoorCards
import Derived.Test.YtiikamobcmgekaaGreatDoorTie
import Derived.Test.YtiikamobcmgekaaGreatDoorPicV
import Derived.Test.YtiikamobcmgekaaGreatDoorPicW
import Derived.Test.YtiikamobcmgekaaGreatDoorCmpV
import Derived.Test.YtiikamobcmgekaaGreatDoorRowU
namespace Go.Proofs.YtiikamobcmgekaaGreatDoor.srcsetFilters
open Lib renaming hid→z2c
open Go.Proofs.Tryz renaming func3→z5m,prog→z2f,underlying9→z3e
set_option maxRecDepth 100000
set_option maxHeartbeats 8000000
open Go.ChangeShapes Go.WideShapes Go.ChangeAt Go.RowKit
open Go.ChangeMaps (open_string shut_string)
theorem own:ownKnob z2f.godebug=none:=by kernel_rfl
theorem laidOut:laidOutB z2f=true:=by kernel_rfl
attribute [local go_sem] Oper.semAt_some
theorem walk (t s:ByteArray) (w:World) (hT:U8 w) (_ht:t.size<=maxLen) (_hs:s.size<=maxLen):Calls z2f 3 #[.string t,.string s] w (Ret (.bool true) w):=by
 have hmx:=mxd;have HT:=z2c hT;have HAw:=z2c (zrp w);clear hT;by_cases h0:9000<t.size
 ·have b0:decide ((9000:Int)<t.size)=true:=by simp;omega
  clear h0 _ht _hs;go_enter z5m,Tryz.ntmps3;go_wp2_with(go_at_call 7;(with_reducible refine HAw.out.mono ?_);rintro e Wa ⟨rfl,Xa,rfl⟩)
  go_ret;exact Ret.of rfl bel
 have b0:decide ((9000:Int)<t.size)=false:=by simp;omega
 by_cases h1:1000<s.size
 ·have b1:decide ((1000:Int)<s.size)=true:=by simp;omega
  clear h0 h1 _ht _hs;go_enter z5m,Tryz.ntmps3;go_wp2_with(go_at_call 7;(with_reducible refine HAw.out.mono ?_);rintro e Wa ⟨rfl,Xa,rfl⟩)
  go_ret;exact Ret.of rfl bel
 have b1:decide ((1000:Int)<s.size)=false:=by simp;omega
 obtain⟨a,c,P,G⟩:=z0m t.data.toList;have HP:=z2c (fun W=>show Calls z2f 8 #[.string t] W _ from G.run W);by_cases hc:c=0;rotate_left
 ·have hce:ziq t.data.toList= .error ⟨a,c⟩:=by
   rcases G.says with⟨h1,_⟩|⟨_,_,h1⟩
   ·exact absurd h1 hc
   ·exact h1
  have HP1:=z2c (fun W=>(HP.out W).mono (R':=fun e w'=>e= .returned (.tuple #[.pointer none,.int .i64 a,.int .i64 c])/\Below W.heap.size W w') (fun e w' h=>by
   obtain⟨h1,h2|h2⟩:=h
   ·exact⟨h2.2,h1⟩
   ·exact absurd h2.1 hc))
  have HQ1:=z2c (fun W=>show Calls z2f 9 #[.string t] W _ from zw4 hce W);have b9:((c:Int) !=0)=true:=by simp;omega
  have b8:((c:Int)==c)=true:=by simp
  clear HP G hce h0 h1 _ht _hs;go_enter z5m,Tryz.ntmps3;go_wp2_with(first
   |(go_at_call 7;(with_reducible refine HAw.out.mono ?_);rintro e Wa ⟨rfl,Xa,hXa⟩;have hba:Below w.heap.size w Wa:=(by rw[hXa];exact bel);have HA0:=z2c hba;clear hXa hba)
   |(go_at_call 8;(with_reducible refine(HP1.out _).mono ?_);rintro e W1 ⟨rfl,hb1⟩;have HB1:=z2c (HA0.out.trans (hb1.mono HA0.out.size));clear hb1)
   |(go_at_call 9;(with_reducible refine(HQ1.out _).mono ?_);rintro e W2 ⟨rfl,hb2⟩;have HB2:=z2c (HB1.out.trans (hb2.mono HB1.out.size));clear hb2))
  go_ret;exact Ret.of rfl HB2.out
 obtain⟨hP,hr⟩:ziq t.data.toList= .ok P/\zco P=true:=by
  rcases G.says with⟨_,_,h2,h3⟩|⟨h1,_⟩
  ·exact⟨h2,h3⟩
  ·exact absurd hc h1
 have HP1:=z2c (fun W=>(HP.out W).mono (R':=fun e w'=> ∃g,e= .returned (.tuple #[.pointer (some ⟨g,0,none⟩),.int .i64 0,.int .i64 0])/\Below W.heap.size W w'/\zdh w' g P) (fun e w' h=>by
  obtain⟨h1,h2|⟨_,g,h3,_,h5⟩⟩:=h
  ·exact absurd hc h2.1
  ·exact⟨g,h3,h1,h5⟩))
 have HQ1:=z2c (fun W=>show Calls z2f 9 #[.string t] W _ from zzw hP W);clear HP G hc hP hr;go_enter z5m,Tryz.ntmps3;go_upto_region 4 with(go_at_call 7;(with_reducible refine HAw.out.mono ?_);rintro e Wa ⟨rfl,Xa,hXa⟩;have hba:Below w.heap.size w Wa:=(by rw[hXa];exact bel);have HA0:=z2c hba;clear hXa hba)
 go_upto_region 5 with(go_at_call 8;(with_reducible refine(HP1.out _).mono ?_);rintro e W1 ⟨g,rfl,hb1,hr1⟩;have HB1:=z2c (HA0.out.trans (hb1.mono HA0.out.size));have HR1:=z2c hr1;clear hb1 hr1)
 go_upto_region 7 with(go_at_call 9;(with_reducible refine(HQ1.out _).mono ?_);rintro e W2 ⟨gx,rfl,hb2,hr2⟩;have HB2:=z2c (HB1.out.trans (hb2.mono HB1.out.size));have HR2:=z2c (HR1.out.below hb2);have HX2:=z2c hr2;clear hb2 hr2)
 clear HP1 HQ1 HAw HA0 HB1 HR1;have hsl:s.data.toList.length<=1000:=by rw[zag];omega
 have hps:=zxe 1000 _ hsl;have hpf:=zqr _ s.data.toList (Nat.le_refl _);obtain⟨F,hF⟩: ∃F,zch P (picL s.data.toList)=F:=⟨_,rfl⟩;have HFi:=z2c (fun W (hb:Below W2.heap.size W2 W)=>show Calls z2f 10 #[.pointer (some ⟨g,0,none⟩),.string s] W (Ret (.tuple #[.string ⟨(zd0 F).toArray⟩,.bool (decide (0<F.length))]) W)from
  hF ▸ zo6 g P s.data.toList W (HR2.out.below hb) ((HT.out.below HB2.out).below hb) (by omega) (fun p hp=>by have:=hps p hp;omega) (by omega))
 have HFj:=z2c (fun W (hb:Below W2.heap.size W2 W)=>show Calls z2f 11 #[.pointer (some ⟨gx,0,none⟩),.string s] W (Ret (.tuple #[.string ⟨(zd0 F).toArray⟩,.bool (decide (0<F.length))]) W)from
  hF ▸ zmr gx P s.data.toList W (HX2.out.below hb) (by omega) (fun p hp=>by have:=hps p hp;omega) (by omega))
 obtain⟨fa,hfa⟩: ∃fa:ByteArray,⟨(zd0 F).toArray⟩=fa:=⟨_,rfl⟩;generalize decide (0<F.length)=fb at*;rw[hfa]at HFi HFj;clear hF hfa hps hpf hsl h0 h1 _ht _hs HR2 HX2;go_wp2_with(first
  |(go_at_call 10;(with_reducible refine(HFi.out _ bel).mono ?_);rintro e V1 ⟨rfl,Y1,rfl⟩)
  |(go_at_call 10;(with_reducible refine(Ret.flat (HFi.out _ bel)).mono ?_);rintro e V1 ⟨rfl,Y1,rfl⟩)
  |(go_at_call 11;(with_reducible refine(Ret.flat (HFj.out _ bel)).mono ?_);rintro e V2 ⟨rfl,Y2,rfl⟩))
 go_ret;exact Ret.of (by simp) (HB2.out.trans ((bel:Below W2.heap.size W2 _).mono HB2.out.size))
theorem lifted (os:Os) (started:os.Started) (H:Type) (enc:TypeId × Value->H):
  ReturnsInHanded {} Tryz.checked os 3 .any (fun w args=>(Rows.srcsetFiltersSpec.pre enc z2f Tryz.f3 Rows.srcsetFiltersRow.domain false w args/\laidMetH z2f Rows.srcsetFiltersRow.laid w)/\sizedMet enc z2f Tryz.f3 (OpenSpec.ofChange Rows.srcsetFiltersSpec) false w args) (Rows.srcsetFiltersSpec.post enc z2f Tryz.f3 false true false false):=by
 refine zud (C:=Tryz.checked) (X:=fun w _=>laidMetH z2f Rows.srcsetFiltersRow.laid w) (fun _ _ _ hh h=>h.of_heap hh) own started (by kernel_rfl) z5m
  (ChangeSpec.witness_shaped (enc:=enc) (C:=Tryz.checked) (os:=os) (X:=fun w _=>laidMetH z2f Rows.srcsetFiltersRow.laid w) false (World.laidAll z2f os Rows.srcsetFiltersRow.laid) #[.string ⟨#[]⟩,.string ⟨#[]⟩] 8 (World.laidAll_os _ _ _)
   (World.shaped_of_ZipB (by kernel_rfl) (by kernel_rfl)) (by kernel_rfl) (by kernel_rfl) (by kernel_rfl)
   (by rw[MakeChecks.laidMetH_plain _ _ _ (by kernel_rfl)];exact laidMet_laidAll _ (by kernel_rfl) (by kernel_rfl))) ?_
 intro W base args ds gs before hval0 hW hL _;have hval: ∀(j:Nat) t v,Tryz.f3.params[j]? =some t->args[j]? =some v->Value.okWide z2f W .any base t v:=hval0;have hW':=hW;obtain⟨p,q,hA0,hV,rfl,hfz,hnd⟩:=hW;have hA:DataW.TrodAll enc z2f W 0 (fun _=>true) true Tryz.f3.params.toList args.toList ds p:=hA0;rw[Tryz.params3]at hA hval;obtain⟨v0,vs0,d0,ds0,p0,q0,hargs,rfl,rfl,h0,r0⟩:=trodAll_cons hA;obtain⟨v1,vs1,d1,ds1,p1,q1,rfl,rfl,rfl,h1,r1⟩:=trodAll_cons r0;obtain⟨rfl,rfl,rfl⟩:=trodAll_nil r1;obtain rfl:args= #[v0,v1]:=by cases args;simp_all
 obtain⟨rfl,rfl⟩:=trodVars_none hV;obtain⟨s0,rfl,rfl,rfl,w0⟩:=open_string z3e (hval 0 9 v0 rfl rfl) h0;obtain⟨s1,rfl,rfl,rfl,w1⟩:=open_string z3e (hval 1 9 v1 rfl rfl) h1;clear hA0 hval0;refine(walk s0 s1 W (u8_row hL (by kernel_rfl)) w0 w1).mono fun e W' hend=> ?_;obtain⟨he,X,hX⟩:=hend;have bel:Below W.heap.size W W':=by rw[hX];exact zav W X
 subst he;exact⟨_,rfl,_,_,_,[],_,[],hW',trodAll_mk1 (shut_bool Tryz.underlying4 _),(trodAll_cons_mk (shut_string z3e w0) (trodAll_cons_mk (shut_string z3e w1) trodAll_mk0)),rfl,bel.frame _,fun h=>by cases h⟩
theorem over:Rows.srcsetFiltersRow.holds Tryz.pinned (OpenSpec.ofChange Rows.srcsetFiltersSpec):=
 OpenClaim.holds_of_wide 3 Tryz.f3 rfl rfl rfl rfl rfl rfl rfl ⟨rfl,rfl,rfl,rfl,rfl⟩ rfl rfl rfl rfl rfl (by kernel_rfl) z5m (by kernel_rfl)
  (of_decide_eq_true (by kernel_rfl)) (by unfold Func.isWrapper;rw[if_neg (of_decide_eq_false (by kernel_rfl))];exact⟨rfl,rfl⟩)
  (fun os started H enc _=>lifted os started H enc)
theorem proved:Rows.SrcsetFiltersCardSaid:=
 Claim7.holds_tied_plain_at .later [] [.data,.pinned] true _ true over (fun _ h=>by cases h) (by kernel_rfl) (fun _ h=>by cases h) srcsetFilters_row_tie rfl ⟨rfl,rfl⟩ (by kernel_rfl) rfl
  (fun f fn hf hfn=>by
   obtain rfl:f=3:=Option.some.inj ((show z2f.funcNamed "cribble/cribblelaw12.SrcsetFilters" =some 3 by kernel_rfl).symm.trans hf) |>.symm
   obtain rfl:fn=Tryz.f3:=(Option.some.inj (z5m.symm.trans hfn)).symm;exact⟨by kernel_rfl,fun j t ht=>by
    rw[Tryz.params3]at ht;have hm:t∈[9,9]:=by simpa using Array.mem_of_getElem? ht
    have hall:([9,9].all fun u=> !z2f.wantsStandIn u)=true:=by kernel_rfl
    exact(show z2f.wantsStandIn t=false by simpa using List.all_eq_true.1 hall t hm)⟩)
  (by kernel_rfl)
end Go.Proofs.YtiikamobcmgekaaGreatDoor.srcsetFilters

