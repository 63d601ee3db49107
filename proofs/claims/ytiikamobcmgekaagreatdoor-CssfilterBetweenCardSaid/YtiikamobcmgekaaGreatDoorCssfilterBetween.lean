/- What is not allowed, put behind a style that is told, changes nothing: CssfilterBetween returns true. No condition: whatever the arguments. -/
import Derived.ProofKit
import Derived.ChangeSame
import Derived.ChangeAt
import Derived.SizedLaws
import Derived.OpenShut
import Derived.ShutString
import Derived.ChangeOld
import Derived.LaidMore
import Derived.Lay
import Derived.SevenTiedAt
import Derived.Stop.Joined
import Derived.Test.YtiikamobcmgekaaGreatDoorRows
import Derived.Test.YtiikamobcmgekaaGreatDoorCards
import Derived.Test.YtiikamobcmgekaaGreatDoorTie
import Derived.Test.YtiikamobcmgekaaGreatDoorFltH
import Derived.Test.YtiikamobcmgekaaGreatDoorFltF
import Derived.Test.YtiikamobcmgekaaGreatDoorFltPlainB
import Derived.Test.YtiikamobcmgekaaGreatDoorRowU
import Derived.Test.YtiikamobcmgekaaGreatDoorJCssR
import Derived.Test.YtiikamobcmgekaaGreatDoorCmpM
namespace Go.Proofs.YtiikamobcmgekaaGreatDoor.cssfilterBetween
set_option maxRecDepth 100000
set_option maxHeartbeats 8000000
open Go.ChangeShapes Go.WideShapes Go.ChangeAt Go.RowKit
open Go.ChangeMaps (open_string shut_string)
theorem own:ownKnob Tryz.prog.godebug=none:=by kernel_rfl
theorem laidOut:laidOutB Tryz.prog=true:=by kernel_rfl
attribute [local go_sem] Oper.semAt_some
theorem walk (t s u:ByteArray) (w:World) (hT:Tb w) (hX:Mx w) (_ht:t.size<=maxLen) (_hs:s.size<=maxLen) (_hu:u.size<=maxLen):Calls Tryz.prog 6 #[.string t,.string s,.string u] w (Ret (.bool true) w):=by
 have hmx:=mxd
 have HT:=Lib.hid (fun W (hb:Below w.heap.size w W)=>And.intro (Tb.below hT hb) (Mx.below hX hb))
 have HAw:=Lib.hid (awake17_any w hT hX)
 clear hT hX
 by_cases h0:9000<t.size
 ·have b0:decide ((9000:Int)<t.size)=true:=by simp;omega
  clear h0 _ht _hs _hu
  go_enter Tryz.func6,Tryz.ntmps6
  go_wp2_with(go_at_call 14;(with_reducible refine HAw.out.mono ?_);rintro e Wa ⟨rfl,Xa,rfl⟩)
  go_ret
  exact Ret.of rfl bel
 have b0:decide ((9000:Int)<t.size)=false:=by simp;omega
 by_cases h1:500<s.size
 ·have b1:decide ((500:Int)<s.size)=true:=by simp;omega
  clear h0 h1 _ht _hs _hu
  go_enter Tryz.func6,Tryz.ntmps6
  go_wp2_with(go_at_call 14;(with_reducible refine HAw.out.mono ?_);rintro e Wa ⟨rfl,Xa,rfl⟩)
  go_ret
  exact Ret.of rfl bel
 have b1:decide ((500:Int)<s.size)=false:=by simp;omega
 by_cases h2:500<u.size
 ·have b2:decide ((500:Int)<u.size)=true:=by simp;omega
  clear h0 h1 h2 _ht _hs _hu
  go_enter Tryz.func6,Tryz.ntmps6
  go_wp2_with(go_at_call 14;(with_reducible refine HAw.out.mono ?_);rintro e Wa ⟨rfl,Xa,rfl⟩)
  go_ret
  exact Ret.of rfl bel
 have b2:decide ((500:Int)<u.size)=false:=by simp;omega
 obtain⟨a,c,P,G⟩:=comp_gen t.data.toList
 have HP:=Lib.hid (fun W=>show Calls Tryz.prog 8 #[.string t] W _ from G.run W)
 by_cases hc:c=0
 rotate_left
 ·have HP1:=Lib.hid (fun W=>(HP.out W).mono (R':=fun e w'=>e= .returned (.tuple #[.pointer none,.int .i64 a,.int .i64 c])/\Below W.heap.size W w') (fun e w' h=>by
   obtain⟨h1,h2|h2⟩:=h
   ·exact⟨h2.2,h1⟩
   ·exact absurd h2.1 hc))
  have b9:((c:Int) !=0)=true:=by simp;omega
  clear HP G h0 h1 h2 _ht _hs _hu
  go_enter Tryz.func6,Tryz.ntmps6
  go_wp2_with(first
   |(go_at_call 14;(with_reducible refine HAw.out.mono ?_);rintro e Wa ⟨rfl,Xa,hXa⟩;have hba:Below w.heap.size w Wa:=(by rw[hXa];exact bel);have HA0:=Lib.hid hba;clear hXa hba)
   |(go_at_call 8;(with_reducible refine(HP1.out _).mono ?_);rintro e W1 ⟨rfl,hb1⟩;have HB1:=Lib.hid (HA0.out.trans (hb1.mono HA0.out.size));clear hb1))
  go_ret
  exact Ret.of rfl HB1.out
 have HP1:=Lib.hid (fun W=>(HP.out W).mono (R':=fun e w'=> ∃g,e= .returned (.tuple #[.pointer (some ⟨g,0,none⟩),.int .i64 0,.int .i64 0])/\Below W.heap.size W w'/\RulesV w' g P) (fun e w' h=>by
   obtain⟨h1,h2|⟨_,g,h3,_,h5⟩⟩:=h
   ·exact absurd hc h2.1
   ·exact⟨g,h3,h1,h5⟩))
 clear HP G hc
 go_enter Tryz.func6,Tryz.ntmps6
 go_upto_region 4 with(go_at_call 14;(with_reducible refine HAw.out.mono ?_);rintro e Wa ⟨rfl,Xa,hXa⟩;have hba:Below w.heap.size w Wa:=(by rw[hXa];exact bel);have HA0:=Lib.hid hba;clear hXa hba)
 go_upto_region 7 with(go_at_call 8;(with_reducible refine(HP1.out _).mono ?_);rintro e W1 ⟨g,rfl,hb1,hr1⟩;have HB1:=Lib.hid (HA0.out.trans (hb1.mono HA0.out.size));have HR1:=Lib.hid hr1;clear hb1 hr1)
 clear HP1 HAw HA0
 have hsl:s.data.toList.length<=500:=by rw[len_data];omega
 have hul:u.data.toList.length<=500:=by rw[len_data];omega
 have hps:=parsed_short (s:=s.data.toList) (by omega)
 obtain⟨F,hF⟩: ∃F,fltD P s.data.toList=F:=⟨_,rfl⟩
 have hfs:F.length<=1001/\(∀d∈F,ShortD d)/\(textD F).length<=60000000:=by rw[<-hF];exact flt_sizes P (by omega)
 have hfl:F.length<=501:=by
  rw[<-hF]
  have:=decls_few s.data.toList
  exact Nat.le_trans (last_len _) (Nat.le_trans (all_len P _) (by omega))
 have hj: ∀r:Bs,declsL (cssL (textD F++59::r))=F++declsL (cssL r):=by rw[<-hF];exact fun r=>decl_joins (fun d hd=>(flt_kept d hd).right) r
 have hne: ∀r:Bs,F≠[]->fltD P (textD F++59::r)≠[]:=by rw[<-hF];exact fun r=>flt_more P _ r
 have hbt: ∀r:Bs,cssR P zzT=false->fltD P (textD F++59::(midT++r))=fltD P (textD F++59::r):=by rw[<-hF];exact fun r h=>flt_between P _ r h
 have HTM:=Lib.hid (fun W (hb:Below W1.heap.size W1 W)=>HT.out W (HB1.out.trans (hb.mono HB1.out.size)))
 have HFi:=Lib.hid (fun W (hb:Below W1.heap.size W1 W)=>show Calls Tryz.prog 15 #[.pointer (some ⟨g,0,none⟩),.string s] W (Ret (.tuple #[.string ⟨(textD F).toArray⟩,.bool (decide (0<F.length))]) W)from
  hF ▸ filter17_any g P s.data.toList W (HR1.out.below hb) (HTM.out W hb).1 (HTM.out W hb).2 (by omega) (fun d hd=>(hps.2 d hd).1) (by have:=hps.1;omega) (by rw[hF];omega))
 have hFr: ∀(r:Bs) (_:r.length<=1000) W (hb:Below W1.heap.size W1 W),Calls Tryz.prog 15 #[.pointer (some ⟨g,0,none⟩),.string ⟨(textD F++59::r).toArray⟩] W (Ret (.tuple #[.string ⟨(textD (fltD P (textD F++59::r))).toArray⟩,.bool (decide (0<(fltD P (textD F++59::r)).length))]) W):=fun r hr W hb=>by
  have hpr:=parsed_short hr
  have hfr:=decls_few r
  have hlen:(declsL (cssL (textD F++59::r))).length<=1502:=by rw[hj,List.length_append];omega
  refine filter17_any g P (textD F++59::r) W (HR1.out.below hb) (HTM.out W hb).1 (HTM.out W hb).2 (by rw[List.length_append,List.length_cons];omega) (fun d hd=> ?_) (by omega) (Nat.le_trans (last_len _) (Nat.le_trans (all_len P _) (by omega)))
  rw[hj]at hd
  rcases List.mem_append.1 hd with hd|hd
  ·exact hfs.2.1 d hd
  ·exact(hpr.2 d hd).1
 have hF2:=hFr (midT++u.data.toList) (by rw[List.length_append,show midT.length=44 from rfl];omega)
 have hF3:=hFr u.data.toList (by omega)
 have hn3:=hne u.data.toList
 have hb3:=hbt u.data.toList
 have HCs:=Lib.hid (fun W (hb:Below W1.heap.size W1 W)=>show Calls Tryz.prog 17 #[.pointer (some ⟨g,0,none⟩),.string ⟨#[122,122,45,110,111,110,101]⟩] W (Ret (.bool (cssR P zzT)) W)from css_any g P zzT W (HR1.out.below hb) (by decide))
 obtain⟨ab,hab⟩: ∃ab:ByteArray,⟨(textD F).toArray⟩=ab:=⟨_,rfl⟩
 have hsa:ab.size<=60000000:=by rw[<-hab];exact hfs.2.2
 have hsu:u.size<=500:=by omega
 have e2:(⟨(textD F++59::(midT++u.data.toList)).toArray⟩:ByteArray)=ab++⟨#[59,32,122,122,45,110,111,110,101,58,32,49,112,120,59,32,99,111,108,111,114,59,32,119,105,100,116,104,58,32,101,120,112,114,101,115,115,105,111,110,40,49,41,59,32]⟩++u:=by rw[<-hab];refine ba_ext ?_;simp[midT]
 have e3:(⟨(textD F++59::u.data.toList).toArray⟩:ByteArray)=ab++⟨#[59]⟩++u:=by rw[<-hab];refine ba_ext ?_;simp
 rw[e2]at hF2
 rw[e3]at hF3
 generalize fltD P (textD F++59::(midT++u.data.toList))=G2 at*
 generalize fltD P (textD F++59::u.data.toList)=G3 at*
 rw[hab]at HFi
 clear hF hfs hfl hj hne hbt hFr hps hsl hul hab e2 e3 h0 h1 h2 _ht _hs _hu
 cases hD:decide (0<F.length)
 ·rw[hD]at HFi
  have HF2:=Lib.hid hF2
  have HF3:=Lib.hid hF3
  clear hF2 hF3 hD hn3 hb3
  go_wp2_with(first
   |(go_at_call 15;(with_reducible refine(HFi.out _ bel).mono ?_);rintro e V1 ⟨rfl,Y1,rfl⟩)
   |(go_at_call 15;(with_reducible refine(Ret.flat (HF2.out _ bel)).mono ?_);rintro e V2 ⟨rfl,Y2,rfl⟩)
   |(go_at_call 15;(with_reducible refine(Ret.flat (HF3.out _ bel)).mono ?_);rintro e V3 ⟨rfl,Y3,rfl⟩)
   |(go_at_call 17;(with_reducible refine(Ret.flat (HCs.out _ bel)).mono ?_);rintro e V4 ⟨rfl,Y4,rfl⟩))
  go_ret
  exact Ret.of (by simp) (HB1.out.trans ((bel:Below W1.heap.size W1 _).mono HB1.out.size))
 have hFn:F≠[]:=by rw[decide_eq_true_eq]at hD;exact List.ne_nil_of_length_pos hD
 rw[hD]at HFi
 have hn:=hn3 hFn
 clear hD hFn hn3
 cases hz:cssR P zzT
 ·have hG:=hb3 hz
  rw[hz]at HCs
  rw[hG]at hF2
  rw[decide_eq_true (List.length_pos_iff.2 hn)]at hF2 hF3
  have HF2:=Lib.hid hF2
  have HF3:=Lib.hid hF3
  clear hF2 hF3 hz hb3 hG hn
  go_wp2_with(first
   |(go_at_call 15;(with_reducible refine(HFi.out _ bel).mono ?_);rintro e V1 ⟨rfl,Y1,rfl⟩)
   |(go_at_call 15;(with_reducible refine(Ret.flat (HF2.out _ bel)).mono ?_);rintro e V2 ⟨rfl,Y2,rfl⟩)
   |(go_at_call 15;(with_reducible refine(Ret.flat (HF3.out _ bel)).mono ?_);rintro e V3 ⟨rfl,Y3,rfl⟩)
   |(go_at_call 17;(with_reducible refine(Ret.flat (HCs.out _ bel)).mono ?_);rintro e V4 ⟨rfl,Y4,rfl⟩))
  go_ret
  exact Ret.of (by simp) (HB1.out.trans ((bel:Below W1.heap.size W1 _).mono HB1.out.size))
 ·rw[hz]at HCs
  have HF2:=Lib.hid hF2
  have HF3:=Lib.hid hF3
  clear hF2 hF3 hz hb3 hn
  go_wp2_with(first
   |(go_at_call 15;(with_reducible refine(HFi.out _ bel).mono ?_);rintro e V1 ⟨rfl,Y1,rfl⟩)
   |(go_at_call 15;(with_reducible refine(Ret.flat (HF2.out _ bel)).mono ?_);rintro e V2 ⟨rfl,Y2,rfl⟩)
   |(go_at_call 15;(with_reducible refine(Ret.flat (HF3.out _ bel)).mono ?_);rintro e V3 ⟨rfl,Y3,rfl⟩)
   |(go_at_call 17;(with_reducible refine(Ret.flat (HCs.out _ bel)).mono ?_);rintro e V4 ⟨rfl,Y4,rfl⟩))
  go_ret
  exact Ret.of (by simp) (HB1.out.trans ((bel:Below W1.heap.size W1 _).mono HB1.out.size))
theorem lifted (os:Os) (started:os.Started) (H:Type) (enc:TypeId × Value->H):
  ReturnsInHanded {} Tryz.checked os 6 .any (fun w args=>(Rows.cssfilterBetweenSpec.pre enc Tryz.prog Tryz.f6 Rows.cssfilterBetweenRow.domain false w args/\laidMetH Tryz.prog Rows.cssfilterBetweenRow.laid w)/\sizedMet enc Tryz.prog Tryz.f6 (OpenSpec.ofChange Rows.cssfilterBetweenSpec) false w args) (Rows.cssfilterBetweenSpec.post enc Tryz.prog Tryz.f6 false true false false):=by
 refine handed_row (C:=Tryz.checked) (X:=fun w _=>laidMetH Tryz.prog Rows.cssfilterBetweenRow.laid w) (fun _ _ _ hh h=>h.of_heap hh) own started (by kernel_rfl) Tryz.func6
  (ChangeSpec.witness_shaped (enc:=enc) (C:=Tryz.checked) (os:=os) (X:=fun w _=>laidMetH Tryz.prog Rows.cssfilterBetweenRow.laid w) false (World.laidAll Tryz.prog os Rows.cssfilterBetweenRow.laid) #[.string ⟨#[]⟩,.string ⟨#[]⟩,.string ⟨#[]⟩] 8 (World.laidAll_os _ _ _)
   (World.shaped_of_ZipB (by kernel_rfl) (by kernel_rfl)) (by kernel_rfl) (by kernel_rfl) (by kernel_rfl)
   (by rw[MakeChecks.laidMetH_plain _ _ _ (by kernel_rfl)];exact laidMet_laidAll _ (by kernel_rfl) (by kernel_rfl))) ?_
 intro W base args ds gs before hval0 hW hL hsh
 have hval: ∀(j:Nat) t v,Tryz.f6.params[j]? =some t->args[j]? =some v->Value.okWide Tryz.prog W .any base t v:=hval0
 have hW':=hW
 obtain⟨p,q,hA0,hV,rfl,hfz,hnd⟩:=hW
 have hA:DataW.TrodAll enc Tryz.prog W 0 (fun _=>true) true Tryz.f6.params.toList args.toList ds p:=hA0
 rw[Tryz.params6]at hA hval
 obtain⟨v0,vs0,d0,ds0,p0,q0,hargs,rfl,rfl,h0,r0⟩:=trodAll_cons hA
 obtain⟨v1,vs1,d1,ds1,p1,q1,rfl,rfl,rfl,h1,r1⟩:=trodAll_cons r0
 obtain⟨v2,vs2,d2,ds2,p2,q2,rfl,rfl,rfl,h2,r2⟩:=trodAll_cons r1
 obtain⟨rfl,rfl,rfl⟩:=trodAll_nil r2
 obtain rfl:args= #[v0,v1,v2]:=by cases args;simp_all
 obtain⟨rfl,rfl⟩:=trodVars_none hV
 obtain⟨s0,rfl,rfl,rfl,w0⟩:=open_string Tryz.underlying9 (hval 0 9 v0 rfl rfl) h0
 obtain⟨s1,rfl,rfl,rfl,w1⟩:=open_string Tryz.underlying9 (hval 1 9 v1 rfl rfl) h1
 obtain⟨s2,rfl,rfl,rfl,w2⟩:=open_string Tryz.underlying9 (hval 2 9 v2 rfl rfl) h2
 clear hA0 hval0
 refine(walk s0 s1 s2 W (tb_laid hL (by kernel_rfl)) (mx_shape hsh) w0 w1 w2).mono fun e W' hend=> ?_
 obtain⟨he,X,hX⟩:=hend
 have bel:Below W.heap.size W W':=by rw[hX];exact below_grow W X
 subst he
 exact⟨_,rfl,_,_,_,[],_,[],hW',trodAll_mk1 (shut_bool Tryz.underlying4 _),(trodAll_cons_mk (shut_string Tryz.underlying9 w0) (trodAll_cons_mk (shut_string Tryz.underlying9 w1) (trodAll_cons_mk (shut_string Tryz.underlying9 w2) trodAll_mk0))),rfl,bel.frame _,fun h=>by cases h⟩
theorem over:Rows.cssfilterBetweenRow.holds Tryz.pinned (OpenSpec.ofChange Rows.cssfilterBetweenSpec):=
 OpenClaim.holds_of_wide 6 Tryz.f6 rfl rfl rfl rfl rfl rfl rfl ⟨rfl,rfl,rfl,rfl,rfl⟩ rfl rfl rfl rfl rfl (by kernel_rfl) Tryz.func6 (by kernel_rfl)
  (of_decide_eq_true (by kernel_rfl)) (by unfold Func.isWrapper;rw[if_neg (of_decide_eq_false (by kernel_rfl))];exact⟨rfl,rfl⟩)
  (fun os started H enc _=>lifted os started H enc)
theorem proved:Rows.CssfilterBetweenCardSaid:=
 Claim7.holds_tied_plain_at .later [] [.data,.data,.data,.data,.pinned] true _ true over (fun _ h=>by cases h) (by kernel_rfl) (fun _ h=>by cases h) cssfilterBetween_row_tie rfl ⟨rfl,rfl⟩ (by kernel_rfl) rfl
  (fun f fn hf hfn=>by
   obtain rfl:f=6:=Option.some.inj ((show Tryz.prog.funcNamed "cribble/cribblelaw17.CssfilterBetween" =some 6 by kernel_rfl).symm.trans hf) |>.symm
   obtain rfl:fn=Tryz.f6:=(Option.some.inj (Tryz.func6.symm.trans hfn)).symm
   exact⟨by kernel_rfl,fun j t ht=>by
    rw[Tryz.params6]at ht
    have hm:t∈[9,9,9]:=by simpa using Array.mem_of_getElem? ht
    have hall:([9,9,9].all fun u=> !Tryz.prog.wantsStandIn u)=true:=by kernel_rfl
    exact(show Tryz.prog.wantsStandIn t=false by simpa using List.all_eq_true.1 hall t hm)⟩)
  (by kernel_rfl)
end Go.Proofs.YtiikamobcmgekaaGreatDoor.cssfilterBetween

