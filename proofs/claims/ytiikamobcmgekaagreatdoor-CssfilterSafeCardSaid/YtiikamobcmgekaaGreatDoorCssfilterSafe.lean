/- What is filtered is filtered as it is; all of it is allowed; of one name, and one importance, there is one: CssfilterSafe returns true. No condition: whatever the arguments. -/
import Derived.ProofKit
import Derived.ChangeSame
import Derived.ChangeAt
import Derived.SizedLaws
import Derived.OpenShut
import Derived.ShutString
import Derived.ChangeOld
import Derived.LaidMore
import Derived.Lay
import Derived.SevenTiedAt
import Derived.Stop.Joined
import Derived.Test.YtiikamobcmgekaaGreatDoorRows
import Derived.Test.YtiikamobcmgekaaGreatDoorCards
import Derived.Test.YtiikamobcmgekaaGreatDoorTie
import Derived.Test.YtiikamobcmgekaaGreatDoorFltH
import Derived.Test.YtiikamobcmgekaaGreatDoorFltF
import Derived.Test.YtiikamobcmgekaaGreatDoorRowU
import Derived.Test.YtiikamobcmgekaaGreatDoorJCssR
import Derived.Test.YtiikamobcmgekaaGreatDoorCmpM
namespace Go.Proofs.YtiikamobcmgekaaGreatDoor.cssfilterSafe
set_option maxRecDepth 100000
set_option maxHeartbeats 8000000
open Go.ChangeShapes Go.WideShapes Go.ChangeAt Go.RowKit
open Go.ChangeMaps (open_string shut_string)
theorem own:ownKnob Tryz.prog.godebug=none:=by kernel_rfl
theorem laidOut:laidOutB Tryz.prog=true:=by kernel_rfl
attribute [local go_sem] Oper.semAt_some
theorem walk (t s:ByteArray) (w:World) (hT:Tb w) (hX:Mx w) (_ht:t.size<=maxLen) (_hs:s.size<=maxLen):Calls Tryz.prog 5 #[.string t,.string s] w (Ret (.bool true) w):=by
 have hmx:=mxd
 have HT:=Lib.hid (fun W (hb:Below w.heap.size w W)=>And.intro (Tb.below hT hb) (Mx.below hX hb))
 have HAw:=Lib.hid (awake17_any w hT hX)
 clear hT hX
 by_cases h0:9000<t.size
 ·have b0:decide ((9000:Int)<t.size)=true:=by simp;omega
  clear h0 _ht _hs
  go_enter Tryz.func5,Tryz.ntmps5
  go_wp2_with(go_at_call 14;(with_reducible refine HAw.out.mono ?_);rintro e Wa ⟨rfl,Xa,rfl⟩)
  go_ret
  exact Ret.of rfl bel
 have b0:decide ((9000:Int)<t.size)=false:=by simp;omega
 by_cases h1:1000<s.size
 ·have b1:decide ((1000:Int)<s.size)=true:=by simp;omega
  clear h0 h1 _ht _hs
  go_enter Tryz.func5,Tryz.ntmps5
  go_wp2_with(go_at_call 14;(with_reducible refine HAw.out.mono ?_);rintro e Wa ⟨rfl,Xa,rfl⟩)
  go_ret
  exact Ret.of rfl bel
 have b1:decide ((1000:Int)<s.size)=false:=by simp;omega
 obtain⟨a,c,P,G⟩:=comp_gen t.data.toList
 have HP:=Lib.hid (fun W=>show Calls Tryz.prog 8 #[.string t] W _ from G.run W)
 by_cases hc:c=0
 rotate_left
 ·have HP1:=Lib.hid (fun W=>(HP.out W).mono (R':=fun e w'=>e= .returned (.tuple #[.pointer none,.int .i64 a,.int .i64 c])/\Below W.heap.size W w') (fun e w' h=>by
   obtain⟨h1,h2|h2⟩:=h
   ·exact⟨h2.2,h1⟩
   ·exact absurd h2.1 hc))
  have b9:((c:Int) !=0)=true:=by simp;omega
  clear HP G h0 h1 _ht _hs
  go_enter Tryz.func5,Tryz.ntmps5
  go_wp2_with(first
   |(go_at_call 14;(with_reducible refine HAw.out.mono ?_);rintro e Wa ⟨rfl,Xa,hXa⟩;have hba:Below w.heap.size w Wa:=(by rw[hXa];exact bel);have HA0:=Lib.hid hba;clear hXa hba)
   |(go_at_call 8;(with_reducible refine(HP1.out _).mono ?_);rintro e W1 ⟨rfl,hb1⟩;have HB1:=Lib.hid (HA0.out.trans (hb1.mono HA0.out.size));clear hb1))
  go_ret
  exact Ret.of rfl HB1.out
 have HP1:=Lib.hid (fun W=>(HP.out W).mono (R':=fun e w'=> ∃g,e= .returned (.tuple #[.pointer (some ⟨g,0,none⟩),.int .i64 0,.int .i64 0])/\Below W.heap.size W w'/\RulesV w' g P) (fun e w' h=>by
   obtain⟨h1,h2|⟨_,g,h3,_,h5⟩⟩:=h
   ·exact absurd hc h2.1
   ·exact⟨g,h3,h1,h5⟩))
 clear HP G hc
 go_enter Tryz.func5,Tryz.ntmps5
 go_upto_region 4 with(go_at_call 14;(with_reducible refine HAw.out.mono ?_);rintro e Wa ⟨rfl,Xa,hXa⟩;have hba:Below w.heap.size w Wa:=(by rw[hXa];exact bel);have HA0:=Lib.hid hba;clear hXa hba)
 go_upto_region 7 with(go_at_call 8;(with_reducible refine(HP1.out _).mono ?_);rintro e W1 ⟨g,rfl,hb1,hr1⟩;have HB1:=Lib.hid (HA0.out.trans (hb1.mono HA0.out.size));have HR1:=Lib.hid hr1;clear hb1 hr1)
 clear HP1 HAw HA0
 have hsl:s.data.toList.length<=1000:=by rw[len_data];omega
 have hps:=parsed_short hsl
 obtain⟨F,hF⟩: ∃F,fltD P s.data.toList=F:=⟨_,rfl⟩
 have hfs:F.length<=1001/\(∀d∈F,ShortD d)/\(textD F).length<=60000000:=by rw[<-hF];exact flt_sizes P hsl
 have hfp:declsL (cssL (textD F))=F:=by rw[<-hF];exact flt_parse _ _
 have hfa:fltD P (textD F)=F:=by rw[<-hF];exact flt_again _ _
 have hfk: ∀d∈F,Kept P d:=by rw[<-hF];exact flt_kept
 have HAp:Hid (∀(i k:Nat) (hi:i<F.length) (_:k<i),keyD (F[k]'(by omega)) F[i]=false):=by show ∀_ _ _ _,_;rw[<-hF];exact last_apart _
 have hne:textD F=[]↔F=[]:=by
  constructor
  ·intro h;rw[<-hfp,h];rfl
  ·intro h;rw[h];rfl
 have HTM:=Lib.hid (fun W (hb:Below W1.heap.size W1 W)=>HT.out W (HB1.out.trans (hb.mono HB1.out.size)))
 have HFi:=Lib.hid (fun W (hb:Below W1.heap.size W1 W)=>show Calls Tryz.prog 15 #[.pointer (some ⟨g,0,none⟩),.string s] W (Ret (.tuple #[.string ⟨(textD F).toArray⟩,.bool (decide (0<F.length))]) W)from
  hF ▸ filter17_any g P s.data.toList W (HR1.out.below hb) (HTM.out W hb).1 (HTM.out W hb).2 (by omega) (fun d hd=>(hps.2 d hd).1) (by have:=hps.1;omega) (by rw[hF];omega))
 have HFk:=Lib.hid (fun W (hb:Below W1.heap.size W1 W)=>show Calls Tryz.prog 15 #[.pointer (some ⟨g,0,none⟩),.string ⟨(textD F).toArray⟩] W (Ret (.tuple #[.string ⟨(textD F).toArray⟩,.bool (decide (0<F.length))]) W)from by
  have h:=filter17_any g P (textD F) W (HR1.out.below hb) (HTM.out W hb).1 (HTM.out W hb).2 (by omega) (by rw[hfp];exact hfs.2.1) (by rw[hfp];omega) (by rw[hfa];omega)
  rw[hfa]at h
  exact h)
 have HPs:=Lib.hid (fun W (hb:Below W1.heap.size W1 W)=>show Calls Tryz.prog 16 #[.string ⟨(textD F).toArray⟩] W (RetD W F)from by
  have h:=parse_anyQ (textD F) W (HTM.out W hb).2 (by omega)
  rw[hfp]at h
  exact h)
 have HCs:=Lib.hid (fun(d:Dcl) (hd:d∈F) W (hb:Below W1.heap.size W1 W)=>show Calls Tryz.prog 17 #[.pointer (some ⟨g,0,none⟩),.string ⟨d.name.toArray⟩] W (Ret (.bool true) W)from by
  have h:=css_any g P d.name W (HR1.out.below hb) (by have:=(hfs.2.1 d hd).2.2;unfold maxLen;omega)
  rw[(hfk d hd).css]at h
  exact h)
 obtain⟨ab,hab⟩: ∃ab:ByteArray,⟨(textD F).toArray⟩=ab:=⟨_,rfl⟩
 rw[hab]at HFi HFk HPs
 have hfl:=hfs.1
 clear hF hfs hfp hfa hfk hps hsl h0 h1 _ht _hs
 go_upto_region 10 with(first
  |(go_at_call 15;(with_reducible refine(HFi.out _ bel).mono ?_);rintro e V1 ⟨rfl,Y1,rfl⟩)
  |(go_at_call 15;(with_reducible refine(Ret.flat (HFk.out _ bel)).mono ?_);rintro e V2 ⟨rfl,Y2,rfl⟩)
  |(go_at_call 16;(with_reducible refine(HPs.out _ bel).mono ?_);rintro e V3 ⟨A3,c3,X3,rfl,hV3,_,_,hr3⟩;rw[<-hV3]at hr3;have HR3:=Lib.hid hr3;have HB3:Hid (Below W1.heap.size W1 V3):=(by show Below _ _ _;rw[hV3];exact bel);clear hV3 hr3))
 clear HFi HFk HPs
 go_wp2_with fail
 go_loopw [14] (fun i wr=> ∃(k:Nat) (X:Gr),k<=F.length/\i= .int .i64 k/\wr=V3.grow X) (fun i _=>F.length-(intOf i).toNat)
 case atStart=>exact⟨0,_,by omega,rfl,(grow_refl V3).symm⟩
 case round=>
  obtain⟨k,X,hk,rfl,rfl⟩:=hrel
  by_cases hlt:k<F.length
  ·obtain⟨b,off,vd,rfl,hb,_,c0,_,c2⟩:=HR3.out.at k hlt
   have HCk:=Lib.hid (fun W (hb:Below V3.heap.size V3 W)=>HCs.out F[k] (List.getElem_mem hlt) W (HB3.out.trans (hb.mono HB3.out.size)))
   have HAk:=Lib.hid (fun q (hq:q<k)=>HAp.out k q hlt hq)
   generalize hFk:F[k]=d at*
   simp only[sv]at c0
   have x0:=cell_grow (X:=X) c0
   go_upto_region 15 with(go_at_call 17;(with_reducible refine(Ret.flat (HCk.out _ bel)).mono ?_);rintro e w' ⟨rfl,Y9,rfl⟩)
   clear x0
   go_wp2_with fail
   go_loopw [15] (fun i wr=> ∃(q:Nat) (Y:Gr),q<=k/\i= .int .i64 q/\wr=V3.grow Y) (fun i _=>k-(intOf i).toNat)
   case atStart=>exact⟨0,_,by omega,rfl,rfl⟩
   case round=>
    obtain⟨q,Y,hq,rfl,rfl⟩:=hrel
    by_cases hql:q<k
    ·obtain⟨b2,off2,vq,he2,_,_,e0,_,e2⟩:=HR3.out.at q (by omega)
     simp only[Option.some.injEq,Addr.mk.injEq]at he2
     obtain⟨rfl,rfl,_⟩:=he2
     have hkd:=HAk.out q hql
     have hqF:q<F.length:=by omega
     generalize F[q]=d2 at*
     simp only[sv]at e0
     have y0:=cell_grow (X:=Y) c0
     have y2:=cell_grow (X:=Y) c2
     have z0:=cell_grow (X:=Y) e0
     have z2:=cell_grow (X:=Y) e2
     have hbY:b<(V3.grow Y).heap.size:=Nat.lt_of_lt_of_le hb (below_grow V3 Y).size
     have hN:((⟨d2.name.toArray⟩:ByteArray).toList==(⟨d.name.toArray⟩:ByteArray).toList)=decide (d2.name=d.name):=ba_bq _ _
     unfold keyD at hkd
     generalize(⟨d2.name.toArray⟩:ByteArray)=n2 at*
     generalize(⟨d.name.toArray⟩:ByteArray)=n1 at*
     generalize d2.imp=i2 at*
     generalize d.imp=i1 at*
     clear c0 c2 e0 e2 HAk HCk
     cases hnn:decide (d2.name=d.name)
     ·rw[hnn]at hN
      go_wp2_with fail
      refine wp_region_grow (by kernel_rfl) (by kernel_rfl) ?_
      repeat(go_big_quiet_step(fail))
      refine wpQuiet_nil ?_
      intro _ hw';obtain⟨nq,hw''⟩:=hw';subst hw''
      go_wp2_with fail
      go_roundw
      case rel=>exact⟨q+1,_,by omega,by go_num,grow_grow _ _ _⟩
      case measure=>simp[intOf];omega
     ·rw[hnn]at hN
      have hIm:(i2==i1)=false:=by
       rw[decide_eq_true_eq]at hnn
       rw[hnn,decide_eq_true rfl,Bool.true_and]at hkd
       rw[<-hkd];exact Bool.beq_comm
      go_wp2_with fail
      refine wp_region_grow (by kernel_rfl) (by kernel_rfl) ?_
      repeat(go_big_quiet_step(fail))
      refine wpQuiet_nil ?_
      intro _ hw';obtain⟨nq,hw''⟩:=hw';subst hw''
      go_wp2_with fail
      go_roundw
      case rel=>exact⟨q+1,_,by omega,by go_num,grow_grow _ _ _⟩
      case measure=>simp[intOf];omega
    ·have hqk:q=k:=by omega
     subst hqk
     go_wp2_with fail
     go_roundw
     case rel=>exact⟨q+1,_,by omega,by go_num,rfl⟩
     case measure=>simp[intOf];omega
  ·have hkn:k=F.length:=by omega
   go_wp2_with fail
   go_ret
   exact Ret.of (by simp) (HB1.out.trans ((HB3.out.trans ((bel:Below V3.heap.size V3 _).mono HB3.out.size)).mono HB1.out.size))
theorem lifted (os:Os) (started:os.Started) (H:Type) (enc:TypeId × Value->H):
  ReturnsInHanded {} Tryz.checked os 5 .any (fun w args=>(Rows.cssfilterSafeSpec.pre enc Tryz.prog Tryz.f5 Rows.cssfilterSafeRow.domain false w args/\laidMetH Tryz.prog Rows.cssfilterSafeRow.laid w)/\sizedMet enc Tryz.prog Tryz.f5 (OpenSpec.ofChange Rows.cssfilterSafeSpec) false w args) (Rows.cssfilterSafeSpec.post enc Tryz.prog Tryz.f5 false true false false):=by
 refine handed_row (C:=Tryz.checked) (X:=fun w _=>laidMetH Tryz.prog Rows.cssfilterSafeRow.laid w) (fun _ _ _ hh h=>h.of_heap hh) own started (by kernel_rfl) Tryz.func5
  (ChangeSpec.witness_shaped (enc:=enc) (C:=Tryz.checked) (os:=os) (X:=fun w _=>laidMetH Tryz.prog Rows.cssfilterSafeRow.laid w) false (World.laidAll Tryz.prog os Rows.cssfilterSafeRow.laid) #[.string ⟨#[]⟩,.string ⟨#[]⟩] 8 (World.laidAll_os _ _ _)
   (World.shaped_of_ZipB (by kernel_rfl) (by kernel_rfl)) (by kernel_rfl) (by kernel_rfl) (by kernel_rfl)
   (by rw[MakeChecks.laidMetH_plain _ _ _ (by kernel_rfl)];exact laidMet_laidAll _ (by kernel_rfl) (by kernel_rfl))) ?_
 intro W base args ds gs before hval0 hW hL hsh
 have hval: ∀(j:Nat) t v,Tryz.f5.params[j]? =some t->args[j]? =some v->Value.okWide Tryz.prog W .any base t v:=hval0
 have hW':=hW
 obtain⟨p,q,hA0,hV,rfl,hfz,hnd⟩:=hW
 have hA:DataW.TrodAll enc Tryz.prog W 0 (fun _=>true) true Tryz.f5.params.toList args.toList ds p:=hA0
 rw[Tryz.params5]at hA hval
 obtain⟨v0,vs0,d0,ds0,p0,q0,hargs,rfl,rfl,h0,r0⟩:=trodAll_cons hA
 obtain⟨v1,vs1,d1,ds1,p1,q1,rfl,rfl,rfl,h1,r1⟩:=trodAll_cons r0
 obtain⟨rfl,rfl,rfl⟩:=trodAll_nil r1
 obtain rfl:args= #[v0,v1]:=by cases args;simp_all
 obtain⟨rfl,rfl⟩:=trodVars_none hV
 obtain⟨s0,rfl,rfl,rfl,w0⟩:=open_string Tryz.underlying9 (hval 0 9 v0 rfl rfl) h0
 obtain⟨s1,rfl,rfl,rfl,w1⟩:=open_string Tryz.underlying9 (hval 1 9 v1 rfl rfl) h1
 clear hA0 hval0
 refine(walk s0 s1 W (tb_laid hL (by kernel_rfl)) (mx_shape hsh) w0 w1).mono fun e W' hend=> ?_
 obtain⟨he,X,hX⟩:=hend
 have bel:Below W.heap.size W W':=by rw[hX];exact below_grow W X
 subst he
 exact⟨_,rfl,_,_,_,[],_,[],hW',trodAll_mk1 (shut_bool Tryz.underlying4 _),(trodAll_cons_mk (shut_string Tryz.underlying9 w0) (trodAll_cons_mk (shut_string Tryz.underlying9 w1) trodAll_mk0)),rfl,bel.frame _,fun h=>by cases h⟩
theorem over:Rows.cssfilterSafeRow.holds Tryz.pinned (OpenSpec.ofChange Rows.cssfilterSafeSpec):=
 OpenClaim.holds_of_wide 5 Tryz.f5 rfl rfl rfl rfl rfl rfl rfl ⟨rfl,rfl,rfl,rfl,rfl⟩ rfl rfl rfl rfl rfl (by kernel_rfl) Tryz.func5 (by kernel_rfl)
  (of_decide_eq_true (by kernel_rfl)) (by unfold Func.isWrapper;rw[if_neg (of_decide_eq_false (by kernel_rfl))];exact⟨rfl,rfl⟩)
  (fun os started H enc _=>lifted os started H enc)
theorem proved:Rows.CssfilterSafeCardSaid:=
 Claim7.holds_tied_plain_at .later [] [.data,.data,.data,.data,.pinned] true _ true over (fun _ h=>by cases h) (by kernel_rfl) (fun _ h=>by cases h) cssfilterSafe_row_tie rfl ⟨rfl,rfl⟩ (by kernel_rfl) rfl
  (fun f fn hf hfn=>by
   obtain rfl:f=5:=Option.some.inj ((show Tryz.prog.funcNamed "cribble/cribblelaw17.CssfilterSafe" =some 5 by kernel_rfl).symm.trans hf) |>.symm
   obtain rfl:fn=Tryz.f5:=(Option.some.inj (Tryz.func5.symm.trans hfn)).symm
   exact⟨by kernel_rfl,fun j t ht=>by
    rw[Tryz.params5]at ht
    have hm:t∈[9,9]:=by simpa using Array.mem_of_getElem? ht
    have hall:([9,9].all fun u=> !Tryz.prog.wantsStandIn u)=true:=by kernel_rfl
    exact(show Tryz.prog.wantsStandIn t=false by simpa using List.all_eq_true.1 hall t hm)⟩)
  (by kernel_rfl)
end Go.Proofs.YtiikamobcmgekaaGreatDoor.cssfilterSafe

