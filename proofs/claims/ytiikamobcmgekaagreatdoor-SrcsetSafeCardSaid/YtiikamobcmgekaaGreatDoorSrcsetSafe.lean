/- What is filtered is filtered as it is; all of it may be told: SrcsetSafe returns true. No condition: whatever the arguments. -/
import Derived.ProofKit
import Derived.ChangeSame
import Derived.ChangeAt
import Derived.SizedLaws
import Derived.OpenShut
import Derived.ShutString
import Derived.ChangeOld
import Derived.LaidMore
import Derived.Lay
import Derived.SevenTiedAt
import Derived.Stop.Joined
import Derived.Test.YtiikamobcmgekaaGreatDoorRows
import Derived.Test.YtiikamobcmgekaaGreatDoorCards
import Derived.Test.YtiikamobcmgekaaGreatDoorTie
import Derived.Test.YtiikamobcmgekaaGreatDoorPicU
import Derived.Test.YtiikamobcmgekaaGreatDoorPicW
import Derived.Test.YtiikamobcmgekaaGreatDoorCmpM
import Derived.Test.YtiikamobcmgekaaGreatDoorRowU
namespace Go.Proofs.YtiikamobcmgekaaGreatDoor.srcsetSafe
open Go.ChangeShapes Go.WideShapes Go.ChangeAt Go.RowKit
open Go.ChangeMaps (open_string shut_string)
theorem own:ownKnob Tryz.prog.godebug=none:=by kernel_rfl
theorem laidOut:laidOutB Tryz.prog=true:=by kernel_rfl
attribute [local go_sem] Oper.semAt_some
set_option maxRecDepth 100000 in
set_option maxHeartbeats 8000000 in
theorem walk (t s:ByteArray) (w:World) (hT:U8 w) (_ht:t.size<=maxLen) (_hs:s.size<=maxLen):Calls Tryz.prog 4 #[.string t,.string s] w (Ret (.bool true) w):=by
 have hmx:Tryz.prog.follows .mixedOrders=true:=by kernel_rfl
 have HT:=Lib.hid hT
 have HAw:=Lib.hid (awake12_any w)
 clear hT
 by_cases h0:9000<t.size
 ·have b0:decide ((9000:Int)<t.size)=true:=by simp;omega
  clear h0 _ht _hs
  go_enter Tryz.func4,Tryz.ntmps4
  go_wp2_with(go_at_call 7;(with_reducible refine HAw.out.mono ?_);rintro e Wa ⟨rfl,Xa,rfl⟩)
  go_ret
  exact Ret.of rfl bel
 have b0:decide ((9000:Int)<t.size)=false:=by simp;omega
 by_cases h1:1000<s.size
 ·have b1:decide ((1000:Int)<s.size)=true:=by simp;omega
  clear h0 h1 _ht _hs
  go_enter Tryz.func4,Tryz.ntmps4
  go_wp2_with(go_at_call 7;(with_reducible refine HAw.out.mono ?_);rintro e Wa ⟨rfl,Xa,rfl⟩)
  go_ret
  exact Ret.of rfl bel
 have b1:decide ((1000:Int)<s.size)=false:=by simp;omega
 obtain⟨a,c,P,G⟩:=comp_gen t.data.toList
 have HP:=Lib.hid (fun W=>show Calls Tryz.prog 8 #[.string t] W _ from G.run W)
 by_cases hc:c=0
 rotate_left
 ·have HP1:=Lib.hid (fun W=>(HP.out W).mono (R':=fun e w'=>e= .returned (.tuple #[.pointer none,.int .i64 a,.int .i64 c])/\Below W.heap.size W w') (fun e w' h=>by
   obtain⟨h1,h2|h2⟩:=h
   ·exact⟨h2.2,h1⟩
   ·exact absurd h2.1 hc))
  have b9:((c:Int) !=0)=true:=by simp;omega
  clear HP G h0 h1 _ht _hs
  go_enter Tryz.func4,Tryz.ntmps4
  go_wp2_with(first
   |(go_at_call 7;(with_reducible refine HAw.out.mono ?_);rintro e Wa ⟨rfl,Xa,hXa⟩;have hba:Below w.heap.size w Wa:=(by rw[hXa];exact bel);have HA0:=Lib.hid hba;clear hXa hba)
   |(go_at_call 8;(with_reducible refine(HP1.out _).mono ?_);rintro e W1 ⟨rfl,hb1⟩;have HB1:=Lib.hid (HA0.out.trans (hb1.mono HA0.out.size));clear hb1))
  go_ret
  exact Ret.of rfl HB1.out
 have HP1:=Lib.hid (fun W=>(HP.out W).mono (R':=fun e w'=> ∃g,e= .returned (.tuple #[.pointer (some ⟨g,0,none⟩),.int .i64 0,.int .i64 0])/\Below W.heap.size W w'/\RulesV w' g P) (fun e w' h=>by
   obtain⟨h1,h2|⟨_,g,h3,_,h5⟩⟩:=h
   ·exact absurd hc h2.1
   ·exact⟨g,h3,h1,h5⟩))
 clear HP G hc
 go_enter Tryz.func4,Tryz.ntmps4
 go_upto_region 4 with(go_at_call 7;(with_reducible refine HAw.out.mono ?_);rintro e Wa ⟨rfl,Xa,hXa⟩;have hba:Below w.heap.size w Wa:=(by rw[hXa];exact bel);have HA0:=Lib.hid hba;clear hXa hba)
 go_upto_region 7 with(go_at_call 8;(with_reducible refine(HP1.out _).mono ?_);rintro e W1 ⟨g,rfl,hb1,hr1⟩;have HB1:=Lib.hid (HA0.out.trans (hb1.mono HA0.out.size));have HR1:=Lib.hid hr1;clear hb1 hr1)
 clear HP1 HAw HA0
 have hsl:s.data.toList.length<=1000:=by rw[len_data];omega
 have hps:=pic_small 1000 _ hsl
 have hpf:=pic_few _ s.data.toList (Nat.le_refl _)
 obtain⟨F,hF⟩: ∃F,filtP P (picL s.data.toList)=F:=⟨_,rfl⟩
 have hF1:picL (textP F)=F:=by rw[<-hF];exact filt_pics _ _
 have hF2:filtP P F=F:=by rw[<-hF];exact filtP_again _ _
 have hF3: ∀p∈F,p.url.length<=1000/\p.size.length<=1000:=by rw[<-hF];exact filtP_small hsl
 have hF4:F.length<=1000:=by rw[<-hF];exact Nat.le_trans (filtP_len _ _) (by omega)
 have hF5:F.all okP=true:=by rw[<-hF];exact filtP_ok _ _
 have hF6:=ptext_len hF3
 have hF7:(textP F).length<=1000*2003:=Nat.le_trans hF6 (Nat.mul_le_mul_right _ hF4)
 have HFi:=Lib.hid (fun W (hb:Below W1.heap.size W1 W)=>show Calls Tryz.prog 10 #[.pointer (some ⟨g,0,none⟩),.string s] W (Ret (.tuple #[.string ⟨(textP F).toArray⟩,.bool (decide (0<F.length))]) W)from
  hF ▸ filter12_any g P s.data.toList W (HR1.out.below hb) ((HT.out.below HB1.out).below hb) (by omega) (fun p hp=>by have:=hps p hp;omega) (by omega))
 have HFk:=Lib.hid (fun W (hb:Below W1.heap.size W1 W)=>show Calls Tryz.prog 10 #[.pointer (some ⟨g,0,none⟩),.string ⟨(textP F).toArray⟩] W (Ret (.tuple #[.string ⟨(textP F).toArray⟩,.bool (decide (0<F.length))]) W)from by
  have h:=filter12_any g P (textP F) W (HR1.out.below hb) ((HT.out.below HB1.out).below hb) (by omega) (by rw[hF1];exact fun p hp=>by have:=hF3 p hp;omega) (by rw[hF1];omega)
  rw[hF1,hF2]at h
  exact h)
 have HPs:=Lib.hid (fun W=>show Calls Tryz.prog 12 #[.string ⟨(textP F).toArray⟩] W (RetS W F.length 2 (picCells F))from by
  have h:=pics_any (textP F) W (by omega)
  rw[hF1]at h
  exact h)
 have HRt:=Lib.hid (fun(p:Pic) (hp:p∈F) W=>show Calls Tryz.prog 13 #[.agg #[.string ⟨p.url.toArray⟩,.string ⟨p.size.toArray⟩]] W (Ret (.bool true) W)from by
  have h:=picright_any p W (by have:=hF3 p hp;omega) (by have:=hF3 p hp;omega)
  rw[(List.all_eq_true.1 hF5) p hp]at h
  exact h)
 have hne:textP F=[]↔F=[]:=textP_nil hF5
 obtain⟨ab,hab⟩: ∃ab:ByteArray,⟨(textP F).toArray⟩=ab:=⟨_,rfl⟩
 rw[hab]at HFi HFk HPs
 clear hF hF1 hF2 hF3 hF5 hF6 hF7 hps hpf hsl h0 h1 _ht _hs
 go_upto_region 10 with(first
  |(go_at_call 10;(with_reducible refine(HFi.out _ bel).mono ?_);rintro e V1 ⟨rfl,Y1,rfl⟩)
  |(go_at_call 10;(with_reducible refine(Ret.flat (HFk.out _ bel)).mono ?_);rintro e V2 ⟨rfl,Y2,rfl⟩)
  |(go_at_call 12;(with_reducible refine(HPs.out _).mono ?_);rintro e V3 ⟨A3,c3,X3,rfl,hV3,hc3,hr3⟩;rw[<-hV3]at hr3;have HR3:=Lib.hid hr3;have HB3:Hid (Below W1.heap.size W1 V3):=(by show Below _ _ _;rw[hV3];exact bel);clear hV3 hr3))
 clear HFi HFk HPs
 go_wp2_with fail
 go_loopw [14] (fun i wr=> ∃(k:Nat) (X:Gr),k<=F.length/\i= .int .i64 k/\wr=V3.grow X) (fun i _=>F.length-(intOf i).toNat)
 case atStart=>exact⟨0,_,by omega,rfl,(grow_refl V3).symm⟩
 case round=>
  obtain⟨k,X,hk,rfl,rfl⟩:=hrel
  by_cases hlt:k<F.length
  ·obtain⟨b,off,rfl,hb,c0,c1⟩:=(HR3.out.grow X).pic k hlt
   have HRk:=Lib.hid (HRt.out F[k] (List.getElem_mem hlt))
   generalize F[k]=p at*
   simp only[sv]at c0 c1
   go_wp2_with(go_at_call 13;(with_reducible refine(Ret.flat (HRk.out _)).mono ?_);rintro e w' ⟨rfl,Y9,rfl⟩)
   go_roundw
   case rel=>exact⟨k+1,Y9,by omega,by go_num,rfl⟩
   case measure=>simp[intOf];omega
  ·have hkn:k=F.length:=by omega
   have bq:(ab.toList==[])=decide (F.length=0):=by
    rw[<-hab,Bool.eq_iff_iff];simp[hne]
   have hdec:decide (0<F.length)= !decide (F=[]):=by cases F<;>simp
   go_wp2_with fail
   go_ret
   exact Ret.of (by simp) (HB1.out.trans ((HB3.out.trans ((bel:Below V3.heap.size V3 _).mono HB3.out.size)).mono HB1.out.size))
set_option maxRecDepth 100000 in
theorem lifted (os:Os) (started:os.Started) (H:Type) (enc:TypeId × Value->H):
  ReturnsInHanded {} Tryz.checked os 4 .any (fun w args=>(Rows.srcsetSafeSpec.pre enc Tryz.prog Tryz.f4 Rows.srcsetSafeRow.domain false w args/\laidMetH Tryz.prog Rows.srcsetSafeRow.laid w)/\sizedMet enc Tryz.prog Tryz.f4 (OpenSpec.ofChange Rows.srcsetSafeSpec) false w args) (Rows.srcsetSafeSpec.post enc Tryz.prog Tryz.f4 false true false false):=by
 refine handed_row (C:=Tryz.checked) (X:=fun w _=>laidMetH Tryz.prog Rows.srcsetSafeRow.laid w) (fun _ _ _ hh h=>h.of_heap hh) own started (by kernel_rfl) Tryz.func4
  (ChangeSpec.witness_shaped (enc:=enc) (C:=Tryz.checked) (os:=os) (X:=fun w _=>laidMetH Tryz.prog Rows.srcsetSafeRow.laid w) false (World.laidAll Tryz.prog os Rows.srcsetSafeRow.laid) #[.string ⟨#[]⟩,.string ⟨#[]⟩] 8 (World.laidAll_os _ _ _)
   (World.shaped_of_ZipB (by kernel_rfl) (by kernel_rfl)) (by kernel_rfl) (by kernel_rfl) (by kernel_rfl)
   (by rw[MakeChecks.laidMetH_plain _ _ _ (by kernel_rfl)];exact laidMet_laidAll _ (by kernel_rfl) (by kernel_rfl))) ?_
 intro W base args ds gs before hval0 hW hL _
 have hval: ∀(j:Nat) t v,Tryz.f4.params[j]? =some t->args[j]? =some v->Value.okWide Tryz.prog W .any base t v:=hval0
 have hW':=hW
 obtain⟨p,q,hA0,hV,rfl,hfz,hnd⟩:=hW
 have hA:DataW.TrodAll enc Tryz.prog W 0 (fun _=>true) true Tryz.f4.params.toList args.toList ds p:=hA0
 rw[Tryz.params4]at hA hval
 obtain⟨v0,vs0,d0,ds0,p0,q0,hargs,rfl,rfl,h0,r0⟩:=trodAll_cons hA
 obtain⟨v1,vs1,d1,ds1,p1,q1,rfl,rfl,rfl,h1,r1⟩:=trodAll_cons r0
 obtain⟨rfl,rfl,rfl⟩:=trodAll_nil r1
 obtain rfl:args= #[v0,v1]:=by cases args;simp_all
 obtain⟨rfl,rfl⟩:=trodVars_none hV
 obtain⟨s0,rfl,rfl,rfl,w0⟩:=open_string Tryz.underlying9 (hval 0 9 v0 rfl rfl) h0
 obtain⟨s1,rfl,rfl,rfl,w1⟩:=open_string Tryz.underlying9 (hval 1 9 v1 rfl rfl) h1
 clear hA0 hval0
 refine(walk s0 s1 W (u8_row hL (by kernel_rfl)) w0 w1).mono fun e W' hend=> ?_
 obtain⟨he,X,hX⟩:=hend
 have bel:Below W.heap.size W W':=by rw[hX];exact below_grow W X
 subst he
 exact⟨_,rfl,_,_,_,[],_,[],hW',trodAll_mk1 (shut_bool Tryz.underlying4 _),(trodAll_cons_mk (shut_string Tryz.underlying9 w0) (trodAll_cons_mk (shut_string Tryz.underlying9 w1) trodAll_mk0)),rfl,bel.frame _,fun h=>by cases h⟩
theorem over:Rows.srcsetSafeRow.holds Tryz.pinned (OpenSpec.ofChange Rows.srcsetSafeSpec):=
 OpenClaim.holds_of_wide 4 Tryz.f4 rfl rfl rfl rfl rfl rfl rfl ⟨rfl,rfl,rfl,rfl,rfl⟩ rfl rfl rfl rfl rfl (by kernel_rfl) Tryz.func4 (by kernel_rfl)
  (of_decide_eq_true (by kernel_rfl)) (by unfold Func.isWrapper;rw[if_neg (of_decide_eq_false (by kernel_rfl))];exact⟨rfl,rfl⟩)
  (fun os started H enc _=>lifted os started H enc)
theorem proved:Rows.SrcsetSafeCardSaid:=
 Claim7.holds_tied_plain_at .later [] [.data,.pinned] true _ true over (fun _ h=>by cases h) (by kernel_rfl) (fun _ h=>by cases h) srcsetSafe_row_tie rfl ⟨rfl,rfl⟩ (by kernel_rfl) rfl
  (fun f fn hf hfn=>by
   obtain rfl:f=4:=Option.some.inj ((show Tryz.prog.funcNamed "cribble/cribblelaw12.SrcsetSafe" =some 4 by kernel_rfl).symm.trans hf) |>.symm
   obtain rfl:fn=Tryz.f4:=(Option.some.inj (Tryz.func4.symm.trans hfn)).symm
   exact⟨by kernel_rfl,fun j t ht=>by
    rw[Tryz.params4]at ht
    have hm:t∈[9,9]:=by simpa using Array.mem_of_getElem? ht
    have hall:([9,9].all fun u=> !Tryz.prog.wantsStandIn u)=true:=by kernel_rfl
    exact(show Tryz.prog.wantsStandIn t=false by simpa using List.all_eq_true.1 hall t hm)⟩)
  (by kernel_rfl)
end Go.Proofs.YtiikamobcmgekaaGreatDoor.srcsetSafe

