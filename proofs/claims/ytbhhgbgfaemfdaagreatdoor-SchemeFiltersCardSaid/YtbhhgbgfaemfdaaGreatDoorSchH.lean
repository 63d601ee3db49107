/- The walk of awake of chapter 11; the library's tables, read off what is laid. (written by gen_h.py) -/
import Derived.ProofKit
import Derived.ChangeSame
import Derived.ChangeAt
import Derived.SizedLaws
import Derived.OpenShut
import Derived.ShutString
import Derived.ChangeOld
import Derived.JoinedCond
import Derived.Lib.LaidU8T
import Derived.MakeChecks
import Derived.Handed
import Derived.LaidSub
import Derived.Test.YtbhhgbgfaemfdaaGreatDoorRows
import Derived.Test.YtbhhgbgfaemfdaaGreatDoorCmpM
import Derived.Test.YtbhhgbgfaemfdaaGreatDoorD2
import Derived.Test.YtbhhgbgfaemfdaaGreatDoorSchG
namespace Go.Proofs.YtbhhgbgfaemfdaaGreatDoor
set_option maxRecDepth 100000
set_option maxHeartbeats 1600000
open Go.RowKit
attribute [local go_sem] Oper.semAt_some
def awT11:Bs:=[115,99,104,101,109,101,115,32,104,116,116,112,59]
def zq0:Pol:=⟨[],[[104,116,116,112]],[],[],[],[],false,64,32,1024⟩
theorem z17:zhf awT11= .ok zq0:=by kernel_rfl
theorem z0d:zig zq0 [106,97,118,97,10,115,99,114,105,112,116,58,120]=none:=by decide+kernel
theorem z0c:zig zq0 [32,72,84,84,80,58,120,32]=some [104,116,116,112,58,120]:=by decide+kernel
theorem zqz (w:World) (hT:U8 w):Calls Tryz.prog 14 #[] w (Ret (.bool true) w):=by
 have HT:=Lib.hid hT
 have HP:=Lib.hid (fun W=>show Calls Tryz.prog 23 #[.string ⟨#[115,99,104,101,109,101,115,32,104,116,116,112,59]⟩] W _ from z13 z17 W)
 have HH:=Lib.hid (fun W=>show Calls Tryz.prog 21 #[.string ⟨#[104,114,101,102]⟩] W (Ret (.bool true) W)from zw9 [104,114,101,102] W)
 clear hT
 go_enter Tryz.func14,Tryz.ntmps14
 go_upto_region 2 with(go_at_call 23;(with_reducible refine(HP.out _).mono ?_);rintro e W1 ⟨g,rfl,hb1,hr1⟩;have HB1:=Lib.hid hb1;have HR1:=Lib.hid hr1;clear hb1 hr1)
 have HF1:=Lib.hid (fun W (hb:Below W1.heap.size W1 W)=>show Calls Tryz.prog 25 #[.pointer (some ⟨g,0,none⟩),.string ⟨#[106,97,118,97,10,115,99,114,105,112,116,58,120]⟩] W (Ret (.tuple #[.string ⟨#[]⟩,.bool false]) W)from by
  have h:=zfu g zq0 ⟨#[106,97,118,97,10,115,99,114,105,112,116,58,120]⟩ W (HR1.out.below hb) ((HT.out.below HB1.out).below hb) (by decide)
  rw[show zig zq0 (⟨#[106,97,118,97,10,115,99,114,105,112,116,58,120]⟩:ByteArray).data.toList=none from z0d]at h
  exact h)
 have HF2:=Lib.hid (fun W (hb:Below W1.heap.size W1 W)=>show Calls Tryz.prog 25 #[.pointer (some ⟨g,0,none⟩),.string ⟨#[32,72,84,84,80,58,120,32]⟩] W (Ret (.tuple #[.string ⟨#[104,116,116,112,58,120]⟩,.bool true]) W)from by
  have h:=zfu g zq0 ⟨#[32,72,84,84,80,58,120,32]⟩ W (HR1.out.below hb) ((HT.out.below HB1.out).below hb) (by decide)
  rw[show zig zq0 (⟨#[32,72,84,84,80,58,120,32]⟩:ByteArray).data.toList=some [104,116,116,112,58,120]from z0c]at h
  exact h)
 go_wp2_with(first
  |(go_at_call 25;(with_reducible refine(HF1.out _ bel).mono ?_);rintro e V1 ⟨rfl,Y1,rfl⟩)
  |(go_at_call 25;(with_reducible refine(Ret.flat (HF2.out _ bel)).mono ?_);rintro e V2 ⟨rfl,Y2,rfl⟩)
  |(go_at_call 21;(with_reducible refine(Ret.flat (HH.out _)).mono ?_);rintro e V3 ⟨rfl,Y3,rfl⟩))
 go_ret
 exact Ret.of rfl (HB1.out.trans ((bel:Below W1.heap.size W1 _).mono HB1.out.size))
theorem z08 {l:List (String × DataW Unit)} {W:World} (h:laidMetH Tryz.prog l W) (hf:l=Rows.schemeSplitsRow.laid):U8 W:=by
 rw[hf,MakeChecks.laidMetH_plain _ _ _ (by kernel_rfl)]at h
 have e:Rows.schemeSplitsRow.laid=[("unicode/utf8.acceptRanges",Lib.acceptData),("unicode/utf8.first",Lib.firstData)]:=by kernel_rfl
 rw[e]at h
 exact utf8Tabs_of_readsT (ρ:=Tryz.lays237_ren) {Tryz.lays237 with} ⟨by kernel_rfl,by kernel_rfl,by kernel_rfl,by kernel_rfl,by kernel_rfl,by kernel_rfl,by kernel_rfl⟩ (Lib.laidMet.reads h (.tail _ (.head _))) (Lib.laidMet.reads h (.head _))
section
variable {H:Type} {enc:TypeId × Value->H}
theorem zzx {a:Assume} {C:Checked} {os:Os} {f:FuncId} {fn:Func} {s:ChangeSpec} {conds:List PathCond} {apart fresh handsOn again:Bool} {X:World->Array Value->Prop}
  (hX: ∀(w w':World) (args:Array Value),w.heap=w'.heap->X w args->X w' args)
  (own:ownKnob C.prog.godebug=none) (started:os.Started) (noInit:C.prog.inits.idxOf? f=none) (hfn:C.prog.funcs[f]? =some fn)
  (witness: ∃(w:World) (tape:Tape) (i:Input),w.os=os/\(w.forCall tape i).Shaped C.prog/\i.vars=[]/\Input.okWide C.prog (w.forCall tape i) .any w.heap.size f i/\
   ((s.pre enc C.prog fn conds apart (w.forCall tape i).memory i.args/\X (w.forCall tape i).memory i.args)/\sizedMet enc C.prog fn (OpenSpec.ofChange s) apart (w.forCall tape i).memory i.args)/\a.holds C.prog (lone (Frame.enter C.prog f i.args .normal) [] (w.forCall tape i)))
  (contract: ∀(W:World) (base:Nat) (args:Array Value) (ds gs:List (DataW H)) (before:List MemPlace),
   (∀(j:Nat) t v,fn.params[j]? =some t->args[j]? =some v->Value.okWide C.prog W .any base t v)->
   DataW.Whole enc C.prog fn.params.toList s.vars apart W args.toList ds gs before->
   X W args->W.ShapedOpen C.prog->
   Calls C.prog f args W fun e W'=> ∃v,e= .returned v/\s.post enc C.prog fn apart fresh handsOn again W args v W'):
  ReturnsInHanded a C os f .any (fun w args=>(s.pre enc C.prog fn conds apart w args/\X w args)/\sizedMet enc C.prog fn (OpenSpec.ofChange s) apart w args) (s.post enc C.prog fn apart fresh handsOn again):=by
 refine returnsInHanded_of_calls own started noInit witness fun w tape i _ hsh _ hok hpre _=> ?_
 obtain⟨_,_,_,g,hg,_,_,_,_,hval⟩:=hok
 obtain rfl:g=fn:=Option.some.inj (hg.symm.trans hfn)
 obtain⟨⟨⟨ds,gs,before,hw,_⟩,hx⟩,_⟩:=hpre
 exact(contract _ w.heap.size i.args ds gs before hval (DataW.Whole.of_heap (w':=w.forCall tape i) (by rfl) hw) (hX _ _ _ (by rfl) hx) hsh).mono fun e W' ⟨v,he,hp⟩=>by
  subst he;exact ChangeSpec.post_blind hp
end
end Go.Proofs.YtbhhgbgfaemfdaaGreatDoor

