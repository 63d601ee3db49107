/- The wrap of a row that lists variables, whose walk asks for the world's shape too; the library's tables, read off what is laid. -/
import Derived.ProofKit
import Derived.ChangeSame
import Derived.ChangeAt
import Derived.SizedLaws
import Derived.JoinedCond
import Derived.Lib.LaidU8T
import Derived.MakeChecks
import Derived.Handed
import Derived.LaidSub
import Derived.Test.YtiikamobcmgekaaGreatDoorD1
namespace Go.Proofs.YtiikamobcmgekaaGreatDoor
open Go.RowKit
theorem u8_row {l:List (String × DataW Unit)} {W:World} (h:laidMetH Tryz.prog l W) (hf:(l.filter fun x=>x.1== "unicode/utf8.acceptRanges" ||x.1== "unicode/utf8.first")=[("unicode/utf8.acceptRanges",Lib.acceptData),("unicode/utf8.first",Lib.firstData)]):U8 W:=by
 have h1:=h.filter (fun x=>x.1== "unicode/utf8.acceptRanges" ||x.1== "unicode/utf8.first")
 rw[hf,MakeChecks.laidMetH_plain _ _ _ (by kernel_rfl)]at h1
 exact utf8Tabs_of_readsT (ρ:=Tryz.lays237_ren) {Tryz.lays237 with} ⟨by kernel_rfl,by kernel_rfl,by kernel_rfl,by kernel_rfl,by kernel_rfl,by kernel_rfl,by kernel_rfl⟩ (Lib.laidMet.reads h1 (.tail _ (.head _))) (Lib.laidMet.reads h1 (.head _))
section
variable {H:Type} {enc:TypeId × Value->H}
theorem handed_row {a:Assume} {C:Checked} {os:Os} {f:FuncId} {fn:Func} {s:ChangeSpec} {conds:List PathCond} {apart fresh handsOn again:Bool} {X:World->Array Value->Prop}
  (hX: ∀(w w':World) (args:Array Value),w.heap=w'.heap->X w args->X w' args)
  (own:ownKnob C.prog.godebug=none) (started:os.Started) (noInit:C.prog.inits.idxOf? f=none) (hfn:C.prog.funcs[f]? =some fn)
  (witness: ∃(w:World) (tape:Tape) (i:Input),w.os=os/\(w.forCall tape i).Shaped C.prog/\i.vars=[]/\Input.okWide C.prog (w.forCall tape i) .any w.heap.size f i/\
   ((s.pre enc C.prog fn conds apart (w.forCall tape i).memory i.args/\X (w.forCall tape i).memory i.args)/\sizedMet enc C.prog fn (OpenSpec.ofChange s) apart (w.forCall tape i).memory i.args)/\a.holds C.prog (lone (Frame.enter C.prog f i.args .normal) [] (w.forCall tape i)))
  (contract: ∀(W:World) (base:Nat) (args:Array Value) (ds gs:List (DataW H)) (before:List MemPlace),
   (∀(j:Nat) t v,fn.params[j]? =some t->args[j]? =some v->Value.okWide C.prog W .any base t v)->
   DataW.Whole enc C.prog fn.params.toList s.vars apart W args.toList ds gs before->
   X W args->W.ShapedOpen C.prog->
   Calls C.prog f args W fun e W'=> ∃v,e= .returned v/\s.post enc C.prog fn apart fresh handsOn again W args v W'):
  ReturnsInHanded a C os f .any (fun w args=>(s.pre enc C.prog fn conds apart w args/\X w args)/\sizedMet enc C.prog fn (OpenSpec.ofChange s) apart w args) (s.post enc C.prog fn apart fresh handsOn again):=by
 refine returnsInHanded_of_calls own started noInit witness fun w tape i _ hsh _ hok hpre _=> ?_
 obtain⟨_,_,_,g,hg,_,_,_,_,hval⟩:=hok
 obtain rfl:g=fn:=Option.some.inj (hg.symm.trans hfn)
 obtain⟨⟨⟨ds,gs,before,hw,_⟩,hx⟩,_⟩:=hpre
 exact(contract _ w.heap.size i.args ds gs before hval (DataW.Whole.of_heap (w':=w.forCall tape i) (by rfl) hw) (hX _ _ _ (by rfl) hx) hsh).mono fun e W' ⟨v,he,hp⟩=>by
  subst he;exact ChangeSpec.post_blind hp
end
end Go.Proofs.YtiikamobcmgekaaGreatDoor

