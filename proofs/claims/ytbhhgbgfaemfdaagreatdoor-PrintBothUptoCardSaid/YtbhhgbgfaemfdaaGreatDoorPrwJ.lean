/- The wrap of a row that lists variables and whose inputs are of bounded bulk; the powers of ten, read off what is laid. -/
import Derived.LaidMore
import Derived.Lay
import Derived.JoinedCond
import Derived.SevenTiedAt
import Derived.Lib.SmallJoins
import Derived.Lib.LaidTab
import Derived.LaidSub
import Derived.Shelf.Vars
import Derived.Handed
import Derived.MakeChecks
import Derived.Stop.Joined
import Derived.BigRegion
import Derived.Test.YtbhhgbgfaemfdaaGreatDoorPrwD
import Derived.Test.YtbhhgbgfaemfdaaGreatDoorPrwG
namespace Go.Proofs.YtbhhgbgfaemfdaaGreatDoor
open Go.RowKit
attribute [local go_sem] Oper.semAt_some
def aw9T:Bs:=[116,97,103,115,32,97,59]
def aw9P:Pol:=⟨[[97]],[],[],[],[],[],false,64,32,1024⟩
def aw9X:Bs:=[116,97,103,115,32,97,59,10,114,101,108,97,116,105,118,101,32,110,111,59,10,108,105,109,105,116,32,100,101,112,116,104,32,54,52,59,10,108,105,109,105,116,32,110,97,109,101,32,51,50,59,10,108,105,109,105,116,32,118,97,108,117,101,32,49,48,50,52,59,10]
theorem aw9_parse:parsePl aw9T= .ok aw9P:=by kernel_rfl
theorem aw9_right:rightP aw9P=true:=by decide+kernel
theorem aw9_text:txP aw9P=aw9X:=by decide+kernel
theorem aw9_within:withinR aw9P aw9P=true:=by decide+kernel
theorem aw9_tell:Tellable aw9P:=by
 refine⟨⟨by decide,by decide,by decide,by decide,by decide,by decide⟩,⟨fun k _ t ht=> ?_,fun a h=>(by cases h),fun a h=>(by cases h)⟩,fun _=>by rw[aw9_text];decide⟩
 have:t=[97]:=by
  match k with
  |0=>simpa[l4,aw9P]using ht
  |1=>simp[l4,aw9P]at ht
  |2=>simp[l4,aw9P]at ht
  |k+3=>simp[l4,aw9P]at ht
 rw[this];decide
theorem aw9_txV:txV aw9P= .tuple #[.string ⟨aw9X.toArray⟩,.int .i64 0]:=by
 unfold txV
 rw[aw9_right,aw9_text]
 rfl
set_option maxRecDepth 100000 in
set_option maxHeartbeats 4000000 in
theorem awake09_any (w:World) (hT:Ten w):Calls Tryz.prog 29 #[] w (Ret (.bool true) w):=by
 have HP:=Lib.hid (fun W=>show Calls Tryz.prog 33 #[.string ⟨#[116,97,103,115,32,97,59]⟩] W fun e w'=>Below W.heap.size W w'/\ ∃v,e= .returned (.tuple #[v,.int .i64 0,.int .i64 0])/\PolV w' (fun b=>b<W.heap.size) v aw9P from by
  refine(parse_any aw9T W).mono fun e w' h=> ?_
  unfold ParseOut at h
  rw[aw9_parse]at h
  exact h)
 have HTn:=Lib.hid hT
 clear hT
 go_enter Tryz.func29,Tryz.ntmps29
 go_upto_region 2 with(go_at_call 33;(with_reducible refine(HP.out _).mono ?_);rintro e W1 ⟨hb1,v,rfl,hv⟩;have HB1:=Lib.hid hb1;have HV:=Lib.hid hv;obtain⟨v0,v1,v2,v3,v4,v5,rfl,⟨A0,k0,rfl,n0,r0,_⟩,⟨A1,k1,rfl,_⟩,⟨A2,k2,rfl,_⟩,⟨A3,k3,rfl,_⟩,⟨A4,k4,rfl,_⟩,⟨A5,k5,rfl,_⟩⟩:=hv;clear hb1)
 refine name_world fun W2 hW2=> ?_
 have hb2:Below W1.heap.size W1 W2:=by rw[hW2];exact bel
 obtain⟨B,hB⟩: ∃B,W1.heap.size=B:=⟨_,rfl⟩
 rw[hB]
 have c0:W2.cell? ⟨B,0,none⟩=some (.slice A0 1 k0):=by rw[hW2,<-hB];simp[go_sem];rfl
 have c1:W2.cell? ⟨B,1,none⟩=some (.slice A1 0 k1):=by rw[hW2,<-hB];simp[go_sem];rfl
 have c2:W2.cell? ⟨B,2,none⟩=some (.slice A2 0 k2):=by rw[hW2,<-hB];simp[go_sem];rfl
 have c3:W2.cell? ⟨B,3,none⟩=some (.slice A3 0 k3):=by rw[hW2,<-hB];simp[go_sem];rfl
 have c4:W2.cell? ⟨B,4,none⟩=some (.slice A4 0 k4):=by rw[hW2,<-hB];simp[go_sem];rfl
 have c5:W2.cell? ⟨B,5,none⟩=some (.slice A5 0 k5):=by rw[hW2,<-hB];simp[go_sem];rfl
 have c6:W2.cell? ⟨B,6,none⟩=some (.bool false):=by rw[hW2,<-hB];simp[go_sem];rfl
 have c7:W2.cell? ⟨B,7,none⟩=some (.int .i64 64):=by rw[hW2,<-hB];simp[go_sem];rfl
 have c8:W2.cell? ⟨B,8,none⟩=some (.int .i64 32):=by rw[hW2,<-hB];simp[go_sem];rfl
 have c9:W2.cell? ⟨B,9,none⟩=some (.int .i64 1024):=by rw[hW2,<-hB];simp[go_sem];rfl
 have HB2:=Lib.hid (HB1.out.trans (hb2.mono HB1.out.size))
 have HV2:=Lib.hid (fun W (hb:Below W2.heap.size W2 W)=>((HV.out.below hb2).mono (bad':=fun _=>False) (fun _ _ h=>h.elim)).below hb)
 have hBl:B<W2.heap.size:=World.block_lt_of_cell? W2 _ c0
 have HX:=Lib.hid (fun W (hb:Below W2.heap.size W2 W)=>show Calls Tryz.prog 31 #[.agg #[.slice A0 1 k0,.slice A1 0 k1,.slice A2 0 k2,.slice A3 0 k3,.slice A4 0 k4,.slice A5 0 k5,.bool false,.int .i64 64,.int .i64 32,.int .i64 1024]] W (Ret (.tuple #[.string ⟨aw9X.toArray⟩,.int .i64 0]) W)from by
  have h9:=ptext_any _ aw9P W (HTn.out.below (HB2.out.trans (hb.mono HB2.out.size))) (HV2.out W hb) aw9_tell
  rw[aw9_txV]at h9
  exact h9)
 have HY:=Lib.hid (fun W (hb:Below W2.heap.size W2 W)=>show Calls Tryz.prog 35 #[.agg #[.slice A0 1 k0,.slice A1 0 k1,.slice A2 0 k2,.slice A3 0 k3,.slice A4 0 k4,.slice A5 0 k5,.bool false,.int .i64 64,.int .i64 32,.int .i64 1024],.agg #[.slice A0 1 k0,.slice A1 0 k1,.slice A2 0 k2,.slice A3 0 k3,.slice A4 0 k4,.slice A5 0 k5,.bool false,.int .i64 64,.int .i64 32,.int .i64 1024]] W (Ret (.bool true) W)from by
  have h9:=within9_any _ _ aw9P aw9P W (HV2.out W hb) (HV2.out W hb)
  rw[aw9_within]at h9
  exact h9)
 have hq:((⟨aw9X.toArray⟩:ByteArray).toList==[116,97,103,115,32,97,59,10,114,101,108,97,116,105,118,101,32,110,111,59,10,108,105,109,105,116,32,100,101,112,116,104,32,54,52,59,10,108,105,109,105,116,32,110,97,109,101,32,51,50,59,10,108,105,109,105,116,32,118,97,108,117,101,32,49,48,50,52,59,10])=true:=by
  rw[ba_bqD];exact decide_eq_true rfl
 clear hW2 HV r0 hb2 HB1 HP HTn
 generalize(⟨aw9X.toArray⟩:ByteArray)=tx at*
 go_upto_region 3 with(go_at_call 31;(with_reducible refine(HX.out _ bel).mono ?_);rintro e W3 ⟨rfl,X3,rfl⟩)
 go_wp2_with(go_at_call 35;(with_reducible refine(Ret.flat (HY.out _ bel)).mono ?_);rintro e W4 ⟨rfl,X4,rfl⟩)
 go_ret
 exact Ret.of rfl (HB2.out.trans ((bel:Below W2.heap.size W2 _).mono HB2.out.size))
open Go.RowKit Go.ChangeShapes
section
variable {H:Type} {enc:TypeId × Value->H}
theorem handed_cond {a:Assume} {C:Checked} {os:Os} {f:FuncId} {fn:Func} {s:OpenSpec} {k:(H:Type)->List (DataW H)->Bool} (hk:s.cond=some k) {F:Stop.Interp} {conds:List PathCond} {apart fresh handsOn again:Bool} {X:World->Array Value->Prop}
  (hX: ∀(w w':World) (args:Array Value),w.heap=w'.heap->X w args->X w' args)
  (own:ownKnob C.prog.godebug=none) (started:os.Started) (noInit:C.prog.inits.idxOf? f=none) (hfn:C.prog.funcs[f]? =some fn)
  (witness: ∃(w:World) (tape:Tape) (i:Input),w.os=os/\(w.forCall tape i).Shaped C.prog/\i.vars=[]/\Input.okWide C.prog (w.forCall tape i) .any w.heap.size f i/\
   ((s.pre enc C.prog fn conds apart (w.forCall tape i).memory i.args/\X (w.forCall tape i).memory i.args)/\sizedMet enc C.prog fn s apart (w.forCall tape i).memory i.args)/\a.holds C.prog (lone (Frame.enter C.prog f i.args .normal) [] (w.forCall tape i)))
  (contract: ∀(W:World) (base:Nat) (args:Array Value) (ds gs:List (DataW H)) (before:List MemPlace),
   (∀(j:Nat) t v,fn.params[j]? =some t->args[j]? =some v->Value.okWide C.prog W .any base t v)->
   DataW.Whole enc C.prog fn.params.toList s.vars apart W args.toList ds gs before->k H (ds++gs)=true->X W args->
   Calls C.prog f args W fun e W'=> ∃v,e= .returned v/\(s.at F).post enc C.prog fn apart fresh handsOn again W args v W'):
  ReturnsInHanded a C os f .any (fun w args=>(s.pre enc C.prog fn conds apart w args/\X w args)/\sizedMet enc C.prog fn s apart w args) ((s.at F).post enc C.prog fn apart fresh handsOn again):=by
 refine returnsInHanded_of_calls own started noInit witness fun w tape i _ _ _ hok hpre _=> ?_
 obtain⟨_,_,_,g,hg,_,_,_,_,hval⟩:=hok
 obtain rfl:g=fn:=Option.some.inj (hg.symm.trans hfn)
 obtain⟨⟨hp,hx⟩,_⟩:=hpre
 obtain⟨ds,gs,before,hw,_,hkk⟩:=(OpenSpec.pre_some hk conds apart _ _).1 hp
 exact(contract _ w.heap.size i.args ds gs before hval (DataW.Whole.of_heap (w':=w.forCall tape i) (by rfl) hw) hkk (hX _ _ _ (by rfl) hx)).mono fun e W' ⟨v,he,hp⟩=>by
  subst he;exact ChangeSpec.post_blind hp
theorem witness_cond {C:Checked} {os:Os} {f:FuncId} {fn:Func} {s:OpenSpec} {k:(H:Type)->List (DataW H)->Bool} (hk:s.cond=some k) {conds:List PathCond} {apart:Bool} {X:World->Array Value->Prop} (modest:Bool) (w0:World) (args:Array Value) (fuel:Nat) (hos:w0.os=os)
  (hsh:(w0.forCall (fun _ _=>0) ⟨#[],args,[]⟩).Shaped C.prog)
  (hok:Input.okWideB C.prog (w0.forCall (fun _ _=>0) ⟨#[],args,[]⟩) f ⟨#[],args,[]⟩=true)
  {x:List (DataW H) × List (DataW H) × List MemPlace} (hx:DataW.whole enc C.prog (w0.forCall (fun _ _=>0) ⟨#[],args,[]⟩).memory fn.params.toList s.vars apart args.toList fuel=some x)
  (hconds:conds.all (PathCond.test C.prog ⟨fn.params.toList,x.1,s.bare.plain.varTypes C.prog,x.2.1⟩)=true) (hkk:k H (x.1++x.2.1)=true)
  (hsz:s.bare.sizedB enc C.prog fn apart (w0.forCall (fun _ _=>0) ⟨#[],args,[]⟩).memory args fuel=true)
  (hX:X (w0.forCall (fun _ _=>0) ⟨#[],args,[]⟩).memory args):
  ∃(w:World) (tape:Tape) (i:Input),w.os=os/\(w.forCall tape i).Shaped C.prog/\i.vars=[]/\Input.okWide C.prog (w.forCall tape i) .any w.heap.size f i/\
   ((s.pre enc C.prog fn conds apart (w.forCall tape i).memory i.args/\X (w.forCall tape i).memory i.args)/\sizedMet enc C.prog fn s apart (w.forCall tape i).memory i.args)/\({modest:=modest}:Assume).holds C.prog (lone (Frame.enter C.prog f i.args .normal) [] (w.forCall tape i)):=
 ⟨w0,fun _ _=>0,⟨#[],args,[]⟩,hos,hsh,(Input.okWide_of_okWideB (base:=0) hok).1,(Input.okWide_of_okWideB hok).2,⟨⟨(OpenSpec.pre_some hk conds apart _ _).2 ⟨x.1,x.2.1,x.2.2,DataW.Whole_of_whole hx,hconds,hkk⟩,hX⟩,sizedMet_of_sizedB hsz⟩,by
  simp only[Assume.holds]
  exact⟨by simp,by simp,fun _=>Modest.zero,by simp,by simp⟩⟩
end
theorem ten_laid {l:List (String × DataW Unit)} {W:World} (h:laidMetH Tryz.prog l W) (hf:(l.filter fun x=>x.1== "internal/strconv.uint64pow10")=[("internal/strconv.uint64pow10",Lib.tabData .u64 Lib.pow10Tab)]):Ten W:=by
 have h1:=h.filter (fun x=>x.1== "internal/strconv.uint64pow10")
 rw[hf,MakeChecks.laidMetH_plain _ _ _ (by kernel_rfl)]at h1
 exact Lib.tabIs_of_head (g:=0) (t:=211) (e:=188) (n:=20) (by kernel_rfl) (by kernel_rfl) (by kernel_rfl) (by kernel_rfl) (by kernel_rfl) (by kernel_rfl) h1
end Go.Proofs.YtbhhgbgfaemfdaaGreatDoor
