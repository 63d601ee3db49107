/- The wrap of a row that lists variables, whose walk asks for the world's shape too; the library's tables, read off what is laid. -/
import Derived.ProofKit
import Derived.ChangeSame
import Derived.ChangeAt
import Derived.SizedLaws
import Derived.JoinedCond
import Derived.Lib.LaidU8T
import Derived.MakeChecks
import Derived.Handed
import Derived.LaidSub
import Derived.Lib.TrimUEq
import Derived.Shelf.GgClosure.StringsTrimFunc
import Derived.Test.YtiikamobcmgekaaGreatDoorC3
import Derived.Test.YtiikamobcmgekaaGreatDoorLB
import Derived.Test.YtiikamobcmgekaaGreatDoorShelf
namespace Go.Proofs.YtiikamobcmgekaaGreatDoor
set_option maxHeartbeats 3200000
def blankB (c:UInt8):Bool:=decide (c.toNat<=32)
def dropC (c:UInt8):Bool:=decide (c.toNat=9\/c.toNat=10\/c.toNat=13)
def keepC (c:UInt8):Bool:= !dropC c
def trimL (l:Bs):Bs:=((l.dropWhile blankB).reverse.dropWhile blankB).reverse
def cleanL (l:Bs):Bs:=(trimL l).filter keepC
structure Cln (l:Bs):Prop where
 no: ∀c∈l,keepC c=true
 hd: ∀c,l.head? =some c->blankB c=false
 lst: ∀c,l.getLast? =some c->blankB c=false
theorem while_stop {l:Bs} (h: ∀c,l.head? =some c->blankB c=false):l.dropWhile blankB=l:=by
 cases l with
 |nil=>rfl
 |cons c r=>exact List.dropWhile_cons_of_neg (by rw[h c rfl];decide)
theorem Cln.eq {l:Bs} (h:Cln l):cleanL l=l:=by
 unfold cleanL trimL
 rw[while_stop h.hd,while_stop (l:=l.reverse) (fun c hc=>h.lst c (by rw[List.head?_reverse]at hc;exact hc)),List.reverse_reverse]
 exact List.filter_eq_self.2 h.no
open Go.RowKit Go.Shelf
attribute [local go_sem] Oper.semAt_some
def lwB (c:UInt8):UInt8:=if upB c then c+32 else c
def lowL (s:Bs):Bs:=s.map lwB
def letB (c:UInt8):Bool:=upB c||lowB c
def BytesOf (W:World) (nb:Nat) (e:TypeId) (l:Bs):Prop:=
 ∃C m,W.heap[nb]? =some (.cells C e (m,m+1))/\l.length<=m/\l.length<=C.size/\ ∀k (h:k<l.length),C[k]? =some (bv l[k])
theorem BytesOf.cell {W:World} {nb:Nat} {e:TypeId} {l:Bs} (h:BytesOf W nb e l) (k:Nat) (hk:k<l.length):W.cell? ⟨nb,k,none⟩=some (.int .u8 (l[k].toNat:Int)):=by
 obtain⟨C,m,h1,_,_,h2⟩:=h
 simp[World.cell?,h1,h2 k hk,bv]
theorem BytesOf.free {W:World} {nb:Nat} {e:TypeId} {l:Bs} (h:BytesOf W nb e l) (k:Nat) (hk:k<l.length):W.frozen? ⟨nb,k,none⟩=false:=by
 obtain⟨C,m,h1,h3,_,_⟩:=h
 simp[World.frozen?,h1];omega
theorem BytesOf.lt {W:World} {nb:Nat} {e:TypeId} {l:Bs} (h:BytesOf W nb e l):nb<W.heap.size:=by
 obtain⟨C,m,h1,_⟩:=h
 exact(Array.getElem?_eq_some_iff.1 h1).1
theorem BytesOf.set {W:World} {nb:Nat} {e:TypeId} {l:Bs} (h:BytesOf W nb e l) (k:Nat) (hk:k<l.length) (c:UInt8):BytesOf (W.setCell ⟨nb,k,none⟩ (bv c)) nb e (l.set k c):=by
 have hl:=h.lt
 obtain⟨C,m,h1,h2,h3,h4⟩:=h
 refine⟨C.setIfInBounds k (bv c),m, ?_,by simpa using h2,by simpa using h3,fun j hj=> ?_⟩
 ·unfold World.setCell
  simp only[Array.getElem?_modify,if_true,h1,Option.map_some]
  rfl
 ·rw[List.length_set]at hj
  rw[Array.getElem?_setIfInBounds]
  by_cases hjk:k=j
  ·subst hjk;simp;omega
  ·rw[if_neg hjk,h4 j hj];simp[hjk]
theorem BytesOf.new (W:World) (e:TypeId) (s:ByteArray):BytesOf (W.grow (bytesGr W e s)) W.heap.size e s.data.toList:=by
 have hb:(W.grow (bytesGr W e s)).heap[W.heap.size]? =some (.cells (Lib.bytesCells W e s) e ((Lib.bytesCells W e s).size,(Lib.bytesCells W e s).size+1)):=by
  simp only[World.grow]
  rw[Array.getElem?_append_right (Nat.le_refl _),Nat.sub_self];rfl
 have hc: ∀k (h:k<s.data.toList.length),(Lib.bytesCells W e s)[k]? =some (bv s.data.toList[k]):=fun k hk=>by
  have h:=bytes_cells W e s k (by rw[<-len_data];exact hk)
  unfold World.cell? at h
  have h3:(Lib.bytesCells W e s)[k]? =some (.int .u8 ((s[k]'(by rw[<-len_data];exact hk)).toNat:Int)):=by simpa[hb]using h
  exact h3
 have hsz:s.data.toList.length<=(Lib.bytesCells W e s).size:=by
  rcases Nat.eq_zero_or_pos s.data.toList.length with h0|h0
  ·omega
  ·have:=hc (s.data.toList.length-1) (by omega)
   have:=(Array.getElem?_eq_some_iff.1 this).1;omega
 exact⟨_,_,hb,hsz,hsz,hc⟩
theorem BytesOf.rd {W:World} {nb:Nat} {e:TypeId} {l:Bs} (h:BytesOf W nb e l) (c:Nat) (hm:l.length<=9223372036854775807):Rd W (.slice (some ⟨nb,0,none⟩) l.length c) l.length 1 (l.map bv):=
 ⟨by simp,hm,_,c,rfl,fun _=>⟨nb,0,rfl,h.lt,fun j u hu=>by
  rw[List.getElem?_map]at hu
  obtain⟨hj,_⟩:=List.getElem?_eq_some_iff.1 (show l[j]? =some l[j]!from by
   cases hq:l[j]? with
   |none=>rw[hq]at hu;cases hu
   |some x=>simp[List.getElem!_eq_getElem?_getD,hq])
  rw[List.getElem?_eq_getElem hj]at hu
  simp at hu
  rw[Nat.zero_add,h.cell j hj,<-hu];rfl⟩⟩
theorem up_bits (c:UInt8) (h:upB c=true):bits .or .u8 c.toNat 32=((lwB c).toNat:Int):=by
 have h0: ∀n:Fin 256,(65<=n.val/\n.val<=90)->bits .or .u8 ((n.val:Nat):Int) 32=((n.val+32:Nat):Int):=by decide+kernel
 have h1:=h
 simp only[upB,decide_eq_true_eq]at h1
 have h2:(lwB c).toNat=c.toNat+32:=by
  unfold lwB;rw[if_pos h,UInt8.toNat_add];simp;omega
 rw[h2]
 exact h0 ⟨c.toNat,c.toNat_lt⟩ h1
theorem btw_up (c:UInt8):btwB c.toNat 65 90=upB c:=by unfold btwB upB;rw[Bool.eq_iff_iff];simp;omega
theorem low_step (S:Bs) (k:Nat) (h:k<S.length):(lowL (S.take k)++S.drop k).set k (lwB S[k])=lowL (S.take (k+1))++S.drop (k+1):=by
 have h1:(lowL (S.take k)).length=k:=by simp[lowL];omega
 rw[List.set_append_right _ _ (by omega),h1,Nat.sub_self,List.drop_eq_getElem_cons h,List.set_cons_zero,List.take_succ_eq_append_getElem h,lowL,lowL,List.map_append,List.append_assoc]
 rfl
theorem low_at (S:Bs) (k:Nat) (h:k<S.length) (h2:k<(lowL (S.take k)++S.drop k).length):(lowL (S.take k)++S.drop k)[k]=S[k]:=by
 have h1:(lowL (S.take k)).length=k:=by simp[lowL];omega
 rw[List.getElem_append_right (by omega)]
 simp[h1]
theorem low_len (S:Bs) (k:Nat):(lowL (S.take k)++S.drop k).length=S.length:=by simp[lowL];omega
theorem lower_any (s:ByteArray) (w:World) (hm:s.size<=140737488355328):Calls Tryz.prog 162 #[.string s] w (Ret (.string ⟨(lowL s.data.toList).toArray⟩) w):=by
 have hlen:=len_data s
 have HB:=Lib.hid (fun W=>BytesOf.new W 5 s)
 have HL:=Lib.hid hlen
 have hcv: ∀W:World,(convert 9 135 (.string s)).run Tryz.prog W= .ok (.slice (some ⟨W.heap.size,0,none⟩) s.size (grownCap W s.size 0 5)) (W.grow (bytesGr W 5 s)):=fun W=>bytes_run W _ _ _ s Tryz.underlying9 Tryz.underlying135 Tryz.underlying5
 go_enter Tryz.func162,Tryz.ntmps162
 go_wp2_with fail
 go_loopw [10] (fun i wr=> ∃k:Nat,k<=s.size/\i= .int .i64 k/\Hid (Below w.heap.size w wr)/\Hid (BytesOf wr w.heap.size 5 (lowL (s.data.toList.take k)++s.data.toList.drop k))) (fun i _=>s.size-(intOf i).toNat)
 case atStart=>exact⟨0,by omega,rfl,below_grow _ _,by show BytesOf _ _ _ _;have:=HB.out w;simpa[lowL]using this⟩
 case round=>
  obtain⟨k,hk,rfl,HW,HK⟩:=hrel
  by_cases hlt:k<s.size
  ·have hk2:k<s.data.toList.length:=by rw[HL.out];exact hlt
   have hk3:k<(lowL (s.data.toList.take k)++s.data.toList.drop k).length:=by rw[low_len];exact hk2
   have c0:=HK.out.cell k hk3
   rw[low_at _ _ hk2]at c0
   have f0:=HK.out.free k hk3
   have HS:=Lib.hid (HK.out.set k hk3 (lwB s.data.toList[k]))
   have HS1:=Lib.hid (low_step s.data.toList k hk2)
   have HU:=Lib.hid (up_bits s.data.toList[k])
   have HU0:Hid (upB s.data.toList[k]=false->lwB s.data.toList[k]=s.data.toList[k]):=fun h=>by unfold lwB;rw[h];rfl
   have HX:Hid (lwB s.data.toList[k]=s.data.toList[k]->BytesOf wr w.heap.size 5 (lowL (s.data.toList.take (k+1))++s.data.toList.drop (k+1))):=fun h=>by
    rw[<-HS1.out,h]
    have:=HK.out
    rwa[<-low_at _ _ hk2 hk3,List.set_getElem_self]
   have HBt:Hid (∀W,Calls Tryz.prog 91 #[.int .u8 s.data.toList[k].toNat,.int .u8 65,.int .u8 90] W fun e w'=>e= .returned (.bool (upB s.data.toList[k]))/\W=w'):=fun W=>btw_up _ ▸ between_any _ 65 90 W
   have hlt1:w.heap.size<wr.heap.size:=HK.out.lt
   clear hk3
   generalize s.data.toList[k]=c at*
   cases hu:upB c
   ·have HN:=Lib.hid (HX.out (HU0.out hu))
    have HBt2:=Lib.hid (show ∀W,Calls Tryz.prog 91 #[.int .u8 c.toNat,.int .u8 65,.int .u8 90] W fun e w'=>e= .returned (.bool false)/\W=w' from hu ▸ HBt.out)
    clear hu
    go_wp2_with(go_at_call 91;(with_reducible refine(HBt2.out _).mono ?_);rintro e w' ⟨rfl,rfl⟩)
    go_roundw
    case rel=>exact⟨k+1,by omega,by go_num,HW,HN⟩
    case measure=>simp[intOf];omega
   ·have hbits:=HU.out hu
    have HBt2:=Lib.hid (show ∀W,Calls Tryz.prog 91 #[.int .u8 c.toNat,.int .u8 65,.int .u8 90] W fun e w'=>e= .returned (.bool true)/\W=w' from hu ▸ HBt.out)
    clear hu
    go_wp2_with(go_at_call 91;(with_reducible refine(HBt2.out _).mono ?_);rintro e w' ⟨rfl,rfl⟩)
    go_roundw
    case rel=>exact⟨k+1,by omega,by go_num,Lib.hid (HW.out.setCell (by simp) _),by have:=HS.out;rw[HS1.out]at this;exact this⟩
    case measure=>simp[intOf];omega
  ·have hk2:k=s.size:=by omega
   subst hk2
   have hend:Rd wr (.slice (some ⟨w.heap.size,0,none⟩) s.size (grownCap w s.size 0 5)) (lowL s.data.toList).length 1 ((lowL s.data.toList).map bv):=by
    have:=HK.out
    rw[<-HL.out,List.take_length,List.drop_length,List.append_nil]at this
    have h2:=BytesOf.rd this (grownCap w s.size 0 5) (by simp[lowL];have:=HL.out;simp at this;omega)
    rw[show(lowL s.data.toList).length=s.size by rw[lowL,List.length_map,HL.out]]at h2 ⊢
    exact h2
   have hcv2:=hend.str 135 9 5 Tryz.underlying135 Tryz.underlying5 Tryz.underlying9
   clear hend
   go_wp2_with fail
   go_ret
   exact Ret.of rfl HW.out
open Go.Lib
open Go.RowKit
attribute [local go_sem] Oper.semAt_some
open Go.RowKit
attribute [local go_sem] Oper.semAt_some
open Go.RowKit
attribute [local go_sem] Oper.semAt_some
def U8 (w:World):Prop:=Lib.Utf8Tabs 0 1 w
theorem U8.below {w w':World} (h:U8 w) (hb:Below w.heap.size w w'):U8 w':=Utf8Tabs_below h hb
open Go.RowKit
attribute [local go_sem] Oper.semAt_some
open Go.RowKit
section
variable {H:Type} {enc:TypeId × Value->H}
theorem handed_row {a:Assume} {C:Checked} {os:Os} {f:FuncId} {fn:Func} {s:ChangeSpec} {conds:List PathCond} {apart fresh handsOn again:Bool} {X:World->Array Value->Prop}
  (hX: ∀(w w':World) (args:Array Value),w.heap=w'.heap->X w args->X w' args)
  (own:ownKnob C.prog.godebug=none) (started:os.Started) (noInit:C.prog.inits.idxOf? f=none) (hfn:C.prog.funcs[f]? =some fn)
  (witness: ∃(w:World) (tape:Tape) (i:Input),w.os=os/\(w.forCall tape i).Shaped C.prog/\i.vars=[]/\Input.okWide C.prog (w.forCall tape i) .any w.heap.size f i/\
   ((s.pre enc C.prog fn conds apart (w.forCall tape i).memory i.args/\X (w.forCall tape i).memory i.args)/\sizedMet enc C.prog fn (OpenSpec.ofChange s) apart (w.forCall tape i).memory i.args)/\a.holds C.prog (lone (Frame.enter C.prog f i.args .normal) [] (w.forCall tape i)))
  (contract: ∀(W:World) (base:Nat) (args:Array Value) (ds gs:List (DataW H)) (before:List MemPlace),
   (∀(j:Nat) t v,fn.params[j]? =some t->args[j]? =some v->Value.okWide C.prog W .any base t v)->
   DataW.Whole enc C.prog fn.params.toList s.vars apart W args.toList ds gs before->
   X W args->W.ShapedOpen C.prog->
   Calls C.prog f args W fun e W'=> ∃v,e= .returned v/\s.post enc C.prog fn apart fresh handsOn again W args v W'):
  ReturnsInHanded a C os f .any (fun w args=>(s.pre enc C.prog fn conds apart w args/\X w args)/\sizedMet enc C.prog fn (OpenSpec.ofChange s) apart w args) (s.post enc C.prog fn apart fresh handsOn again):=by
 refine returnsInHanded_of_calls own started noInit witness fun w tape i _ hsh _ hok hpre _=> ?_
 obtain⟨_,_,_,g,hg,_,_,_,_,hval⟩:=hok
 obtain rfl:g=fn:=Option.some.inj (hg.symm.trans hfn)
 obtain⟨⟨⟨ds,gs,before,hw,_⟩,hx⟩,_⟩:=hpre
 exact(contract _ w.heap.size i.args ds gs before hval (DataW.Whole.of_heap (w':=w.forCall tape i) (by rfl) hw) (hX _ _ _ (by rfl) hx) hsh).mono fun e W' ⟨v,he,hp⟩=>by
  subst he;exact ChangeSpec.post_blind hp
end
end Go.Proofs.YtiikamobcmgekaaGreatDoor
