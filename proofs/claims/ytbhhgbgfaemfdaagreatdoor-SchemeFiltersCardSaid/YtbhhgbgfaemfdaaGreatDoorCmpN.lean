/- The walks of words: Void, and what the reference says of words. (written by gen_rw.py) -/
import Derived.Test.YtbhhgbgfaemfdaaGreatDoorC3
namespace Go.Proofs.YtbhhgbgfaemfdaaGreatDoor
set_option maxRecDepth 100000
set_option maxHeartbeats 1600000
open Go.RowKit
attribute [local go_sem] Oper.semAt_some
theorem zwx {W:World} {c:Array Value} {e:TypeId} {n B:Nat} {ts:List Bs} (hB:B=W.heap.size) (he:c=(ts.map sv).toArray) (hn:n=ts.length) (h9:ts.length<=1000):Rd (W.alloc (.cells c e)) (.slice (some ⟨B,0,none⟩) n n) ts.length 1 (ts.map sv):=by
 subst hB he hn
 have:=Rd.own (za7 (W:=W) (e:=e) (c:=(ts.map sv).toArray) (n:=ts.length) (size:=1) (by simp) (by unfold maxLen;omega))
 simpa using this
theorem zjm (s:Bs) (v:Value) (l:List Bs) (w:World) (h:Rd w v l.length 1 (l.map sv)):Calls Tryz.prog 98 #[sv s,v] w (Ret (.bool (decide (s∈l))) w):=by
 obtain⟨_,hm,A,c,rfl,h4⟩:=h
 obtain⟨n,hn⟩: ∃n,l.length=n:=⟨_,rfl⟩
 have HN:=Lib.hid hn
 have HD0:Hid (decide (s∈l)=decide (s∈l.drop 0)):=by show _=_;rw[List.drop_zero]
 obtain⟨D,hD⟩: ∃D,decide (s∈l)=D:=⟨_,rfl⟩
 rw[hD]at HD0 ⊢
 rw[hn]at hm h4 ⊢
 clear hn hD
 have H4:=Lib.hid h4
 have HQ:=Lib.hid (fun t:Bs=>show((⟨t.toArray⟩:ByteArray).toList==(⟨s.toArray⟩:ByteArray).toList)=decide (t=s) by rw[ByteArray.toList_eq,ByteArray.toList_eq,Bool.eq_iff_iff];simp)
 clear h4
 unfold sv
 generalize hxs:(⟨s.toArray⟩:ByteArray)=xs at*
 clear hxs
 go_enter Tryz.func98,Tryz.ntmps98
 go_wp2_with fail
 go_loopw [5] (fun i wr=> ∃k:Nat,k<=n/\i= .int .i64 (k:Nat)/\Hid (D=decide (s∈l.drop k))/\wr=w) (fun i _=>n-(intOf i).toNat)
 case atStart=>exact⟨0,by omega,rfl,HD0.out,rfl⟩
 case round=>
  clear HD0
  obtain⟨k,hk,rfl,HK,rfl⟩:=hrel
  by_cases hlt:k<n
  ·obtain⟨b,off,rfl,hb,hc⟩:=H4.out (by omega)
   have hkl:k<l.length:=by rw[HN.out];exact hlt
   obtain⟨t,ht⟩: ∃t,l[k]=t:=⟨_,rfl⟩
   have x0:wr.cell? ⟨b,off+k,none⟩=some (.string ⟨t.toArray⟩):=hc k (sv t) (by simp[hkl,ht])
   have HD:Hid (l.drop k=t::l.drop (k+1)):=by show _=_;rw[List.drop_eq_getElem_cons hkl,ht]
   have hq:=HQ.out t
   clear hc ht hkl
   generalize(⟨t.toArray⟩:ByteArray)=xt at*
   by_cases he:t=s
   ·rw[decide_eq_true he]at hq
    have HT:Hid (D=true):=by show _=_;rw[HK.out,HD.out,he];simp
    clear HK HD he
    go_wp2_with fail
    go_ret
    exact Ret.of (by rw[HT.out];rfl) bel
   ·rw[decide_eq_false he]at hq
    have HT:Hid (D=decide (s∈l.drop (k+1))):=by show _=_;rw[HK.out,HD.out];simp[show ¬s=t from fun e=>he e.symm]
    clear HK HD he
    go_wp2_with fail
    go_roundw
    case rel=>exact⟨k+1,by omega,by go_num,HT.out,by first|rfl|trivial⟩
    case measure=>simp[intOf];omega
  ·have HT:Hid (D=false):=by show _=_;rw[HK.out,List.drop_eq_nil_of_le (by rw[HN.out];omega)];rfl
   go_wp2_with fail
   go_ret
   exact Ret.of (by rw[HT.out];rfl) bel
theorem zmd (t:Bs) (w:World):Calls Tryz.prog 96 #[sv t] w (Ret (.bool (zct t)) w):=by
 have HI:=Lib.hid (fun(W:World) c (hc:c=(([[115,99,114,105,112,116],[115,116,121,108,101],[120,109,112],[105,102,114,97,109,101],[110,111,101,109,98,101,100],[110,111,102,114,97,109,101,115],[110,111,115,99,114,105,112,116],[112,108,97,105,110,116,101,120,116],[115,118,103],[109,97,116,104],[116,101,109,112,108,97,116,101],[116,101,120,116,97,114,101,97],[116,105,116,108,101],[102,114,97,109,101,115,101,116],[102,114,97,109,101],[111,98,106,101,99,116],[101,109,98,101,100],[98,97,115,101]]:List Bs).map sv).toArray)=>show Calls Tryz.prog 98 #[.string ⟨t.toArray⟩,.slice (some ⟨W.heap.size,0,none⟩) 18 18] (W.alloc (.cells c 9)) (Ret (.bool (zct t)) (W.alloc (.cells c 9)))from by
  have h:=zjm t (.slice (some ⟨W.heap.size,0,none⟩) 18 18) [[115,99,114,105,112,116],[115,116,121,108,101],[120,109,112],[105,102,114,97,109,101],[110,111,101,109,98,101,100],[110,111,102,114,97,109,101,115],[110,111,115,99,114,105,112,116],[112,108,97,105,110,116,101,120,116],[115,118,103],[109,97,116,104],[116,101,109,112,108,97,116,101],[116,101,120,116,97,114,101,97],[116,105,116,108,101],[102,114,97,109,101,115,101,116],[102,114,97,109,101],[111,98,106,101,99,116],[101,109,98,101,100],[98,97,115,101]] (W.alloc (.cells c 9)) (zwx (e:=9) (n:=18) rfl hc rfl (by decide))
  unfold zct
  rw[zls]
  exact h)
 generalize zct t=D at*
 unfold sv
 generalize(⟨t.toArray⟩:ByteArray)=x at*
 go_enter Tryz.func96,Tryz.ntmps96
 go_wp2_with(go_at_call 98;(refine(HI.out w _ rfl).mono ?_);rintro e W1 ⟨rfl,X1,rfl⟩)
 go_ret
 exact Ret.of rfl bel
theorem z1s (t:Bs):onB t=(decide (2<=t.length)&&decide (t.take 2=[111,110])):=by
 unfold onB
 match t with
 |[]=>rfl
 |[a]=>rfl
 |a::b::r=>
  rw[Bool.eq_iff_iff]
  simp
theorem zgv (t:Bs) (w:World) (ht:t.length<=1000000):Calls Tryz.prog 97 #[sv t] w (Ret (.bool (zbl t)) w):=by
 unfold zbl
 rw[z1s]
 have hl:(⟨t.toArray⟩:ByteArray).size=t.length:=by show t.toArray.size=_;simp
 have hx:2<=t.length->((⟨t.toArray⟩:ByteArray).extract 0 2).toList=t.take 2:=fun h=>by rw[Lib.extract_toList];simp
 unfold sv
 rw[<-hl]at ht ⊢
 cases hd:decide (t=zpi)with
 |true=>
  have m0:((⟨t.toArray⟩:ByteArray).toList==[115,114,99,100,111,99])=true:=by rw[zbj];exact hd
  clear hx hl
  generalize(⟨t.toArray⟩:ByteArray)=x at*
  go_enter Tryz.func97,Tryz.ntmps97
  go_wp2_with fail
  go_ret
  exact Ret.of rfl bel
 |false=>
  have m0:((⟨t.toArray⟩:ByteArray).toList==[115,114,99,100,111,99])=false:=by rw[zbj];exact hd
  by_cases h2:2<=(⟨t.toArray⟩:ByteArray).size
  ·have m1:(((⟨t.toArray⟩:ByteArray).extract 0 2).toList==[111,110])=decide (t.take 2=[111,110]):=by rw[hx (by omega)];rw[Bool.eq_iff_iff];simp
   rw[decide_eq_true h2]
   generalize decide (t.take 2=[111,110])=D at*
   clear hx hl hd
   generalize(⟨t.toArray⟩:ByteArray)=x at*
   go_enter Tryz.func97,Tryz.ntmps97
   go_wp2_with fail
   go_ret
   exact Ret.of rfl bel
  ·rw[decide_eq_false h2]
   clear hx hl hd
   generalize(⟨t.toArray⟩:ByteArray)=x at*
   go_enter Tryz.func97,Tryz.ntmps97
   go_wp2_with fail
   go_ret
   exact Ret.of rfl bel
end Go.Proofs.YtbhhgbgfaemfdaaGreatDoor

