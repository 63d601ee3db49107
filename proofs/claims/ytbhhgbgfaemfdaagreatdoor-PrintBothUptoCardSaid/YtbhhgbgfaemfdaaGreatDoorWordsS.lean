/- The reference's list, each thing once: string. -/
import Derived.BigRegion
import Derived.Test.YtbhhgbgfaemfdaaGreatDoorPA
import Derived.Test.YtbhhgbgfaemfdaaGreatDoorS3
namespace Go.Proofs.YtbhhgbgfaemfdaaGreatDoor
open Go.RowKit
attribute [local go_sem] Oper.semAt_some
theorem Rd.atS {w:World} {A:Option Addr} {n c:Nat} {l:List Bs} (h:Rd w (.slice A n c) l.length 1 ((l).map sv)) (k:Nat) (x:Bs) (hx:l[k]? =some x): ∃b off,A=some ⟨b,off,none⟩/\b<w.heap.size/\w.cell? ⟨b,off+k,none⟩=some (sv x):=by
 obtain⟨h1,_,A',c',e,h4⟩:=h
 cases e
 obtain⟨hl,hxe⟩:=List.getElem?_eq_some_iff.1 hx
 obtain⟨b,off,rfl,hb,hc⟩:=h4 (by omega)
 exact⟨b,off,rfl,hb,hc k (sv x) (by rw[List.getElem?_map,hx];rfl)⟩
end Go.Proofs.YtbhhgbgfaemfdaaGreatDoor

