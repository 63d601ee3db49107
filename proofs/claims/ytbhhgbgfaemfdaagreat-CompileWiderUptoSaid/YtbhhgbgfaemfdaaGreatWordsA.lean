/- The reference's list, each thing once: api.Allow. -/
import Derived.BigRegion
import Derived.Test.YtbhhgbgfaemfdaaGreatPA
import Derived.Test.YtbhhgbgfaemfdaaGreatA3
import Derived.Test.YtbhhgbgfaemfdaaGreatWordsS
namespace Go.Proofs.YtbhhgbgfaemfdaaGreat
set_option maxRecDepth 1000000
set_option maxHeartbeats 8000000
open Go.RowKit
open KA
open Go.Proofs.YtbhhgbgfaemfdaaGreat renaming ltA→Z2,swoA→Z3
attribute [local go_sem] Oper.semAt_some
theorem Rd.atA {w:World} {A:Option Addr} {n c:Nat} {l:List Alw} (h:Rd w (.slice A n c) l.length 2 ((l).flatMap Alw.cells)) (k:Nat) (x:Alw) (hx:l[k]? =some x): ∃b off,A=some ⟨b,off,none⟩/\b<w.heap.size/\w.cell? ⟨b,off+k*2,none⟩=some (sv x.tag)/\w.cell? ⟨b,off+k*2+1,none⟩=some (sv x.name):=by
 obtain⟨h1,_,A',c',e,h4⟩:=h
 cases e
 obtain⟨hl,hxe⟩:=List.getElem?_eq_some_iff.1 hx
 obtain⟨b,off,rfl,hb,hc⟩:=h4 (by omega)
 have key: ∀j u,j<2->(Alw.cells x)[j]? =some u->w.cell? ⟨b,off+k*2+j,none⟩=some u:=fun j u hj hu=>by
  have:=hc (k*2+j) u (by rw[flat_at Alw.cells 2 (fun _=>rfl) l k hl j hj,hxe];exact hu)
  rw[show off+(k*2+j)=off+k*2+j by omega]at this;exact this
 exact⟨b,off,rfl,hb,key 0 _ (by omega) rfl,key 1 _ (by omega) rfl⟩
theorem list_cellsA (x:Alw) (O:List Alw) (a:Nat):(O.take a++x::O.drop a).flatMap Alw.cells=(#[]:Array Value).toList++((O).flatMap Alw.cells).take (a*2)++[sv x.tag,sv x.name]++((O).flatMap Alw.cells).drop (a*2):=by
 rw[List.flatMap_append,List.flatMap_cons,flat_take Alw.cells 2 (fun _=>rfl),flat_drop Alw.cells 2 (fun _=>rfl)];simp[Alw.cells]
open Go.Proofs.YtbhhgbgfaemfdaaGreat renaming list_cellsA→Zw
theorem wordsA_any (A:Option Addr) (n c:Nat) (d:List Alw) (w:World) (h:Rd w (.slice A n c) d.length 2 ((d).flatMap Alw.cells)) (hn:d.length<=100000000):
  Calls Tryz.prog 128 #[.slice A n c] w (RetN w (neatL ltA d).length 2 ((neatL ltA d).flatMap Alw.cells)):=unWordsS22
end Go.Proofs.YtbhhgbgfaemfdaaGreat

