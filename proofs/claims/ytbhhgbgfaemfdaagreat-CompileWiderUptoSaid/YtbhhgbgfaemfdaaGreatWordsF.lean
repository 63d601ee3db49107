/- The reference's list, each thing once: api.Force. -/
import Derived.BigRegion
import Derived.Test.YtbhhgbgfaemfdaaGreatPA
import Derived.Test.YtbhhgbgfaemfdaaGreatF3
import Derived.Test.YtbhhgbgfaemfdaaGreatWordsS
namespace Go.Proofs.YtbhhgbgfaemfdaaGreat
set_option maxRecDepth 1000000
set_option maxHeartbeats 8000000
open Go.RowKit
open KF
open Go.Proofs.YtbhhgbgfaemfdaaGreat renaming ltF→Z2,swoF→Z3
attribute [local go_sem] Oper.semAt_some
theorem Rd.atF {w:World} {A:Option Addr} {n c:Nat} {l:List Frc} (h:Rd w (.slice A n c) l.length 3 ((l).flatMap Frc.cells)) (k:Nat) (x:Frc) (hx:l[k]? =some x): ∃b off,A=some ⟨b,off,none⟩/\b<w.heap.size/\w.cell? ⟨b,off+k*3,none⟩=some (sv x.tag)/\w.cell? ⟨b,off+k*3+1,none⟩=some (sv x.name)/\w.cell? ⟨b,off+k*3+2,none⟩=some (sv x.value):=by
 obtain⟨h1,_,A',c',e,h4⟩:=h
 cases e
 obtain⟨hl,hxe⟩:=List.getElem?_eq_some_iff.1 hx
 obtain⟨b,off,rfl,hb,hc⟩:=h4 (by omega)
 have key: ∀j u,j<3->(Frc.cells x)[j]? =some u->w.cell? ⟨b,off+k*3+j,none⟩=some u:=fun j u hj hu=>by
  have:=hc (k*3+j) u (by rw[flat_at Frc.cells 3 (fun _=>rfl) l k hl j hj,hxe];exact hu)
  rw[show off+(k*3+j)=off+k*3+j by omega]at this;exact this
 exact⟨b,off,rfl,hb,key 0 _ (by omega) rfl,key 1 _ (by omega) rfl,key 2 _ (by omega) rfl⟩
theorem list_cellsF (x:Frc) (O:List Frc) (a:Nat):(O.take a++x::O.drop a).flatMap Frc.cells=(#[]:Array Value).toList++((O).flatMap Frc.cells).take (a*3)++[sv x.tag,sv x.name,sv x.value]++((O).flatMap Frc.cells).drop (a*3):=by
 rw[List.flatMap_append,List.flatMap_cons,flat_take Frc.cells 3 (fun _=>rfl),flat_drop Frc.cells 3 (fun _=>rfl)];simp[Frc.cells]
open Go.Proofs.YtbhhgbgfaemfdaaGreat renaming list_cellsF→Zw
theorem wordsF_any (A:Option Addr) (n c:Nat) (d:List Frc) (w:World) (h:Rd w (.slice A n c) d.length 3 ((d).flatMap Frc.cells)) (hn:d.length<=100000000):
  Calls Tryz.prog 129 #[.slice A n c] w (RetN w (neatL ltF d).length 3 ((neatL ltF d).flatMap Frc.cells)):=unWordsS22
end Go.Proofs.YtbhhgbgfaemfdaaGreat

