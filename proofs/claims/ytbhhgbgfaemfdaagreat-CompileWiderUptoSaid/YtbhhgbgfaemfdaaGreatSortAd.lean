/- Sorting in place: what is in order merged with one. -/
import Derived.Test.YtbhhgbgfaemfdaaGreatSortAa
import Derived.Test.YtbhhgbgfaemfdaaGreatSortSd
namespace Go.Proofs.YtbhhgbgfaemfdaaGreat
set_option maxRecDepth 1000000
set_option maxHeartbeats 8000000
open Go.RowKit
open KA
open Go.Proofs.YtbhhgbgfaemfdaaGreat renaming ltA→Z2,RowA→Z1,allowed_any→Z4,ltA_c→Z5,swoA→Z3,Alw→Z0
theorem end_assocA {α:Type} (P:List α) (A B:List α) (y:α) (Q:List α):P++A++(B++y::Q)=P++(A++B)++y::Q:=by simp
open Go.Proofs.YtbhhgbgfaemfdaaGreat renaming end_assocA→Z7
theorem merge2A_any (B g cap:Nat) (P S:List Alw) (y:Alw) (Q:List Alw) (w:World) (h:RowA w B g cap (P++S++y::Q)) (hS:2<=S.length) (hU:Up ltA S) (hn:(P++S++y::Q).length<=1000000000):
  Calls Tryz.prog 164 #[.slice (some ⟨g,0,none⟩) (P++S++y::Q).length cap,.int .i64 P.length,.int .i64 (P.length+S.length:Nat),.int .i64 (P.length+S.length+1:Nat),(.func (.func 67) #[] #[])] w
   fun e w'=>e= .returned (.tuple #[])/\MrgA w B g cap P (S++[y]) Q w':=unSortSd5
end Go.Proofs.YtbhhgbgfaemfdaaGreat

