/- Sorting in place: what is in order merged with one. -/
import Derived.Test.YtbhhgbgfaemfdaaGreatSortFa
import Derived.Test.YtbhhgbgfaemfdaaGreatSortSd
namespace Go.Proofs.YtbhhgbgfaemfdaaGreat
set_option maxRecDepth 1000000
set_option maxHeartbeats 8000000
open Go.RowKit
open KF
open Go.Proofs.YtbhhgbgfaemfdaaGreat renaming ltF→Z2,RowF→Z1,forced_any→Z4,ltF_c→Z5,swoF→Z3,Frc→Z0
theorem end_assocF {α:Type} (P:List α) (A B:List α) (y:α) (Q:List α):P++A++(B++y::Q)=P++(A++B)++y::Q:=by simp
open Go.Proofs.YtbhhgbgfaemfdaaGreat renaming end_assocF→Z7
theorem merge2F_any (B g cap:Nat) (P S:List Frc) (y:Frc) (Q:List Frc) (w:World) (h:RowF w B g cap (P++S++y::Q)) (hS:2<=S.length) (hU:Up ltF S) (hn:(P++S++y::Q).length<=1000000000):
  Calls Tryz.prog 166 #[.slice (some ⟨g,0,none⟩) (P++S++y::Q).length cap,.int .i64 P.length,.int .i64 (P.length+S.length:Nat),.int .i64 (P.length+S.length+1:Nat),(.func (.func 70) #[] #[])] w
   fun e w'=>e= .returned (.tuple #[])/\MrgF w B g cap P (S++[y]) Q w':=unSortSd5
end Go.Proofs.YtbhhgbgfaemfdaaGreat

