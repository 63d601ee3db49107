/- Sorting in place: one merged with what is in order. -/
import Derived.Test.YtbhhgbgfaemfdaaGreatSortAa
import Derived.Test.YtbhhgbgfaemfdaaGreatSortSc
namespace Go.Proofs.YtbhhgbgfaemfdaaGreat
set_option maxRecDepth 1000000
set_option maxHeartbeats 8000000
open Go.RowKit
open KA
open Go.Proofs.YtbhhgbgfaemfdaaGreat renaming ltA→Z2,RowA→Z1,allowed_any→Z4,ltA_c→Z5,swoA→Z3,Alw→Z0
theorem mid_assocA {α:Type} (P:List α) (x:α) (A B Q:List α):P++x::A++(B++Q)=P++x::(A++B)++Q:=by simp
open Go.Proofs.YtbhhgbgfaemfdaaGreat renaming mid_assocA→Z6
theorem merge1A_any (B g cap:Nat) (P:List Alw) (x:Alw) (S Q:List Alw) (w:World) (h:RowA w B g cap (P++x::S++Q)) (hS:0<S.length) (hU:Up ltA S) (hn:(P++x::S++Q).length<=1000000000):
  Calls Tryz.prog 164 #[.slice (some ⟨g,0,none⟩) (P++x::S++Q).length cap,.int .i64 P.length,.int .i64 (P.length+1:Nat),.int .i64 (P.length+1+S.length:Nat),(.func (.func 67) #[] #[])] w
   fun e w'=>e= .returned (.tuple #[])/\MrgA w B g cap P (x::S) Q w':=unSortSc4
end Go.Proofs.YtbhhgbgfaemfdaaGreat

