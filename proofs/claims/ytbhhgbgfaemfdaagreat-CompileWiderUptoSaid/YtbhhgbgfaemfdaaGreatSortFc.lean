/- Sorting in place: one merged with what is in order. -/
import Derived.Test.YtbhhgbgfaemfdaaGreatSortFa
import Derived.Test.YtbhhgbgfaemfdaaGreatSortSc
namespace Go.Proofs.YtbhhgbgfaemfdaaGreat
set_option maxRecDepth 1000000
set_option maxHeartbeats 8000000
open Go.RowKit
open KF
open Go.Proofs.YtbhhgbgfaemfdaaGreat renaming ltF→Z2,RowF→Z1,forced_any→Z4,ltF_c→Z5,swoF→Z3,Frc→Z0
theorem mid_assocF {α:Type} (P:List α) (x:α) (A B Q:List α):P++x::A++(B++Q)=P++x::(A++B)++Q:=by simp
open Go.Proofs.YtbhhgbgfaemfdaaGreat renaming mid_assocF→Z6
theorem merge1F_any (B g cap:Nat) (P:List Frc) (x:Frc) (S Q:List Frc) (w:World) (h:RowF w B g cap (P++x::S++Q)) (hS:0<S.length) (hU:Up ltF S) (hn:(P++x::S++Q).length<=1000000000):
  Calls Tryz.prog 166 #[.slice (some ⟨g,0,none⟩) (P++x::S++Q).length cap,.int .i64 P.length,.int .i64 (P.length+1:Nat),.int .i64 (P.length+1+S.length:Nat),(.func (.func 70) #[] #[])] w
   fun e w'=>e= .returned (.tuple #[])/\MrgF w B g cap P (x::S) Q w':=unSortSc4
end Go.Proofs.YtbhhgbgfaemfdaaGreat

