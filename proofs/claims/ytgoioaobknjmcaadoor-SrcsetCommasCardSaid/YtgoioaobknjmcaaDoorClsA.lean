/- The walks of the bytes' classes that a chapter behind the lexer needs. -/
import Derived.Shelf.Abstract
import Derived.Lib.Strings
import Derived.Test.YtgoioaobknjmcaaDoorProg
import Derived.Test.YtgoioaobknjmcaaDoorKit
import Derived.Test.YtgoioaobknjmcaaDoorLexPlain
namespace Go.Proofs.YtgoioaobknjmcaaDoor
open Go.RowKit

theorem ret_bool {a b : Bool} (h : a = b) : Ending.returned (.bool a) = .returned (.bool b) := by rw [h]
theorem ret_int {k : IntKind} {a b : Int} (h : a = b) : Ending.returned (.int k a) = .returned (.int k b) := by rw [h]
def btwB (c l h : Int) : Bool := decide (l ≤ c) && decide (c ≤ h)
set_option maxHeartbeats 400000 in
theorem between_any (c l h : Int) (w : World) : Calls Tryd.prog 47 #[.int .u8 c, .int .u8 l, .int .u8 h] w fun e w' => e = .returned (.bool (btwB c l h)) ∧ w = w' := by
  go_enter Tryd.func47, Tryd.ntmps47
  go_wp2
  all_goals go_ret
  all_goals exact ⟨ret_bool (by unfold btwB; simp <;> omega), rfl⟩
set_option maxHeartbeats 400000 in
theorem space_any (c : UInt8) (w : World) : Calls Tryd.prog 27 #[.int .u8 c.toNat] w fun e w' => e = .returned (.bool (spB c)) ∧ w = w' := by
  go_enter Tryd.func27, Tryd.ntmps27
  go_wp2_with (go_at_call 47; refine (between_any _ _ _ _).mono ?_; rintro e w' ⟨rfl, rfl⟩)
  all_goals go_ret
  all_goals exact ⟨ret_bool (by rw [Bool.eq_iff_iff]; simp [spB, btwB] at *; try omega), rfl⟩
set_option maxHeartbeats 400000 in
theorem digit_any (c : UInt8) (w : World) : Calls Tryd.prog 36 #[.int .u8 c.toNat] w fun e w' => e = .returned (.bool (digB c)) ∧ w = w' := by
  go_enter Tryd.func36, Tryd.ntmps36
  go_wp2_with (go_at_call 47; refine (between_any _ _ _ _).mono ?_; rintro e w' ⟨rfl, rfl⟩)
  all_goals go_ret
  all_goals exact ⟨ret_bool (by rw [Bool.eq_iff_iff]; simp [digB, btwB] at *; try omega), rfl⟩
set_option maxHeartbeats 400000 in
theorem rspace_any (c : UInt8) (w : World) : Calls Tryd.prog 19 #[.int .u8 c.toNat] w fun e w' => e = .returned (.bool (spB c)) ∧ w = w' := by
  go_enter Tryd.func19, Tryd.ntmps19
  go_wp2
  all_goals go_ret
  all_goals exact ⟨ret_bool (by rw [Bool.eq_iff_iff]; simp [spB] at *; try omega), rfl⟩
set_option maxHeartbeats 400000 in
theorem rdigit_any (c : UInt8) (w : World) : Calls Tryd.prog 45 #[.int .u8 c.toNat] w fun e w' => e = .returned (.bool (digB c)) ∧ w = w' := by
  go_enter Tryd.func45, Tryd.ntmps45
  go_wp2
  all_goals go_ret
  all_goals exact ⟨ret_bool (by rw [Bool.eq_iff_iff]; simp [digB] at *; try omega), rfl⟩
end Go.Proofs.YtgoioaobknjmcaaDoor
