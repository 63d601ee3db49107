/- The walks of the lexer's small functions. -/
import Derived.Test.YtglnadikhcidnaaClassA
namespace Go.Proofs.Ytglnadikhcidnaa
open Go.RowKit
set_option maxHeartbeats 400000 in
theorem small_any (c : UInt8) (w : World) : Calls Try.prog 37 #[.int .u8 c.toNat] w fun e w' => e = .returned (.bool (lowB c)) ∧ w = w' := by
  go_enter Try.func37, Try.ntmps37
  go_wp2_with (go_at_call 46; refine (letter_any _ _).mono ?_; rintro e w' ⟨rfl, rfl⟩)
  all_goals go_ret
  all_goals exact ⟨ret_bool (by rw [Bool.eq_iff_iff]; simp [upB, lowB] at *; try omega), rfl⟩
set_option maxHeartbeats 400000 in
theorem odd_any (c : UInt8) (w : World) : Calls Try.prog 21 #[.int .u8 c.toNat] w fun e w' => e = .returned (.bool (oddB c)) ∧ w = w' := by
  go_enter Try.func21, Try.ntmps21
  go_wp2
  all_goals go_ret
  all_goals exact ⟨ret_bool (by rw [Bool.eq_iff_iff]; simp [oddB] at *; try omega), rfl⟩
set_option maxHeartbeats 400000 in
theorem goes_any (c : UInt8) (w : World) : Calls Try.prog 39 #[.int .u8 c.toNat] w fun e w' => e = .returned (.bool (wchB c)) ∧ w = w' := by
  go_enter Try.func39, Try.ntmps39
  go_wp2_with (first | (go_at_call 37; refine (small_any _ _).mono ?_; rintro e w' ⟨rfl, rfl⟩) | (go_at_call 40; refine (digit_any _ _).mono ?_; rintro e w' ⟨rfl, rfl⟩))
  all_goals go_ret
  all_goals exact ⟨ret_bool (by rw [Bool.eq_iff_iff]; simp [wchB, digB, lowB] at *; try omega), rfl⟩
set_option maxHeartbeats 400000 in
theorem rsmall_any (c : UInt8) (w : World) : Calls Try.prog 29 #[.int .u8 c.toNat] w fun e w' => e = .returned (.bool (wchB c)) ∧ w = w' := by
  go_enter Try.func29, Try.ntmps29
  go_wp2
  all_goals go_ret
  all_goals exact ⟨ret_bool (by rw [Bool.eq_iff_iff]; simp [wchB, digB, lowB] at *; try omega), rfl⟩
end Go.Proofs.Ytglnadikhcidnaa
