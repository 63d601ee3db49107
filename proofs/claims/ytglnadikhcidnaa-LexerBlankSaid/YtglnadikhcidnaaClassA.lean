/- The walks of the bytes' classes. -/
import Derived.Test.YtglnadikhcidnaaProg
import Derived.Test.YtglnadikhcidnaaKit
import Derived.Test.YtglnadikhcidnaaLexPlain
namespace Go.Proofs.Ytglnadikhcidnaa
open Go.RowKit

theorem ret_bool {a b : Bool} (h : a = b) : Ending.returned (.bool a) = .returned (.bool b) := by rw [h]
theorem ret_int {k : IntKind} {a b : Int} (h : a = b) : Ending.returned (.int k a) = .returned (.int k b) := by rw [h]
def btwB (c l h : Int) : Bool := decide (l ≤ c) && decide (c ≤ h)
theorem letter_bits (c : UInt8) : btwB (bits .or .u8 c.toNat 32) 97 122 = (upB c || lowB c) := by
  have h : ∀ n : Fin 256, btwB (bits .or .u8 ((n.val : Nat) : Int) 32) 97 122 = (decide (65 ≤ n.val ∧ n.val ≤ 90) || decide (97 ≤ n.val ∧ n.val ≤ 122)) := by decide +kernel
  exact h ⟨c.toNat, c.toNat_lt⟩
set_option maxHeartbeats 400000 in
theorem between_any (c l h : Int) (w : World) : Calls Try.prog 44 #[.int .u8 c, .int .u8 l, .int .u8 h] w fun e w' => e = .returned (.bool (btwB c l h)) ∧ w = w' := by
  go_enter Try.func44, Try.ntmps44
  go_wp2
  all_goals go_ret
  all_goals exact ⟨ret_bool (by unfold btwB; simp <;> omega), rfl⟩
set_option maxHeartbeats 400000 in
theorem space_any (c : UInt8) (w : World) : Calls Try.prog 34 #[.int .u8 c.toNat] w fun e w' => e = .returned (.bool (spB c)) ∧ w = w' := by
  go_enter Try.func34, Try.ntmps34
  go_wp2_with (go_at_call 44; refine (between_any _ _ _ _).mono ?_; rintro e w' ⟨rfl, rfl⟩)
  all_goals go_ret
  all_goals exact ⟨ret_bool (by rw [Bool.eq_iff_iff]; simp [spB, btwB] at *; try omega), rfl⟩
set_option maxHeartbeats 400000 in
theorem letter_any (c : UInt8) (w : World) : Calls Try.prog 46 #[.int .u8 c.toNat] w fun e w' => e = .returned (.bool (upB c || lowB c)) ∧ w = w' := by
  go_enter Try.func46, Try.ntmps46
  go_wp2_with (go_at_call 44; refine (between_any _ _ _ _).mono ?_; rintro e w' ⟨rfl, rfl⟩)
  all_goals go_ret
  all_goals exact ⟨ret_bool (letter_bits c), rfl⟩
set_option maxHeartbeats 400000 in
theorem digit_any (c : UInt8) (w : World) : Calls Try.prog 40 #[.int .u8 c.toNat] w fun e w' => e = .returned (.bool (digB c)) ∧ w = w' := by
  go_enter Try.func40, Try.ntmps40
  go_wp2_with (go_at_call 44; refine (between_any _ _ _ _).mono ?_; rintro e w' ⟨rfl, rfl⟩)
  all_goals go_ret
  all_goals exact ⟨ret_bool (by rw [Bool.eq_iff_iff]; simp [digB, btwB] at *; try omega), rfl⟩
set_option maxHeartbeats 400000 in
theorem wodd_any (c : UInt8) (w : World) : Calls Try.prog 47 #[.int .u8 c.toNat] w fun e w' => e = .returned (.bool (!wchB c)) ∧ w = w' := by
  go_enter Try.func47, Try.ntmps47
  go_wp2_with (first | (go_at_call 44; refine (between_any _ _ _ _).mono ?_; rintro e w' ⟨rfl, rfl⟩) | (go_at_call 40; refine (digit_any _ _).mono ?_; rintro e w' ⟨rfl, rfl⟩))
  all_goals go_ret
  all_goals exact ⟨ret_bool (by rw [Bool.eq_iff_iff]; simp [wchB, digB, lowB, btwB] at *; try omega), rfl⟩
set_option maxHeartbeats 400000 in
theorem rspace_any (c : UInt8) (w : World) : Calls Try.prog 19 #[.int .u8 c.toNat] w fun e w' => e = .returned (.bool (spB c)) ∧ w = w' := by
  go_enter Try.func19, Try.ntmps19
  go_wp2
  all_goals go_ret
  all_goals exact ⟨ret_bool (by rw [Bool.eq_iff_iff]; simp [spB] at *; try omega), rfl⟩
set_option maxHeartbeats 400000 in
theorem rdigit_any (c : UInt8) (w : World) : Calls Try.prog 25 #[.int .u8 c.toNat] w fun e w' => e = .returned (.bool (digB c)) ∧ w = w' := by
  go_enter Try.func25, Try.ntmps25
  go_wp2
  all_goals go_ret
  all_goals exact ⟨ret_bool (by rw [Bool.eq_iff_iff]; simp [digB] at *; try omega), rfl⟩
end Go.Proofs.Ytglnadikhcidnaa
