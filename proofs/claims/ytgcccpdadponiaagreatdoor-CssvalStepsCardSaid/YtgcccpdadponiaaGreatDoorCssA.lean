/- The walks of styles: bytes' classes, and how many of a kind there are. -/
import Derived.Shelf.Abstract
import Derived.Lib.Strings
import Derived.Test.YtgcccpdadponiaaGreatDoorProg
import Derived.Test.YtgcccpdadponiaaGreatDoorKA
import Derived.Test.YtgcccpdadponiaaGreatDoorCssPlain
namespace Go.Proofs.YtgcccpdadponiaaGreatDoor
open Go.RowKit Go.Shelf
theorem ret_bool {a b : Bool} (h : a = b) : Ending.returned (.bool a) = .returned (.bool b) := by rw [h]
theorem ret_int {k : IntKind} {a b : Int} (h : a = b) : Ending.returned (.int k a) = .returned (.int k b) := by rw [h]
def btwB (c l h : Int) : Bool := decide (l ≤ c) && decide (c ≤ h)
theorem letter_bits (c : UInt8) : btwB (bits .or .u8 c.toNat 32) 97 122 = letB c := by
  have h : ∀ n : Fin 256, btwB (bits .or .u8 ((n.val : Nat) : Int) 32) 97 122 = (decide (65 ≤ n.val ∧ n.val ≤ 90) || decide (97 ≤ n.val ∧ n.val ≤ 122)) := by decide +kernel
  exact h ⟨c.toNat, c.toNat_lt⟩
set_option maxHeartbeats 400000 in
theorem between_any (c l h : Int) (w : World) : Calls Tryz.prog 95 #[.int .u8 c, .int .u8 l, .int .u8 h] w fun e w' => e = .returned (.bool (btwB c l h)) ∧ w = w' := by
  go_enter Tryz.func95, Tryz.ntmps95
  go_wp2
  all_goals go_ret
  all_goals exact ⟨ret_bool (by unfold btwB; simp <;> omega), rfl⟩
set_option maxHeartbeats 400000 in
theorem space_any (c : UInt8) (w : World) : Calls Tryz.prog 83 #[.int .u8 c.toNat] w fun e w' => e = .returned (.bool (spB c)) ∧ w = w' := by
  go_enter Tryz.func83, Tryz.ntmps83
  go_wp2_with (go_at_call 95; refine (between_any _ _ _ _).mono ?_; rintro e w' ⟨rfl, rfl⟩)
  all_goals go_ret
  all_goals exact ⟨ret_bool (by rw [Bool.eq_iff_iff]; simp [spB, btwB] at *; try omega), rfl⟩
set_option maxHeartbeats 400000 in
theorem letter_any (c : UInt8) (w : World) : Calls Tryz.prog 112 #[.int .u8 c.toNat] w fun e w' => e = .returned (.bool (letB c)) ∧ w = w' := by
  go_enter Tryz.func112, Tryz.ntmps112
  go_wp2_with (go_at_call 95; refine (between_any _ _ _ _).mono ?_; rintro e w' ⟨rfl, rfl⟩)
  all_goals go_ret
  all_goals exact ⟨ret_bool (letter_bits c), rfl⟩
set_option maxHeartbeats 400000 in
theorem digit_any (c : UInt8) (w : World) : Calls Tryz.prog 94 #[.int .u8 c.toNat] w fun e w' => e = .returned (.bool (digB c)) ∧ w = w' := by
  go_enter Tryz.func94, Tryz.ntmps94
  go_wp2_with (go_at_call 95; refine (between_any _ _ _ _).mono ?_; rintro e w' ⟨rfl, rfl⟩)
  all_goals go_ret
  all_goals exact ⟨ret_bool (by rw [Bool.eq_iff_iff]; simp [digB, btwB] at *; try omega), rfl⟩
set_option maxHeartbeats 400000 in
theorem begins_any (c : UInt8) (w : World) : Calls Tryz.prog 110 #[.int .u8 c.toNat] w fun e w' => e = .returned (.bool (begB c)) ∧ w = w' := by
  have HB : Hid (begB c = (letB c || decide (c.toNat = 95))) := rfl
  cases hl : letB c
  all_goals
    have HL : Hid (∀ W, Calls Tryz.prog 112 #[.int .u8 c.toNat] W fun e w' => e = .returned (.bool _) ∧ W = w') := fun W => hl ▸ letter_any c W
    go_enter Tryz.func110, Tryz.ntmps110
    go_wp2_with (go_at_call 112; (with_reducible refine (HL.out _).mono ?_); rintro e w' ⟨rfl, rfl⟩)
    all_goals go_ret
    all_goals exact ⟨ret_bool (by rw [HB.out, hl]; first | rfl | (rw [Bool.eq_iff_iff]; simp <;> omega)), rfl⟩
set_option maxHeartbeats 400000 in
theorem goes_any (c : UInt8) (w : World) : Calls Tryz.prog 90 #[.int .u8 c.toNat] w fun e w' => e = .returned (.bool (goB c)) ∧ w = w' := by
  have HB : Hid (goB c = (begB c || digB c || decide (c.toNat = 45))) := rfl
  cases hl : begB c <;> cases hd0 : digB c
  all_goals
    have HL : Hid (∀ W, Calls Tryz.prog 110 #[.int .u8 c.toNat] W fun e w' => e = .returned (.bool _) ∧ W = w') := fun W => hl ▸ begins_any c W
    have HD : Hid (∀ W, Calls Tryz.prog 94 #[.int .u8 c.toNat] W fun e w' => e = .returned (.bool _) ∧ W = w') := fun W => hd0 ▸ digit_any c W
    go_enter Tryz.func90, Tryz.ntmps90
    go_wp2_with (first | (go_at_call 110; (with_reducible refine (HL.out _).mono ?_); rintro e w' ⟨rfl, rfl⟩) | (go_at_call 94; (with_reducible refine (HD.out _).mono ?_); rintro e w' ⟨rfl, rfl⟩))
    all_goals go_ret
    all_goals exact ⟨ret_bool (by rw [HB.out, hl, hd0]; first | rfl | (rw [Bool.eq_iff_iff]; simp <;> omega)), rfl⟩
set_option maxHeartbeats 400000 in
theorem plain_any (c : UInt8) (w : World) : Calls Tryz.prog 116 #[.int .u8 c.toNat] w fun e w' => e = .returned (.bool (plB c)) ∧ w = w' := by
  go_enter Tryz.func116, Tryz.ntmps116
  go_wp2
  all_goals go_ret
  all_goals exact ⟨ret_bool (by rw [Bool.eq_iff_iff]; simp [plB] at *; try omega), rfl⟩
theorem len_data (s : ByteArray) : s.data.toList.length = s.size := by rw [Array.length_toList]; rfl
theorem drop_at (s : ByteArray) (k : Nat) (h : k < s.size) : s.data.toList.drop k = s[k] :: s.data.toList.drop (k + 1) := by
  rw [List.drop_eq_getElem_cons (by simpa using h)]; rfl
theorem drop_end (s : ByteArray) (k : Nat) (h : s.size ≤ k) : s.data.toList.drop k = [] := by
  rw [List.drop_eq_nil_iff]; simpa using h
/-- A function that tells something of a byte. -/
structure PredU (g : Nat) (p : UInt8 → Bool) : Prop where
  enters : ∀ args w, (callFunc g args).run Tryz.prog w = .ok (.enter g args) w
  calls : ∀ (c : UInt8) (w : World), Calls Tryz.prog g #[.int .u8 c.toNat] w fun e w' => e = .returned (.bool (p c)) ∧ w = w'
theorem digit_pred : PredU 94 digB := ⟨enters_of Tryz.func94 (by kernel_rfl) rfl, digit_any⟩
theorem goes_pred : PredU 90 goB := ⟨enters_of Tryz.func90 (by kernel_rfl) rfl, goes_any⟩
theorem plain_pred : PredU 116 plB := ⟨enters_of Tryz.func116 (by kernel_rfl) rfl, plain_any⟩
theorem twc_t {p : UInt8 → Bool} {c : UInt8} (r : Bs) (h : p c = true) : twc p (c :: r) = twc p r + 1 := by simp [twc, h]
theorem twc_f {p : UInt8 → Bool} {c : UInt8} (r : Bs) (h : p c = false) : twc p (c :: r) = 0 := by simp [twc, h]
set_option maxHeartbeats 1600000 in
theorem row_any (s : ByteArray) (at_ : Nat) (g : Nat) (p : UInt8 → Bool) (w : World) (hp : PredU g p) (ha : at_ ≤ s.size) (hm : s.size ≤ 140737488355328) :
    Calls Tryz.prog 89 #[.string s, .int .i64 at_, .func (.func g) #[] #[]] w fun e w' => e = .returned (.int .i64 (twc p (s.data.toList.drop at_))) ∧ w = w' := by
  obtain ⟨eg, hp⟩ := hp
  have hp := Lib.hid hp
  obtain ⟨T, hT⟩ : ∃ T, twc p (s.data.toList.drop at_) = T := ⟨_, rfl⟩
  have HT := Lib.hid hT
  rw [hT]
  clear hT
  go_enter Tryz.func89, Tryz.ntmps89
  go_wp2_with fail
  go_loop [7] (fun i => ∃ k : Nat, at_ + k ≤ s.size ∧ i = .int .i64 k ∧ Hid (T = k + twc p (s.data.toList.drop (at_ + k)))) (fun i => s.size - (intOf i).toNat)
  case atStart => exact ⟨0, by omega, rfl, by show _ = _; rw [← HT.out]; simp⟩
  case round =>
    obtain ⟨k, hk, rfl, HK⟩ := hrel
    by_cases hlt : at_ + k < s.size
    · have HD : Hid (s.data.toList.drop (at_ + k) = s[at_ + k] :: s.data.toList.drop (at_ + k + 1)) := drop_at s _ hlt
      have hix : ((at_ : Int) + k).toNat = at_ + k := by omega
      cases hpc : p s[at_ + k]
      · have HN : Hid (T = k) := by show _ = _; rw [HK.out, HD.out, twc_f _ hpc]; omega
        go_wp2_with ((with_reducible refine (hp.out s[at_ + k] _).mono ?_); rintro e w' ⟨rfl, rfl⟩; rw [hpc])
        go_ret
        exact ⟨ret_int (by rw [HN.out]), rfl⟩
      · have HN : Hid (T = k + 1 + twc p (s.data.toList.drop (at_ + (k + 1)))) := by show _ = _; rw [HK.out, HD.out, twc_t _ hpc, Nat.add_assoc at_ k 1]; omega
        go_wp2_with ((with_reducible refine (hp.out s[at_ + k] _).mono ?_); rintro e w' ⟨rfl, rfl⟩; rw [hpc])
        go_round
        case rel => exact ⟨k + 1, by omega, by go_num, HN⟩
        case measure => simp [intOf]; omega
    · have HN : Hid (T = k) := by show _ = _; rw [HK.out, drop_end _ _ (by omega)]; simp [twc]
      go_wp2
      go_ret
      exact ⟨ret_int (by rw [HN.out]), rfl⟩
end Go.Proofs.YtgcccpdadponiaaGreatDoor
