/- The walks of the reference: digits of a size. -/
import Derived.Test.YtgoioaobknjmcaaDoorClsC
import Derived.Test.YtgoioaobknjmcaaDoorSrcA
namespace Go.Proofs.YtgoioaobknjmcaaDoor
open Go.RowKit Go.Shelf
def nulB (c : UInt8) : Bool := decide (c.toNat = 48)
def nulsL (l : Bs) : Bool := (l.takeWhile digB).all nulB
theorem nuls_step {c : UInt8} {r : Bs} (h : digB c = true) : nulsL (c :: r) = (nulB c && nulsL r) := by
  unfold nulsL; rw [List.takeWhile_cons_of_pos h, List.all_cons]
theorem tw_step {c : UInt8} {r : Bs} (h : digB c = true) : tw digB (c :: r) = tw digB r + 1 := by
  unfold tw; rw [List.takeWhile_cons_of_pos h]; rfl
theorem tw_stop {c : UInt8} {r : Bs} (h : digB c = false) : tw digB (c :: r) = 0 ∧ nulsL (c :: r) = true := by
  unfold tw nulsL; rw [List.takeWhile_cons_of_neg (by simp [h])]; exact ⟨rfl, rfl⟩
set_option maxHeartbeats 1600000 in
theorem rfigures_any (s : ByteArray) (w : World) (hm : s.size ≤ 9223372036854775807) :
    Calls Tryd.prog 25 #[.string s] w fun e w' => e = .returned (.tuple #[.int .i64 (tw digB s.data.toList), .bool (nulsL s.data.toList)]) ∧ w = w' := by
  obtain ⟨N, hN⟩ : ∃ N, tw digB s.data.toList = N := ⟨_, rfl⟩
  obtain ⟨Z, hZ⟩ : ∃ Z, nulsL s.data.toList = Z := ⟨_, rfl⟩
  have HN := Lib.hid hN
  have HZ := Lib.hid hZ
  rw [hN, hZ]
  clear hN hZ
  go_enter Tryd.func25, Tryd.ntmps25
  go_wp2_with fail
  go_loop [4, 5] (fun i z => ∃ (k : Nat) (b : Bool), k ≤ s.size ∧ i = .int .i64 k ∧ z = .bool b ∧ Hid (k + tw digB (s.data.toList.drop k) = N) ∧ Hid ((b && nulsL (s.data.toList.drop k)) = Z)) (fun i _ => s.size - (intOf i).toNat)
  case atStart => exact ⟨0, true, by omega, rfl, rfl, by show _ = _; rw [List.drop_zero, HN.out]; omega, by show _ = _; rw [List.drop_zero, HZ.out]; rfl⟩
  case round =>
    obtain ⟨k, b, hk, rfl, rfl, HK, HJ⟩ := hrel
    by_cases hlt : k < s.size
    · have HD := Lib.hid (drop_at s k hlt)
      cases hs : digB s[k]
      · have H1 : Hid ((k : Int) = N) := by
          show _ = _
          have := HK.out
          rw [HD.out, (tw_stop hs).1] at this; omega
        have H2 : Hid (b = Z) := by
          show _ = _
          have := HJ.out
          rw [HD.out, (tw_stop hs).2, Bool.and_true] at this; exact this
        go_wp2_with (go_at_call 45; (with_reducible refine (rdigit_any _ _).mono ?_); rintro e w' ⟨rfl, rfl⟩; rw [hs])
        go_ret2
        exact ⟨by rw [← H1.out, ← H2.out]; rfl, rfl⟩
      · have H1 : Hid (k + 1 + tw digB (s.data.toList.drop (k + 1)) = N) := by
          show _ = _
          rw [← HK.out, HD.out, tw_step hs]; omega
        have H2 : Hid (((b && nulB s[k]) && nulsL (s.data.toList.drop (k + 1))) = Z) := by
          show _ = _
          rw [← HJ.out, HD.out, nuls_step hs, Bool.and_assoc]
        have e48 : ((s[k].toNat : Int) == 48) = nulB s[k] := by unfold nulB; rw [Bool.eq_iff_iff]; simp; omega
        cases b
        all_goals
          go_wp2_with (go_at_call 45; (with_reducible refine (rdigit_any _ _).mono ?_); rintro e w' ⟨rfl, rfl⟩; rw [hs])
          go_round
          case rel => exact ⟨k + 1, _, by omega, by go_num, rfl, H1, H2⟩
          case measure => simp [intOf]; omega
    · have H1 : Hid ((k : Int) = N) := by
        show _ = _
        have := HK.out
        rw [List.drop_eq_nil_of_le (by rw [len_data]; omega)] at this
        simp [tw] at this; omega
      have H2 : Hid (b = Z) := by
        show _ = _
        have := HJ.out
        rw [List.drop_eq_nil_of_le (by rw [len_data]; omega)] at this
        simpa [nulsL] using this
      go_wp2
      go_ret2
      exact ⟨by rw [← H1.out, ← H2.out]; rfl, rfl⟩
end Go.Proofs.YtgoioaobknjmcaaDoor
