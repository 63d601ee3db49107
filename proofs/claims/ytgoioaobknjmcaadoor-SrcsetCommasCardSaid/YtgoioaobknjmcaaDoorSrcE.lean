/- The walks of the reference: how far a size goes. -/
import Derived.Test.YtgoioaobknjmcaaDoorClsC
import Derived.Test.YtgoioaobknjmcaaDoorSrcA
namespace Go.Proofs.YtgoioaobknjmcaaDoor
open Go.RowKit Go.Shelf
set_option maxHeartbeats 1600000 in
theorem rsize_any (s : ByteArray) (w : World) (hm : s.size ≤ 140737488355328) :
    Calls Tryd.prog 20 #[.string s] w fun e w' => e = .returned (.string ⟨(s.data.toList.take (szL 0 s.data.toList)).toArray⟩) ∧ w = w' := by
  obtain ⟨N, hN⟩ : ∃ N, szL 0 s.data.toList = N := ⟨_, rfl⟩
  have HN := Lib.hid hN
  rw [hN]
  clear hN
  go_enter Tryd.func20, Tryd.ntmps20
  go_wp2_with fail
  go_loop [3, 4] (fun d i => ∃ (k n : Nat), k ≤ s.size ∧ n ≤ k ∧ i = .int .i64 k ∧ d = .int .i64 n ∧ Hid (k + szL n (s.data.toList.drop k) = N)) (fun _ i => s.size - (intOf i).toNat)
  case atStart => exact ⟨0, 0, by omega, by omega, rfl, rfl, by show _ = _; rw [List.drop_zero, HN.out]; omega⟩
  case round =>
    obtain ⟨k, n, hk, hn, rfl, rfl, HK⟩ := hrel
    by_cases hlt : k < s.size
    · have HD := Lib.hid (drop_at s k hlt)
      by_cases h40 : s[k].toNat = 40
      · have b40 : ((s[k].toNat : Int) == 40) = true := by simp; omega
        have b41 : ((s[k].toNat : Int) == 41) = false := by simp; omega
        have b44 : ((s[k].toNat : Int) == 44) = false := by simp; omega
        have H1 : Hid (k + 1 + szL (n + 1) (s.data.toList.drop (k + 1)) = N) := by
          show _ = _
          rw [← HK.out, HD.out, szL, if_neg (by omega), if_pos h40]; omega
        clear h40
        go_wp2
        go_round
        case rel => exact ⟨k + 1, n + 1, by omega, by omega, by go_num, by go_num, H1⟩
        case measure => simp [intOf]; omega
      · have b40 : ((s[k].toNat : Int) == 40) = false := by simp; omega
        by_cases h41 : s[k].toNat = 41
        · have b41 : ((s[k].toNat : Int) == 41) = true := by simp; omega
          have b44 : ((s[k].toNat : Int) == 44) = false := by simp; omega
          have H1 : Hid (k + 1 + szL (n - 1) (s.data.toList.drop (k + 1)) = N) := by
            show _ = _
            rw [← HK.out, HD.out, szL, if_neg (by omega), if_neg h40, if_pos h41]; omega
          clear h40 h41
          by_cases h0 : 0 < n
          · have hz : (0 : Int) < n := by omega
            go_wp2
            go_round
            case rel => exact ⟨k + 1, n - 1, by omega, by omega, by go_num, by first | go_num | (congr 1; omega), H1⟩
            case measure => simp [intOf]; omega
          · have hz : ¬ (0 : Int) < n := by omega
            go_wp2
            go_round
            case rel => exact ⟨k + 1, n, by omega, by omega, by go_num, rfl, by rw [show n - 1 = n by omega] at H1; exact H1⟩
            case measure => simp [intOf]; omega
        · have b41 : ((s[k].toNat : Int) == 41) = false := by simp; omega
          by_cases h44 : s[k].toNat = 44 ∧ n = 0
          · obtain ⟨h1, rfl⟩ := h44
            have b44 : ((s[k].toNat : Int) == 44) = true := by simp; omega
            have H1 : Hid (s.extract 0 k = ⟨(s.data.toList.take N).toArray⟩) := by
              show _ = _
              rw [str_take, ← HK.out, HD.out, szL, if_pos ⟨h1, rfl⟩]; rfl
            clear h40 h41 h1
            go_wp2
            go_ret
            exact ⟨by rw [← H1.out]; rfl, rfl⟩
          · have H1 : Hid (k + 1 + szL n (s.data.toList.drop (k + 1)) = N) := by
              show _ = _
              rw [← HK.out, HD.out, szL, if_neg h44, if_neg h40, if_neg h41]; omega
            have hc : ((s[k].toNat : Int) == 44) = false ∨ (((s[k].toNat : Int) == 44) = true ∧ ((n : Int) == 0) = false) := by
              by_cases h1 : s[k].toNat = 44
              · right; exact ⟨by simp; omega, by simp; omega⟩
              · left; simp; omega
            clear h40 h41 h44
            rcases hc with b44 | ⟨b44, b0⟩
            all_goals
              go_wp2
              go_round
              case rel => exact ⟨k + 1, n, by omega, by omega, by go_num, rfl, H1⟩
              case measure => simp [intOf]; omega
    · have H1 : Hid (s = ⟨(s.data.toList.take N).toArray⟩) := by
        show _ = _
        have h2 : s.size ≤ N := by have := HK.out; omega
        rw [List.take_of_length_le (by rw [len_data]; exact h2)]
      go_wp2
      go_ret
      exact ⟨by rw [← H1.out]; rfl, rfl⟩
end Go.Proofs.YtgoioaobknjmcaaDoor
