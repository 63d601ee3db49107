/- The walk of a text without the spaces round it. -/
import Derived.Test.YtgoioaobknjmcaaDoorClsC
namespace Go.Proofs.YtgoioaobknjmcaaDoor
open Go.RowKit Go.Shelf
/-- A text without the spaces at its end. -/
def rtrim (l : Bs) : Bs := (l.reverse.dropWhile spB).reverse
theorem rtrim_sp (l : Bs) (c : UInt8) (h : spB c = true) : rtrim (l ++ [c]) = rtrim l := by
  unfold rtrim
  rw [List.reverse_append, List.reverse_singleton, List.singleton_append, List.dropWhile_cons_of_pos h]
theorem rtrim_no (l : Bs) (c : UInt8) (h : spB c = false) : rtrim (l ++ [c]) = l ++ [c] := by
  unfold rtrim
  rw [List.reverse_append, List.reverse_singleton, List.singleton_append, List.dropWhile_cons_of_neg (by simp [h])]; simp
theorem rtrim_nil : rtrim [] = [] := rfl
def trimL (l : Bs) : Bs := rtrim (l.dropWhile spB)
theorem cut_snoc (l : Bs) (k h : Nat) (hk : k ≤ h) (hh : h < l.length) : (l.take (h + 1)).drop k = (l.take h).drop k ++ [l[h]] := by
  rw [List.take_succ_eq_append_getElem hh, List.drop_append_of_le_length (by simp; omega)]
set_option maxHeartbeats 1600000 in
theorem trim_any (s : ByteArray) (w : World) (hm : s.size ≤ 9223372036854775807) :
    Calls Tryd.prog 60 #[.string s] w fun e w' => e = .returned (.string ⟨(trimL s.data.toList).toArray⟩) ∧ w = w' := by
  obtain ⟨T, hT⟩ : ∃ T, trimL s.data.toList = T := ⟨_, rfl⟩
  have HT := Lib.hid hT
  rw [hT]
  clear hT
  have HL := Lib.hid (len_data s)
  go_enter Tryd.func60, Tryd.ntmps60
  go_wp2_with fail
  go_loop [3] (fun i => ∃ k : Nat, k ≤ s.size ∧ i = .int .i64 k ∧ Hid ((s.data.toList.drop k).dropWhile spB = s.data.toList.dropWhile spB)) (fun i => s.size - (intOf i).toNat)
  case atStart => exact ⟨0, by omega, rfl, rfl⟩
  case round =>
    obtain ⟨k, hk, rfl, HK⟩ := hrel
    by_cases hlt : k < s.size
    · have HD := Lib.hid (drop_at s k hlt)
      cases hs : spB s[k]
      · have HR : Hid (rtrim (s.data.toList.drop k) = T) := by
          show _ = _
          rw [← HT.out, trimL, ← HK.out, HD.out, List.dropWhile_cons_of_neg (by simp [hs])]
        go_wp2_with (go_at_call 27; (with_reducible refine (space_any _ _).mono ?_); rintro e w' ⟨rfl, rfl⟩; rw [hs])
        go_loop [4] (fun i => ∃ h : Nat, k ≤ h ∧ h ≤ s.size ∧ i = .int .i64 h ∧ Hid (rtrim ((s.data.toList.take h).drop k) = T)) (fun i => (intOf i).toNat)
        case atStart => exact ⟨s.size, hk, Nat.le_refl _, rfl, by show _ = _; rw [← HL.out, List.take_length]; exact HR.out⟩
        case round =>
          obtain ⟨h, hkh, hh, rfl, HJ⟩ := hrel
          by_cases hlt2 : k < h
          · obtain ⟨j, rfl⟩ : ∃ j, h = j + 1 := ⟨h - 1, by omega⟩
            have HC : Hid ((s.data.toList.take (j + 1)).drop k = (s.data.toList.take j).drop k ++ [s[j]]) := by
              show _ = _
              exact cut_snoc s.data.toList k j (by omega) (by rw [len_data]; omega)
            have ej : ((j + 1 : Nat) : Int) - 1 = j := by omega
            cases hs2 : spB s[j]
            · have HX : Hid (s.extract k (j + 1) = ⟨T.toArray⟩) := by
                show _ = _
                rw [str_cut, ← HJ.out, HC.out, rtrim_no _ _ hs2]
              go_wp2_with (go_at_call 27; (with_reducible refine (space_any _ _).mono ?_); rintro e w' ⟨rfl, rfl⟩)
              go_ret
              exact ⟨by rw [← HX.out]; rfl, rfl⟩
            · have HX : Hid (rtrim ((s.data.toList.take j).drop k) = T) := by
                show _ = _
                rw [← HJ.out, HC.out, rtrim_sp _ _ hs2]
              go_wp2_with (go_at_call 27; (with_reducible refine (space_any _ _).mono ?_); rintro e w' ⟨rfl, rfl⟩)
              go_round
              case rel => exact ⟨j, by omega, by omega, by go_num, HX⟩
              case measure => simp [intOf]
          · obtain rfl : h = k := by omega
            have HX : Hid (T = []) := by
              show _ = _
              rw [← HJ.out, List.drop_eq_nil_of_le (by simp; omega)]; rfl
            go_wp2
            go_ret
            exact ⟨by rw [HX.out]; rfl, rfl⟩
      · have HN : Hid ((s.data.toList.drop (k + 1)).dropWhile spB = s.data.toList.dropWhile spB) := by
          show _ = _
          rw [← HK.out, HD.out, List.dropWhile_cons_of_pos hs]
        go_wp2_with (go_at_call 27; (with_reducible refine (space_any _ _).mono ?_); rintro e w' ⟨rfl, rfl⟩; rw [hs])
        go_round
        case rel => exact ⟨k + 1, by omega, by go_num, HN⟩
        case measure => simp [intOf]; omega
    · obtain rfl : k = s.size := by omega
      have HX : Hid (T = []) := by
        show _ = _
        rw [← HT.out, trimL, ← HK.out, List.drop_eq_nil_of_le (Nat.le_of_eq (len_data s))]; rfl
      go_wp2_with fail
      go_loop [4] (fun i => i = .int .i64 s.size) (fun _ => 0)
      case atStart => rfl
      case round =>
        obtain rfl := hrel
        go_wp2
        go_ret
        exact ⟨by rw [HX.out]; rfl, rfl⟩
end Go.Proofs.YtgoioaobknjmcaaDoor
