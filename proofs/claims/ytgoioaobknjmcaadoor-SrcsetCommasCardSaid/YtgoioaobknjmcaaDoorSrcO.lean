/- The walk of a text's words by the reference. -/
import Derived.Test.YtgoioaobknjmcaaDoorSrcL
namespace Go.Proofs.YtgoioaobknjmcaaDoor
open Go.RowKit Go.Shelf
theorem cut_one (s : ByteArray) (k : Nat) (h : k < s.size) : s.extract k (k + 1) = ⟨([s[k]] : Bs).toArray⟩ := by
  rw [str_cut, cut_snoc _ _ _ (Nat.le_refl _) (by rw [len_data]; exact h), List.drop_eq_nil_of_le (by simp; omega)]; rfl
set_option maxRecDepth 100000 in
set_option maxHeartbeats 4000000 in
theorem rfields_any (s : ByteArray) (w : World) (hm : s.size ≤ 140737488355) : Calls Tryd.prog 21 #[.string s] w (RetS w (wordsL s.data.toList).length 1 ((wordsL s.data.toList).map sv)) := by
  obtain ⟨L, hL⟩ : ∃ L, wordsL s.data.toList = L := ⟨_, rfl⟩
  have HL := Lib.hid hL
  have hfew := words_few s.data.toList
  rw [len_data] at hfew
  rw [hL] at hfew ⊢
  clear hL
  go_enter Tryd.func21, Tryd.ntmps21
  go_wp2_with fail
  go_loopw [3, 4, 5] (fun v x i wr => ∃ (k : Nat) (us : List Bs) (acc : Bs) (X : Gr), k ≤ s.size ∧ acc.length + us.length ≤ k ∧ i = .int .i64 k ∧ x = .string ⟨acc.toArray⟩ ∧ wr = w.grow X ∧ (w.grow X).ownsRow w.heap.size 9 1 v us.length (us.map sv) ∧ Hid (us ++ wordsA acc (s.data.toList.drop k) = L)) (fun _ _ i _ => s.size - (intOf i).toNat)
  case atStart => exact ⟨0, [], [], _, by omega, by simp, rfl, rfl, (grow_refl w).symm, by rw [grow_refl]; exact World.ownsRow_nil _ _ _ _, by show _ = _; rw [List.nil_append, List.drop_zero]; exact HL.out⟩
  case round =>
    obtain ⟨k, us, acc, X, hk, hle, rfl, rfl, rfl, hown, HK⟩ := hrel
    obtain ⟨C, hC⟩ : ∃ S : ByteArray, ⟨acc.toArray⟩ = S := ⟨_, rfl⟩
    have hCe : C.toList.isEmpty = decide (acc = []) := by rw [ba_emp, ← hC]
    have hCs : C.size ≤ 140737488355 := by rw [← hC]; show acc.length ≤ _; omega
    have HC := Lib.hid hC
    rw [hC]
    clear hC
    by_cases hlt : k < s.size
    · have HD := Lib.hid (drop_at s k hlt)
      cases hs : spB s[k]
      · have HN := Lib.hid (show us ++ wordsA (acc ++ [s[k]]) (s.data.toList.drop (k + 1)) = L by rw [← HK.out, HD.out, wordsA, if_neg (by simp [hs])])
        have hcu : s.extract k (k + 1) = ⟨([s[k]] : Bs).toArray⟩ := cut_one s k hlt
        have HA : Hid (C ++ ⟨([s[k]] : Bs).toArray⟩ = ⟨(acc ++ [s[k]]).toArray⟩) := by show _ = _; rw [← HC.out, cat_bs]
        go_wp2_with (go_at_call 19; (with_reducible refine (rspace_any _ _).mono ?_); rintro e w' ⟨rfl, rfl⟩; rw [hs])
        go_roundw
        case rel => exact ⟨k + 1, us, acc ++ [s[k]], X, by omega, by simp; omega, by go_num, by rw [← HA.out]; try rfl, rfl, hown, HN⟩
        case measure => simp [intOf]; omega
      · by_cases ha : acc = []
        · have HN := Lib.hid (show us ++ wordsA [] (s.data.toList.drop (k + 1)) = L by rw [← HK.out, HD.out, wordsA, if_pos hs, if_pos ha])
          rw [show decide (acc = []) = true by simp [ha]] at hCe
          go_wp2_with (go_at_call 19; (with_reducible refine (rspace_any _ _).mono ?_); rintro e w' ⟨rfl, rfl⟩; rw [hs])
          go_roundw
          case rel => exact ⟨k + 1, us, [], X, by omega, by simp; omega, by go_num, rfl, rfl, hown, HN⟩
          case measure => simp [intOf]; omega
        · have HN := Lib.hid (show us ++ [acc] ++ wordsA [] (s.data.toList.drop (k + 1)) = L by rw [← HK.out, HD.out, wordsA, if_pos hs, if_neg ha]; simp)
          rw [show decide (acc = []) = false by simp [ha]] at hCe
          have HM := Lib.hid (show (us ++ [acc]).map sv = us.map sv ++ [.string C] by rw [List.map_append, ← HC.out]; rfl)
          have HM2 := Lib.hid (show (us ++ [acc]).length = us.length + 1 by simp)
          have hal : 1 ≤ acc.length := by cases acc with | nil => exact absurd rfl ha | cons => simp
          go_wp2_with (first | (go_at_call 19; (with_reducible refine (rspace_any _ _).mono ?_); rintro e w' ⟨rfl, rfl⟩; rw [hs]) | (at_builtin; go_loud (refine append_grow rfl _ _ 39 rfl strs_row w rfl (hown.alloc _) (by repeat (first | with_reducible exact Below.refl _ _ | (with_reducible refine Below.alloc ?_ (by first | omega | (simp [go_sem] <;> omega)) _) | (with_reducible refine Below.drew ?_) | (with_reducible refine Below.drewN ?_ _) | (with_reducible refine Below.grow ?_ (by first | omega | (simp [go_sem] <;> omega)) _) | (with_reducible refine Below.setCell ?_ (by first | omega | (simp [go_sem] <;> omega)) _))) ⟨_, 0, none⟩ 1 1 [.string C] rfl rfl (new_cells (c := #[.string C]) (by simp [go_sem])) (by simp [Value.oneCell']) (by unfold maxLen; omega) (by omega) ?_); intro v' Y hown' _))
          go_roundw
          case rel => exact ⟨k + 1, us ++ [acc], [], Y, by omega, by rw [HM2.out]; simp; omega, by go_num, rfl, rfl, by rw [HM.out, HM2.out]; exact hown', HN⟩
          case measure => simp [intOf]; omega
    · have HE := Lib.hid (drop_end s k (by omega))
      by_cases ha : acc = []
      · have HN : Hid (us = L) := by show _ = _; rw [← HK.out, HE.out, wordsA, if_pos ha]; simp
        rw [show decide (acc = []) = true by simp [ha]] at hCe
        go_wp2
        go_ret
        rw [← HN.out]
        exact RetS.own (by repeat (first | with_reducible exact Below.refl _ _ | (with_reducible refine Below.alloc ?_ (by first | omega | (simp [go_sem] <;> omega)) _) | (with_reducible refine Below.drew ?_) | (with_reducible refine Below.drewN ?_ _) | (with_reducible refine Below.grow ?_ (by first | omega | (simp [go_sem] <;> omega)) _) | (with_reducible refine Below.setCell ?_ (by first | omega | (simp [go_sem] <;> omega)) _))) hown
      · have HN : Hid (us ++ [acc] = L) := by show _ = _; rw [← HK.out, HE.out, wordsA, if_neg ha]
        rw [show decide (acc = []) = false by simp [ha]] at hCe
        have HM := Lib.hid (show (us ++ [acc]).map sv = us.map sv ++ [.string C] by rw [List.map_append, ← HC.out]; rfl)
        have HM2 := Lib.hid (show (us ++ [acc]).length = us.length + 1 by simp)
        go_wp2_with (at_builtin; go_loud (refine append_grow rfl _ _ 39 rfl strs_row w rfl (hown.alloc _) (by repeat (first | with_reducible exact Below.refl _ _ | (with_reducible refine Below.alloc ?_ (by first | omega | (simp [go_sem] <;> omega)) _) | (with_reducible refine Below.drew ?_) | (with_reducible refine Below.drewN ?_ _) | (with_reducible refine Below.grow ?_ (by first | omega | (simp [go_sem] <;> omega)) _) | (with_reducible refine Below.setCell ?_ (by first | omega | (simp [go_sem] <;> omega)) _))) ⟨_, 0, none⟩ 1 1 [.string C] rfl rfl (new_cells (c := #[.string C]) (by simp [go_sem])) (by simp [Value.oneCell']) (by unfold maxLen; omega) (by omega) ?_); intro v' Y hown' _)
        go_ret
        rw [← HN.out]
        exact RetS.own (by repeat (first | with_reducible exact Below.refl _ _ | (with_reducible refine Below.alloc ?_ (by first | omega | (simp [go_sem] <;> omega)) _) | (with_reducible refine Below.drew ?_) | (with_reducible refine Below.drewN ?_ _) | (with_reducible refine Below.grow ?_ (by first | omega | (simp [go_sem] <;> omega)) _) | (with_reducible refine Below.setCell ?_ (by first | omega | (simp [go_sem] <;> omega)) _))) (by rw [HM.out, HM2.out]; exact hown')
end Go.Proofs.YtgoioaobknjmcaaDoor
