/- The walks of the reference: whether a size, and a picture, may be; whether two lists are the same. -/
import Derived.Test.YtgoioaobknjmcaaDoorSrcQ
namespace Go.Proofs.YtgoioaobknjmcaaDoor
open Go.RowKit Go.Shelf
theorem figs_bs (s : Bs) (w : World) (hm : s.length ≤ 140737488355) : Calls Tryd.prog 25 #[.string ⟨s.toArray⟩] w fun e w' => e = .returned (.tuple #[.int .i64 (tw digB s), .bool (nulsL s)]) ∧ w = w' :=
  rfigures_any ⟨s.toArray⟩ w (by show s.length ≤ _; omega)
theorem nuls_any (s : Bs) : (s.takeWhile digB).any (fun c => decide (c.toNat ≠ 48)) = !nulsL s := by
  unfold nulsL nulB
  generalize s.takeWhile digB = l
  induction l with
  | nil => rfl
  | cons c l ih => simp only [List.any_cons, List.all_cons, ih, Bool.not_and]; simp
set_option maxRecDepth 100000 in
set_option maxHeartbeats 1600000 in
theorem rsizeok_any (s : Bs) (w : World) (hm : s.length ≤ 140737488355) : Calls Tryd.prog 12 #[.string ⟨s.toArray⟩] w fun e w' => e = .returned (.bool (sizeB s)) ∧ w = w' := by
  obtain ⟨S, hS⟩ : ∃ S : ByteArray, ⟨s.toArray⟩ = S := ⟨_, rfl⟩
  obtain ⟨R, hR⟩ : ∃ S : ByteArray, ⟨(s.dropWhile digB).toArray⟩ = S := ⟨_, rfl⟩
  have HF := Lib.hid (fun W => figs_bs s W hm)
  have hSe : S.toList.isEmpty = decide (s = []) := by rw [ba_emp, ← hS]
  have hSs : S.size = s.length := by rw [← hS]; rfl
  have hRw : (R.toList == [119]) = decide (s.dropWhile digB = [119]) := by rw [← hR, ByteArray.toList_eq, Bool.eq_iff_iff]; simp
  have hRx : (R.toList == [120]) = decide (s.dropWhile digB = [120]) := by rw [← hR, ByteArray.toList_eq, Bool.eq_iff_iff]; simp
  have hcut : S.extract (tw digB s) S.size = R := by rw [str_drop, ← hS]; show (⟨(s.drop (tw digB s)).toArray⟩ : ByteArray) = R; rw [drop_tw, hR]
  have hn := tw_le digB s
  have hn2 : tw digB s ≤ S.size := by omega
  have hm2 : S.size ≤ 140737488355 := by omega
  rw [hS] at HF ⊢
  by_cases hs : s = []
  · have HX := Lib.hid (show sizeB s = true by rw [sizeB, if_pos hs])
    rw [show decide (s = []) = true by simp [hs]] at hSe
    go_enter Tryd.func12, Tryd.ntmps12
    go_wp2
    go_ret
    exact ⟨by rw [HX.out]; rfl, rfl⟩
  · have HC := Lib.hid (size_cases s hs)
    rw [show decide (s = []) = false by simp [hs]] at hSe
    have hf : tw digB s < 1 ∨ (1 ≤ tw digB s ∧ 9 < tw digB s) ∨ (1 ≤ tw digB s ∧ tw digB s ≤ 9) := by omega
    have HN0 := Lib.hid (nuls_any s)
    rcases hf with h | ⟨h1, h2⟩ | ⟨h1, h2⟩
    · have HX := Lib.hid (show sizeB s = false by rw [HC.out]; simp; omega)
      generalize tw digB s = n at *
      have b1 : decide ((n : Int) < 1) = true := by simp; omega
      clear hSs
      go_enter Tryd.func12, Tryd.ntmps12
      go_wp2_with (go_at_call 25; (with_reducible refine (HF.out _).mono ?_); rintro e w' ⟨rfl, rfl⟩)
      go_ret
      exact ⟨by rw [HX.out]; rfl, rfl⟩
    · have HX := Lib.hid (show sizeB s = false by rw [HC.out]; simp; omega)
      generalize tw digB s = n at *
      have b1 : decide ((n : Int) < 1) = false := by simp; omega
      have b2 : decide ((9 : Int) < n) = true := by simp; omega
      clear hSs
      go_enter Tryd.func12, Tryd.ntmps12
      go_wp2_with (go_at_call 25; (with_reducible refine (HF.out _).mono ?_); rintro e w' ⟨rfl, rfl⟩)
      go_ret
      exact ⟨by rw [HX.out]; rfl, rfl⟩
    · have HC := Lib.hid (HC.out.trans (by rw [show (decide (1 ≤ tw digB s) && decide (tw digB s ≤ 9)) = true by simp; omega, Bool.true_and]))
      have b1 : decide ((tw digB s : Int) < 1) = false := by simp; omega
      have b2 : decide ((9 : Int) < tw digB s) = false := by simp; omega
      by_cases hw : s.dropWhile digB = [119]
      · rw [show decide (s.dropWhile digB = [119]) = true by simp [hw]] at hRw
        have HX := Lib.hid (show sizeB s = !nulsL s by rw [HC.out, hw, ← HN0.out]; rfl)
        generalize tw digB s = n at *
        generalize nulsL s = z at *
        clear hSs h1 h2 hw
        go_enter Tryd.func12, Tryd.ntmps12
        go_wp2_with (go_at_call 25; (with_reducible refine (HF.out _).mono ?_); rintro e w' ⟨rfl, rfl⟩)
        go_ret
        exact ⟨by rw [HX.out]; rfl, rfl⟩
      · rw [show decide (s.dropWhile digB = [119]) = false by simp [hw]] at hRw
        have hRs : R.size = (s.dropWhile digB).length := by rw [← hR]; rfl
        have hRd : R.data.toList = s.dropWhile digB := by rw [← hR]
        have hdl := drop_while_len digB s
        cases hd : isDot (s.dropWhile digB)
        · have HX := Lib.hid (show sizeB s = decide (s.dropWhile digB = [120]) by
            rw [HC.out]
            split
            · contradiction
            · rename_i he; rw [he] at hd; simp [isDot] at hd
            · rw [tail_x])
          have hcase : R.size = 0 ∨ ∃ h : 0 < R.size, ((R[0].toNat : Int) == 46) = false := by
            by_cases h0 : R.size = 0
            · exact Or.inl h0
            · right
              refine ⟨by omega, ?_⟩
              have := data_at R _ hRd 0 (by omega)
              cases hq : s.dropWhile digB with
              | nil => rw [hq, List.length_nil] at hRs; omega
              | cons c r =>
                rw [hq] at this hd
                simp [isDot] at hd
                simp at this
                rw [this]; simp; omega
          generalize tw digB s = n at *
          generalize decide (s.dropWhile digB = [120]) = q at *
          clear hSs hRs hd hw hdl hRd h1 h2
          rcases hcase with h | ⟨h, hb⟩
          all_goals
            go_enter Tryd.func12, Tryd.ntmps12
            go_wp2_with (go_at_call 25; (with_reducible refine (HF.out _).mono ?_); rintro e w' ⟨rfl, rfl⟩)
            go_ret
            exact ⟨by rw [HX.out]; rfl, rfl⟩
        · cases hq : s.dropWhile digB with
          | nil => rw [hq] at hd; simp [isDot] at hd
          | cons c r =>
            rw [hq] at hd
            have hc : c.toNat = 46 := by simpa [isDot] using hd
            have hc2 : c = 46 := UInt8.toNat_inj.1 hc
            subst hc2
            have HX := Lib.hid (show sizeB s = ((decide (1 ≤ tw digB r) && decide (tw digB r ≤ 9)) && decide (r.dropWhile digB = [120])) by
              rw [HC.out, hq, ← tail_x]
              cases r <;> rfl)
            rw [hq] at hRs hdl hRd
            have hr1 : 1 ≤ R.size := by rw [hRs]; simp
            have hrs : R.size = r.length + 1 := by rw [hRs]; simp
            have hr0 : 0 < R.size := by omega
            have hR0 : R[0]'hr0 = 46 := by have := data_at R _ hRd 0 hr0; simpa using this
            have hR1 : R.extract 1 R.size = ⟨r.toArray⟩ := by rw [str_drop, hRd]; rfl
            have htr := tw_le digB r
            have hR3 : R.extract (1 + tw digB r) R.size = ⟨(r.dropWhile digB).toArray⟩ := by
              rw [str_drop, hRd, Nat.add_comm, List.drop_succ_cons, drop_tw]
            obtain ⟨R2, hR2⟩ : ∃ S : ByteArray, ⟨r.toArray⟩ = S := ⟨_, rfl⟩
            obtain ⟨R3, hR3'⟩ : ∃ S : ByteArray, ⟨(r.dropWhile digB).toArray⟩ = S := ⟨_, rfl⟩
            have hmr : R.size ≤ 140737488355 := by omega
            have hk1 : 1 + tw digB r ≤ R.size := by omega
            have HF2 := Lib.hid (fun W => figs_bs r W (by omega))
            have hR3x : (R3.toList == [120]) = decide (r.dropWhile digB = [120]) := by rw [← hR3', ByteArray.toList_eq, Bool.eq_iff_iff]; simp
            rw [hR2] at HF2 hR1
            rw [hR3'] at hR3
            have hm1 : ((1 : Int) + (tw digB r : Int)).toNat = 1 + tw digB r := by omega
            have hm0 : (0 : Int) ≤ 1 + (tw digB r : Int) := by omega
            have hm3 : (1 : Int) + (tw digB r : Int) ≤ (R.size : Int) := by omega
            have hk2 : tw digB r < 1 ∨ (1 ≤ tw digB r ∧ 9 < tw digB r) ∨ (1 ≤ tw digB r ∧ tw digB r ≤ 9) := by omega
            clear hR2 hR3' hRs hR hq hd hw hdl hSs hrs hRd h1 h2
            generalize decide (r.dropWhile digB = [120]) = q at *
            generalize tw digB s = n at *
            generalize tw digB r = m at *
            generalize nulsL r = z2 at *
            rcases hk2 with h | ⟨h1, h2⟩ | ⟨h1, h2⟩
            · have HX2 := Lib.hid (show sizeB s = false by rw [HX.out]; simp; omega)
              have c1 : decide ((1 : Int) ≤ m) = false := by simp; omega
              go_enter Tryd.func12, Tryd.ntmps12
              go_wp2_with (first | (go_at_call 25; (with_reducible refine (HF.out _).mono ?_); rintro e w' ⟨rfl, rfl⟩) | (go_at_call 25; (with_reducible refine (HF2.out _).mono ?_); rintro e w' ⟨rfl, rfl⟩))
              go_ret
              exact ⟨by rw [HX2.out]; rfl, rfl⟩
            · have HX2 := Lib.hid (show sizeB s = false by rw [HX.out]; simp; omega)
              have c1 : decide ((1 : Int) ≤ m) = true := by simp; omega
              have c2 : decide ((m : Int) ≤ 9) = false := by simp; omega
              go_enter Tryd.func12, Tryd.ntmps12
              go_wp2_with (first | (go_at_call 25; (with_reducible refine (HF.out _).mono ?_); rintro e w' ⟨rfl, rfl⟩) | (go_at_call 25; (with_reducible refine (HF2.out _).mono ?_); rintro e w' ⟨rfl, rfl⟩))
              go_ret
              exact ⟨by rw [HX2.out]; rfl, rfl⟩
            · have HX2 := Lib.hid (show sizeB s = q by rw [HX.out, show (decide (1 ≤ m) && decide (m ≤ 9)) = true by simp; omega, Bool.true_and])
              have c1 : decide ((1 : Int) ≤ m) = true := by simp; omega
              have c2 : decide ((m : Int) ≤ 9) = true := by simp; omega
              go_enter Tryd.func12, Tryd.ntmps12
              go_wp2_with (first | (go_at_call 25; (with_reducible refine (HF.out _).mono ?_); rintro e w' ⟨rfl, rfl⟩) | (go_at_call 25; (with_reducible refine (HF2.out _).mono ?_); rintro e w' ⟨rfl, rfl⟩))
              go_ret
              exact ⟨by rw [HX2.out]; rfl, rfl⟩
end Go.Proofs.YtgoioaobknjmcaaDoor
