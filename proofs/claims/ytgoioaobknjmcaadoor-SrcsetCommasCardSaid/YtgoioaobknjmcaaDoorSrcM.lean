/- The walks of Size and Right: whether a size, and a picture, may be. -/
import Derived.Test.YtgoioaobknjmcaaDoorSrcL
namespace Go.Proofs.YtgoioaobknjmcaaDoor
open Go.RowKit Go.Shelf
theorem digits_bs (s : Bs) (w : World) (hm : s.length ≤ 9223372036854775807) :
    Calls Tryd.prog 22 #[.string ⟨s.toArray⟩] w (Ret (.tuple #[.string ⟨(s.dropWhile digB).toArray⟩, .bool (decide (1 ≤ tw digB s) && decide (tw digB s ≤ 9))]) w) :=
  digits_any ⟨s.toArray⟩ w (by show s.length ≤ _; omega)
theorem size_cases (s : Bs) (h : s ≠ []) : sizeB s = ((decide (1 ≤ tw digB s) && decide (tw digB s ≤ 9)) && match s.dropWhile digB with
      | [119] => (s.takeWhile digB).any (fun c => decide (c.toNat ≠ 48))
      | 46 :: r => decide (1 ≤ tw digB r) && decide (tw digB r ≤ 9) && sizeTail (r.dropWhile digB)
      | t => sizeTail t) := by
  rw [sizeB, if_neg h]
  show (if tw digB s < 1 ∨ 9 < tw digB s then false else _) = _
  split
  · rename_i h1
    symm
    rw [Bool.and_eq_false_iff]; left; simp; omega
  · rename_i h1
    rw [show (decide (1 ≤ tw digB s) && decide (tw digB s ≤ 9)) = true by simp; omega, Bool.true_and]; rfl
theorem nul_trim (d : Bs) (hd : d.all digB = true) : (decide (Lib.trimB (d ++ [119]) 48 = [119])) = !d.any (fun c => decide (c.toNat ≠ 48)) := by
  have h1 : Lib.trimRightB (d ++ [119]) 48 = d ++ [119] := by
    unfold Lib.trimRightB
    rw [List.reverse_append, List.reverse_singleton, List.singleton_append, List.dropWhile_cons_of_neg (by decide)]; simp
  unfold Lib.trimB
  rw [h1]
  unfold Lib.trimLeftB
  clear h1
  induction d with
  | nil => rfl
  | cons c d ih =>
    simp only [List.all_cons, Bool.and_eq_true] at hd
    rw [List.cons_append, List.any_cons]
    by_cases h : c = 48
    · rw [List.dropWhile_cons_of_pos (by simp [h]), ih hd.2, h]; rfl
    · have h2 : c.toNat ≠ 48 := fun e => h (UInt8.toNat_inj.1 e)
      rw [List.dropWhile_cons_of_neg (by simp [h])]
      simp [h2]
theorem tail_x (t : Bs) : sizeTail t = decide (t = [120]) := by
  unfold sizeTail
  split <;> simp_all
def isDot : Bs → Bool
  | c :: _ => decide (c.toNat = 46)
  | [] => false
theorem dot_prefix (t : Bs) : Lib.hasPrefix t [46] = isDot t := by
  unfold Lib.hasPrefix
  cases t with
  | nil => rfl
  | cons c r => rw [Bool.eq_iff_iff]; simp [List.isPrefixOf, isDot, ← UInt8.toNat_inj]; exact eq_comm
set_option maxHeartbeats 1600000 in
theorem sizeok_any (s : Bs) (w : World) (hm : s.length ≤ 9223372036854775807) : Calls Tryd.prog 11 #[.string ⟨s.toArray⟩] w (Ret (.bool (sizeB s)) w) := by
  obtain ⟨S, hS⟩ : ∃ S : ByteArray, ⟨s.toArray⟩ = S := ⟨_, rfl⟩
  obtain ⟨R, hR⟩ : ∃ S : ByteArray, ⟨(s.dropWhile digB).toArray⟩ = S := ⟨_, rfl⟩
  have HD := Lib.hid (fun W => digits_bs s W hm)
  have hSe : S.toList.isEmpty = decide (s = []) := by rw [ba_emp, ← hS]
  have hRw : (R.toList == [119]) = decide (s.dropWhile digB = [119]) := by rw [← hR, ByteArray.toList_eq, Bool.eq_iff_iff]; simp
  have hRx : (R.toList == [120]) = decide (s.dropWhile digB = [120]) := by rw [← hR, ByteArray.toList_eq, Bool.eq_iff_iff]; simp
  rw [hS, hR] at HD
  rw [hS]
  by_cases hs : s = []
  · have HX := Lib.hid (show sizeB s = true by rw [sizeB, if_pos hs])
    rw [show decide (s = []) = true by simp [hs]] at hSe
    go_enter Tryd.func11, Tryd.ntmps11
    go_wp2_with (go_at_call 22; (with_reducible refine (HD.out _).mono ?_); rintro e w' ⟨rfl, X, rfl⟩)
    go_ret
    exact Ret.of (by rw [HX.out]; rfl) (by repeat (first | with_reducible exact Below.refl _ _ | (with_reducible refine Below.alloc ?_ (by first | omega | (simp [go_sem] <;> omega)) _) | (with_reducible refine Below.drew ?_) | (with_reducible refine Below.drewN ?_ _) | (with_reducible refine Below.grow ?_ (by first | omega | (simp [go_sem] <;> omega)) _) | (with_reducible refine Below.setCell ?_ (by first | omega | (simp [go_sem] <;> omega)) _)))
  · have HC := Lib.hid (size_cases s hs)
    rw [show decide (s = []) = false by simp [hs]] at hSe
    cases hf : (decide (1 ≤ tw digB s) && decide (tw digB s ≤ 9))
    · have HX := Lib.hid (show sizeB s = false by rw [HC.out, hf]; rfl)
      rw [hf] at HD
      clear hf
      go_enter Tryd.func11, Tryd.ntmps11
      go_wp2_with (go_at_call 22; (with_reducible refine (HD.out _).mono ?_); rintro e w' ⟨rfl, X, rfl⟩)
      go_ret
      exact Ret.of (by rw [HX.out]; rfl) (by repeat (first | with_reducible exact Below.refl _ _ | (with_reducible refine Below.alloc ?_ (by first | omega | (simp [go_sem] <;> omega)) _) | (with_reducible refine Below.drew ?_) | (with_reducible refine Below.drewN ?_ _) | (with_reducible refine Below.grow ?_ (by first | omega | (simp [go_sem] <;> omega)) _) | (with_reducible refine Below.setCell ?_ (by first | omega | (simp [go_sem] <;> omega)) _)))
    · rw [hf] at HD
      have HC := Lib.hid (HC.out.trans (by rw [hf, Bool.true_and]))
      clear hf
      by_cases hw : s.dropWhile digB = [119]
      · rw [show decide (s.dropWhile digB = [119]) = true by simp [hw]] at hRw
        have HX := Lib.hid (show sizeB s = (s.takeWhile digB).any (fun c => decide (c.toNat ≠ 48)) by rw [HC.out, hw]; rfl)
        have hsp : s.takeWhile digB ++ [119] = s := by rw [← hw, List.takeWhile_append_dropWhile]
        have HN := Lib.hid (nul_trim (s.takeWhile digB) List.all_takeWhile)
        rw [hsp] at HN
        obtain ⟨V, hV⟩ : ∃ V : ByteArray, ⟨(Lib.trimB s 48).toArray⟩ = V := ⟨_, rfl⟩
        have HT := Lib.hid (fun W => show Calls Tryd.prog 23 #[.string S, .string ⟨#[48]⟩] W (Ret (.string V) W) from by
          have := Tryd.strings_Trim_one ⟨s.toArray⟩ 48 (by decide) W (by show s.length ≤ _; omega)
          rw [show (⟨s.toArray⟩ : ByteArray).data.toList = s from rfl, hV, hS] at this
          refine this.mono ?_
          rintro e w' ⟨rfl, rfl | rfl⟩
          · exact Ret.same rfl
          · exact Ret.of rfl (by repeat (first | with_reducible exact Below.refl _ _ | (with_reducible refine Below.alloc ?_ (by first | omega | (simp [go_sem] <;> omega)) _) | (with_reducible refine Below.drew ?_) | (with_reducible refine Below.drewN ?_ _) | (with_reducible refine Below.grow ?_ (by first | omega | (simp [go_sem] <;> omega)) _) | (with_reducible refine Below.setCell ?_ (by first | omega | (simp [go_sem] <;> omega)) _))))
        have hVw : (V.toList == [119]) = decide (Lib.trimB s 48 = [119]) := by rw [← hV, ByteArray.toList_eq, Bool.eq_iff_iff]; simp
        have hVw2 : (V.toList != [119]) = !decide (Lib.trimB s 48 = [119]) := by rw [bne, hVw]
        rw [HN.out] at hVw hVw2
        rw [Bool.not_not] at hVw2
        clear hV hsp hw
        generalize (s.takeWhile digB).any (fun c => decide (c.toNat ≠ 48)) = q at *
        go_enter Tryd.func11, Tryd.ntmps11
        go_wp2_with (first | (go_at_call 22; (with_reducible refine (HD.out _).mono ?_); rintro e w' ⟨rfl, X, rfl⟩) | (go_at_call 23; (with_reducible refine (HT.out _).mono ?_); rintro e w' ⟨rfl, X2, rfl⟩))
        go_ret
        exact Ret.of (by rw [HX.out]; rfl) (by repeat (first | with_reducible exact Below.refl _ _ | (with_reducible refine Below.alloc ?_ (by first | omega | (simp [go_sem] <;> omega)) _) | (with_reducible refine Below.drew ?_) | (with_reducible refine Below.drewN ?_ _) | (with_reducible refine Below.grow ?_ (by first | omega | (simp [go_sem] <;> omega)) _) | (with_reducible refine Below.setCell ?_ (by first | omega | (simp [go_sem] <;> omega)) _)))
      · rw [show decide (s.dropWhile digB = [119]) = false by simp [hw]] at hRw
        have HP := Lib.hid (fun W => show Calls Tryd.prog 24 #[.string R, .string ⟨#[46]⟩] W fun e w' => e = .returned (.bool (isDot (s.dropWhile digB))) ∧ w' = W from by
          have := Tryd.strings_HasPrefix ⟨(s.dropWhile digB).toArray⟩ ⟨#[46]⟩ W
          rw [show (⟨(s.dropWhile digB).toArray⟩ : ByteArray).data.toList = s.dropWhile digB from rfl, show (⟨#[46]⟩ : ByteArray).data.toList = [46] from rfl, dot_prefix, hR] at this
          exact this)
        have hRs : R.size = (s.dropWhile digB).length := by rw [← hR]; rfl
        have hdl := drop_while_len digB s
        cases hd : isDot (s.dropWhile digB)
        · have HX := Lib.hid (show sizeB s = decide (s.dropWhile digB = [120]) by
            rw [HC.out]
            split
            · contradiction
            · rename_i he; rw [he] at hd; simp [isDot] at hd
            · rw [tail_x])
          rw [hd] at HP
          generalize decide (s.dropWhile digB = [120]) = q at *
          clear hRs hd hw
          go_enter Tryd.func11, Tryd.ntmps11
          go_wp2_with (first | (go_at_call 22; (with_reducible refine (HD.out _).mono ?_); rintro e w' ⟨rfl, X, rfl⟩) | (go_at_call 24; (with_reducible refine (HP.out _).mono ?_); rintro e w' ⟨rfl, rfl⟩))
          go_ret
          exact Ret.of (by rw [HX.out]; rfl) (by repeat (first | with_reducible exact Below.refl _ _ | (with_reducible refine Below.alloc ?_ (by first | omega | (simp [go_sem] <;> omega)) _) | (with_reducible refine Below.drew ?_) | (with_reducible refine Below.drewN ?_ _) | (with_reducible refine Below.grow ?_ (by first | omega | (simp [go_sem] <;> omega)) _) | (with_reducible refine Below.setCell ?_ (by first | omega | (simp [go_sem] <;> omega)) _)))
        · rw [hd] at HP
          cases hq : s.dropWhile digB with
          | nil => rw [hq] at hd; simp [isDot] at hd
          | cons c r =>
            rw [hq] at hd
            have hc : c = 46 := by
              have : c.toNat = 46 := by simpa [isDot] using hd
              exact UInt8.toNat_inj.1 this
            subst hc
            have HX := Lib.hid (show sizeB s = ((decide (1 ≤ tw digB r) && decide (tw digB r ≤ 9)) && decide (r.dropWhile digB = [120])) by
              rw [HC.out, hq, ← tail_x]
              cases r <;> rfl)
            rw [hq] at hRs hdl
            have hr1 : 1 ≤ R.size := by rw [hRs]; simp
            have hR1 : R.extract 1 R.size = ⟨r.toArray⟩ := by
              rw [str_drop, ← hR, hq]; rfl
            obtain ⟨R2, hR2⟩ : ∃ S : ByteArray, ⟨r.toArray⟩ = S := ⟨_, rfl⟩
            obtain ⟨R3, hR3⟩ : ∃ S : ByteArray, ⟨(r.dropWhile digB).toArray⟩ = S := ⟨_, rfl⟩
            have hm2 : R.size ≤ 9223372036854775807 := by omega
            have HD2 := Lib.hid (fun W => digits_bs r W (by simp at hdl; omega))
            have hR3x : (R3.toList == [120]) = decide (r.dropWhile digB = [120]) := by rw [← hR3, ByteArray.toList_eq, Bool.eq_iff_iff]; simp
            rw [hR2, hR3] at HD2
            rw [hR2] at hR1
            clear hR2 hR3 hRs hR hq hd hw hdl
            generalize (decide (1 ≤ tw digB r) && decide (tw digB r ≤ 9)) = f at *
            generalize decide (r.dropWhile digB = [120]) = q at *
            cases f
            all_goals
              go_enter Tryd.func11, Tryd.ntmps11
              go_wp2_with (first | (go_at_call 22; (with_reducible refine (HD.out _).mono ?_); rintro e w' ⟨rfl, X, rfl⟩) | (go_at_call 24; (with_reducible refine (HP.out _).mono ?_); rintro e w' ⟨rfl, rfl⟩) | (go_at_call 22; (with_reducible refine (HD2.out _).mono ?_); rintro e w' ⟨rfl, X3, rfl⟩))
              go_ret
              exact Ret.of (by rw [HX.out]; first | rfl | simp) (by repeat (first | with_reducible exact Below.refl _ _ | (with_reducible refine Below.alloc ?_ (by first | omega | (simp [go_sem] <;> omega)) _) | (with_reducible refine Below.drew ?_) | (with_reducible refine Below.drewN ?_ _) | (with_reducible refine Below.grow ?_ (by first | omega | (simp [go_sem] <;> omega)) _) | (with_reducible refine Below.setCell ?_ (by first | omega | (simp [go_sem] <;> omega)) _)))
end Go.Proofs.YtgoioaobknjmcaaDoor
