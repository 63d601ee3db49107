/- The walks of styles: a number's figures. -/
import Derived.Lib.ItoaMem
import Derived.Test.YtgcccpdadponiaaGreatDoorCssK
namespace Go.Proofs.YtgcccpdadponiaaGreatDoor
open Go.RowKit Go.Shelf
attribute [local go_sem] Oper.semAt_some
/-- The library's table of tens. -/
abbrev Tb (w : World) : Prop := Lib.TabIs Tryz.prog w "internal/strconv.uint64pow10" .u64 Lib.pow10Tab
theorem Tb.grow {w : World} (h : Tb w) (X : Gr) : Tb (w.grow X) := by
  unfold Tb Lib.TabIs World.var? at *
  cases hg : Tryz.prog.globalNamed "internal/strconv.uint64pow10" with
  | none => rw [hg] at h; simp at h
  | some g =>
    rw [hg] at h
    simp only [Option.bind_some] at h ⊢
    cases hh : w.heap[g]? with
    | none => rw [hh] at h; simp at h
    | some o => rw [heap_grow_old w X hh]; rw [hh] at h; exact h
theorem fig_dec : ∀ (f n : Nat), n < 10 ^ (f + 1) → figF f n = Lib.decDigits n := by
  intro f
  induction f with
  | zero =>
    intro n h
    have h1 : n < 10 := by simpa using h
    rw [Lib.decDigits, dif_pos h1]
    show [fgB (n % 10)] = _
    rw [Nat.mod_eq_of_lt h1]; rfl
  | succ f ih =>
    intro n h
    rw [Lib.decDigits]
    simp only [figF]
    by_cases h1 : n < 10
    · rw [if_pos h1, dif_pos h1]; rfl
    · rw [if_neg h1, dif_neg h1, ih _ (by rw [Nat.pow_succ] at h; omega)]; rfl
theorem itoa_fig (n : Nat) (h : n < 1000000000000000000000) : Lib.itoa (n : Int) = figL n := by
  rw [Lib.itoa_nonneg]; exact (fig_dec 20 n (by omega)).symm
/-- The three figures behind the point, without zeros at the end. -/
theorem frac_trim (p : Nat) (h0 : p ≠ 0) (h : p < 1000) : 46 :: Lib.trimRightB ((Lib.itoa ((1000 + p : Nat) : Int)).drop 1) 48 = fracL p := by
  have hd : ∀ q : Fin 1000, q.val ≠ 0 → 46 :: Lib.trimRightB ((figF 3 (1000 + q.val)).drop 1) 48 = fracL q.val := by decide +kernel
  rw [Lib.itoa_nonneg, ← fig_dec 3 _ (by omega)]
  exact hd ⟨p, h⟩ h0
theorem format_any (n : Int) (W : World) (hW : Tb W) (h0 : -9223372036854775808 ≤ n) (h1 : n ≤ 9223372036854775807) : Calls Tryz.prog 79 #[.int .i64 n, .int .i64 10] W (Ret (.string ⟨(Lib.itoa n).toArray⟩) W) :=
  (Tryz.strconv_FormatInt_10 n h0 h1 W hW).mono fun _ _ ⟨h1, k, os, h2⟩ => ⟨h1, ⟨os, W.drawn + k⟩, h2⟩
theorem fig_len (n : Nat) (h : n < 1000000000000000000000) : (figL n).length ≤ 21 := figF_len 20 n 21 (by omega) (by omega)
set_option maxRecDepth 100000 in
set_option maxHeartbeats 3200000 in
theorem figures_any (n : Int) (w : World) (hw : Tb w) (h0 : -9223372036854775808 ≤ n) (h1 : n ≤ 9223372036854775807) : Calls Tryz.prog 64 #[.int .i64 n] w (Ret (.string ⟨(figuresL n).toArray⟩) w) := by
  obtain ⟨q, hq⟩ : ∃ q, n.natAbs / 1000 = q := ⟨_, rfl⟩
  obtain ⟨p, hp⟩ : ∃ p, n.natAbs % 1000 = p := ⟨_, rfl⟩
  have hp3 : p < 1000 := by omega
  have hq3 : q ≤ 9223372036854775 := by omega
  have HF := Lib.hid (fun W (hW : Tb W) => show Calls Tryz.prog 79 #[.int .i64 q, .int .i64 10] W (Ret (.string ⟨(figL q).toArray⟩) W) from by
    have := format_any q W hW (by omega) (by omega)
    rwa [itoa_fig q (by omega)] at this)
  have HW := Lib.hid hw
  obtain ⟨F, hF⟩ : ∃ F : ByteArray, ⟨(figL q).toArray⟩ = F := ⟨_, rfl⟩
  have hFs : F.size ≤ 21 := by rw [← hF]; exact fig_len q (by omega)
  have HG : Hid (figuresL n = sgL n ++ (figL q ++ fracL p)) := by show _ = _; rw [fig_split, hq, hp]
  have HFd : Hid (F.data.toList = figL q) := by show _ = _; rw [← hF]
  rw [hF] at HF
  clear hF
  obtain ⟨G, hG⟩ : ∃ G : ByteArray, ⟨(Lib.itoa ((1000 + p : Nat) : Int)).toArray⟩ = G := ⟨_, rfl⟩
  have HF2 := Lib.hid (fun W (hW : Tb W) => show Calls Tryz.prog 79 #[.int .i64 (1000 + (p : Int)), .int .i64 10] W (Ret (.string G) W) from by
    have := format_any ((1000 + p : Nat) : Int) W hW (by omega) (by omega)
    rw [hG] at this; rwa [show ((1000 + p : Nat) : Int) = 1000 + (p : Int) by omega] at this)
  have hGl : G.size = 4 := by
    rw [← hG]
    show (Lib.itoa ((1000 + p : Nat) : Int)).length = 4
    have hd : ∀ q : Fin 1000, (figF 3 (1000 + q.val)).length = 4 := by decide +kernel
    rw [Lib.itoa_nonneg, ← fig_dec 3 _ (by omega)]
    exact hd ⟨p, hp3⟩
  have hG1 : 1 ≤ G.size := by omega
  obtain ⟨H, hH⟩ : ∃ H : ByteArray, ⟨(Lib.trimRightB ((Lib.itoa ((1000 + p : Nat) : Int)).drop 1) 48).toArray⟩ = H := ⟨_, rfl⟩
  have HT := Lib.hid (fun W => show Calls Tryz.prog 80 #[.string (G.extract 1 G.size), .string ⟨#[48]⟩] W fun e w' => e = .returned (.string H) ∧ w' = W from by
    have := Tryz.strings_TrimRight_one (G.extract 1 G.size) 48 (by decide) W (by rw [ByteArray.size_extract]; omega)
    rw [extract_drop, ← hG] at this
    rw [← hH, ← hG]; exact this)
  have hHs : H.size ≤ 4 := by
    rw [← hH]
    show (Lib.trimRightB _ _).length ≤ 4
    have : (Lib.trimRightB ((Lib.itoa ((1000 + p : Nat) : Int)).drop 1) 48).length ≤ ((Lib.itoa ((1000 + p : Nat) : Int)).drop 1).length := by
      unfold Lib.trimRightB
      rw [List.length_reverse]
      exact Nat.le_trans (List.dropWhile_sublist _).length_le (by rw [List.length_reverse]; exact Nat.le_refl _)
    have h4 : (Lib.itoa ((1000 + p : Nat) : Int)).length = 4 := by rw [← hGl, ← hG]; rfl
    rw [List.length_drop, h4] at this; omega
  have HHd : Hid (p ≠ 0 → 46 :: H.data.toList = fracL p) := fun h => by rw [← hH]; exact frac_trim p h hp3
  clear hG hH hGl
  have go : ∀ sgn : ByteArray, sgn.data.toList = sgL n → sgn.size ≤ 1 → True := fun _ _ _ => trivial
  clear go
  by_cases hn : n < 0
  · have e1 : Int.tdiv n 1000 = -(q : Int) := by
      rw [show n = -((n.natAbs : Nat) : Int) by omega, Int.neg_tdiv, Int.tdiv_eq_ediv_of_nonneg (by omega)]; omega
    have e2 : Int.tmod n 1000 = -(p : Int) := by
      rw [show n = -((n.natAbs : Nat) : Int) by omega, Int.neg_tmod, Int.tmod_eq_emod_of_nonneg (by omega)]; omega
    have HS : Hid (sgL n = [45]) := by show _ = _; unfold sgL; rw [if_pos hn]
    by_cases hp0 : p = 0
    · have HN : Hid (figuresL n = 45 :: figL q) := by show _ = _; rw [HG.out, HS.out, hp0]; simp [fracL]
      have b0 : ((p : Int) == 0) = true := by simp [hp0]
      have b1 : (p : Int) = 0 := by omega
      clear hq hp
      go_enter Tryz.func64, Tryz.ntmps64
      go_wp2_with (go_at_call 79; (with_reducible refine (HF.out _ HW.out).mono ?_); rintro e w' ⟨rfl, X1, rfl⟩)
      go_ret
      exact Ret.of (str_eq (by rw [ByteArray.data_append, Array.toList_append, HFd.out, HN.out]; rfl)) (by repeat (first | with_reducible exact Below.refl _ _ | (with_reducible refine Below.alloc ?_ (by first | omega | (simp [go_sem] <;> omega)) _) | (with_reducible refine Below.drew ?_) | (with_reducible refine Below.drewN ?_ _) | (with_reducible refine Below.grow ?_ (by first | omega | (simp [go_sem] <;> omega)) _) | (with_reducible refine Below.setCell ?_ (by first | omega | (simp [go_sem] <;> omega)) _)))
    · have HN : Hid (figuresL n = 45 :: (figL q ++ 46 :: H.data.toList)) := by show _ = _; rw [HG.out, HS.out, HHd.out hp0]; rfl
      have b0 : ((p : Int) == 0) = false := by simp [hp0]
      have b1 : ¬ (p : Int) = 0 := by omega
      clear hq hp
      go_enter Tryz.func64, Tryz.ntmps64
      go_wp2_with (first | (go_at_call 79; (with_reducible refine (HF.out _ HW.out).mono ?_); rintro e w' ⟨rfl, X1, rfl⟩) | (go_at_call 79; (with_reducible refine (HF2.out _ (HW.out.grow _)).mono ?_); rintro e w' ⟨rfl, X2, rfl⟩) | (go_at_call 80; (with_reducible refine (HT.out _).mono ?_); rintro e w' ⟨rfl, rfl⟩))
      go_ret
      exact Ret.of (str_eq (by simp only [ByteArray.data_append, Array.toList_append, HFd.out, HN.out]; simp)) (by repeat (first | with_reducible exact Below.refl _ _ | (with_reducible refine Below.alloc ?_ (by first | omega | (simp [go_sem] <;> omega)) _) | (with_reducible refine Below.drew ?_) | (with_reducible refine Below.drewN ?_ _) | (with_reducible refine Below.grow ?_ (by first | omega | (simp [go_sem] <;> omega)) _) | (with_reducible refine Below.setCell ?_ (by first | omega | (simp [go_sem] <;> omega)) _)))
  · have e1 : Int.tdiv n 1000 = (q : Int) := by
      rw [Int.tdiv_eq_ediv_of_nonneg (by omega)]; omega
    have e2 : Int.tmod n 1000 = (p : Int) := by
      rw [Int.tmod_eq_emod_of_nonneg (by omega)]; omega
    have HS : Hid (sgL n = []) := by show _ = _; unfold sgL; rw [if_neg hn]
    by_cases hp0 : p = 0
    · have HN : Hid (figuresL n = figL q) := by show _ = _; rw [HG.out, HS.out, hp0]; simp [fracL]
      have b0 : ((p : Int) == 0) = true := by simp [hp0]
      have b1 : (p : Int) = 0 := by omega
      clear hq hp
      go_enter Tryz.func64, Tryz.ntmps64
      go_wp2_with (go_at_call 79; (with_reducible refine (HF.out _ HW.out).mono ?_); rintro e w' ⟨rfl, X1, rfl⟩)
      go_ret
      exact Ret.of (str_eq (by first | (rw [ByteArray.data_append, Array.toList_append, HFd.out, HN.out]; rfl) | (rw [HFd.out, HN.out]))) (by repeat (first | with_reducible exact Below.refl _ _ | (with_reducible refine Below.alloc ?_ (by first | omega | (simp [go_sem] <;> omega)) _) | (with_reducible refine Below.drew ?_) | (with_reducible refine Below.drewN ?_ _) | (with_reducible refine Below.grow ?_ (by first | omega | (simp [go_sem] <;> omega)) _) | (with_reducible refine Below.setCell ?_ (by first | omega | (simp [go_sem] <;> omega)) _)))
    · have HN : Hid (figuresL n = figL q ++ 46 :: H.data.toList) := by show _ = _; rw [HG.out, HS.out, HHd.out hp0]; rfl
      have b0 : ((p : Int) == 0) = false := by simp [hp0]
      have b1 : ¬ (p : Int) = 0 := by omega
      clear hq hp
      go_enter Tryz.func64, Tryz.ntmps64
      go_wp2_with (first | (go_at_call 79; (with_reducible refine (HF.out _ HW.out).mono ?_); rintro e w' ⟨rfl, X1, rfl⟩) | (go_at_call 79; (with_reducible refine (HF2.out _ (HW.out.grow _)).mono ?_); rintro e w' ⟨rfl, X2, rfl⟩) | (go_at_call 80; (with_reducible refine (HT.out _).mono ?_); rintro e w' ⟨rfl, rfl⟩))
      go_ret
      exact Ret.of (str_eq (by simp only [ByteArray.data_append, Array.toList_append, HFd.out, HN.out]; simp)) (by repeat (first | with_reducible exact Below.refl _ _ | (with_reducible refine Below.alloc ?_ (by first | omega | (simp [go_sem] <;> omega)) _) | (with_reducible refine Below.drew ?_) | (with_reducible refine Below.drewN ?_ _) | (with_reducible refine Below.grow ?_ (by first | omega | (simp [go_sem] <;> omega)) _) | (with_reducible refine Below.setCell ?_ (by first | omega | (simp [go_sem] <;> omega)) _)))
end Go.Proofs.YtgcccpdadponiaaGreatDoor
