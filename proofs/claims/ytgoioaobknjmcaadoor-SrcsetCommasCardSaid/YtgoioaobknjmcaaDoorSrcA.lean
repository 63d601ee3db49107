/- The walks of pictures: how far a text goes, digits. -/
import Derived.Test.YtgoioaobknjmcaaDoorClsB
import Derived.Test.YtgoioaobknjmcaaDoorSrcPlainB
namespace Go.Proofs.YtgoioaobknjmcaaDoor
open Go.RowKit Go.Shelf
/-- How far the first byte of a kind is, the text's end if there is none. -/
theorem idxF_until (p : UInt8 → Bool) (l : Bs) : (0 ≤ idxF p l ∧ idxF p l = tw (fun c => !p c) l) ∨ (idxF p l < 0 ∧ tw (fun c => !p c) l = l.length) := by
  unfold idxF
  have := tw_le (fun c => !p c) l
  split
  · left; omega
  · right; omega
set_option maxHeartbeats 800000 in
theorem until_any (s : ByteArray) (g : Nat) (p : UInt8 → Bool) (w : World) (hp : PredU g p) (hm : s.size ≤ 9223372036854775807) :
    Calls Tryd.prog 26 #[.string s, .func (.func g) #[] #[]] w (Ret (.int .i64 (tw (fun c => !p c) s.data.toList)) w) := by
  have HB := Lib.hid (fun W => len_data s ▸ bytes_rd W 5 s (grownCap W s.size 0 5) hm)
  have HP := Lib.hid hp
  have HU := Lib.hid (idxF_until p s.data.toList)
  rw [len_data] at HU
  have HL := Lib.hid (len_data s)
  clear hp
  rcases HU.out with ⟨h1, h2⟩ | ⟨h1, h2⟩
  · have H2 := Lib.hid h2
    clear HU h2
    go_enter Tryd.func26, Tryd.ntmps26
    go_wp2_with (go_at_call 46; refine (indexFunc_any _ _ _ _ _ (HB.out _) HP.out).mono ?_; rintro e w' ⟨rfl, rfl⟩)
    go_ret
    exact Ret.of (by rw [← H2.out]; rfl) (by repeat (first | with_reducible exact Below.refl _ _ | (with_reducible refine Below.alloc ?_ (by first | omega | (simp [go_sem] <;> omega)) _) | (with_reducible refine Below.drew ?_) | (with_reducible refine Below.drewN ?_ _) | (with_reducible refine Below.grow ?_ (by first | omega | (simp [go_sem] <;> omega)) _) | (with_reducible refine Below.setCell ?_ (by first | omega | (simp [go_sem] <;> omega)) _)))
  · have H2 := Lib.hid h2
    clear HU h2
    go_enter Tryd.func26, Tryd.ntmps26
    go_wp2_with (go_at_call 46; refine (indexFunc_any _ _ _ _ _ (HB.out _) HP.out).mono ?_; rintro e w' ⟨rfl, rfl⟩)
    go_ret
    exact Ret.of (by rw [H2.out]; rfl) (by repeat (first | with_reducible exact Below.refl _ _ | (with_reducible refine Below.alloc ?_ (by first | omega | (simp [go_sem] <;> omega)) _) | (with_reducible refine Below.drew ?_) | (with_reducible refine Below.drewN ?_ _) | (with_reducible refine Below.grow ?_ (by first | omega | (simp [go_sem] <;> omega)) _) | (with_reducible refine Below.setCell ?_ (by first | omega | (simp [go_sem] <;> omega)) _)))
theorem space_pred : PredU 27 spB := ⟨enters_of Tryd.func27 (by kernel_rfl) rfl, space_any⟩
set_option maxHeartbeats 400000 in
theorem nodig_any (c : UInt8) (w : World) : Calls Tryd.prog 35 #[.int .u8 c.toNat] w fun e w' => e = .returned (.bool (!digB c)) ∧ w = w' := by
  go_enter Tryd.func35, Tryd.ntmps35
  go_wp2_with (go_at_call 36; refine (digit_any _ _).mono ?_; rintro e w' ⟨rfl, rfl⟩)
  all_goals go_ret
  all_goals exact ⟨rfl, rfl⟩
theorem nodig_pred : PredU 35 (fun c => !digB c) := ⟨enters_of Tryd.func35 (by kernel_rfl) rfl, nodig_any⟩
set_option maxHeartbeats 400000 in
theorem between_src (c : UInt8) (w : World) : Calls Tryd.prog 30 #[.int .u8 c.toNat] w fun e w' => e = .returned (.bool (!sepB c)) ∧ w = w' := by
  cases hs : spB c
  · have HX : Hid ((!sepB c) = ((c.toNat : Int) != 44)) := by
      show _ = _
      unfold sepB; rw [hs, Bool.eq_iff_iff]; simp; omega
    go_enter Tryd.func30, Tryd.ntmps30
    go_wp2_with (go_at_call 27; refine (space_any _ _).mono ?_; rintro e w' ⟨rfl, rfl⟩; rw [hs])
    all_goals go_ret
    all_goals exact ⟨ret_bool HX.out.symm, rfl⟩
  · have HX : Hid ((!sepB c) = false) := by
      show _ = _
      unfold sepB; rw [hs]; rfl
    go_enter Tryd.func30, Tryd.ntmps30
    go_wp2_with (go_at_call 27; refine (space_any _ _).mono ?_; rintro e w' ⟨rfl, rfl⟩; rw [hs])
    all_goals go_ret
    all_goals exact ⟨ret_bool HX.out.symm, rfl⟩
theorem between_pred : PredU 30 (fun c => !sepB c) := ⟨enters_of Tryd.func30 (by kernel_rfl) rfl, between_src⟩
end Go.Proofs.YtgoioaobknjmcaaDoor
