/- The walks of pictures: digits of a size. -/
import Derived.Test.YtgoioaobknjmcaaDoorClsC
import Derived.Test.YtgoioaobknjmcaaDoorSrcA
namespace Go.Proofs.YtgoioaobknjmcaaDoor
open Go.RowKit Go.Shelf
theorem not_not (p : UInt8 → Bool) : (fun c => !(fun c => !p c) c) = p := by funext c; simp
set_option maxHeartbeats 800000 in
theorem digits_any (s : ByteArray) (w : World) (hm : s.size ≤ 9223372036854775807) :
    Calls Tryd.prog 22 #[.string s] w (Ret (.tuple #[.string ⟨(s.data.toList.dropWhile digB).toArray⟩, .bool (decide (1 ≤ tw digB s.data.toList) && decide (tw digB s.data.toList ≤ 9))]) w) := by
  have HU := Lib.hid (fun W => not_not digB ▸ until_any s _ _ W nodig_pred hm)
  have hle := tw_le digB s.data.toList
  rw [len_data] at hle
  have HS := Lib.hid (str_drop s (tw digB s.data.toList))
  have HD := Lib.hid (drop_tw digB s.data.toList)
  generalize tw digB s.data.toList = n at *
  by_cases h1 : 1 ≤ n
  · by_cases h2 : n ≤ 9
    all_goals
      go_enter Tryd.func22, Tryd.ntmps22
      go_wp2_with (go_at_call 26; (with_reducible refine (HU.out _).mono ?_); rintro e w' ⟨rfl, X, rfl⟩)
      go_ret2
      exact Ret.of (by rw [← HD.out, ← HS.out]; simp [h1, h2]; try omega) (by repeat (first | with_reducible exact Below.refl _ _ | (with_reducible refine Below.alloc ?_ (by first | omega | (simp [go_sem] <;> omega)) _) | (with_reducible refine Below.drew ?_) | (with_reducible refine Below.drewN ?_ _) | (with_reducible refine Below.grow ?_ (by first | omega | (simp [go_sem] <;> omega)) _) | (with_reducible refine Below.setCell ?_ (by first | omega | (simp [go_sem] <;> omega)) _)))
  · go_enter Tryd.func22, Tryd.ntmps22
    go_wp2_with (go_at_call 26; (with_reducible refine (HU.out _).mono ?_); rintro e w' ⟨rfl, X, rfl⟩)
    go_ret2
    exact Ret.of (by rw [← HD.out, ← HS.out]; simp; try omega) (by repeat (first | with_reducible exact Below.refl _ _ | (with_reducible refine Below.alloc ?_ (by first | omega | (simp [go_sem] <;> omega)) _) | (with_reducible refine Below.drew ?_) | (with_reducible refine Below.drewN ?_ _) | (with_reducible refine Below.grow ?_ (by first | omega | (simp [go_sem] <;> omega)) _) | (with_reducible refine Below.setCell ?_ (by first | omega | (simp [go_sem] <;> omega)) _)))
end Go.Proofs.YtgoioaobknjmcaaDoor
