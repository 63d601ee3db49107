/- The walks of declarations: which may be told, and as what text. -/
import Derived.Test.YtdpgpjileffekaaGreatDoorCssP
import Derived.Test.YtdpgpjileffekaaGreatDoorDecF
namespace Go.Proofs.YtdpgpjileffekaaGreatDoor
open Go.RowKit Go.Shelf
attribute [local go_sem] Oper.semAt_some
/-- A declaration that is not long. -/
def ShortD (d : Dcl) : Prop := Short d.value ∧ d.value.length ≤ 10000 ∧ d.name.length ≤ 1000000
def idC (d : Dcl) : Css := ⟨1, d.name, 0, []⟩
theorem right_D (d : Dcl) : rightD d = (d.value.all rightC && mayC d.value && rightC (idC d)) := rfl
set_option maxRecDepth 100000 in
set_option maxHeartbeats 800000 in
theorem dright_any (d : Dcl) (A : Option Addr) (c : Nat) (w : World) (hw : Tb w) (hx : Mx w) (hv : Rd w (.slice A d.value.length c) d.value.length 4 (cssCells d.value)) (hs : ShortD d) :
    Calls Tryz.prog 13 #[.agg #[sv d.name, .slice A d.value.length c, .bool d.imp]] w (Ret (.bool (rightD d)) w) := by
  obtain ⟨s1, s2, s3⟩ := hs
  obtain ⟨D, hD⟩ : ∃ D, d.value.all rightC = D := ⟨_, rfl⟩
  obtain ⟨M, hM⟩ : ∃ D, mayC d.value = D := ⟨_, rfl⟩
  obtain ⟨R, hR⟩ : ∃ D, rightC (idC d) = D := ⟨_, rfl⟩
  have HE : Hid (rightD d = (D && M && R)) := by show _ = _; rw [right_D, hD, hM, hR]
  obtain ⟨Z, hZ⟩ : ∃ Z : ByteArray, ⟨(if d.value.all rightC then textC d.value else []).toArray⟩ = Z := ⟨_, rfl⟩
  have HT := Lib.hid (fun W (hB : Below w.heap.size w W) => show Calls Tryz.prog 29 #[.slice A d.value.length c] W (Ret (.tuple #[.string Z, .bool D]) W) from by
    obtain ⟨X, rfl⟩ := grow_of_below hB
    have := text_any A d.value.length c d.value (w.grow X) (hw.grow X) (hx.grow X) (hv.grow X) s1 (by omega)
    rwa [hZ, hD] at this)
  have HM := Lib.hid (fun (h1 : D = true) W (hB : Below w.heap.size w W) => show Calls Tryz.prog 23 #[.slice A d.value.length c] W (Ret (.bool M) W) from by
    obtain ⟨X, rfl⟩ := grow_of_below hB
    have := may_any A d.value.length c d.value (w.grow X) (hv.grow X) (fun x hx => proper_right (List.all_eq_true.1 (hD.trans h1) x hx)) (by omega)
    rwa [hM] at this)
  have HR := Lib.hid (fun W (hB : Below w.heap.size w W) => show Calls Tryz.prog 30 #[.agg #[.int .i64 1, sv d.name, .int .i64 0, .string ⟨#[]⟩]] W (Ret (.bool R) W) from by
    have := right_any (idC d) W (hw.below hB) (hx.below hB) ⟨by simp [idC], by simp [idC], by simp [idC], by simp [idC]⟩ s3 (by simp [idC])
    rwa [hR] at this)
  rw [HE.out]
  generalize d.value.length = n at *
  simp only [sv] at HR ⊢
  generalize (⟨d.name.toArray⟩ : ByteArray) = nm at *
  clear hD hM hR hv s1 s2 s3 hw hx hZ HE
  cases D
  · have HT2 := Lib.hid HT.out
    clear HT
    go_enter Tryz.func13, Tryz.ntmps13
    go_wp2_with (go_at_call 29; (with_reducible refine (HT2.out _ (by repeat (first | with_reducible exact Below.refl _ _ | (with_reducible refine Below.alloc ?_ (by first | omega | (simp [go_sem] <;> omega)) _) | (with_reducible refine Below.drew ?_) | (with_reducible refine Below.drewN ?_ _) | (with_reducible refine Below.grow ?_ (by first | omega | (simp [go_sem] <;> omega)) _) | (with_reducible refine Below.setCell ?_ (by first | omega | (simp [go_sem] <;> omega)) _)))).mono ?_); rintro e w' ⟨rfl, X1, rfl⟩)
    go_ret
    exact Ret.of rfl (by repeat (first | with_reducible exact Below.refl _ _ | (with_reducible refine Below.alloc ?_ (by first | omega | (simp [go_sem] <;> omega)) _) | (with_reducible refine Below.drew ?_) | (with_reducible refine Below.drewN ?_ _) | (with_reducible refine Below.grow ?_ (by first | omega | (simp [go_sem] <;> omega)) _) | (with_reducible refine Below.setCell ?_ (by first | omega | (simp [go_sem] <;> omega)) _)))
  · have HM2 := Lib.hid (HM.out rfl)
    have HT2 := Lib.hid HT.out
    clear HT HM
    cases M
    · have HM3 := Lib.hid HM2.out
      clear HM2
      go_enter Tryz.func13, Tryz.ntmps13
      go_wp2_with (first | (go_at_call 29; (with_reducible refine (HT2.out _ (by repeat (first | with_reducible exact Below.refl _ _ | (with_reducible refine Below.alloc ?_ (by first | omega | (simp [go_sem] <;> omega)) _) | (with_reducible refine Below.drew ?_) | (with_reducible refine Below.drewN ?_ _) | (with_reducible refine Below.grow ?_ (by first | omega | (simp [go_sem] <;> omega)) _) | (with_reducible refine Below.setCell ?_ (by first | omega | (simp [go_sem] <;> omega)) _)))).mono ?_); rintro e w' ⟨rfl, X1, rfl⟩) | (go_at_call 23; (with_reducible refine (HM3.out _ (by repeat (first | with_reducible exact Below.refl _ _ | (with_reducible refine Below.alloc ?_ (by first | omega | (simp [go_sem] <;> omega)) _) | (with_reducible refine Below.drew ?_) | (with_reducible refine Below.drewN ?_ _) | (with_reducible refine Below.grow ?_ (by first | omega | (simp [go_sem] <;> omega)) _) | (with_reducible refine Below.setCell ?_ (by first | omega | (simp [go_sem] <;> omega)) _)))).mono ?_); rintro e w' ⟨rfl, X2, rfl⟩))
      go_ret
      exact Ret.of rfl (by repeat (first | with_reducible exact Below.refl _ _ | (with_reducible refine Below.alloc ?_ (by first | omega | (simp [go_sem] <;> omega)) _) | (with_reducible refine Below.drew ?_) | (with_reducible refine Below.drewN ?_ _) | (with_reducible refine Below.grow ?_ (by first | omega | (simp [go_sem] <;> omega)) _) | (with_reducible refine Below.setCell ?_ (by first | omega | (simp [go_sem] <;> omega)) _)))
    · have HM3 := Lib.hid HM2.out
      clear HM2
      go_enter Tryz.func13, Tryz.ntmps13
      go_wp2_with (first | (go_at_call 29; (with_reducible refine (HT2.out _ (by repeat (first | with_reducible exact Below.refl _ _ | (with_reducible refine Below.alloc ?_ (by first | omega | (simp [go_sem] <;> omega)) _) | (with_reducible refine Below.drew ?_) | (with_reducible refine Below.drewN ?_ _) | (with_reducible refine Below.grow ?_ (by first | omega | (simp [go_sem] <;> omega)) _) | (with_reducible refine Below.setCell ?_ (by first | omega | (simp [go_sem] <;> omega)) _)))).mono ?_); rintro e w' ⟨rfl, X1, rfl⟩) | (go_at_call 23; (with_reducible refine (HM3.out _ (by repeat (first | with_reducible exact Below.refl _ _ | (with_reducible refine Below.alloc ?_ (by first | omega | (simp [go_sem] <;> omega)) _) | (with_reducible refine Below.drew ?_) | (with_reducible refine Below.drewN ?_ _) | (with_reducible refine Below.grow ?_ (by first | omega | (simp [go_sem] <;> omega)) _) | (with_reducible refine Below.setCell ?_ (by first | omega | (simp [go_sem] <;> omega)) _)))).mono ?_); rintro e w' ⟨rfl, X2, rfl⟩) | (go_at_call 30; go_loud (with_reducible refine (HR.out _ (by repeat (first | with_reducible exact Below.refl _ _ | (with_reducible refine Below.alloc ?_ (by first | omega | (simp [go_sem] <;> omega)) _) | (with_reducible refine Below.drew ?_) | (with_reducible refine Below.drewN ?_ _) | (with_reducible refine Below.grow ?_ (by first | omega | (simp [go_sem] <;> omega)) _) | (with_reducible refine Below.setCell ?_ (by first | omega | (simp [go_sem] <;> omega)) _)))).mono ?_); rintro e w' ⟨rfl, X3, rfl⟩))
      go_ret
      exact Ret.of (by cases R <;> rfl) (by repeat (first | with_reducible exact Below.refl _ _ | (with_reducible refine Below.alloc ?_ (by first | omega | (simp [go_sem] <;> omega)) _) | (with_reducible refine Below.drew ?_) | (with_reducible refine Below.drewN ?_ _) | (with_reducible refine Below.grow ?_ (by first | omega | (simp [go_sem] <;> omega)) _) | (with_reducible refine Below.setCell ?_ (by first | omega | (simp [go_sem] <;> omega)) _)))
end Go.Proofs.YtdpgpjileffekaaGreatDoor
