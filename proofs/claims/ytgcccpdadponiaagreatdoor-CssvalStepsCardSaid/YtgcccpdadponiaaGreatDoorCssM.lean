/- The walks of styles: a piece as text. -/
import Derived.Test.YtgcccpdadponiaaGreatDoorCssL
namespace Go.Proofs.YtgcccpdadponiaaGreatDoor
open Go.RowKit Go.Shelf
attribute [local go_sem] Oper.semAt_some
theorem figures_len (n : Int) (h : n.natAbs ≤ 9223372036854775808) : (figuresL n).length ≤ 30 := by
  have h1 := fig_len (n.natAbs / 1000) (by omega)
  have h2 := frac_dig (n.natAbs % 1000) (Nat.mod_lt _ (by omega))
  rw [fig_split, frac_is, List.length_append, List.length_append]
  have h3 : (sgL n).length ≤ 1 := by unfold sgL; split <;> simp
  split
  · simp only [List.length_nil]; omega
  · simp only [List.length_cons]; omega
/-- A piece as it came in. -/
structure CssOk (x : Css) : Prop where
  klo : -9223372036854775808 ≤ x.kind
  khi : x.kind ≤ 9223372036854775807
  nlo : -9223372036854775808 ≤ x.num
  nhi : x.num ≤ 9223372036854775807
theorem told_len (x : Css) (h : CssOk x) : (toldC x).length ≤ x.text.length + x.unit.length + 40 := by
  have := figures_len x.num (by have := h.nlo; have := h.nhi; omega)
  unfold toldC
  repeat' split
  all_goals simp
  all_goals omega
set_option maxRecDepth 100000 in
set_option maxHeartbeats 3200000 in
theorem told_any (x : Css) (w : World) (hw : Tb w) (ho : CssOk x) (h1 : x.text.length ≤ 1000000) (h2 : x.unit.length ≤ 1000000) : Calls Tryz.prog 43 #[Css.agg x] w (Ret (.string ⟨(toldC x).toArray⟩) w) := by
  have hmx : Tryz.prog.follows .mixedOrders = true := by kernel_rfl
  have HF := Lib.hid (fun W (hW : Tb W) => figures_any x.num W hW ho.nlo ho.nhi)
  have HT : Hid (toldC x = if x.kind = 1 ∨ x.kind = 6 then x.text else if x.kind = 2 then x.text ++ [40] else if x.kind = 3 then figuresL x.num ++ x.unit
    else if x.kind = 4 then 35 :: x.text else if x.kind = 5 then 34 :: x.text ++ [34] else []) := rfl
  have hfl := figures_len x.num (by have := ho.nlo; have := ho.nhi; omega)
  obtain ⟨k, t, m, u⟩ := x
  simp only [Css.agg, sv] at *
  obtain ⟨T, hT⟩ : ∃ S : ByteArray, ⟨t.toArray⟩ = S := ⟨_, rfl⟩
  obtain ⟨U, hU⟩ : ∃ S : ByteArray, ⟨u.toArray⟩ = S := ⟨_, rfl⟩
  obtain ⟨F, hF⟩ : ∃ S : ByteArray, ⟨(figuresL m).toArray⟩ = S := ⟨_, rfl⟩
  have hTs : T.size ≤ 1000000 := by rw [← hT]; exact h1
  have hUs : U.size ≤ 1000000 := by rw [← hU]; exact h2
  have hFs : F.size ≤ 30 := by rw [← hF]; exact hfl
  have HTd : Hid (T.data.toList = t) := by show _ = _; rw [← hT]
  have HUd : Hid (U.data.toList = u) := by show _ = _; rw [← hU]
  have HFd : Hid (F.data.toList = figuresL m) := by show _ = _; rw [← hF]
  have HW := Lib.hid hw
  rw [hT, hU]
  rw [hF] at HF
  clear hT hU hF h1 h2 hfl
  by_cases k1 : k = 1
  · subst k1
    rw [if_pos (.inl rfl)] at HT
    go_enter Tryz.func43, Tryz.ntmps43
    go_wp2_with fail
    go_ret
    exact Ret.of (str_eq (by rw [HTd.out, HT.out])) (by repeat (first | with_reducible exact Below.refl _ _ | (with_reducible refine Below.alloc ?_ (by first | omega | (simp [go_sem] <;> omega)) _) | (with_reducible refine Below.drew ?_) | (with_reducible refine Below.drewN ?_ _) | (with_reducible refine Below.grow ?_ (by first | omega | (simp [go_sem] <;> omega)) _) | (with_reducible refine Below.setCell ?_ (by first | omega | (simp [go_sem] <;> omega)) _)))
  by_cases k6 : k = 6
  · subst k6
    rw [if_pos (.inr rfl)] at HT
    go_enter Tryz.func43, Tryz.ntmps43
    go_wp2_with fail
    go_ret
    exact Ret.of (str_eq (by rw [HTd.out, HT.out])) (by repeat (first | with_reducible exact Below.refl _ _ | (with_reducible refine Below.alloc ?_ (by first | omega | (simp [go_sem] <;> omega)) _) | (with_reducible refine Below.drew ?_) | (with_reducible refine Below.drewN ?_ _) | (with_reducible refine Below.grow ?_ (by first | omega | (simp [go_sem] <;> omega)) _) | (with_reducible refine Below.setCell ?_ (by first | omega | (simp [go_sem] <;> omega)) _)))
  rw [if_neg (by omega)] at HT
  by_cases k2 : k = 2
  · subst k2
    rw [if_pos rfl] at HT
    go_enter Tryz.func43, Tryz.ntmps43
    go_wp2_with fail
    go_ret
    exact Ret.of (str_eq (by simp only [ByteArray.data_append, Array.toList_append, HTd.out, HT.out])) (by repeat (first | with_reducible exact Below.refl _ _ | (with_reducible refine Below.alloc ?_ (by first | omega | (simp [go_sem] <;> omega)) _) | (with_reducible refine Below.drew ?_) | (with_reducible refine Below.drewN ?_ _) | (with_reducible refine Below.grow ?_ (by first | omega | (simp [go_sem] <;> omega)) _) | (with_reducible refine Below.setCell ?_ (by first | omega | (simp [go_sem] <;> omega)) _)))
  rw [if_neg k2] at HT
  by_cases k3 : k = 3
  · subst k3
    rw [if_pos rfl] at HT
    go_enter Tryz.func43, Tryz.ntmps43
    go_wp2_with fail
    refine wp_region_grow (by kernel_rfl) (by kernel_rfl) ?_
    repeat (go_big_quiet_step (first | (go_at_call 64; with_reducible exact Calls.grow_of (HF.out _ (Tb.grow (by rw [alloc_grow]; exact Tb.grow HW.out _) _)))))
    refine wpQuiet_nil ?_
    intro _ hw'; obtain ⟨nq, hw''⟩ := hw'; subst hw''
    go_wp2
    go_ret
    exact Ret.of (str_eq (by simp only [ByteArray.data_append, Array.toList_append, HFd.out, HUd.out, HT.out])) (by repeat (first | with_reducible exact Below.refl _ _ | (with_reducible refine Below.alloc ?_ (by first | omega | (simp [go_sem] <;> omega)) _) | (with_reducible refine Below.drew ?_) | (with_reducible refine Below.drewN ?_ _) | (with_reducible refine Below.grow ?_ (by first | omega | (simp [go_sem] <;> omega)) _) | (with_reducible refine Below.setCell ?_ (by first | omega | (simp [go_sem] <;> omega)) _)))
  rw [if_neg k3] at HT
  by_cases k4 : k = 4
  · subst k4
    rw [if_pos rfl] at HT
    go_enter Tryz.func43, Tryz.ntmps43
    go_wp2_with fail
    go_ret
    exact Ret.of (str_eq (by simp only [ByteArray.data_append, Array.toList_append, HTd.out, HT.out]; rfl)) (by repeat (first | with_reducible exact Below.refl _ _ | (with_reducible refine Below.alloc ?_ (by first | omega | (simp [go_sem] <;> omega)) _) | (with_reducible refine Below.drew ?_) | (with_reducible refine Below.drewN ?_ _) | (with_reducible refine Below.grow ?_ (by first | omega | (simp [go_sem] <;> omega)) _) | (with_reducible refine Below.setCell ?_ (by first | omega | (simp [go_sem] <;> omega)) _)))
  rw [if_neg k4] at HT
  by_cases k5 : k = 5
  · subst k5
    rw [if_pos rfl] at HT
    go_enter Tryz.func43, Tryz.ntmps43
    go_wp2_with fail
    go_ret
    exact Ret.of (str_eq (by simp only [ByteArray.data_append, Array.toList_append, HTd.out, HT.out]; rfl)) (by repeat (first | with_reducible exact Below.refl _ _ | (with_reducible refine Below.alloc ?_ (by first | omega | (simp [go_sem] <;> omega)) _) | (with_reducible refine Below.drew ?_) | (with_reducible refine Below.drewN ?_ _) | (with_reducible refine Below.grow ?_ (by first | omega | (simp [go_sem] <;> omega)) _) | (with_reducible refine Below.setCell ?_ (by first | omega | (simp [go_sem] <;> omega)) _)))
  rw [if_neg k5] at HT
  have b1 : (k == 1) = false := by simpa using k1
  have b2 : (k == 2) = false := by simpa using k2
  have b3 : (k == 3) = false := by simpa using k3
  have b4 : (k == 4) = false := by simpa using k4
  have b5 : (k == 5) = false := by simpa using k5
  have b6 : (k == 6) = false := by simpa using k6
  go_enter Tryz.func43, Tryz.ntmps43
  go_wp2_with fail
  go_ret
  exact Ret.of (by rw [HT.out]; rfl) (by repeat (first | with_reducible exact Below.refl _ _ | (with_reducible refine Below.alloc ?_ (by first | omega | (simp [go_sem] <;> omega)) _) | (with_reducible refine Below.drew ?_) | (with_reducible refine Below.drewN ?_ _) | (with_reducible refine Below.grow ?_ (by first | omega | (simp [go_sem] <;> omega)) _) | (with_reducible refine Below.setCell ?_ (by first | omega | (simp [go_sem] <;> omega)) _)))
end Go.Proofs.YtgcccpdadponiaaGreatDoor
