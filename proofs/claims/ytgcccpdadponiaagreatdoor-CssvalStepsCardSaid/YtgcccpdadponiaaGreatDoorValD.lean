/- The walks of values of styles: what is plain, what begins a colour. -/
import Derived.Test.YtgcccpdadponiaaGreatDoorValC
namespace Go.Proofs.YtgcccpdadponiaaGreatDoor
open Go.RowKit Go.Shelf
attribute [local go_sem] Oper.semAt_some
theorem plain0_by (x : Css) : plain0 x = if x.kind = 1 then true else if x.kind = 5 then true else if x.kind = 3 then unitB x.unit else if x.kind = 4 then hashB x.text else if x.kind = 6 then (decide (x.text = [44]) || decide (x.text = [47])) else false := by
  unfold plain0
  by_cases h1 : x.kind = 1
  · simp [h1]
  by_cases h5 : x.kind = 5
  · simp [h5]
  rw [if_neg (by omega), if_neg h1, if_neg h5]
  congr 2
  rw [Bool.decide_or]
set_option maxRecDepth 100000 in
set_option maxHeartbeats 4000000 in
theorem plain16_any (x : Css) (w : World) (hw : Tb w) (hx : Mx w) (ho : CssOk x) (h1 : x.text.length ≤ 1000000) (h2 : x.unit.length ≤ 1000000) : Calls Tryz.prog 25 #[Css.agg x] w (Ret (.bool (plainC x)) w) := by
  have hmx : Tryz.prog.follows .mixedOrders = true := by kernel_rfl
  have HB := Lib.hid (fun W (hB : Below w.heap.size w W) => And.intro (Tb.below hw hB) (Mx.below hx hB))
  obtain ⟨R, hR⟩ : ∃ R, rightC x = R := ⟨_, rfl⟩
  obtain ⟨U, hU⟩ : ∃ U, unitB x.unit = U := ⟨_, rfl⟩
  obtain ⟨H, hH⟩ : ∃ H, hashB x.text = H := ⟨_, rfl⟩
  have HRt := Lib.hid (fun W (hW : Tb W) (hX : Mx W) => hR ▸ right_any x W hW hX ho h1 h2)
  have HU := Lib.hid (fun W => show Calls Tryz.prog 48 #[.string ⟨x.unit.toArray⟩] W (Ret (.bool U) W) from hU ▸ unit_any ⟨x.unit.toArray⟩ W)
  have HH := Lib.hid (fun W => show Calls Tryz.prog 49 #[.string ⟨x.text.toArray⟩] W (Ret (.bool H) W) from hH ▸ hash_any ⟨x.text.toArray⟩ W (by show x.text.length ≤ _; omega))
  have HN : Hid (plainC x = ((if x.kind = 1 then true else if x.kind = 5 then true else if x.kind = 3 then U else if x.kind = 4 then H else if x.kind = 6 then (((⟨x.text.toArray⟩ : ByteArray).toList == [44]) || ((⟨x.text.toArray⟩ : ByteArray).toList == [47])) else false) && R)) := by
    show _ = _
    have z1 : ((⟨x.text.toArray⟩ : ByteArray).toList == [44]) = decide (x.text = [44]) := by rw [ByteArray.toList_eq, Bool.eq_iff_iff]; simp
    have z2 : ((⟨x.text.toArray⟩ : ByteArray).toList == [47]) = decide (x.text = [47]) := by rw [ByteArray.toList_eq, Bool.eq_iff_iff]; simp
    rw [plainC, plain0_by, hR, hU, hH, z1, z2]
  obtain ⟨D, hD⟩ : ∃ D, plainC x = D := ⟨_, rfl⟩
  rw [hD] at HN ⊢
  clear hD hR hU hH hw hx ho h1 h2
  simp only [Css.agg, sv] at HRt ⊢
  generalize (⟨x.text.toArray⟩ : ByteArray) = a1 at *
  generalize (⟨x.unit.toArray⟩ : ByteArray) = a2 at *
  generalize x.num = nn at *
  by_cases k1 : x.kind = 1
  · rw [k1] at HN HRt ⊢
    go_enter Tryz.func25, Tryz.ntmps25
    go_wp2_with (go_at_call 42; (refine (HRt.out _ (HB.out _ (by (repeat (first | with_reducible exact Below.refl _ _ | (with_reducible refine Below.alloc ?_ (by first | omega | (simp [go_sem] <;> omega)) _) | (with_reducible refine Below.drew ?_) | (with_reducible refine Below.drewN ?_ _) | (with_reducible refine Below.grow ?_ (by first | omega | (simp [go_sem] <;> omega)) _) | (with_reducible refine Below.setCell ?_ (by first | omega | (simp [go_sem] <;> omega)) _))); done)).1 (HB.out _ (by (repeat (first | with_reducible exact Below.refl _ _ | (with_reducible refine Below.alloc ?_ (by first | omega | (simp [go_sem] <;> omega)) _) | (with_reducible refine Below.drew ?_) | (with_reducible refine Below.drewN ?_ _) | (with_reducible refine Below.grow ?_ (by first | omega | (simp [go_sem] <;> omega)) _) | (with_reducible refine Below.setCell ?_ (by first | omega | (simp [go_sem] <;> omega)) _))); done)).2).mono ?_); rintro e w' ⟨rfl, X1, rfl⟩)
    go_ret
    exact Ret.of (by rw [HN.out]; rfl) (by repeat (first | with_reducible exact Below.refl _ _ | (with_reducible refine Below.alloc ?_ (by first | omega | (simp [go_sem] <;> omega)) _) | (with_reducible refine Below.drew ?_) | (with_reducible refine Below.drewN ?_ _) | (with_reducible refine Below.grow ?_ (by first | omega | (simp [go_sem] <;> omega)) _) | (with_reducible refine Below.setCell ?_ (by first | omega | (simp [go_sem] <;> omega)) _)))
  by_cases k5 : x.kind = 5
  · rw [k5] at HN HRt ⊢
    go_enter Tryz.func25, Tryz.ntmps25
    go_wp2_with (go_at_call 42; (refine (HRt.out _ (HB.out _ (by (repeat (first | with_reducible exact Below.refl _ _ | (with_reducible refine Below.alloc ?_ (by first | omega | (simp [go_sem] <;> omega)) _) | (with_reducible refine Below.drew ?_) | (with_reducible refine Below.drewN ?_ _) | (with_reducible refine Below.grow ?_ (by first | omega | (simp [go_sem] <;> omega)) _) | (with_reducible refine Below.setCell ?_ (by first | omega | (simp [go_sem] <;> omega)) _))); done)).1 (HB.out _ (by (repeat (first | with_reducible exact Below.refl _ _ | (with_reducible refine Below.alloc ?_ (by first | omega | (simp [go_sem] <;> omega)) _) | (with_reducible refine Below.drew ?_) | (with_reducible refine Below.drewN ?_ _) | (with_reducible refine Below.grow ?_ (by first | omega | (simp [go_sem] <;> omega)) _) | (with_reducible refine Below.setCell ?_ (by first | omega | (simp [go_sem] <;> omega)) _))); done)).2).mono ?_); rintro e w' ⟨rfl, X1, rfl⟩)
    go_ret
    exact Ret.of (by rw [HN.out]; rfl) (by repeat (first | with_reducible exact Below.refl _ _ | (with_reducible refine Below.alloc ?_ (by first | omega | (simp [go_sem] <;> omega)) _) | (with_reducible refine Below.drew ?_) | (with_reducible refine Below.drewN ?_ _) | (with_reducible refine Below.grow ?_ (by first | omega | (simp [go_sem] <;> omega)) _) | (with_reducible refine Below.setCell ?_ (by first | omega | (simp [go_sem] <;> omega)) _)))
  by_cases k3 : x.kind = 3
  · rw [k3] at HN HRt ⊢
    cases U
    all_goals
      have HU2 := Lib.hid HU.out
      go_enter Tryz.func25, Tryz.ntmps25
      go_wp2_with (first | (go_at_call 48; (with_reducible refine (HU2.out _).mono ?_); rintro e w' ⟨rfl, X2, rfl⟩) | (go_at_call 42; (refine (HRt.out _ (HB.out _ (by (repeat (first | with_reducible exact Below.refl _ _ | (with_reducible refine Below.alloc ?_ (by first | omega | (simp [go_sem] <;> omega)) _) | (with_reducible refine Below.drew ?_) | (with_reducible refine Below.drewN ?_ _) | (with_reducible refine Below.grow ?_ (by first | omega | (simp [go_sem] <;> omega)) _) | (with_reducible refine Below.setCell ?_ (by first | omega | (simp [go_sem] <;> omega)) _))); done)).1 (HB.out _ (by (repeat (first | with_reducible exact Below.refl _ _ | (with_reducible refine Below.alloc ?_ (by first | omega | (simp [go_sem] <;> omega)) _) | (with_reducible refine Below.drew ?_) | (with_reducible refine Below.drewN ?_ _) | (with_reducible refine Below.grow ?_ (by first | omega | (simp [go_sem] <;> omega)) _) | (with_reducible refine Below.setCell ?_ (by first | omega | (simp [go_sem] <;> omega)) _))); done)).2).mono ?_); rintro e w' ⟨rfl, X1, rfl⟩))
      go_ret
      exact Ret.of (by rw [HN.out]; first | rfl | simp) (by repeat (first | with_reducible exact Below.refl _ _ | (with_reducible refine Below.alloc ?_ (by first | omega | (simp [go_sem] <;> omega)) _) | (with_reducible refine Below.drew ?_) | (with_reducible refine Below.drewN ?_ _) | (with_reducible refine Below.grow ?_ (by first | omega | (simp [go_sem] <;> omega)) _) | (with_reducible refine Below.setCell ?_ (by first | omega | (simp [go_sem] <;> omega)) _)))
  by_cases k4 : x.kind = 4
  · rw [k4] at HN HRt ⊢
    cases H
    all_goals
      have HH2 := Lib.hid HH.out
      go_enter Tryz.func25, Tryz.ntmps25
      go_wp2_with (first | (go_at_call 49; (with_reducible refine (HH2.out _).mono ?_); rintro e w' ⟨rfl, X2, rfl⟩) | (go_at_call 42; (refine (HRt.out _ (HB.out _ (by (repeat (first | with_reducible exact Below.refl _ _ | (with_reducible refine Below.alloc ?_ (by first | omega | (simp [go_sem] <;> omega)) _) | (with_reducible refine Below.drew ?_) | (with_reducible refine Below.drewN ?_ _) | (with_reducible refine Below.grow ?_ (by first | omega | (simp [go_sem] <;> omega)) _) | (with_reducible refine Below.setCell ?_ (by first | omega | (simp [go_sem] <;> omega)) _))); done)).1 (HB.out _ (by (repeat (first | with_reducible exact Below.refl _ _ | (with_reducible refine Below.alloc ?_ (by first | omega | (simp [go_sem] <;> omega)) _) | (with_reducible refine Below.drew ?_) | (with_reducible refine Below.drewN ?_ _) | (with_reducible refine Below.grow ?_ (by first | omega | (simp [go_sem] <;> omega)) _) | (with_reducible refine Below.setCell ?_ (by first | omega | (simp [go_sem] <;> omega)) _))); done)).2).mono ?_); rintro e w' ⟨rfl, X1, rfl⟩))
      go_ret
      exact Ret.of (by rw [HN.out]; first | rfl | simp) (by repeat (first | with_reducible exact Below.refl _ _ | (with_reducible refine Below.alloc ?_ (by first | omega | (simp [go_sem] <;> omega)) _) | (with_reducible refine Below.drew ?_) | (with_reducible refine Below.drewN ?_ _) | (with_reducible refine Below.grow ?_ (by first | omega | (simp [go_sem] <;> omega)) _) | (with_reducible refine Below.setCell ?_ (by first | omega | (simp [go_sem] <;> omega)) _)))
  by_cases k6 : x.kind = 6
  · rw [k6] at HN HRt ⊢
    cases m1 : (a1.toList == [44]) <;> cases m2 : (a1.toList == [47])
    all_goals
      go_enter Tryz.func25, Tryz.ntmps25
      go_wp2_with (go_at_call 42; (refine (HRt.out _ (HB.out _ (by (repeat (first | with_reducible exact Below.refl _ _ | (with_reducible refine Below.alloc ?_ (by first | omega | (simp [go_sem] <;> omega)) _) | (with_reducible refine Below.drew ?_) | (with_reducible refine Below.drewN ?_ _) | (with_reducible refine Below.grow ?_ (by first | omega | (simp [go_sem] <;> omega)) _) | (with_reducible refine Below.setCell ?_ (by first | omega | (simp [go_sem] <;> omega)) _))); done)).1 (HB.out _ (by (repeat (first | with_reducible exact Below.refl _ _ | (with_reducible refine Below.alloc ?_ (by first | omega | (simp [go_sem] <;> omega)) _) | (with_reducible refine Below.drew ?_) | (with_reducible refine Below.drewN ?_ _) | (with_reducible refine Below.grow ?_ (by first | omega | (simp [go_sem] <;> omega)) _) | (with_reducible refine Below.setCell ?_ (by first | omega | (simp [go_sem] <;> omega)) _))); done)).2).mono ?_); rintro e w' ⟨rfl, X1, rfl⟩)
      go_ret
      exact Ret.of (by rw [HN.out, m1, m2]; first | rfl | simp) (by repeat (first | with_reducible exact Below.refl _ _ | (with_reducible refine Below.alloc ?_ (by first | omega | (simp [go_sem] <;> omega)) _) | (with_reducible refine Below.drew ?_) | (with_reducible refine Below.drewN ?_ _) | (with_reducible refine Below.grow ?_ (by first | omega | (simp [go_sem] <;> omega)) _) | (with_reducible refine Below.setCell ?_ (by first | omega | (simp [go_sem] <;> omega)) _)))
  · have b1 : (x.kind == 1) = false := by simpa using k1
    have b5 : (x.kind == 5) = false := by simpa using k5
    have b3 : (x.kind == 3) = false := by simpa using k3
    have b4 : (x.kind == 4) = false := by simpa using k4
    have b6 : (x.kind == 6) = false := by simpa using k6
    have HN2 : Hid (D = false) := by show _ = _; rw [HN.out, if_neg k1, if_neg k5, if_neg k3, if_neg k4, if_neg k6]; rfl
    generalize x.kind = kk at *
    go_enter Tryz.func25, Tryz.ntmps25
    go_wp2_with fail
    go_ret
    exact Ret.of (by rw [HN2.out]; rfl) (by repeat (first | with_reducible exact Below.refl _ _ | (with_reducible refine Below.alloc ?_ (by first | omega | (simp [go_sem] <;> omega)) _) | (with_reducible refine Below.drew ?_) | (with_reducible refine Below.drewN ?_ _) | (with_reducible refine Below.grow ?_ (by first | omega | (simp [go_sem] <;> omega)) _) | (with_reducible refine Below.setCell ?_ (by first | omega | (simp [go_sem] <;> omega)) _)))
end Go.Proofs.YtgcccpdadponiaaGreatDoor
