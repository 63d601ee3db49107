/- The walks of styles: whether a list is short; the small thing that is tried first. -/
import Derived.Test.YtjaebdjlgohapaaGreatDoorCssP
namespace Go.Proofs.YtjaebdjlgohapaaGreatDoor
open Go.RowKit Go.Shelf
attribute [local go_sem] Oper.semAt_some
def few1 (x : Css) : Bool := decide (x.text.length ≤ 200) && decide (x.unit.length ≤ 200)
def fewB (l : List Css) : Bool := l.all few1 && decide (l.length ≤ 100)
set_option maxRecDepth 100000 in
set_option maxHeartbeats 4000000 in
theorem few_any (A : Option Addr) (n c : Nat) (l : List Css) (w : World) (h : Rd w (.slice A n c) l.length 4 (cssCells l)) :
    Calls Tryz.prog 9 #[.slice A n c] w (Ret (.bool (fewB l)) w) := by
  have HR := Lib.hid h
  obtain ⟨_, hm, A', c', heq, _⟩ := h
  cases heq
  obtain ⟨D, hD⟩ : ∃ D, fewB l = D := ⟨_, rfl⟩
  have HD : Hid (D = (l.all few1 && decide (l.length ≤ 100))) := hD.symm
  rw [hD]
  clear hD
  go_enter Tryz.func9, Tryz.ntmps9
  go_wp2_with fail
  go_loopw [3] (fun i wr => ∃ (k : Nat), k ≤ l.length ∧ i = .int .i64 k ∧ wr = w ∧ Hid ((l.take k).all few1 = true)) (fun i _ => l.length - (intOf i).toNat)
  case atStart => exact ⟨0, by omega, rfl, rfl, rfl⟩
  case round =>
    obtain ⟨k, hk, rfl, rfl, HK⟩ := hrel
    by_cases hlt : k < l.length
    · obtain ⟨b, off, rfl, hb, c0, c1, c2, c3⟩ := HR.out.css k hlt
      have HAl := Lib.hid (show (l.take (k + 1)).all few1 = ((l.take k).all few1 && few1 l[k]) by rw [List.take_succ_eq_append_getElem hlt, List.all_append]; simp)
      have HNo := Lib.hid (show few1 l[k] = false → l.all few1 = false from fun h => by
        rw [← Bool.not_eq_true, List.all_eq_true]; intro h2; rw [h2 _ (List.getElem_mem hlt)] at h; cases h)
      generalize l[k] = x at *
      have z1 : (⟨x.text.toArray⟩ : ByteArray).size = x.text.length := rfl
      have z2 : (⟨x.unit.toArray⟩ : ByteArray).size = x.unit.length := rfl
      simp only [sv] at c1 c3
      by_cases h5 : 200 < x.text.length
      · have b5 : decide ((200 : Int) < (⟨x.text.toArray⟩ : ByteArray).size) = true := by rw [z1]; simp; omega
        have HN : Hid (D = false) := by show _ = _; rw [HD.out, HNo.out (by unfold few1; rw [decide_eq_false (by omega)]; rfl)]; rfl
        clear z1 z2 h5
        generalize (⟨x.text.toArray⟩ : ByteArray) = U at *
        generalize (⟨x.unit.toArray⟩ : ByteArray) = V at *
        go_wp2_with fail
        go_ret
        exact Ret.of (by rw [HN.out]; rfl) (by repeat (first | with_reducible exact Below.refl _ _ | (with_reducible refine Below.alloc ?_ (by first | omega | (simp [go_sem] <;> omega)) _) | (with_reducible refine Below.drew ?_) | (with_reducible refine Below.drewN ?_ _) | (with_reducible refine Below.grow ?_ (by first | omega | (simp [go_sem] <;> omega)) _) | (with_reducible refine Below.setCell ?_ (by first | omega | (simp [go_sem] <;> omega)) _)))
      · have b5 : decide ((200 : Int) < (⟨x.text.toArray⟩ : ByteArray).size) = false := by rw [z1]; simp; omega
        by_cases h6 : 200 < x.unit.length
        · have b6 : decide ((200 : Int) < (⟨x.unit.toArray⟩ : ByteArray).size) = true := by rw [z2]; simp; omega
          have HN : Hid (D = false) := by show _ = _; rw [HD.out, HNo.out (by unfold few1; rw [decide_eq_false (p := x.unit.length ≤ 200) (by omega)]; simp)]; rfl
          clear z1 z2 h5 h6
          generalize (⟨x.text.toArray⟩ : ByteArray) = U at *
          generalize (⟨x.unit.toArray⟩ : ByteArray) = V at *
          go_wp2_with fail
          go_ret
          exact Ret.of (by rw [HN.out]; rfl) (by repeat (first | with_reducible exact Below.refl _ _ | (with_reducible refine Below.alloc ?_ (by first | omega | (simp [go_sem] <;> omega)) _) | (with_reducible refine Below.drew ?_) | (with_reducible refine Below.drewN ?_ _) | (with_reducible refine Below.grow ?_ (by first | omega | (simp [go_sem] <;> omega)) _) | (with_reducible refine Below.setCell ?_ (by first | omega | (simp [go_sem] <;> omega)) _)))
        · have b6 : decide ((200 : Int) < (⟨x.unit.toArray⟩ : ByteArray).size) = false := by rw [z2]; simp; omega
          have HN : Hid ((l.take (k + 1)).all few1 = true) := by
            show _ = _
            rw [HAl.out, HK.out]
            unfold few1
            rw [decide_eq_true (by omega), decide_eq_true (by omega)]; rfl
          clear z1 z2 h5 h6
          generalize (⟨x.text.toArray⟩ : ByteArray) = U at *
          generalize (⟨x.unit.toArray⟩ : ByteArray) = V at *
          go_wp2_with fail
          go_roundw
          case rel => exact ⟨k + 1, by omega, by go_num, by first | rfl | trivial, HN⟩
          case measure => simp [intOf]; omega
    · have hk2 : k = l.length := by omega
      subst hk2
      rw [List.take_length] at HK
      have HN : Hid (D = decide (l.length ≤ 100)) := by show _ = _; rw [HD.out, HK.out]; rfl
      by_cases h1 : l.length ≤ 100
      · have b1 : decide ((l.length : Int) ≤ 100) = true := by simp; omega
        go_wp2
        go_ret
        exact Ret.of (by rw [HN.out, decide_eq_true h1]; simp; try omega) (by repeat (first | with_reducible exact Below.refl _ _ | (with_reducible refine Below.alloc ?_ (by first | omega | (simp [go_sem] <;> omega)) _) | (with_reducible refine Below.drew ?_) | (with_reducible refine Below.drewN ?_ _) | (with_reducible refine Below.grow ?_ (by first | omega | (simp [go_sem] <;> omega)) _) | (with_reducible refine Below.setCell ?_ (by first | omega | (simp [go_sem] <;> omega)) _)))
      · have b1 : decide ((l.length : Int) ≤ 100) = false := by simp; omega
        go_wp2
        go_ret
        exact Ret.of (by rw [HN.out, decide_eq_false h1]; simp; try omega) (by repeat (first | with_reducible exact Below.refl _ _ | (with_reducible refine Below.alloc ?_ (by first | omega | (simp [go_sem] <;> omega)) _) | (with_reducible refine Below.drew ?_) | (with_reducible refine Below.drewN ?_ _) | (with_reducible refine Below.grow ?_ (by first | omega | (simp [go_sem] <;> omega)) _) | (with_reducible refine Below.setCell ?_ (by first | omega | (simp [go_sem] <;> omega)) _)))
def w13 : Bs := [49, 46, 53, 80, 88, 47, 42, 42, 47, 32, 97, 40]
def l13 : List Css := [⟨3, [], 1500, [112, 120]⟩, ⟨2, [97], 0, []⟩]
theorem awake_scan : cssL w13 = l13 := by decide +kernel
theorem awake_right : l13.all rightC = true := by decide +kernel
theorem awake_text : textC l13 = [49, 46, 53, 112, 120, 32, 97, 40] := by decide +kernel
theorem short13 : Short l13 := by
  intro x hx
  simp only [l13, List.mem_cons, List.not_mem_nil, or_false] at hx
  rcases hx with rfl | rfl <;> exact ⟨⟨by decide, by decide, by decide, by decide⟩, by decide, by decide⟩
set_option maxRecDepth 100000 in
set_option maxHeartbeats 4000000 in
theorem awake_any (w : World) (hw : Tb w) (hx : Mx w) : Calls Tryz.prog 5 #[] w (Ret (.bool true) w) := by
  have HS := Lib.hid (show Calls Tryz.prog 7 #[.string ⟨#[49, 46, 53, 80, 88, 47, 42, 42, 47, 32, 97, 40]⟩] w (RetS w 2 4 (cssCells l13)) from by
    have := scan_any w13 w hx (by decide)
    rw [awake_scan] at this; exact this)
  have HT := Lib.hid (fun (A : Option Addr) (n c : Nat) (X : Gr) (h : Rd (w.grow X) (.slice A n c) 2 4 (cssCells l13)) => show Calls Tryz.prog 12 #[.slice A n c] (w.grow X) (Ret (.tuple #[.string ⟨#[49, 46, 53, 112, 120, 32, 97, 40]⟩, .bool true]) (w.grow X)) from by
    have := text_any A n c l13 (w.grow X) (hw.grow X) (hx.grow X) h short13 (by decide)
    rw [awake_right, awake_text] at this; exact this)
  have hmx : Tryz.prog.follows .mixedOrders = true := by kernel_rfl
  go_enter Tryz.func5, Tryz.ntmps5
  go_wp2_with (first | (go_at_call 7; (with_reducible refine HS.out.mono ?_); rintro e w' ⟨A3, c3, X3, rfl, rfl, hc3, hr3⟩; have HR3 := Lib.hid hr3; clear hr3) | (go_at_call 12; (with_reducible refine (HT.out _ _ _ _ HR3.out).mono ?_); rintro e W5 ⟨rfl, X4, hX4⟩; have hr5 := HR3.out.grow X4; rw [← hX4] at hr5; obtain ⟨b, off, rfl, hb, c0, c1, c2, c4⟩ := Rd.css (l := l13) hr5 0 (by decide); simp only [l13, List.getElem_cons_zero, Nat.zero_mul, Nat.add_zero, sv] at c0 c1 c2 c4; have HX5 : Hid (∃ X4, W5 = (w.grow X3).grow X4) := ⟨X4, hX4⟩; clear hX4 hr5))
  go_ret
  exact Ret.of rfl (by obtain ⟨X4, h⟩ := HX5.out; rw [h]; exact (by repeat (first | with_reducible exact Below.refl _ _ | (with_reducible refine Below.alloc ?_ (by first | omega | (simp [go_sem] <;> omega)) _) | (with_reducible refine Below.drew ?_) | (with_reducible refine Below.drewN ?_ _) | (with_reducible refine Below.grow ?_ (by first | omega | (simp [go_sem] <;> omega)) _) | (with_reducible refine Below.setCell ?_ (by first | omega | (simp [go_sem] <;> omega)) _))))
end Go.Proofs.YtjaebdjlgohapaaGreatDoor
