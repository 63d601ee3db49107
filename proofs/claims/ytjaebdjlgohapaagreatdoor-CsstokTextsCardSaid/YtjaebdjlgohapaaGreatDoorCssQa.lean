/- The walks of styles: the small thing that is tried first. -/
import Derived.Test.YtjaebdjlgohapaaGreatDoorCssQ
namespace Go.Proofs.YtjaebdjlgohapaaGreatDoor
open Go.RowKit Go.Shelf
attribute [local go_sem] Oper.semAt_some
def w13 : Bs := [49, 46, 53, 80, 88, 47, 42, 42, 47, 32, 97, 40]
def l13 : List Css := [⟨3, [], 1500, [112, 120]⟩, ⟨2, [97], 0, []⟩]
theorem awake_scan : cssL w13 = l13 := by decide +kernel
theorem awake_right : l13.all rightC = true := by decide +kernel
theorem awake_text : textC l13 = [49, 46, 53, 112, 120, 32, 97, 40] := by decide +kernel
theorem short13 : Short l13 := by
  intro x hx
  simp only [l13, List.mem_cons, List.not_mem_nil, or_false] at hx
  rcases hx with rfl | rfl <;> exact ⟨⟨by decide, by decide, by decide, by decide⟩, by decide, by decide⟩
set_option maxRecDepth 100000 in
set_option maxHeartbeats 4000000 in
theorem awake_any (w : World) (hw : Tb w) (hx : Mx w) : Calls Tryz.prog 5 #[] w (Ret (.bool true) w) := by
  have HS := Lib.hid (show Calls Tryz.prog 7 #[.string ⟨#[49, 46, 53, 80, 88, 47, 42, 42, 47, 32, 97, 40]⟩] w (RetS w 2 4 (cssCells l13)) from by
    have := scan_any w13 w hx (by decide)
    rw [awake_scan] at this; exact this)
  have HT := Lib.hid (fun (A : Option Addr) (n c : Nat) (X : Gr) (h : Rd (w.grow X) (.slice A n c) 2 4 (cssCells l13)) => show Calls Tryz.prog 12 #[.slice A n c] (w.grow X) (Ret (.tuple #[.string ⟨#[49, 46, 53, 112, 120, 32, 97, 40]⟩, .bool true]) (w.grow X)) from by
    have := text_any A n c l13 (w.grow X) (hw.grow X) (hx.grow X) h short13 (by decide)
    rw [awake_right, awake_text] at this; exact this)
  have hmx : Tryz.prog.follows .mixedOrders = true := by kernel_rfl
  go_enter Tryz.func5, Tryz.ntmps5
  go_wp2_with (first | (go_at_call 7; (with_reducible refine HS.out.mono ?_); rintro e w' ⟨A3, c3, X3, rfl, rfl, hc3, hr3⟩; have HR3 := Lib.hid hr3; clear hr3) | (go_at_call 12; (with_reducible refine (HT.out _ _ _ _ HR3.out).mono ?_); rintro e W5 ⟨rfl, X4, hX4⟩; have hr5 := HR3.out.grow X4; rw [← hX4] at hr5; obtain ⟨b, off, rfl, hb, c0, c1, c2, c4⟩ := Rd.css (l := l13) hr5 0 (by decide); simp only [l13, List.getElem_cons_zero, Nat.zero_mul, Nat.add_zero, sv] at c0 c1 c2 c4; have HX5 : Hid (∃ X4, W5 = (w.grow X3).grow X4) := ⟨X4, hX4⟩; clear hX4 hr5))
  go_ret
  exact Ret.of rfl (by obtain ⟨X4, h⟩ := HX5.out; rw [h]; exact (by repeat (first | with_reducible exact Below.refl _ _ | (with_reducible refine Below.alloc ?_ (by first | omega | (simp [go_sem] <;> omega)) _) | (with_reducible refine Below.drew ?_) | (with_reducible refine Below.drewN ?_ _) | (with_reducible refine Below.grow ?_ (by first | omega | (simp [go_sem] <;> omega)) _) | (with_reducible refine Below.setCell ?_ (by first | omega | (simp [go_sem] <;> omega)) _))))
end Go.Proofs.YtjaebdjlgohapaaGreatDoor
