/- The walks of declarations: the small thing that is tried first. -/
import Derived.Test.YtdpgpjileffekaaGreatDoorDecG
import Derived.Test.YtdpgpjileffekaaGreatDoorDecI
namespace Go.Proofs.YtdpgpjileffekaaGreatDoor
open Go.RowKit Go.Shelf
attribute [local go_sem] Oper.semAt_some
def w14 : Bs := [99, 111, 108, 111, 114, 58, 32, 114, 101, 100, 59, 32, 120, 59, 32, 119, 105, 100, 116, 104, 58, 49, 112, 120, 33, 105, 109, 112, 111, 114, 116, 97, 110, 116]
def l14 : List Dcl := [⟨[99, 111, 108, 111, 114], [⟨1, [114, 101, 100], 0, []⟩], false⟩, ⟨[119, 105, 100, 116, 104], [⟨3, [], 1000, [112, 120]⟩], true⟩]
theorem awake_decls : declsL (cssL w14) = l14 := by decide +kernel
theorem awake_rightD : l14.all rightD = true := by decide +kernel
theorem awake_textD : textD l14 = [99, 111, 108, 111, 114, 58, 32, 114, 101, 100, 59, 32, 119, 105, 100, 116, 104, 58, 32, 49, 112, 120, 32, 33, 32, 105, 109, 112, 111, 114, 116, 97, 110, 116] := by decide +kernel
theorem short14 : ∀ d ∈ l14, ShortD d := by
  intro d hd
  simp only [l14, List.mem_cons, List.not_mem_nil, or_false] at hd
  rcases hd with rfl | rfl <;> refine ⟨fun x hx => ?_, by decide, by decide⟩ <;> simp only [List.mem_cons, List.not_mem_nil, or_false] at hx <;> subst hx <;> exact ⟨⟨by decide, by decide, by decide, by decide⟩, by decide, by decide⟩
set_option maxRecDepth 100000 in
set_option maxHeartbeats 4000000 in
theorem awake14_any (w : World) (hw : Tb w) (hx : Mx w) : Calls Tryz.prog 8 #[] w (Ret (.bool true) w) := by
  have HS := Lib.hid (show Calls Tryz.prog 10 #[.string ⟨#[99, 111, 108, 111, 114, 58, 32, 114, 101, 100, 59, 32, 120, 59, 32, 119, 105, 100, 116, 104, 58, 49, 112, 120, 33, 105, 109, 112, 111, 114, 116, 97, 110, 116]⟩] w (fun e w' => ∃ A c X, e = .returned (.slice A 2 c) ∧ w' = w.grow X ∧ RdD (w.grow X) (.slice A 2 c) l14) from by
    have := parse_any w14 w hx (by decide)
    rw [awake_decls] at this
    refine this.mono ?_
    rintro e w' ⟨A, c, X, h1, h2, _, _, h3⟩
    exact ⟨A, c, X, h1, h2, h3⟩)
  have HT := Lib.hid (fun (A : Option Addr) (c : Nat) (X : Gr) (h : RdD (w.grow X) (.slice A 2 c) l14) => show Calls Tryz.prog 15 #[.slice A 2 c] (w.grow X) (Ret (.tuple #[.string ⟨#[99, 111, 108, 111, 114, 58, 32, 114, 101, 100, 59, 32, 119, 105, 100, 116, 104, 58, 32, 49, 112, 120, 32, 33, 32, 105, 109, 112, 111, 114, 116, 97, 110, 116]⟩, .bool true]) (w.grow X)) from by
    have := dtext_any A 2 c l14 (w.grow X) (hw.grow X) (hx.grow X) h short14 (by decide)
    rw [awake_rightD, if_pos rfl, awake_textD] at this; exact this)
  have hmx : Tryz.prog.follows .mixedOrders = true := by kernel_rfl
  go_enter Tryz.func8, Tryz.ntmps8
  go_wp2_with (first | (go_at_call 10; (with_reducible refine HS.out.mono ?_); rintro e w' ⟨A3, c3, X3, rfl, rfl, hr3⟩; have HR3 := Lib.hid hr3; clear hr3) | (go_at_call 15; (with_reducible refine (HT.out _ _ _ HR3.out).mono ?_); rintro e W5 ⟨rfl, X4, hX4⟩; have hr5 := HR3.out.grow X4; rw [← hX4] at hr5; obtain ⟨b, off, vv, rfl, hb, _, c0, c1, c2⟩ := RdD.at hr5 1 (by decide); simp only [l14, List.getElem_cons_zero, List.getElem_cons_succ, Nat.one_mul] at c2; have HX5 : Hid (∃ X4, W5 = (w.grow X3).grow X4) := ⟨X4, hX4⟩; clear hX4 hr5 c0 c1))
  go_ret
  exact Ret.of rfl (by obtain ⟨X4, h⟩ := HX5.out; rw [h]; exact (by repeat (first | with_reducible exact Below.refl _ _ | (with_reducible refine Below.alloc ?_ (by first | omega | (simp [go_sem] <;> omega)) _) | (with_reducible refine Below.drew ?_) | (with_reducible refine Below.drewN ?_ _) | (with_reducible refine Below.grow ?_ (by first | omega | (simp [go_sem] <;> omega)) _) | (with_reducible refine Below.setCell ?_ (by first | omega | (simp [go_sem] <;> omega)) _))))
end Go.Proofs.YtdpgpjileffekaaGreatDoor
