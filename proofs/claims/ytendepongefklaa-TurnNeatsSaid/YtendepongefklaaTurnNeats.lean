/- The program's Neat answers as the reference's does, for every list of steps: TurnNeats returns true. No condition: whatever the arguments. -/
import Derived.OpenShut
import Derived.ShutString
import Derived.ChangeOld
import Derived.Test.YtendepongefklaaRows
import Derived.Test.YtendepongefklaaOpen
import Derived.Test.YtendepongefklaaPlainB
namespace Go.Proofs.Ytendepongefklaa.turnNeats
open Go.ChangeShapes Go.WideShapes Go.ChangeAt Go.RowKit

theorem own : ownKnob Try.prog.godebug = none := by kernel_rfl
theorem laidOut : laidOutB Try.prog = true := by kernel_rfl


set_option maxHeartbeats 1000000 in
theorem walk (v : Value) (l : List St) (w : World) (h : Sl w v l) : Calls Try.prog 4 #[v] w (Ret (.bool true) w) := by
  obtain ⟨a, cap, rfl, hl, hc⟩ := h
  have H : ∀ X, Sl (w.grow X) (.slice a l.length cap) l := fun X => Sl.grow ⟨a, cap, rfl, hl, hc⟩ X
  have HS := Lib.hid H
  clear H hc
  by_cases hlen : l.length ≤ 100
  · generalize hL : neatOf l = L at *
    have H1 := Lib.hid (fun W (hs : Sl W (.slice a l.length cap) l) => hL ▸ neat_any (.slice a l.length cap) l W hs)
    have H2 := Lib.hid (fun W (hs : Sl W (.slice a l.length cap) l) => hL ▸ rneat_any (.slice a l.length cap) l W hs)
    clear hL
    generalize neatE l = E at *
    go_enter Try.func4, Try.ntmps4
    go_wp2_with (first | (go_at_call 10; refine (awake_any _).mono ?_; rintro e w' ⟨rfl, A, rfl⟩) | (go_at_call 15; refine (H1.out _ (by repeat (first | with_reducible exact HS.out _ | with_reducible refine Sl.grow ?_ _ | with_reducible refine sl_alloc ?_ _))).mono ?_; rintro e w' ⟨v1, X1, rfl, rfl, S1⟩) | (go_at_call 16; refine (H2.out _ (by repeat (first | with_reducible exact HS.out _ | with_reducible refine Sl.grow ?_ _ | with_reducible refine sl_alloc ?_ _))).mono ?_; rintro e w' ⟨v2, X2, rfl, rfl, S2⟩) | (go_at_call 17; refine (same_any v1 v2 L L _ (by repeat (first | with_reducible exact HS.out _ | with_reducible exact S1 | with_reducible exact S2 | with_reducible refine Sl.grow ?_ _ | with_reducible refine sl_alloc ?_ _)) (by repeat (first | with_reducible exact HS.out _ | with_reducible exact S2 | with_reducible exact S1 | with_reducible refine Sl.grow ?_ _ | with_reducible refine sl_alloc ?_ _))).mono ?_; rintro e w' ⟨rfl, X3, rfl⟩))
    go_ret
    exact Ret.of (by simp) (by repeat (first | with_reducible exact Below.refl _ _ | (with_reducible refine Below.alloc ?_ (by simp [go_sem] <;> omega) _) | (with_reducible refine Below.drew ?_) | (with_reducible refine Below.drewN ?_ _) | (with_reducible refine Below.grow ?_ (by simp [go_sem] <;> omega) _) | (with_reducible refine Below.setCell ?_ (by simp [go_sem] <;> omega) _)))
  · go_enter Try.func4, Try.ntmps4
    go_wp2_with (go_at_call 10; refine (awake_any _).mono ?_; rintro e w' ⟨rfl, A, rfl⟩)
    go_ret
    exact Ret.of rfl (by repeat (first | with_reducible exact Below.refl _ _ | (with_reducible refine Below.alloc ?_ (by simp [go_sem] <;> omega) _) | (with_reducible refine Below.drew ?_) | (with_reducible refine Below.drewN ?_ _) | (with_reducible refine Below.grow ?_ (by simp [go_sem] <;> omega) _) | (with_reducible refine Below.setCell ?_ (by simp [go_sem] <;> omega) _)))

set_option maxRecDepth 100000 in
theorem lifted (os : Os) (started : os.Started) (H : Type) (enc : TypeId × Value → H) :
    ReturnsInHanded {} Try.checked os 4 .any (Rows.turnNeatsSpec.pre6 enc Try.prog Try.f4 Rows.turnNeatsRow.domain false) (Rows.turnNeatsSpec.post enc Try.prog Try.f4 false true false false) := by
  refine returnsInHanded_of_change (C := Try.checked) own started (by kernel_rfl) Try.func4
    (ChangeSpec.witness6 (enc := enc) (C := Try.checked) false ⟨#[], #[.slice none 0 0], []⟩ 8 (by kernel_rfl) (by kernel_rfl) (by kernel_rfl) (by kernel_rfl)) ?_
  intro W base args ds gs before hval0 hW hcnd _
  have hval : ∀ (j : Nat) t v, Try.f4.params[j]? = some t → args[j]? = some v → Value.okWide Try.prog W .any base t v := hval0
  have hW' := hW
  obtain ⟨p, q, hA0, hV, rfl, hfz, hnd⟩ := hW
  have hA : DataW.TrodAll enc Try.prog W 0 (fun _ => true) true Try.f4.params.toList args.toList ds p := hA0
  rw [Try.params4] at hA hval
  obtain ⟨v0, vs0, d0, ds0, p0, q0, hargs, rfl, rfl, h0, r0⟩ := trodAll_cons hA
  obtain ⟨rfl, rfl, rfl⟩ := trodAll_nil r0
  obtain rfl : args = #[v0] := by cases args; simp_all
  obtain ⟨rfl, rfl⟩ := trodVars_none hV
  obtain ⟨a0, len0, cap0, rfl⟩ := okWide_slice Try.underlying22 (hval 0 22 v0 rfl rfl)
  have k0 := h0
  have lt0 : ∀ x ∈ p0, x.block < W.heap.size := by obtain ⟨m, hm⟩ := k0; exact DataW.trod_lt m _ _ _ hm
  obtain ⟨z0, e0, w0⟩ : ∃ l, l.length = len0 ∧ Sl W (.slice a0 len0 cap0) l := by obtain ⟨fuel, hf⟩ := h0; exact sl_open (by simpa [Value.cells] using hf)
  clear hA0 hval0
  refine (walk (.slice a0 len0 cap0) z0 W w0).mono fun e W' hend => ?_
  obtain ⟨he, X, hX⟩ := hend
  have bel : Below W.heap.size W W' := by rw [hX]; exact below_grow W X
  subst he
  exact ⟨_, rfl, _, _, _, [], _, [], hW', trodAll_mk1 (shut_bool Try.underlying4 _), (trodAll_cons_mk (Below.trod laidOut (by kernel_rfl) (of_decide_eq_true (by kernel_rfl)) k0 bel lt0) trodAll_mk0), rfl, bel.frame _, fun h => by cases h⟩

theorem over : Rows.turnNeatsRow.holds Try.pinned (OpenSpec.ofChange Rows.turnNeatsSpec) :=
  OpenClaim.holds_of_wide 4 Try.f4 rfl rfl rfl rfl rfl rfl rfl ⟨rfl, rfl, rfl, rfl, rfl⟩ rfl rfl rfl rfl rfl (by kernel_rfl) Try.func4 (by kernel_rfl)
    (of_decide_eq_true (by kernel_rfl)) (by unfold Func.isWrapper; rw [if_neg (of_decide_eq_false (by kernel_rfl))]; exact ⟨rfl, rfl⟩)
    (fun os started H enc _ => lifted os started H enc)

/-- The statement. -/
theorem proved : Rows.TurnNeatsSaid := over

end Go.Proofs.Ytendepongefklaa.turnNeats
