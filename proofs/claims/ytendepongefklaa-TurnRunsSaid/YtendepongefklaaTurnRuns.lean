/- The program's Run and Right answer as the reference's do, for every list of steps and every point: TurnRuns returns true. No condition: whatever the arguments. -/
import Derived.OpenShut
import Derived.ShutString
import Derived.ChangeOld
import Derived.Test.YtendepongefklaaRows
import Derived.Test.YtendepongefklaaOpen
namespace Go.Proofs.Ytendepongefklaa.turnRuns
open Go.ChangeShapes Go.WideShapes Go.ChangeAt Go.RowKit

theorem own : ownKnob Try.prog.godebug = none := by kernel_rfl
theorem laidOut : laidOutB Try.prog = true := by kernel_rfl


theorem runV_tuple (l : List St) (x y : Int) : ∃ p q r : Int, runV l x y = .tuple #[.int .i64 p, .int .i64 q, .int .i64 r] := by
  unfold runV
  split
  · exact ⟨_, _, _, rfl⟩
  · exact ⟨_, _, _, rfl⟩
set_option maxHeartbeats 1000000 in
theorem walk (v : Value) (l : List St) (x y : Int) (w : World) (h : Sl w v l) (_hx : (Lit.int .i64 x).wf = true) (_hy : (Lit.int .i64 y).wf = true) : Calls Try.prog 3 #[v, .int .i64 x, .int .i64 y] w (Ret (.bool true) w) := by
  obtain ⟨a, cap, rfl, hl, hc⟩ := h
  have H : ∀ X, Sl (w.grow X) (.slice a l.length cap) l := fun X => Sl.grow ⟨a, cap, rfl, hl, hc⟩ X
  have HS := Lib.hid H
  clear H hc _hx _hy
  by_cases hlen : l.length ≤ 100
  · obtain ⟨p, q, r, hv⟩ := runV_tuple l x y
    have HV := Lib.hid hv
    clear hv
    go_enter Try.func3, Try.ntmps3
    go_wp2_with (first | (go_at_call 10; refine (awake_any _).mono ?_; rintro e w' ⟨rfl, A, rfl⟩) | (go_at_call 11; refine (run_any _ l x y _ (by repeat (first | with_reducible exact HS.out _ | with_reducible refine Sl.grow ?_ _))).mono ?_; rw [HV.out]; rintro e w' ⟨rfl, B, rfl⟩) | (go_at_call 12; refine (rrun_any _ l x y _ (by repeat (first | with_reducible exact HS.out _ | with_reducible refine Sl.grow ?_ _))).mono ?_; rw [HV.out]; rintro e w' ⟨rfl, C, rfl⟩) | (go_at_call 13; refine (right_any _ l _ (by repeat (first | with_reducible exact HS.out _ | with_reducible refine Sl.grow ?_ _))).mono ?_; rintro e w' ⟨rfl, D, rfl⟩) | (go_at_call 14; refine (rright_any _ l _ (by repeat (first | with_reducible exact HS.out _ | with_reducible refine Sl.grow ?_ _))).mono ?_; rintro e w' ⟨rfl, E, rfl⟩))
    go_ret
    exact Ret.of rfl (by repeat (first | with_reducible exact Below.refl _ _ | (with_reducible refine Below.alloc ?_ (by simp [go_sem] <;> omega) _) | (with_reducible refine Below.drew ?_) | (with_reducible refine Below.drewN ?_ _) | (with_reducible refine Below.grow ?_ (by simp [go_sem] <;> omega) _) | (with_reducible refine Below.setCell ?_ (by simp [go_sem] <;> omega) _)))
  · go_enter Try.func3, Try.ntmps3
    go_wp2_with (go_at_call 10; refine (awake_any _).mono ?_; rintro e w' ⟨rfl, A, rfl⟩)
    go_ret
    exact Ret.of rfl (by repeat (first | with_reducible exact Below.refl _ _ | (with_reducible refine Below.alloc ?_ (by simp [go_sem] <;> omega) _) | (with_reducible refine Below.drew ?_) | (with_reducible refine Below.drewN ?_ _) | (with_reducible refine Below.grow ?_ (by simp [go_sem] <;> omega) _) | (with_reducible refine Below.setCell ?_ (by simp [go_sem] <;> omega) _)))

set_option maxRecDepth 100000 in
theorem lifted (os : Os) (started : os.Started) (H : Type) (enc : TypeId × Value → H) :
    ReturnsInHanded {} Try.checked os 3 .any (Rows.turnRunsSpec.pre6 enc Try.prog Try.f3 Rows.turnRunsRow.domain false) (Rows.turnRunsSpec.post enc Try.prog Try.f3 false true false false) := by
  refine returnsInHanded_of_change (C := Try.checked) own started (by kernel_rfl) Try.func3
    (ChangeSpec.witness6 (enc := enc) (C := Try.checked) false ⟨#[], #[.slice none 0 0, .int .i64 0, .int .i64 0], []⟩ 8 (by kernel_rfl) (by kernel_rfl) (by kernel_rfl) (by kernel_rfl)) ?_
  intro W base args ds gs before hval0 hW hcnd _
  have hval : ∀ (j : Nat) t v, Try.f3.params[j]? = some t → args[j]? = some v → Value.okWide Try.prog W .any base t v := hval0
  have hW' := hW
  obtain ⟨p, q, hA0, hV, rfl, hfz, hnd⟩ := hW
  have hA : DataW.TrodAll enc Try.prog W 0 (fun _ => true) true Try.f3.params.toList args.toList ds p := hA0
  rw [Try.params3] at hA hval
  obtain ⟨v0, vs0, d0, ds0, p0, q0, hargs, rfl, rfl, h0, r0⟩ := trodAll_cons hA
  obtain ⟨v1, vs1, d1, ds1, p1, q1, rfl, rfl, rfl, h1, r1⟩ := trodAll_cons r0
  obtain ⟨v2, vs2, d2, ds2, p2, q2, rfl, rfl, rfl, h2, r2⟩ := trodAll_cons r1
  obtain ⟨rfl, rfl, rfl⟩ := trodAll_nil r2
  obtain rfl : args = #[v0, v1, v2] := by cases args; simp_all
  obtain ⟨rfl, rfl⟩ := trodVars_none hV
  obtain ⟨a0, len0, cap0, rfl⟩ := okWide_slice Try.underlying22 (hval 0 22 v0 rfl rfl)
  have k0 := h0
  have lt0 : ∀ x ∈ p0, x.block < W.heap.size := by obtain ⟨m, hm⟩ := k0; exact DataW.trod_lt m _ _ _ hm
  obtain ⟨z0, e0, w0⟩ : ∃ l, l.length = len0 ∧ Sl W (.slice a0 len0 cap0) l := by obtain ⟨fuel, hf⟩ := h0; exact sl_open (by simpa [Value.cells] using hf)
  obtain ⟨a1, rfl, rfl, rfl, w1⟩ := open_int Try.underlying3 (hval 1 3 v1 rfl rfl) h1
  obtain ⟨a2, rfl, rfl, rfl, w2⟩ := open_int Try.underlying3 (hval 2 3 v2 rfl rfl) h2
  clear hA0 hval0
  refine (walk (.slice a0 len0 cap0) z0 a1 a2 W w0 w1 w2).mono fun e W' hend => ?_
  obtain ⟨he, X, hX⟩ := hend
  have bel : Below W.heap.size W W' := by rw [hX]; exact below_grow W X
  subst he
  exact ⟨_, rfl, _, _, _, [], _, [], hW', trodAll_mk1 (shut_bool Try.underlying4 _), (trodAll_cons_mk (Below.trod laidOut (by kernel_rfl) (of_decide_eq_true (by kernel_rfl)) k0 bel lt0) (trodAll_cons_mk (shut_int Try.underlying3 w1) (trodAll_cons_mk (shut_int Try.underlying3 w2) trodAll_mk0))), rfl, bel.frame _, fun h => by cases h⟩

theorem over : Rows.turnRunsRow.holds Try.pinned (OpenSpec.ofChange Rows.turnRunsSpec) :=
  OpenClaim.holds_of_wide 3 Try.f3 rfl rfl rfl rfl rfl rfl rfl ⟨rfl, rfl, rfl, rfl, rfl⟩ rfl rfl rfl rfl rfl (by kernel_rfl) Try.func3 (by kernel_rfl)
    (of_decide_eq_true (by kernel_rfl)) (by unfold Func.isWrapper; rw [if_neg (of_decide_eq_false (by kernel_rfl))]; exact ⟨rfl, rfl⟩)
    (fun os started H enc _ => lifted os started H enc)

/-- The statement. -/
theorem proved : Rows.TurnRunsSaid := over

end Go.Proofs.Ytendepongefklaa.turnRuns
