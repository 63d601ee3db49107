/- Four turns by one way and two flips, and a turn and its other way round, change nothing: TurnBack returns true. No condition: whatever the arguments. -/
import Derived.OpenShut
import Derived.ShutString
import Derived.ChangeOld
import Derived.Test.YtendepongefklaaRows
import Derived.Test.YtendepongefklaaOpen
import Derived.Test.YtendepongefklaaPlainB
namespace Go.Proofs.Ytendepongefklaa.turnBack
open Go.ChangeShapes Go.WideShapes Go.ChangeAt Go.RowKit

theorem own : ownKnob Try.prog.godebug = none := by kernel_rfl
theorem laidOut : laidOutB Try.prog = true := by kernel_rfl


theorem quart_neg (n : Int) : (quart n = 0 ∧ quart (-n) = 0) ∨ (quart n = 1 ∧ quart (-n) = 3) ∨ (quart n = 2 ∧ quart (-n) = 2) ∨ (quart n = 3 ∧ quart (-n) = 1) := by
  unfold quart; omega
theorem may_turn (n : Int) (h1 : -1000 ≤ n) (h2 : n ≤ 1000) : mayB ⟨2, n, 0⟩ = true ∧ mayB ⟨2, -n, 0⟩ = true := by
  simp [mayB, nearB]; omega
theorem back1 (n x y : Int) : allR [⟨2, n, 0⟩, ⟨2, n, 0⟩, ⟨4, 0, 0⟩, ⟨2, n, 0⟩, ⟨2, -n, 0⟩, ⟨4, 0, 0⟩, ⟨2, n, 0⟩, ⟨2, n, 0⟩] (x, y) = (x, y) := by
  rcases quart_neg n with ⟨a, b⟩ | ⟨a, b⟩ | ⟨a, b⟩ | ⟨a, b⟩ <;> simp [allR, moveR, a, b, rot]
theorem back2 (n x y : Int) : allR [⟨2, n, 0⟩, ⟨2, -n, 0⟩] (x, y) = (x, y) := by
  rcases quart_neg n with ⟨a, b⟩ | ⟨a, b⟩ | ⟨a, b⟩ | ⟨a, b⟩ <;> simp [allR, moveR, a, b, rot]
theorem runV_right {l : List St} (h : rightB l = true) (x y : Int) (hx : nearB x 4096 = true) (hy : nearB y 4096 = true) : runV l x y = .tuple #[.int .i64 (allR l (x, y)).1, .int .i64 (allR l (x, y)).2, .int .i64 0] := by
  unfold runV; rw [h, hx, hy]; rfl
theorem back3 (n : Int) (h1 : -1000 ≤ n) (h2 : n ≤ 1000) : neatE [⟨2, n, 0⟩, ⟨2, -n, 0⟩, ⟨4, 0, 0⟩, ⟨4, 0, 0⟩] = 0 ∧ neatOf [⟨2, n, 0⟩, ⟨2, -n, 0⟩, ⟨4, 0, 0⟩, ⟨4, 0, 0⟩] = [] := by
  have hm := may_turn n h1 h2
  have hf : mayB ⟨4, 0, 0⟩ = true := rfl
  have hr : rightB [⟨2, n, 0⟩, ⟨2, -n, 0⟩, ⟨4, 0, 0⟩, ⟨4, 0, 0⟩] = true := by simp [rightB, hm.1, hm.2, hf]
  have ha : allM [⟨2, n, 0⟩, ⟨2, -n, 0⟩, ⟨4, 0, 0⟩, ⟨4, 0, 0⟩] = Mo.one := by
    rcases quart_neg n with ⟨a, b⟩ | ⟨a, b⟩ | ⟨a, b⟩ | ⟨a, b⟩ <;> simp [allM, stepM, behind, Mo.one, Mo.to, a, b, rot]
  have he : neatE [⟨2, n, 0⟩, ⟨2, -n, 0⟩, ⟨4, 0, 0⟩, ⟨4, 0, 0⟩] = 0 := by unfold neatE; rw [hr, ha]; rfl
  exact ⟨he, by unfold neatOf; rw [he, ha]; rfl⟩
set_option maxRecDepth 100000 in
set_option maxHeartbeats 4000000 in
theorem walk (n x y : Int) (w : World) (_hn : (Lit.int .i64 n).wf = true) (_hx : (Lit.int .i64 x).wf = true) (_hy : (Lit.int .i64 y).wf = true) : Calls Try.prog 7 #[.int .i64 n, .int .i64 x, .int .i64 y] w (Ret (.bool true) w) := by
  clear _hn _hx _hy
  by_cases hc0 : n < -1000
  · go_enter Try.func7, Try.ntmps7
    go_wp2_with (go_at_call 10; refine (awake_any _).mono ?_; rintro e w' ⟨rfl, A, rfl⟩)
    go_ret
    exact Ret.of rfl (by repeat (first | with_reducible exact Below.refl _ _ | (with_reducible refine Below.alloc ?_ (by simp [go_sem] <;> omega) _) | (with_reducible refine Below.drew ?_) | (with_reducible refine Below.drewN ?_ _) | (with_reducible refine Below.grow ?_ (by simp [go_sem] <;> omega) _) | (with_reducible refine Below.setCell ?_ (by simp [go_sem] <;> omega) _)))
  by_cases hc1 : 1000 < n
  · go_enter Try.func7, Try.ntmps7
    go_wp2_with (go_at_call 10; refine (awake_any _).mono ?_; rintro e w' ⟨rfl, A, rfl⟩)
    go_ret
    exact Ret.of rfl (by repeat (first | with_reducible exact Below.refl _ _ | (with_reducible refine Below.alloc ?_ (by simp [go_sem] <;> omega) _) | (with_reducible refine Below.drew ?_) | (with_reducible refine Below.drewN ?_ _) | (with_reducible refine Below.grow ?_ (by simp [go_sem] <;> omega) _) | (with_reducible refine Below.setCell ?_ (by simp [go_sem] <;> omega) _)))
  by_cases hc2 : x < -4096
  · go_enter Try.func7, Try.ntmps7
    go_wp2_with (go_at_call 10; refine (awake_any _).mono ?_; rintro e w' ⟨rfl, A, rfl⟩)
    go_ret
    exact Ret.of rfl (by repeat (first | with_reducible exact Below.refl _ _ | (with_reducible refine Below.alloc ?_ (by simp [go_sem] <;> omega) _) | (with_reducible refine Below.drew ?_) | (with_reducible refine Below.drewN ?_ _) | (with_reducible refine Below.grow ?_ (by simp [go_sem] <;> omega) _) | (with_reducible refine Below.setCell ?_ (by simp [go_sem] <;> omega) _)))
  by_cases hc3 : 4096 < x
  · go_enter Try.func7, Try.ntmps7
    go_wp2_with (go_at_call 10; refine (awake_any _).mono ?_; rintro e w' ⟨rfl, A, rfl⟩)
    go_ret
    exact Ret.of rfl (by repeat (first | with_reducible exact Below.refl _ _ | (with_reducible refine Below.alloc ?_ (by simp [go_sem] <;> omega) _) | (with_reducible refine Below.drew ?_) | (with_reducible refine Below.drewN ?_ _) | (with_reducible refine Below.grow ?_ (by simp [go_sem] <;> omega) _) | (with_reducible refine Below.setCell ?_ (by simp [go_sem] <;> omega) _)))
  by_cases hc4 : y < -4096
  · go_enter Try.func7, Try.ntmps7
    go_wp2_with (go_at_call 10; refine (awake_any _).mono ?_; rintro e w' ⟨rfl, A, rfl⟩)
    go_ret
    exact Ret.of rfl (by repeat (first | with_reducible exact Below.refl _ _ | (with_reducible refine Below.alloc ?_ (by simp [go_sem] <;> omega) _) | (with_reducible refine Below.drew ?_) | (with_reducible refine Below.drewN ?_ _) | (with_reducible refine Below.grow ?_ (by simp [go_sem] <;> omega) _) | (with_reducible refine Below.setCell ?_ (by simp [go_sem] <;> omega) _)))
  by_cases hc5 : 4096 < y
  · go_enter Try.func7, Try.ntmps7
    go_wp2_with (go_at_call 10; refine (awake_any _).mono ?_; rintro e w' ⟨rfl, A, rfl⟩)
    go_ret
    exact Ret.of rfl (by repeat (first | with_reducible exact Below.refl _ _ | (with_reducible refine Below.alloc ?_ (by simp [go_sem] <;> omega) _) | (with_reducible refine Below.drew ?_) | (with_reducible refine Below.drewN ?_ _) | (with_reducible refine Below.grow ?_ (by simp [go_sem] <;> omega) _) | (with_reducible refine Below.setCell ?_ (by simp [go_sem] <;> omega) _)))

  have n1 : -1000 ≤ n := by omega
  have n2 : n ≤ 1000 := by omega
  have hx : nearB x 4096 = true := nearB_iff.2 (by omega)
  have hy : nearB y 4096 = true := nearB_iff.2 (by omega)
  have hm := may_turn n n1 n2
  have hf : mayB ⟨4, 0, 0⟩ = true := rfl
  have e1 : runV [⟨2, n, 0⟩, ⟨2, n, 0⟩, ⟨4, 0, 0⟩, ⟨2, n, 0⟩, ⟨2, -n, 0⟩, ⟨4, 0, 0⟩, ⟨2, n, 0⟩, ⟨2, n, 0⟩] x y = .tuple #[.int .i64 x, .int .i64 y, .int .i64 0] := by
    rw [runV_right (by simp [rightB, hm.1, hm.2, hf]) x y hx hy, back1]
  have e2 : runV [⟨2, n, 0⟩, ⟨2, -n, 0⟩] x y = .tuple #[.int .i64 x, .int .i64 y, .int .i64 0] := by
    rw [runV_right (by simp [rightB, hm.1, hm.2]) x y hx hy, back2]
  have HR1 := Lib.hid (fun v W (hs : Sl W v [⟨2, n, 0⟩, ⟨2, n, 0⟩, ⟨4, 0, 0⟩, ⟨2, n, 0⟩, ⟨2, -n, 0⟩, ⟨4, 0, 0⟩, ⟨2, n, 0⟩, ⟨2, n, 0⟩]) => e1 ▸ run_any v [⟨2, n, 0⟩, ⟨2, n, 0⟩, ⟨4, 0, 0⟩, ⟨2, n, 0⟩, ⟨2, -n, 0⟩, ⟨4, 0, 0⟩, ⟨2, n, 0⟩, ⟨2, n, 0⟩] x y W hs)
  have HR2 := Lib.hid (fun v W (hs : Sl W v [⟨2, n, 0⟩, ⟨2, -n, 0⟩]) => e2 ▸ run_any v [⟨2, n, 0⟩, ⟨2, -n, 0⟩] x y W hs)
  have HN := Lib.hid (fun v W (hs : Sl W v [⟨2, n, 0⟩, ⟨2, -n, 0⟩, ⟨4, 0, 0⟩, ⟨4, 0, 0⟩]) => by have := neat_any v _ W hs; rw [(back3 n n1 n2).1, (back3 n n1 n2).2] at this; exact this)
  clear e1 e2 hm hf hx hy
  go_enter Try.func7, Try.ntmps7
  go_wp2_with (go_at_call 10; refine (awake_any _).mono ?_; rintro e w' ⟨rfl, A, rfl⟩)
  refine (HR1.out _ _ (sl_new [⟨2, n, 0⟩, ⟨2, n, 0⟩, ⟨4, 0, 0⟩, ⟨2, n, 0⟩, ⟨2, -n, 0⟩, ⟨4, 0, 0⟩, ⟨2, n, 0⟩, ⟨2, n, 0⟩] _ _ (by simp [go_sem]) rfl (by simp) 8)).mono ?_
  rintro e w' ⟨rfl, X, rfl⟩
  go_wp2_with fail
  refine (HR2.out _ _ (sl_new [⟨2, n, 0⟩, ⟨2, -n, 0⟩] _ _ (by simp [go_sem]) rfl (by simp) 2)).mono ?_
  rintro e w' ⟨rfl, Y, rfl⟩
  go_wp2_with fail
  refine (HN.out _ _ (sl_new [⟨2, n, 0⟩, ⟨2, -n, 0⟩, ⟨4, 0, 0⟩, ⟨4, 0, 0⟩] _ _ (by simp [go_sem]) rfl (by simp) 4)).mono ?_
  rintro e w' ⟨v, Z, rfl, rfl, a1, cap1, rfl, _⟩
  simp only [List.length_nil]
  go_wp2
  go_ret
  exact Ret.of rfl (by repeat (first | with_reducible exact Below.refl _ _ | (with_reducible refine Below.alloc ?_ (by simp [go_sem] <;> omega) _) | (with_reducible refine Below.drew ?_) | (with_reducible refine Below.drewN ?_ _) | (with_reducible refine Below.grow ?_ (by simp [go_sem] <;> omega) _) | (with_reducible refine Below.setCell ?_ (by simp [go_sem] <;> omega) _)))

set_option maxRecDepth 100000 in
theorem lifted (os : Os) (started : os.Started) (H : Type) (enc : TypeId × Value → H) :
    ReturnsInHanded {} Try.checked os 7 .any (Rows.turnBackSpec.pre6 enc Try.prog Try.f7 Rows.turnBackRow.domain false) (Rows.turnBackSpec.post enc Try.prog Try.f7 false true false false) := by
  refine returnsInHanded_of_change (C := Try.checked) own started (by kernel_rfl) Try.func7
    (ChangeSpec.witness6 (enc := enc) (C := Try.checked) false ⟨#[], #[.int .i64 0, .int .i64 0, .int .i64 0], []⟩ 8 (by kernel_rfl) (by kernel_rfl) (by kernel_rfl) (by kernel_rfl)) ?_
  intro W base args ds gs before hval0 hW hcnd _
  have hval : ∀ (j : Nat) t v, Try.f7.params[j]? = some t → args[j]? = some v → Value.okWide Try.prog W .any base t v := hval0
  have hW' := hW
  obtain ⟨p, q, hA0, hV, rfl, hfz, hnd⟩ := hW
  have hA : DataW.TrodAll enc Try.prog W 0 (fun _ => true) true Try.f7.params.toList args.toList ds p := hA0
  rw [Try.params7] at hA hval
  obtain ⟨v0, vs0, d0, ds0, p0, q0, hargs, rfl, rfl, h0, r0⟩ := trodAll_cons hA
  obtain ⟨v1, vs1, d1, ds1, p1, q1, rfl, rfl, rfl, h1, r1⟩ := trodAll_cons r0
  obtain ⟨v2, vs2, d2, ds2, p2, q2, rfl, rfl, rfl, h2, r2⟩ := trodAll_cons r1
  obtain ⟨rfl, rfl, rfl⟩ := trodAll_nil r2
  obtain rfl : args = #[v0, v1, v2] := by cases args; simp_all
  obtain ⟨rfl, rfl⟩ := trodVars_none hV
  obtain ⟨a0, rfl, rfl, rfl, w0⟩ := open_int Try.underlying3 (hval 0 3 v0 rfl rfl) h0
  obtain ⟨a1, rfl, rfl, rfl, w1⟩ := open_int Try.underlying3 (hval 1 3 v1 rfl rfl) h1
  obtain ⟨a2, rfl, rfl, rfl, w2⟩ := open_int Try.underlying3 (hval 2 3 v2 rfl rfl) h2
  clear hA0 hval0
  refine (walk a0 a1 a2 W w0 w1 w2).mono fun e W' hend => ?_
  obtain ⟨he, X, hX⟩ := hend
  have bel : Below W.heap.size W W' := by rw [hX]; exact below_grow W X
  subst he
  exact ⟨_, rfl, _, _, _, [], _, [], hW', trodAll_mk1 (shut_bool Try.underlying4 _), (trodAll_cons_mk (shut_int Try.underlying3 w0) (trodAll_cons_mk (shut_int Try.underlying3 w1) (trodAll_cons_mk (shut_int Try.underlying3 w2) trodAll_mk0))), rfl, bel.frame _, fun h => by cases h⟩

theorem over : Rows.turnBackRow.holds Try.pinned (OpenSpec.ofChange Rows.turnBackSpec) :=
  OpenClaim.holds_of_wide 7 Try.f7 rfl rfl rfl rfl rfl rfl rfl ⟨rfl, rfl, rfl, rfl, rfl⟩ rfl rfl rfl rfl rfl (by kernel_rfl) Try.func7 (by kernel_rfl)
    (of_decide_eq_true (by kernel_rfl)) (by unfold Func.isWrapper; rw [if_neg (of_decide_eq_false (by kernel_rfl))]; exact ⟨rfl, rfl⟩)
    (fun os started H enc _ => lifted os started H enc)

/-- The statement. -/
theorem proved : Rows.TurnBackSaid := over

end Go.Proofs.Ytendepongefklaa.turnBack
