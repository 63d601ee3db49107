/- What is neat moves each point as the steps did, may be, is of four steps at most, and stays as it is: TurnSame returns true. No condition: whatever the arguments. -/
import Derived.OpenShut
import Derived.ShutString
import Derived.ChangeOld
import Derived.Test.YtendepongefklaaRows
import Derived.Test.YtendepongefklaaOpen
import Derived.Test.YtendepongefklaaPlainB
namespace Go.Proofs.Ytendepongefklaa.turnSame
open Go.ChangeShapes Go.WideShapes Go.ChangeAt Go.RowKit

theorem own : ownKnob Try.prog.godebug = none := by kernel_rfl
theorem laidOut : laidOutB Try.prog = true := by kernel_rfl


theorem runV_tuple (l : List St) (x y : Int) : ∃ p q r : Int, runV l x y = .tuple #[.int .i64 p, .int .i64 q, .int .i64 r] := by
  unfold runV
  split
  · exact ⟨_, _, _, rfl⟩
  · exact ⟨_, _, _, rfl⟩

set_option maxHeartbeats 2000000 in
theorem walk (v : Value) (l : List St) (x y : Int) (w : World) (h : Sl w v l) (_hx : (Lit.int .i64 x).wf = true) (_hy : (Lit.int .i64 y).wf = true) : Calls Try.prog 5 #[v, .int .i64 x, .int .i64 y] w (Ret (.bool true) w) := by
  obtain ⟨a, cap, rfl, hl, hc⟩ := h
  have H : ∀ X, Sl (w.grow X) (.slice a l.length cap) l := fun X => Sl.grow ⟨a, cap, rfl, hl, hc⟩ X
  have HS := Lib.hid H
  clear H hc _hx _hy
  by_cases hlen : l.length ≤ 100
  · by_cases hE : neatE l = 0
    · obtain ⟨r1, _, n1, n2, n3⟩ := neat_law l hE
      obtain ⟨p, q, r, hv⟩ := runV_tuple l x y
      have hv2 := runV_neat l hE x y
      rw [hv] at hv2
      have HN := Lib.hid (fun u W (hs : Sl W u l) => hE ▸ neat_any u l W hs)
      generalize neatOf l = L at *
      have HM := Lib.hid (fun u W (hs : Sl W u L) => by have := neat_any u L W hs; rw [n1, n2] at this; exact this)
      have HR := Lib.hid (fun u W (hs : Sl W u l) => hv ▸ run_any u l x y W hs)
      have HQ := Lib.hid (fun u W (hs : Sl W u L) => hv2 ▸ run_any u L x y W hs)
      have HT := Lib.hid (fun u W (hs : Sl W u L) => r1 ▸ right_any u L W hs)
      have hL4 : (L.length : Int) ≤ 4 := by omega
      clear r1 n1 n2 hv hv2 hE n3
      go_enter Try.func5, Try.ntmps5
      go_wp2_with (first | (go_at_call 10; refine (awake_any _).mono ?_; rintro e w' ⟨rfl, A, rfl⟩) | (go_at_call 15; (with_reducible refine (HN.out (.slice a l.length cap) _ (by repeat (first | with_reducible exact HS.out _ | with_reducible refine Sl.grow ?_ _ | with_reducible refine sl_alloc ?_ _))).mono ?_); rintro e w' ⟨v1, X1, rfl, rfl, S1⟩; (obtain ⟨a1, cap1, rfl, _, c1⟩ : ∃ a1 cap1, v1 = .slice a1 L.length cap1 ∧ True ∧ True := (by obtain ⟨a1, cap1, h, _⟩ := S1; exact ⟨a1, cap1, h, trivial, trivial⟩))) | (go_at_call 11; (with_reducible refine (HR.out (.slice a l.length cap) _ (by repeat (first | with_reducible exact HS.out _ | with_reducible exact S1 | with_reducible refine Sl.grow ?_ _ | with_reducible refine sl_alloc ?_ _))).mono ?_); rintro e w' ⟨rfl, X2, rfl⟩) | (go_at_call 11; (with_reducible refine (HQ.out (.slice a1 L.length cap1) _ (by repeat (first | with_reducible exact HS.out _ | with_reducible exact S1 | with_reducible refine Sl.grow ?_ _ | with_reducible refine sl_alloc ?_ _))).mono ?_); rintro e w' ⟨rfl, X3, rfl⟩) | (go_at_call 15; (with_reducible refine (HM.out (.slice a1 L.length cap1) _ (by repeat (first | with_reducible exact HS.out _ | with_reducible exact S1 | with_reducible refine Sl.grow ?_ _ | with_reducible refine sl_alloc ?_ _))).mono ?_); rintro e w' ⟨v2, X4, rfl, rfl, S2⟩) | (go_at_call 17; refine (same_any _ v2 L L _ (by repeat (first | with_reducible exact HS.out _ | with_reducible exact S1 | with_reducible exact S2 | with_reducible refine Sl.grow ?_ _ | with_reducible refine sl_alloc ?_ _)) (by repeat (first | with_reducible exact HS.out _ | with_reducible exact S2 | with_reducible exact S1 | with_reducible refine Sl.grow ?_ _ | with_reducible refine sl_alloc ?_ _))).mono ?_; rintro e w' ⟨rfl, X5, rfl⟩) | (go_at_call 13; refine (HT.out _ _ (by repeat (first | with_reducible exact HS.out _ | with_reducible exact S1 | with_reducible exact S2 | with_reducible refine Sl.grow ?_ _ | with_reducible refine sl_alloc ?_ _))).mono ?_; rintro e w' ⟨rfl, X6, rfl⟩))
      go_ret
      exact Ret.of (by simp) (by repeat (first | with_reducible exact Below.refl _ _ | (with_reducible refine Below.alloc ?_ (by simp [go_sem] <;> omega) _) | (with_reducible refine Below.drew ?_) | (with_reducible refine Below.drewN ?_ _) | (with_reducible refine Below.grow ?_ (by simp [go_sem] <;> omega) _) | (with_reducible refine Below.setCell ?_ (by simp [go_sem] <;> omega) _)))
    · have hL : neatOf l = [] := by unfold neatOf; rw [if_neg hE]
      have hb : (neatE l != 0) = true := by simp [hE]
      have HN := Lib.hid (fun u W (hs : Sl W u l) => hL ▸ neat_any u l W hs)
      generalize neatE l = er at *
      clear hE hL
      go_enter Try.func5, Try.ntmps5
      go_wp2_with (first | (go_at_call 10; refine (awake_any _).mono ?_; rintro e w' ⟨rfl, A, rfl⟩) | (go_at_call 15; refine (HN.out _ _ (by repeat (first | with_reducible exact HS.out _ | with_reducible refine Sl.grow ?_ _ | with_reducible refine sl_alloc ?_ _))).mono ?_; rintro e w' ⟨v1, X1, rfl, rfl, a1, cap1, rfl, _⟩))
      go_ret
      exact Ret.of rfl (by repeat (first | with_reducible exact Below.refl _ _ | (with_reducible refine Below.alloc ?_ (by simp [go_sem] <;> omega) _) | (with_reducible refine Below.drew ?_) | (with_reducible refine Below.drewN ?_ _) | (with_reducible refine Below.grow ?_ (by simp [go_sem] <;> omega) _) | (with_reducible refine Below.setCell ?_ (by simp [go_sem] <;> omega) _)))
  · go_enter Try.func5, Try.ntmps5
    go_wp2_with (go_at_call 10; refine (awake_any _).mono ?_; rintro e w' ⟨rfl, A, rfl⟩)
    go_ret
    exact Ret.of rfl (by repeat (first | with_reducible exact Below.refl _ _ | (with_reducible refine Below.alloc ?_ (by simp [go_sem] <;> omega) _) | (with_reducible refine Below.drew ?_) | (with_reducible refine Below.drewN ?_ _) | (with_reducible refine Below.grow ?_ (by simp [go_sem] <;> omega) _) | (with_reducible refine Below.setCell ?_ (by simp [go_sem] <;> omega) _)))

set_option maxRecDepth 100000 in
theorem lifted (os : Os) (started : os.Started) (H : Type) (enc : TypeId × Value → H) :
    ReturnsInHanded {} Try.checked os 5 .any (Rows.turnSameSpec.pre6 enc Try.prog Try.f5 Rows.turnSameRow.domain false) (Rows.turnSameSpec.post enc Try.prog Try.f5 false true false false) := by
  refine returnsInHanded_of_change (C := Try.checked) own started (by kernel_rfl) Try.func5
    (ChangeSpec.witness6 (enc := enc) (C := Try.checked) false ⟨#[], #[.slice none 0 0, .int .i64 0, .int .i64 0], []⟩ 8 (by kernel_rfl) (by kernel_rfl) (by kernel_rfl) (by kernel_rfl)) ?_
  intro W base args ds gs before hval0 hW hcnd _
  have hval : ∀ (j : Nat) t v, Try.f5.params[j]? = some t → args[j]? = some v → Value.okWide Try.prog W .any base t v := hval0
  have hW' := hW
  obtain ⟨p, q, hA0, hV, rfl, hfz, hnd⟩ := hW
  have hA : DataW.TrodAll enc Try.prog W 0 (fun _ => true) true Try.f5.params.toList args.toList ds p := hA0
  rw [Try.params5] at hA hval
  obtain ⟨v0, vs0, d0, ds0, p0, q0, hargs, rfl, rfl, h0, r0⟩ := trodAll_cons hA
  obtain ⟨v1, vs1, d1, ds1, p1, q1, rfl, rfl, rfl, h1, r1⟩ := trodAll_cons r0
  obtain ⟨v2, vs2, d2, ds2, p2, q2, rfl, rfl, rfl, h2, r2⟩ := trodAll_cons r1
  obtain ⟨rfl, rfl, rfl⟩ := trodAll_nil r2
  obtain rfl : args = #[v0, v1, v2] := by cases args; simp_all
  obtain ⟨rfl, rfl⟩ := trodVars_none hV
  obtain ⟨a0, len0, cap0, rfl⟩ := okWide_slice Try.underlying22 (hval 0 22 v0 rfl rfl)
  have k0 := h0
  have lt0 : ∀ x ∈ p0, x.block < W.heap.size := by obtain ⟨m, hm⟩ := k0; exact DataW.trod_lt m _ _ _ hm
  obtain ⟨z0, e0, w0⟩ : ∃ l, l.length = len0 ∧ Sl W (.slice a0 len0 cap0) l := by obtain ⟨fuel, hf⟩ := h0; exact sl_open (by simpa [Value.cells] using hf)
  obtain ⟨a1, rfl, rfl, rfl, w1⟩ := open_int Try.underlying3 (hval 1 3 v1 rfl rfl) h1
  obtain ⟨a2, rfl, rfl, rfl, w2⟩ := open_int Try.underlying3 (hval 2 3 v2 rfl rfl) h2
  clear hA0 hval0
  refine (walk (.slice a0 len0 cap0) z0 a1 a2 W w0 w1 w2).mono fun e W' hend => ?_
  obtain ⟨he, X, hX⟩ := hend
  have bel : Below W.heap.size W W' := by rw [hX]; exact below_grow W X
  subst he
  exact ⟨_, rfl, _, _, _, [], _, [], hW', trodAll_mk1 (shut_bool Try.underlying4 _), (trodAll_cons_mk (Below.trod laidOut (by kernel_rfl) (of_decide_eq_true (by kernel_rfl)) k0 bel lt0) (trodAll_cons_mk (shut_int Try.underlying3 w1) (trodAll_cons_mk (shut_int Try.underlying3 w2) trodAll_mk0))), rfl, bel.frame _, fun h => by cases h⟩

theorem over : Rows.turnSameRow.holds Try.pinned (OpenSpec.ofChange Rows.turnSameSpec) :=
  OpenClaim.holds_of_wide 5 Try.f5 rfl rfl rfl rfl rfl rfl rfl ⟨rfl, rfl, rfl, rfl, rfl⟩ rfl rfl rfl rfl rfl (by kernel_rfl) Try.func5 (by kernel_rfl)
    (of_decide_eq_true (by kernel_rfl)) (by unfold Func.isWrapper; rw [if_neg (of_decide_eq_false (by kernel_rfl))]; exact ⟨rfl, rfl⟩)
    (fun os started H enc _ => lifted os started H enc)

/-- The statement. -/
theorem proved : Rows.TurnSameSaid := over

end Go.Proofs.Ytendepongefklaa.turnSame
