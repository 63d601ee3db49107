/- Steps that are made neat alike move each point alike; unlike ones move one of three points to unlike places: TurnApart returns true. No condition: whatever the arguments. -/
import Derived.OpenShut
import Derived.ShutString
import Derived.ChangeOld
import Derived.Test.YtendepongefklaaRows
import Derived.Test.YtendepongefklaaOpen
import Derived.Test.YtendepongefklaaPlainB
namespace Go.Proofs.Ytendepongefklaa.turnApart
open Go.ChangeShapes Go.WideShapes Go.ChangeAt Go.RowKit

theorem own : ownKnob Try.prog.godebug = none := by kernel_rfl
theorem laidOut : laidOutB Try.prog = true := by kernel_rfl


def qB (l m : List St) (z : Int × Int) : Bool := (allR l z).1 == (allR m z).1 && (allR l z).2 == (allR m z).2
def alk (l m : List St) : Nat → Bool
  | 0 => true
  | 1 => qB l m (0, 0)
  | 2 => qB l m (0, 0) && qB l m (1, 0)
  | _ => (qB l m (0, 0) && qB l m (1, 0)) && qB l m (0, 1)
theorem alk_same (l m : List St) (hl : neatE l = 0) (hm : neatE m = 0) : alk l m 3 = decide (neatOf l = neatOf m) := by
  have h := neat_alike l m hl hm
  have e : decide (neatOf l = neatOf m) = decide (allR l (0, 0) = allR m (0, 0) ∧ allR l (1, 0) = allR m (1, 0) ∧ allR l (0, 1) = allR m (0, 1)) := by
    by_cases h1 : neatOf l = neatOf m
    · rw [decide_eq_true h1, decide_eq_true (h.1 h1)]
    · rw [decide_eq_false h1, decide_eq_false (fun h2 => h1 (h.2 h2))]
  rw [e]
  unfold alk qB
  rw [Bool.eq_iff_iff]
  simp only [Prod.ext_iff, decide_eq_true_eq, Bool.and_eq_true, beq_iff_eq, and_assoc]
theorem runV_right {l : List St} (h : rightB l = true) (x y : Int) (hx : nearB x 4096 = true) (hy : nearB y 4096 = true) : runV l x y = .tuple #[.int .i64 (allR l (x, y)).1, .int .i64 (allR l (x, y)).2, .int .i64 0] := by
  unfold runV; rw [h, hx, hy]; rfl
set_option maxRecDepth 100000 in
set_option maxHeartbeats 4000000 in
theorem walk (v : Value) (l : List St) (v2 : Value) (m : List St) (w : World) (h : Sl w v l) (h2 : Sl w v2 m) : Calls Try.prog 6 #[v, v2] w (Ret (.bool true) w) := by
  obtain ⟨b, cap', rfl, hl2, hc2⟩ := h2
  have H2 : ∀ X, Sl (w.grow X) (.slice b m.length cap') m := fun X => Sl.grow ⟨b, cap', rfl, hl2, hc2⟩ X
  have HM := Lib.hid H2
  clear H2 hc2
  obtain ⟨a, cap, rfl, hl, hc⟩ := h
  have H : ∀ X, Sl (w.grow X) (.slice a l.length cap) l := fun X => Sl.grow ⟨a, cap, rfl, hl, hc⟩ X
  have HS := Lib.hid H
  clear H hc
  by_cases hlen : l.length ≤ 100
  · by_cases hlen2 : m.length ≤ 100
    · have HNl := Lib.hid (fun W (hs : Sl W (.slice a l.length cap) l) => neat_any (.slice a l.length cap) l W hs)
      have HNm := Lib.hid (fun W (hs : Sl W (.slice b m.length cap') m) => neat_any (.slice b m.length cap') m W hs)
      by_cases hE : neatE l = 0
      · by_cases hF : neatE m = 0
        · have rl := fun x y => runV_right (neatE_zero hE).1 x y
          have rm := fun x y => runV_right (neatE_zero hF).1 x y
          have HAS := Lib.hid (alk_same l m hE hF)
          rw [hE] at HNl
          rw [hF] at HNm
          have HRL := Lib.hid rl
          have HRM := Lib.hid rm
          clear rl rm hE hF
          generalize neatOf l = L at *
          generalize neatOf m = M at *
          go_enter Try.func6, Try.ntmps6
          go_upto_region 8 with (first | (go_at_call 10; refine (awake_any _).mono ?_; rintro e w' ⟨rfl, A, rfl⟩) | (go_at_call 15; (with_reducible refine (HNl.out _ (by repeat (first | with_reducible exact HS.out _ | with_reducible refine Sl.grow ?_ _ | with_reducible refine sl_alloc ?_ _))).mono ?_); rintro e w' ⟨v1, X1, rfl, rfl, S1⟩) | (go_at_call 15; (with_reducible refine (HNm.out _ (by repeat (first | with_reducible exact HS.out _ | with_reducible exact HM.out _ | with_reducible refine Sl.grow ?_ _ | with_reducible refine sl_alloc ?_ _))).mono ?_); rintro e w' ⟨u1, X2, rfl, rfl, S2⟩))
          have HSame := Lib.hid (fun W (s1 : Sl W v1 L) (s2 : Sl W u1 M) => same_any v1 u1 L M W s1 s2)
          go_upto_block 0 with fail
          go_wp2_with fail
          go_loopw [11, 12] (fun al i wr => ∃ k : Nat, k ≤ 3 ∧ i = .int .i64 k ∧ al = .bool (alk l m k) ∧ ∃ X, wr = ((((w.grow A).grow X1).grow X2).alloc (.cells #[.int .i64 0, .int .i64 0, .int .i64 1, .int .i64 0, .int .i64 0, .int .i64 1] 32)).grow X) (fun _ i _ => 3 - (intOf i).toNat)
          case atStart => exact ⟨0, by omega, rfl, rfl, _, (grow_refl _).symm⟩
          case round =>
            obtain ⟨k, hk, rfl, rfl, X, rfl⟩ := hrel
            rcases (show k = 0 ∨ k = 1 ∨ k = 2 ∨ k = 3 by omega) with rfl | rfl | rfl | rfl
            · clear hk HAS
              have HRl := Lib.hid (fun W (hs : Sl W (.slice a l.length cap) l) => HRL.out 0 0 (by decide) (by decide) ▸ run_any (.slice a l.length cap) l 0 0 W hs)
              have HRm := Lib.hid (fun W (hs : Sl W (.slice b m.length cap') m) => HRM.out 0 0 (by decide) (by decide) ▸ run_any (.slice b m.length cap') m 0 0 W hs)
              have HA : Hid (alk l m 1 = (alk l m 0 && ((allR l (0, 0)).1 == (allR m (0, 0)).1 && (allR l (0, 0)).2 == (allR m (0, 0)).2))) := rfl
              generalize allR l (0, 0) = p at *
              generalize allR m (0, 0) = q at *
              obtain ⟨z0, hz0⟩ : ∃ z, alk l m 0 = z := ⟨_, rfl⟩
              rw [hz0]
              rw [hz0] at HA
              clear hz0
              obtain ⟨p1, p2⟩ := p
              obtain ⟨q1, q2⟩ := q
              dsimp only at *
              go_upto_region 13 with fail
              refine wp_region_grow (by kernel_rfl) (by kernel_rfl) ?_
              repeat (go_big_quiet_step (first | (go_at_call 11; with_reducible exact Calls.grow_of (HRl.out _ (by repeat (first | with_reducible exact HS.out _ | with_reducible refine Sl.grow ?_ _ | with_reducible refine sl_alloc ?_ _))))))
              refine wpQuiet_nil ?_
              intro _ hw'; obtain ⟨nq, hw''⟩ := hw'; subst hw''
              go_upto_region 14 with fail
              refine wp_region_grow (by kernel_rfl) (by kernel_rfl) ?_
              repeat (go_big_quiet_step (first | (go_at_call 11; with_reducible exact Calls.grow_of (HRm.out _ (by repeat (first | with_reducible exact HS.out _ | with_reducible exact HM.out _ | with_reducible refine Sl.grow ?_ _ | with_reducible refine sl_alloc ?_ _))))))
              refine wpQuiet_nil ?_
              intro _ hw'; obtain ⟨nq, hw''⟩ := hw'; subst hw''
              cases z0 <;> cases hb1 : (p1 == q1) <;> cases hb2 : (p2 == q2)
              all_goals
                have HZ := Lib.hid (HA.out.trans (by rw [hb1, hb2]))
                clear HA
                go_wp2
                go_roundw
                case rel => exact ⟨1, by omega, rfl, by rw [HZ.out]; rfl, grow_of_below (by repeat (first | with_reducible exact Below.refl _ _ | (with_reducible refine Below.alloc ?_ (by simp [go_sem] <;> omega) _) | (with_reducible refine Below.drew ?_) | (with_reducible refine Below.drewN ?_ _) | (with_reducible refine Below.grow ?_ (by simp [go_sem] <;> omega) _) | (with_reducible refine Below.setCell ?_ (by simp [go_sem] <;> omega) _)))⟩
                case measure => simp [intOf]
            · clear hk HAS
              have HRl := Lib.hid (fun W (hs : Sl W (.slice a l.length cap) l) => HRL.out 1 0 (by decide) (by decide) ▸ run_any (.slice a l.length cap) l 1 0 W hs)
              have HRm := Lib.hid (fun W (hs : Sl W (.slice b m.length cap') m) => HRM.out 1 0 (by decide) (by decide) ▸ run_any (.slice b m.length cap') m 1 0 W hs)
              have HA : Hid (alk l m 2 = (alk l m 1 && ((allR l (1, 0)).1 == (allR m (1, 0)).1 && (allR l (1, 0)).2 == (allR m (1, 0)).2))) := rfl
              generalize allR l (1, 0) = p at *
              generalize allR m (1, 0) = q at *
              obtain ⟨z0, hz0⟩ : ∃ z, alk l m 1 = z := ⟨_, rfl⟩
              rw [hz0]
              rw [hz0] at HA
              clear hz0
              obtain ⟨p1, p2⟩ := p
              obtain ⟨q1, q2⟩ := q
              dsimp only at *
              go_upto_region 13 with fail
              refine wp_region_grow (by kernel_rfl) (by kernel_rfl) ?_
              repeat (go_big_quiet_step (first | (go_at_call 11; with_reducible exact Calls.grow_of (HRl.out _ (by repeat (first | with_reducible exact HS.out _ | with_reducible refine Sl.grow ?_ _ | with_reducible refine sl_alloc ?_ _))))))
              refine wpQuiet_nil ?_
              intro _ hw'; obtain ⟨nq, hw''⟩ := hw'; subst hw''
              go_upto_region 14 with fail
              refine wp_region_grow (by kernel_rfl) (by kernel_rfl) ?_
              repeat (go_big_quiet_step (first | (go_at_call 11; with_reducible exact Calls.grow_of (HRm.out _ (by repeat (first | with_reducible exact HS.out _ | with_reducible exact HM.out _ | with_reducible refine Sl.grow ?_ _ | with_reducible refine sl_alloc ?_ _))))))
              refine wpQuiet_nil ?_
              intro _ hw'; obtain ⟨nq, hw''⟩ := hw'; subst hw''
              cases z0 <;> cases hb1 : (p1 == q1) <;> cases hb2 : (p2 == q2)
              all_goals
                have HZ := Lib.hid (HA.out.trans (by rw [hb1, hb2]))
                clear HA
                go_wp2
                go_roundw
                case rel => exact ⟨2, by omega, rfl, by rw [HZ.out]; rfl, grow_of_below (by repeat (first | with_reducible exact Below.refl _ _ | (with_reducible refine Below.alloc ?_ (by simp [go_sem] <;> omega) _) | (with_reducible refine Below.drew ?_) | (with_reducible refine Below.drewN ?_ _) | (with_reducible refine Below.grow ?_ (by simp [go_sem] <;> omega) _) | (with_reducible refine Below.setCell ?_ (by simp [go_sem] <;> omega) _)))⟩
                case measure => simp [intOf]
            · clear hk HAS
              have HRl := Lib.hid (fun W (hs : Sl W (.slice a l.length cap) l) => HRL.out 0 1 (by decide) (by decide) ▸ run_any (.slice a l.length cap) l 0 1 W hs)
              have HRm := Lib.hid (fun W (hs : Sl W (.slice b m.length cap') m) => HRM.out 0 1 (by decide) (by decide) ▸ run_any (.slice b m.length cap') m 0 1 W hs)
              have HA : Hid (alk l m 3 = (alk l m 2 && ((allR l (0, 1)).1 == (allR m (0, 1)).1 && (allR l (0, 1)).2 == (allR m (0, 1)).2))) := rfl
              generalize allR l (0, 1) = p at *
              generalize allR m (0, 1) = q at *
              obtain ⟨z0, hz0⟩ : ∃ z, alk l m 2 = z := ⟨_, rfl⟩
              rw [hz0]
              rw [hz0] at HA
              clear hz0
              obtain ⟨p1, p2⟩ := p
              obtain ⟨q1, q2⟩ := q
              dsimp only at *
              go_upto_region 13 with fail
              refine wp_region_grow (by kernel_rfl) (by kernel_rfl) ?_
              repeat (go_big_quiet_step (first | (go_at_call 11; with_reducible exact Calls.grow_of (HRl.out _ (by repeat (first | with_reducible exact HS.out _ | with_reducible refine Sl.grow ?_ _ | with_reducible refine sl_alloc ?_ _))))))
              refine wpQuiet_nil ?_
              intro _ hw'; obtain ⟨nq, hw''⟩ := hw'; subst hw''
              go_upto_region 14 with fail
              refine wp_region_grow (by kernel_rfl) (by kernel_rfl) ?_
              repeat (go_big_quiet_step (first | (go_at_call 11; with_reducible exact Calls.grow_of (HRm.out _ (by repeat (first | with_reducible exact HS.out _ | with_reducible exact HM.out _ | with_reducible refine Sl.grow ?_ _ | with_reducible refine sl_alloc ?_ _))))))
              refine wpQuiet_nil ?_
              intro _ hw'; obtain ⟨nq, hw''⟩ := hw'; subst hw''
              cases z0 <;> cases hb1 : (p1 == q1) <;> cases hb2 : (p2 == q2)
              all_goals
                have HZ := Lib.hid (HA.out.trans (by rw [hb1, hb2]))
                clear HA
                go_wp2
                go_roundw
                case rel => exact ⟨3, by omega, rfl, by rw [HZ.out]; rfl, grow_of_below (by repeat (first | with_reducible exact Below.refl _ _ | (with_reducible refine Below.alloc ?_ (by simp [go_sem] <;> omega) _) | (with_reducible refine Below.drew ?_) | (with_reducible refine Below.drewN ?_ _) | (with_reducible refine Below.grow ?_ (by simp [go_sem] <;> omega) _) | (with_reducible refine Below.setCell ?_ (by simp [go_sem] <;> omega) _)))⟩
                case measure => simp [intOf]
            · rw [HAS.out]
              go_wp2_with (go_at_call 17; refine (HSame.out _ (by repeat (first | with_reducible exact HS.out _ | with_reducible exact S1 | with_reducible exact S2 | with_reducible refine Sl.grow ?_ _ | with_reducible refine sl_alloc ?_ _)) (by repeat (first | with_reducible exact HS.out _ | with_reducible exact S2 | with_reducible exact S1 | with_reducible refine Sl.grow ?_ _ | with_reducible refine sl_alloc ?_ _))).mono ?_; rintro e w' ⟨rfl, X5, rfl⟩)
              go_ret
              exact Ret.of (by simp) (by repeat (first | with_reducible exact Below.refl _ _ | (with_reducible refine Below.alloc ?_ (by simp [go_sem] <;> omega) _) | (with_reducible refine Below.drew ?_) | (with_reducible refine Below.drewN ?_ _) | (with_reducible refine Below.grow ?_ (by simp [go_sem] <;> omega) _) | (with_reducible refine Below.setCell ?_ (by simp [go_sem] <;> omega) _)))
        · have hb : (neatE m != 0) = true := by simp [hF]
          rw [hE] at HNl
          generalize neatE m = er at *
          clear hE hF
          go_enter Try.func6, Try.ntmps6
          go_wp2_with (first | (go_at_call 10; refine (awake_any _).mono ?_; rintro e w' ⟨rfl, A, rfl⟩) | (go_at_call 15; (with_reducible refine (HNl.out _ (by repeat (first | with_reducible exact HS.out _ | with_reducible refine Sl.grow ?_ _ | with_reducible refine sl_alloc ?_ _))).mono ?_); rintro e w' ⟨v1, X1, rfl, rfl, S1⟩) | (go_at_call 15; (with_reducible refine (HNm.out _ (by repeat (first | with_reducible exact HS.out _ | with_reducible exact HM.out _ | with_reducible refine Sl.grow ?_ _ | with_reducible refine sl_alloc ?_ _))).mono ?_); rintro e w' ⟨u1, X2, rfl, rfl, S2⟩))
          go_ret
          exact Ret.of rfl (by repeat (first | with_reducible exact Below.refl _ _ | (with_reducible refine Below.alloc ?_ (by simp [go_sem] <;> omega) _) | (with_reducible refine Below.drew ?_) | (with_reducible refine Below.drewN ?_ _) | (with_reducible refine Below.grow ?_ (by simp [go_sem] <;> omega) _) | (with_reducible refine Below.setCell ?_ (by simp [go_sem] <;> omega) _)))
      · have hb : (neatE l != 0) = true := by simp [hE]
        generalize neatE l = er at *
        generalize neatE m = er2 at *
        clear hE
        go_enter Try.func6, Try.ntmps6
        go_wp2_with (first | (go_at_call 10; refine (awake_any _).mono ?_; rintro e w' ⟨rfl, A, rfl⟩) | (go_at_call 15; (with_reducible refine (HNl.out _ (by repeat (first | with_reducible exact HS.out _ | with_reducible refine Sl.grow ?_ _ | with_reducible refine sl_alloc ?_ _))).mono ?_); rintro e w' ⟨v1, X1, rfl, rfl, S1⟩) | (go_at_call 15; (with_reducible refine (HNm.out _ (by repeat (first | with_reducible exact HS.out _ | with_reducible exact HM.out _ | with_reducible refine Sl.grow ?_ _ | with_reducible refine sl_alloc ?_ _))).mono ?_); rintro e w' ⟨u1, X2, rfl, rfl, S2⟩))
        go_ret
        exact Ret.of rfl (by repeat (first | with_reducible exact Below.refl _ _ | (with_reducible refine Below.alloc ?_ (by simp [go_sem] <;> omega) _) | (with_reducible refine Below.drew ?_) | (with_reducible refine Below.drewN ?_ _) | (with_reducible refine Below.grow ?_ (by simp [go_sem] <;> omega) _) | (with_reducible refine Below.setCell ?_ (by simp [go_sem] <;> omega) _)))
    · go_enter Try.func6, Try.ntmps6
      go_wp2_with (go_at_call 10; refine (awake_any _).mono ?_; rintro e w' ⟨rfl, A, rfl⟩)
      go_ret
      exact Ret.of rfl (by repeat (first | with_reducible exact Below.refl _ _ | (with_reducible refine Below.alloc ?_ (by simp [go_sem] <;> omega) _) | (with_reducible refine Below.drew ?_) | (with_reducible refine Below.drewN ?_ _) | (with_reducible refine Below.grow ?_ (by simp [go_sem] <;> omega) _) | (with_reducible refine Below.setCell ?_ (by simp [go_sem] <;> omega) _)))
  · go_enter Try.func6, Try.ntmps6
    go_wp2_with (go_at_call 10; refine (awake_any _).mono ?_; rintro e w' ⟨rfl, A, rfl⟩)
    go_ret
    exact Ret.of rfl (by repeat (first | with_reducible exact Below.refl _ _ | (with_reducible refine Below.alloc ?_ (by simp [go_sem] <;> omega) _) | (with_reducible refine Below.drew ?_) | (with_reducible refine Below.drewN ?_ _) | (with_reducible refine Below.grow ?_ (by simp [go_sem] <;> omega) _) | (with_reducible refine Below.setCell ?_ (by simp [go_sem] <;> omega) _)))

set_option maxRecDepth 100000 in
theorem lifted (os : Os) (started : os.Started) (H : Type) (enc : TypeId × Value → H) :
    ReturnsInHanded {} Try.checked os 6 .any (Rows.turnApartSpec.pre6 enc Try.prog Try.f6 Rows.turnApartRow.domain false) (Rows.turnApartSpec.post enc Try.prog Try.f6 false true false false) := by
  refine returnsInHanded_of_change (C := Try.checked) own started (by kernel_rfl) Try.func6
    (ChangeSpec.witness6 (enc := enc) (C := Try.checked) false ⟨#[], #[.slice none 0 0, .slice none 0 0], []⟩ 8 (by kernel_rfl) (by kernel_rfl) (by kernel_rfl) (by kernel_rfl)) ?_
  intro W base args ds gs before hval0 hW hcnd _
  have hval : ∀ (j : Nat) t v, Try.f6.params[j]? = some t → args[j]? = some v → Value.okWide Try.prog W .any base t v := hval0
  have hW' := hW
  obtain ⟨p, q, hA0, hV, rfl, hfz, hnd⟩ := hW
  have hA : DataW.TrodAll enc Try.prog W 0 (fun _ => true) true Try.f6.params.toList args.toList ds p := hA0
  rw [Try.params6] at hA hval
  obtain ⟨v0, vs0, d0, ds0, p0, q0, hargs, rfl, rfl, h0, r0⟩ := trodAll_cons hA
  obtain ⟨v1, vs1, d1, ds1, p1, q1, rfl, rfl, rfl, h1, r1⟩ := trodAll_cons r0
  obtain ⟨rfl, rfl, rfl⟩ := trodAll_nil r1
  obtain rfl : args = #[v0, v1] := by cases args; simp_all
  obtain ⟨rfl, rfl⟩ := trodVars_none hV
  obtain ⟨a0, len0, cap0, rfl⟩ := okWide_slice Try.underlying22 (hval 0 22 v0 rfl rfl)
  have k0 := h0
  have lt0 : ∀ x ∈ p0, x.block < W.heap.size := by obtain ⟨m, hm⟩ := k0; exact DataW.trod_lt m _ _ _ hm
  obtain ⟨z0, e0, w0⟩ : ∃ l, l.length = len0 ∧ Sl W (.slice a0 len0 cap0) l := by obtain ⟨fuel, hf⟩ := h0; exact sl_open (by simpa [Value.cells] using hf)
  obtain ⟨a1, len1, cap1, rfl⟩ := okWide_slice Try.underlying22 (hval 1 22 v1 rfl rfl)
  have k1 := h1
  have lt1 : ∀ x ∈ p1, x.block < W.heap.size := by obtain ⟨m, hm⟩ := k1; exact DataW.trod_lt m _ _ _ hm
  obtain ⟨z1, e1, w1⟩ : ∃ l, l.length = len1 ∧ Sl W (.slice a1 len1 cap1) l := by obtain ⟨fuel, hf⟩ := h1; exact sl_open (by simpa [Value.cells] using hf)
  clear hA0 hval0
  refine (walk (.slice a0 len0 cap0) z0 (.slice a1 len1 cap1) z1 W w0 w1).mono fun e W' hend => ?_
  obtain ⟨he, X, hX⟩ := hend
  have bel : Below W.heap.size W W' := by rw [hX]; exact below_grow W X
  subst he
  exact ⟨_, rfl, _, _, _, [], _, [], hW', trodAll_mk1 (shut_bool Try.underlying4 _), (trodAll_cons_mk (Below.trod laidOut (by kernel_rfl) (of_decide_eq_true (by kernel_rfl)) k0 bel lt0) (trodAll_cons_mk (Below.trod laidOut (by kernel_rfl) (of_decide_eq_true (by kernel_rfl)) k1 bel lt1) trodAll_mk0)), rfl, bel.frame _, fun h => by cases h⟩

theorem over : Rows.turnApartRow.holds Try.pinned (OpenSpec.ofChange Rows.turnApartSpec) :=
  OpenClaim.holds_of_wide 6 Try.f6 rfl rfl rfl rfl rfl rfl rfl ⟨rfl, rfl, rfl, rfl, rfl⟩ rfl rfl rfl rfl rfl (by kernel_rfl) Try.func6 (by kernel_rfl)
    (of_decide_eq_true (by kernel_rfl)) (by unfold Func.isWrapper; rw [if_neg (of_decide_eq_false (by kernel_rfl))]; exact ⟨rfl, rfl⟩)
    (fun os started H enc _ => lifted os started H enc)

/-- The statement. -/
theorem proved : Rows.TurnApartSaid := over

end Go.Proofs.Ytendepongefklaa.turnApart
