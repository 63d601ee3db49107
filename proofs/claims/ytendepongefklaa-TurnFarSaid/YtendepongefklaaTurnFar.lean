/- Points as far from one another come as far from one another, times the scales, whatever the other steps: TurnFar returns true. No condition: whatever the arguments. -/
import Derived.OpenShut
import Derived.ShutString
import Derived.ChangeOld
import Derived.Test.YtendepongefklaaRows
import Derived.Test.YtendepongefklaaOpen
import Derived.Test.YtendepongefklaaPlainC
namespace Go.Proofs.Ytendepongefklaa.turnFar
open Go.ChangeShapes Go.WideShapes Go.ChangeAt Go.RowKit

theorem own : ownKnob Try.prog.godebug = none := by kernel_rfl
theorem laidOut : laidOutB Try.prog = true := by kernel_rfl


theorem runV_tuple (l : List St) (x y : Int) : ∃ p q r : Int, runV l x y = .tuple #[.int .i64 p, .int .i64 q, .int .i64 r] := by
  unfold runV
  split
  · exact ⟨_, _, _, rfl⟩
  · exact ⟨_, _, _, rfl⟩

theorem runV_right {l : List St} (h : rightB l = true) (x y : Int) (hx : nearB x 4096 = true) (hy : nearB y 4096 = true) : runV l x y = .tuple #[.int .i64 (allR l (x, y)).1, .int .i64 (allR l (x, y)).2, .int .i64 0] := by
  unfold runV; rw [h, hx, hy]; rfl
theorem max_abs (x : Int) : (if x < -x then -x else x) = (x.natAbs : Int) := by split <;> omega
set_option maxRecDepth 100000 in
set_option maxHeartbeats 4000000 in
theorem walk (v : Value) (l : List St) (x y : Int) (w : World) (h : Sl w v l) (_hx : (Lit.int .i64 x).wf = true) (_hy : (Lit.int .i64 y).wf = true) : Calls Try.prog 9 #[v, .int .i64 x, .int .i64 y] w (Ret (.bool true) w) := by
  obtain ⟨a, cap, rfl, hl, hc⟩ := h
  have H : ∀ X, Sl (w.grow X) (.slice a l.length cap) l := fun X => Sl.grow ⟨a, cap, rfl, hl, hc⟩ X
  have HS := Lib.hid H
  clear H _hx _hy
  cases hok : rightB l && nearB x 4096 && nearB y 4096
  · have hv : runV l x y = .tuple #[.int .i64 0, .int .i64 0, .int .i64 1] := by unfold runV; rw [hok]; rfl
    obtain ⟨p, q, r, hv2⟩ := runV_tuple l 0 0
    have HR1 := Lib.hid (fun W (hs : Sl W (.slice a l.length cap) l) => hv ▸ run_any (.slice a l.length cap) l x y W hs)
    have HR2 := Lib.hid (fun W (hs : Sl W (.slice a l.length cap) l) => hv2 ▸ run_any (.slice a l.length cap) l 0 0 W hs)
    clear hc hok hv hv2
    go_enter Try.func9, Try.ntmps9
    go_wp2_with (go_at_call 10; refine (awake_any _).mono ?_; rintro e w' ⟨rfl, A, rfl⟩)
    refine (HR1.out _ (by repeat (first | with_reducible exact HS.out _ | with_reducible refine Sl.grow ?_ _ | with_reducible refine sl_alloc ?_ _))).mono ?_
    rintro e w' ⟨rfl, X1, rfl⟩
    go_wp2_with fail
    refine (HR2.out _ (by repeat (first | with_reducible exact HS.out _ | with_reducible refine Sl.grow ?_ _ | with_reducible refine sl_alloc ?_ _))).mono ?_
    rintro e w' ⟨rfl, X2, rfl⟩
    go_wp2
    go_ret
    exact Ret.of rfl (by repeat (first | with_reducible exact Below.refl _ _ | (with_reducible refine Below.alloc ?_ (by simp [go_sem] <;> omega) _) | (with_reducible refine Below.drew ?_) | (with_reducible refine Below.drewN ?_ _) | (with_reducible refine Below.grow ?_ (by simp [go_sem] <;> omega) _) | (with_reducible refine Below.setCell ?_ (by simp [go_sem] <;> omega) _)))
  · simp only [Bool.and_eq_true] at hok
    obtain ⟨⟨hr, h1⟩, h2⟩ := hok
    have hv := runV_right hr x y h1 h2
    have hv2 := runV_right hr 0 0 rfl rfl
    have HR1 := Lib.hid (fun W (hs : Sl W (.slice a l.length cap) l) => hv ▸ run_any (.slice a l.length cap) l x y W hs)
    have HR2 := Lib.hid (fun W (hs : Sl W (.slice a l.length cap) l) => hv2 ▸ run_any (.slice a l.length cap) l 0 0 W hs)
    have far := far_law l hr x y
    have hx := nearB_iff.1 h1
    have hy := nearB_iff.1 h2
    have b1 := allR_lim l hr 0 (x, y) ⟨by dsimp only; omega, by dsimp only; omega⟩
    have b2 := allR_lim l hr 0 (0, 0) (pb_small _ _ (by decide) (by decide))
    rw [List.drop_zero] at b1 b2
    have hl8 : l.length ≤ 8 := by unfold rightB at hr; simp at hr; exact hr.2
    have HK := Lib.hid (fun k => prod_lim l hr k)
    have HM := Lib.hid (fun k (hk : k < l.length) => right_mem hr hk)
    clear hv hv2 h1 h2 hr
    generalize allR l (x, y) = p at *
    generalize allR l (0, 0) = q at *
    obtain ⟨p1, p2⟩ := p
    obtain ⟨q1, q2⟩ := q
    obtain ⟨⟨c1, c2⟩, ⟨c3, c4⟩⟩ : (PB 176319369216 (p1, p2)) ∧ (PB 176319369216 (q1, q2)) := ⟨b1, b2⟩
    dsimp only at *
    obtain ⟨P, hP⟩ : ∃ P, p1 - q1 = P := ⟨_, rfl⟩
    obtain ⟨Q, hQ⟩ : ∃ Q, p2 - q2 = Q := ⟨_, rfl⟩
    rw [hP, hQ] at far
    have P1 : -1099511627776 ≤ P := by omega
    have P2 : P ≤ 1099511627776 := by omega
    have Q1 : -1099511627776 ≤ Q := by omega
    have Q2 : Q ≤ 1099511627776 := by omega
    have d1 : -176319369216 ≤ p1 := by omega
    have d2 : p1 ≤ 176319369216 := by omega
    have d3 : -176319369216 ≤ p2 := by omega
    have d4 : p2 ≤ 176319369216 := by omega
    have d5 : -176319369216 ≤ q1 := by omega
    have d6 : q1 ≤ 176319369216 := by omega
    have d7 : -176319369216 ≤ q2 := by omega
    have d8 : q2 ≤ 176319369216 := by omega
    have HPQ : Hid (p1 - q1 = P ∧ p2 - q2 = Q) := ⟨hP, hQ⟩
    have HF := Lib.hid far
    obtain ⟨hx1, hx2⟩ := hx
    obtain ⟨hy1, hy2⟩ := hy
    clear b1 b2 c1 c2 c3 c4 hP hQ far
    go_enter Try.func9, Try.ntmps9
    go_wp2_with (go_at_call 10; refine (awake_any _).mono ?_; rintro e w' ⟨rfl, A, rfl⟩)
    refine (HR1.out _ (by repeat (first | with_reducible exact HS.out _ | with_reducible refine Sl.grow ?_ _ | with_reducible refine sl_alloc ?_ _))).mono ?_
    rintro e w' ⟨rfl, X1, rfl⟩
    go_wp2_with fail
    refine (HR2.out _ (by repeat (first | with_reducible exact HS.out _ | with_reducible refine Sl.grow ?_ _ | with_reducible refine sl_alloc ?_ _))).mono ?_
    rintro e w' ⟨rfl, X2, rfl⟩
    go_upto_block 0 with fail
    go_wp2_with fail
    go_loopw [14, 15] (fun kk i wr => ∃ k : Nat, k ≤ l.length ∧ i = .int .i64 k ∧ kk = .int .i64 (prodOf (l.take k) : Nat) ∧ wr = ((w.grow A).grow X1).grow X2) (fun _ i _ => l.length - (intOf i).toNat)
    case atStart => exact ⟨0, by omega, rfl, rfl, rfl⟩
    case round =>
      obtain ⟨k, hk, rfl, rfl, rfl⟩ := hrel
      by_cases hlt : k < l.length
      · rcases hc with rfl | ⟨b, off, rfl, hb, hc⟩
        · exact absurd hlt (by simp)
        obtain ⟨e0, e1, e2⟩ := hc k (l[k]) (List.getElem?_eq_getElem hlt)
        have hk8 : (k : Int) < 8 := by omega
        have HP := Lib.hid (prod_more l k hlt)
        have hm := HM.out k hlt
        have hlim := HK.out (k + 1)
        rw [HP.out] at hlim
        clear hc HF
        unfold scaleOf at HP hlim
        unfold mayB at hm
        by_cases h3 : l[k].k = 3
        · rw [if_neg (by omega), if_neg (by omega), if_pos h3] at hm
          simp only [Bool.and_eq_true, decide_eq_true_eq] at hm
          rw [if_pos h3] at HP hlim
          obtain ⟨⟨m1, m2⟩, _⟩ := hm
          generalize l[k].x = sx at *
          obtain ⟨n, hn⟩ : ∃ n : Nat, sx = n := ⟨sx.toNat, by omega⟩
          subst hn
          rw [Int.natAbs_natCast] at HP hlim
          have b3 : (l[k].k == 3) = true := by simp [h3]
          generalize l[k].k = sk at *
          generalize prodOf (l.take k) = K at *
          have g1 : (0 : Int) ≤ (K : Int) * n := by have : (0 : Int) ≤ ((K * n : Nat) : Int) := by omega
                                                    simpa using this
          have g2 : (K : Int) * n ≤ 16777216 := by have : ((K * n : Nat) : Int) ≤ 16777216 := by omega
                                                   simpa using this
          have g3 : (n : Int) < 9 := by omega
          have g4 : (0 : Int) < n := by omega
          clear h3 hlim
          go_wp2
          go_roundw
          case rel => exact ⟨k + 1, by omega, by go_num, by rw [HP.out]; simp, trivial⟩
          case measure => simp [intOf]; omega
        · rw [if_neg h3] at HP
          have b3 : (l[k].k == 3) = false := by simp [h3]
          clear hm hlim
          generalize l[k].k = sk at *
          clear h3
          go_wp2
          go_roundw
          case rel => exact ⟨k + 1, by omega, by go_num, by rw [HP.out]; simp, trivial⟩
          case measure => simp [intOf]; omega
      · have : k = l.length := by omega
        subst this
        rw [List.take_length]
        have hlim := HK.out l.length
        rw [List.take_length] at hlim
        have far := HF.out
        clear hc HF
        generalize prodOf l = K at *
        have hP := HPQ.out.1
        have hQ := HPQ.out.2
        have mP := max_abs P
        have mQ := max_abs Q
        have mx := max_abs x
        have my := max_abs y
        have r1 : (P.natAbs : Int) ≤ 1099511627776 := by omega
        have r2 : (Q.natAbs : Int) ≤ 1099511627776 := by omega
        have r3 : (x.natAbs : Int) ≤ 4096 := by omega
        have r4 : (y.natAbs : Int) ≤ 4096 := by omega
        have hmul := Nat.mul_le_mul hlim (show x.natAbs + y.natAbs ≤ 8192 by omega)
        have r5 : ((P.natAbs : Int) + (Q.natAbs : Int)) = (K : Int) * ((x.natAbs : Int) + (y.natAbs : Int)) := by exact_mod_cast far
        have r6 : (0 : Int) ≤ (K : Int) * ((x.natAbs : Int) + (y.natAbs : Int)) := by rw [← r5]; omega
        have r7 : (K : Int) * ((x.natAbs : Int) + (y.natAbs : Int)) ≤ 2199023255552 := by rw [← r5]; omega
        clear hmul hlim far
        generalize x.natAbs = nx at *
        generalize y.natAbs = ny at *
        generalize P.natAbs = np at *
        generalize Q.natAbs = nq at *
        go_wp2
        go_ret
        refine Ret.of (congrArg Value.bool ?_) (by repeat (first | with_reducible exact Below.refl _ _ | (with_reducible refine Below.alloc ?_ (by simp [go_sem] <;> omega) _) | (with_reducible refine Below.drew ?_) | (with_reducible refine Below.drewN ?_ _) | (with_reducible refine Below.grow ?_ (by simp [go_sem] <;> omega) _) | (with_reducible refine Below.setCell ?_ (by simp [go_sem] <;> omega) _)))
        simp

set_option maxRecDepth 100000 in
theorem lifted (os : Os) (started : os.Started) (H : Type) (enc : TypeId × Value → H) :
    ReturnsInHanded {} Try.checked os 9 .any (Rows.turnFarSpec.pre6 enc Try.prog Try.f9 Rows.turnFarRow.domain false) (Rows.turnFarSpec.post enc Try.prog Try.f9 false true false false) := by
  refine returnsInHanded_of_change (C := Try.checked) own started (by kernel_rfl) Try.func9
    (ChangeSpec.witness6 (enc := enc) (C := Try.checked) false ⟨#[], #[.slice none 0 0, .int .i64 0, .int .i64 0], []⟩ 8 (by kernel_rfl) (by kernel_rfl) (by kernel_rfl) (by kernel_rfl)) ?_
  intro W base args ds gs before hval0 hW hcnd _
  have hval : ∀ (j : Nat) t v, Try.f9.params[j]? = some t → args[j]? = some v → Value.okWide Try.prog W .any base t v := hval0
  have hW' := hW
  obtain ⟨p, q, hA0, hV, rfl, hfz, hnd⟩ := hW
  have hA : DataW.TrodAll enc Try.prog W 0 (fun _ => true) true Try.f9.params.toList args.toList ds p := hA0
  rw [Try.params9] at hA hval
  obtain ⟨v0, vs0, d0, ds0, p0, q0, hargs, rfl, rfl, h0, r0⟩ := trodAll_cons hA
  obtain ⟨v1, vs1, d1, ds1, p1, q1, rfl, rfl, rfl, h1, r1⟩ := trodAll_cons r0
  obtain ⟨v2, vs2, d2, ds2, p2, q2, rfl, rfl, rfl, h2, r2⟩ := trodAll_cons r1
  obtain ⟨rfl, rfl, rfl⟩ := trodAll_nil r2
  obtain rfl : args = #[v0, v1, v2] := by cases args; simp_all
  obtain ⟨rfl, rfl⟩ := trodVars_none hV
  obtain ⟨a0, len0, cap0, rfl⟩ := okWide_slice Try.underlying22 (hval 0 22 v0 rfl rfl)
  have k0 := h0
  have lt0 : ∀ x ∈ p0, x.block < W.heap.size := by obtain ⟨m, hm⟩ := k0; exact DataW.trod_lt m _ _ _ hm
  obtain ⟨z0, e0, w0⟩ : ∃ l, l.length = len0 ∧ Sl W (.slice a0 len0 cap0) l := by obtain ⟨fuel, hf⟩ := h0; exact sl_open (by simpa [Value.cells] using hf)
  obtain ⟨a1, rfl, rfl, rfl, w1⟩ := open_int Try.underlying3 (hval 1 3 v1 rfl rfl) h1
  obtain ⟨a2, rfl, rfl, rfl, w2⟩ := open_int Try.underlying3 (hval 2 3 v2 rfl rfl) h2
  clear hA0 hval0
  refine (walk (.slice a0 len0 cap0) z0 a1 a2 W w0 w1 w2).mono fun e W' hend => ?_
  obtain ⟨he, X, hX⟩ := hend
  have bel : Below W.heap.size W W' := by rw [hX]; exact below_grow W X
  subst he
  exact ⟨_, rfl, _, _, _, [], _, [], hW', trodAll_mk1 (shut_bool Try.underlying4 _), (trodAll_cons_mk (Below.trod laidOut (by kernel_rfl) (of_decide_eq_true (by kernel_rfl)) k0 bel lt0) (trodAll_cons_mk (shut_int Try.underlying3 w1) (trodAll_cons_mk (shut_int Try.underlying3 w2) trodAll_mk0))), rfl, bel.frame _, fun h => by cases h⟩

theorem over : Rows.turnFarRow.holds Try.pinned (OpenSpec.ofChange Rows.turnFarSpec) :=
  OpenClaim.holds_of_wide 9 Try.f9 rfl rfl rfl rfl rfl rfl rfl ⟨rfl, rfl, rfl, rfl, rfl⟩ rfl rfl rfl rfl rfl (by kernel_rfl) Try.func9 (by kernel_rfl)
    (of_decide_eq_true (by kernel_rfl)) (by unfold Func.isWrapper; rw [if_neg (of_decide_eq_false (by kernel_rfl))]; exact ⟨rfl, rfl⟩)
    (fun os started H enc _ => lifted os started H enc)

/-- The statement. -/
theorem proved : Rows.TurnFarSaid := over

end Go.Proofs.Ytendepongefklaa.turnFar
