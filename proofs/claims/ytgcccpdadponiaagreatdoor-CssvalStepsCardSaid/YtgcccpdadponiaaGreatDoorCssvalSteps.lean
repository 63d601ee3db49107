/- The movements that any pieces tell, and the pieces of any movements, are as the document says: CssvalSteps returns true. No condition: whatever the arguments; the row lists tables of Go's library, which the card ties to the program's text. -/
import Derived.ProofKit
import Derived.ChangeSame
import Derived.ChangeAt
import Derived.SizedLaws
import Derived.OpenShut
import Derived.ShutString
import Derived.ChangeOld
import Derived.LaidMore
import Derived.Lay
import Derived.SevenTiedAt
import Derived.Stop.Joined
import Derived.Test.YtgcccpdadponiaaGreatDoorRows
import Derived.Test.YtgcccpdadponiaaGreatDoorCards
import Derived.Test.YtgcccpdadponiaaGreatDoorTie
import Derived.Test.YtgcccpdadponiaaGreatDoorCssOpen
import Derived.Test.YtgcccpdadponiaaGreatDoorTB
import Derived.Test.YtgcccpdadponiaaGreatDoorValL
import Derived.Test.YtgcccpdadponiaaGreatDoorRW
namespace Go.Proofs.YtgcccpdadponiaaGreatDoor.cssvalSteps
open Go.ChangeShapes Go.WideShapes Go.ChangeAt Go.RowKit
open Go.ChangeMaps (open_string shut_string)

theorem own : ownKnob Tryz.prog.godebug = none := by kernel_rfl
theorem laidOut : laidOutB Tryz.prog = true := by kernel_rfl

theorem css_cap {H : Type} {enc : TypeId × Value → H} {w : World} {base : Nat} {spare : Nat → Bool} {held : Bool} {fuel : Nat} {a : Option Addr} {len cap : Nat} {x : DataW H × List MemPlace}
    (h : DataW.trod enc Tryz.prog w base spare held fuel 22 [.slice a len cap] = some x) : len ≤ cap := by
  rcases Deep.open_slice Tryz.underlying22 h with ⟨hcs, _⟩ | ⟨ad, len', cap', m, n, D, Pl, hcs, hb, hl, hm, hmm, hx, hi⟩
  · simp at hcs; omega
  · simp at hcs; omega

set_option maxRecDepth 100000 in
set_option maxHeartbeats 2000000 in
theorem walk (v : Value) (l : List Css) (vm : Value) (m : List St) (w : World) (hT : Tb w) (hX : Mx w) (h : Rd w v l.length 4 (cssCells l)) (hz : ∀ p ∈ l, CssIn p) (hn : ∀ a n cap, v = .slice a n cap → (a = none → cap = 0) ∧ n ≤ cap) (hm : Sl w vm m) : Calls Tryz.prog 4 #[v, vm] w (Ret (.bool true) w) := by
  have hmx : Tryz.prog.follows .mixedOrders = true := by kernel_rfl
  have HTB := Lib.hid hT
  have HMX := Lib.hid hX
  have HTM := Lib.hid (fun W (hB : Below w.heap.size w W) => And.intro (Tb.below hT hB) (Mx.below hX hB))
  have HR := Lib.hid h
  have HZ := Lib.hid hz
  have HSl := Lib.hid (fun W (hB : Below w.heap.size w W) => Sl.below' hm hB)
  obtain ⟨_, hml, A, c, rfl, _⟩ := h
  obtain ⟨hA0, hcap⟩ := hn _ _ _ rfl
  obtain ⟨am, capm, rfl, hmm, _⟩ := hm
  clear hz hT hX hn
  cases hf : fewB l
  · have HF := Lib.hid (fun X => hf ▸ few_any A l.length c l (w.grow X) (HR.out.grow X))
    clear hf hA0
    go_enter Tryz.func4, Tryz.ntmps4
    go_wp2_with (first
      | (go_at_call 9; refine (awake16_any _ HTB.out HMX.out).mono ?_; rintro e w' ⟨rfl, A0, rfl⟩) | (go_at_call 10; (with_reducible refine (HF.out _).mono ?_); rintro e w' ⟨rfl, F0, rfl⟩))
    go_ret
    exact Ret.of rfl (by repeat (first | with_reducible exact Below.refl _ _ | (with_reducible refine Below.alloc ?_ (by first | omega | (simp [go_sem] <;> omega)) _) | (with_reducible refine Below.drew ?_) | (with_reducible refine Below.drewN ?_ _) | (with_reducible refine Below.grow ?_ (by first | omega | (simp [go_sem] <;> omega)) _) | (with_reducible refine Below.setCell ?_ (by first | omega | (simp [go_sem] <;> omega)) _)))
  have HF := Lib.hid (fun X => Ret.flat (hf ▸ few_any A l.length c l (w.grow X) (HR.out.grow X)))
  by_cases h9 : 50 < m.length
  · have b9 : decide ((50 : Int) < m.length) = true := by simp; omega
    clear h9 hf hA0
    go_enter Tryz.func4, Tryz.ntmps4
    go_wp2_with (first
      | (go_at_call 9; refine (awake16_any _ HTB.out HMX.out).mono ?_; rintro e w' ⟨rfl, A0, rfl⟩) | (go_at_call 10; (with_reducible refine (HF.out _).mono ?_); rintro e w' ⟨rfl, F0, rfl⟩))
    go_ret
    exact Ret.of rfl (by repeat (first | with_reducible exact Below.refl _ _ | (with_reducible refine Below.alloc ?_ (by first | omega | (simp [go_sem] <;> omega)) _) | (with_reducible refine Below.drew ?_) | (with_reducible refine Below.drewN ?_ _) | (with_reducible refine Below.grow ?_ (by first | omega | (simp [go_sem] <;> omega)) _) | (with_reducible refine Below.setCell ?_ (by first | omega | (simp [go_sem] <;> omega)) _)))
  have b9 : decide ((50 : Int) < m.length) = false := by simp; omega
  obtain ⟨hs, hl1, hl2⟩ := few_short hf HZ.out
  clear hf h9
  have HP0 := fun W (hB : Below w.heap.size w W) => (pieces16_any (.slice am m.length capm) m W (HSl.out W hB)).mono fun _ _ h => RetV.abs h
  have HQ0 := fun W (hB : Below w.heap.size w W) => (rpieces16_any (.slice am m.length capm) m W (HSl.out W hB)).mono fun _ _ h => RetV.abs h
  have HS0 := fun W (hB : Below w.heap.size w W) => (steps_any A l.length c l W (Rd.below' HR.out hB) hcap (fun z hz => (hs z hz).1) (by omega)).mono fun _ _ h => RetT.abs h
  have HT0 := fun W (hB : Below w.heap.size w W) => (rsteps16_any A l.length c l W (Rd.below' HR.out hB) hcap (fun z hz => (hs z hz).1) (by omega)).mono fun _ _ h => RetT.abs h
  generalize (if rightB m = true then some (piecesT m) else none) = R at *
  generalize R.getD [] = L at *
  generalize R.isSome = b at *
  generalize stepsT l = R2 at *
  generalize R2.getD [] = L2 at *
  generalize R2.isSome = b2 at *
  have HSm := Lib.hid (fun (W : World) (A1 A2 : Option Addr) (c1 c2 : Nat) (ha : Rd W (.slice A1 L.length c1) L.length 4 (cssCells L)) (hb : Rd W (.slice A2 L.length c2) L.length 4 (cssCells L)) => show Calls Tryz.prog 13 #[.slice A1 L.length c1, .slice A2 L.length c2] W (Ret (.bool true) W) from by
    have h8 := same_any A1 A2 _ _ c1 c2 L L W ha hb
    rwa [decide_eq_true rfl] at h8)
  have HSt := Lib.hid (fun (W : World) (v u : Value) (hv : Sl W v L2) (hu : Sl W u L2) => show Calls Tryz.prog 18 #[v, u] W (Ret (.bool true) W) from by
    have h8 := tsame_any v u L2 L2 W hv hu
    rwa [decide_eq_true rfl] at h8)
  clear hs hA0
  cases b <;> cases b2
  all_goals
    have HS1 := Lib.hid HS0
    have HT1 := Lib.hid HT0
    have HP1 := Lib.hid HP0
    have HQ1 := Lib.hid HQ0
    clear HS0 HT0 HP0 HQ0
    go_enter Tryz.func4, Tryz.ntmps4
    go_wp2_with (first
      | (go_at_call 9; refine (awake16_any _ HTB.out HMX.out).mono ?_; rintro e w' ⟨rfl, A0, rfl⟩) | (go_at_call 10; (with_reducible refine (HF.out _).mono ?_); rintro e w' ⟨rfl, F0, rfl⟩)
      | (go_at_call 14; (with_reducible refine (HS1.out _ (by (repeat (first | with_reducible exact Below.refl _ _ | (with_reducible refine Below.alloc ?_ (by first | omega | (simp [go_sem] <;> omega)) _) | (with_reducible refine Below.drew ?_) | (with_reducible refine Below.drewN ?_ _) | (with_reducible refine Below.grow ?_ (by first | omega | (simp [go_sem] <;> omega)) _) | (with_reducible refine Below.setCell ?_ (by first | omega | (simp [go_sem] <;> omega)) _))); done)).mono ?_); rintro e W1 ⟨a1, c1, rfl, hb1, hs1⟩; have HB1 := Lib.hid (below_next (show Below w.heap.size w _ from (by (repeat (first | with_reducible exact Below.refl _ _ | (with_reducible refine Below.alloc ?_ (by first | omega | (simp [go_sem] <;> omega)) _) | (with_reducible refine Below.drew ?_) | (with_reducible refine Below.drewN ?_ _) | (with_reducible refine Below.grow ?_ (by first | omega | (simp [go_sem] <;> omega)) _) | (with_reducible refine Below.setCell ?_ (by first | omega | (simp [go_sem] <;> omega)) _))); done)) hb1); have HR1 := Lib.hid hs1; clear hb1 hs1)
      | (go_at_call 15; (with_reducible refine (HT1.out W1 HB1.out).mono ?_); rintro e W2 ⟨a2, c2, rfl, hb2, hs2⟩; have HB2 := Lib.hid (below_next HB1.out hb2); have HSf := Lib.hid (And.intro (Sl.below' HR1.out hb2) hs2); clear hb2 hs2)
      | (go_at_call 16; (with_reducible refine (HP1.out W2 HB2.out).mono ?_); rintro e W3 ⟨A3, c3, rfl, hb3, hA3, hc3, hr3⟩; have HB3 := Lib.hid (below_next HB2.out hb3); have HSg := Lib.hid (And.intro (Sl.below' HSf.out.1 hb3) (Sl.below' HSf.out.2 hb3)); have HR3 := Lib.hid hr3; clear hb3 hA3 hc3 hr3)
      | (go_at_call 17; (with_reducible refine (HQ1.out W3 HB3.out).mono ?_); rintro e W4 ⟨A4, c4, rfl, hb4, hA4, hc4, hr4⟩; have HB4 := Lib.hid (below_next HB3.out hb4); have HSh := Lib.hid (HSt.out W4 _ _ (Sl.below' HSg.out.1 hb4) (Sl.below' HSg.out.2 hb4)); have HSi := Lib.hid (fun X => Ret.flat (HSm.out (W4.grow X) A3 A4 c3 c4 ((Rd.below' HR3.out hb4).grow X) (Rd.grow hr4 X))); clear hb4 hA4 hc4 hr4)
      | (go_at_call 18; (with_reducible refine HSh.out.mono ?_); rintro e w' ⟨rfl, X5, rfl⟩)
      | (go_at_call 13; (with_reducible refine (HSi.out _).mono ?_); rintro e w' ⟨rfl, X6, rfl⟩))
    go_ret
    exact Ret.of rfl (below_next HB4.out (by repeat (first | with_reducible exact Below.refl _ _ | (with_reducible refine Below.alloc ?_ (by first | omega | (simp [go_sem] <;> omega)) _) | (with_reducible refine Below.drew ?_) | (with_reducible refine Below.drewN ?_ _) | (with_reducible refine Below.grow ?_ (by first | omega | (simp [go_sem] <;> omega)) _) | (with_reducible refine Below.setCell ?_ (by first | omega | (simp [go_sem] <;> omega)) _))))

set_option maxRecDepth 100000 in
theorem lifted (os : Os) (started : os.Started) (H : Type) (enc : TypeId × Value → H) :
    ReturnsInHanded {} Tryz.checked os 4 .any (fun w args => (Rows.cssvalStepsSpec.pre enc Tryz.prog Tryz.f4 Rows.cssvalStepsRow.domain false w args ∧ laidMetH Tryz.prog Rows.cssvalStepsRow.laid w) ∧ sizedMet enc Tryz.prog Tryz.f4 (OpenSpec.ofChange Rows.cssvalStepsSpec) false w args) (Rows.cssvalStepsSpec.post enc Tryz.prog Tryz.f4 false true false false) := by
  refine handed_shape (C := Tryz.checked) (X := fun w _ => laidMetH Tryz.prog Rows.cssvalStepsRow.laid w) (fun _ _ _ hh h => h.of_heap hh) own started (by kernel_rfl) Tryz.func4
    (ChangeSpec.witness_shaped (enc := enc) (C := Tryz.checked) (os := os) (X := fun w _ => laidMetH Tryz.prog Rows.cssvalStepsRow.laid w) false (World.laidAll Tryz.prog os Rows.cssvalStepsRow.laid) #[.slice none 0 0, .slice none 0 0] 8 (World.laidAll_os _ _ _)
      (World.shaped_of_ZipB (by kernel_rfl) (by kernel_rfl)) (by kernel_rfl) (by kernel_rfl) (by kernel_rfl)
      (by rw [MakeChecks.laidMetH_plain _ _ _ (by kernel_rfl)]; exact laidMet_laidAll _ (by kernel_rfl) (by kernel_rfl))) ?_
  intro W base args ds gs before hval0 hW hL hsh
  have hval : ∀ (j : Nat) t v, Tryz.f4.params[j]? = some t → args[j]? = some v → Value.okWide Tryz.prog W .any base t v := hval0
  have hW' := hW
  obtain ⟨p, q, hA0, hV, rfl, hfz, hnd⟩ := hW
  have hA : DataW.TrodAll enc Tryz.prog W 0 (fun _ => true) true Tryz.f4.params.toList args.toList ds p := hA0
  rw [Tryz.params4] at hA hval
  obtain ⟨v0, vs0, d0, ds0, p0, q0, hargs, rfl, rfl, h0, r0⟩ := trodAll_cons hA
  obtain ⟨v1, vs1, d1, ds1, p1, q1, rfl, rfl, rfl, h1, r1⟩ := trodAll_cons r0
  obtain ⟨rfl, rfl, rfl⟩ := trodAll_nil r1
  obtain rfl : args = #[v0, v1] := by cases args; simp_all
  obtain ⟨rfl, rfl⟩ := trodVars_none hV
  obtain ⟨a0, len0, cap0, rfl⟩ := okWide_slice Tryz.underlying22 (hval 0 22 v0 rfl rfl)
  have k0 := h0
  have lt0 : ∀ x ∈ p0, x.block < W.heap.size := by obtain ⟨m, hm⟩ := k0; exact DataW.trod_lt m _ _ _ hm
  obtain ⟨z0, e0, w0, m0⟩ : ∃ l : List Css, l.length = len0 ∧ Rd W (.slice a0 len0 cap0) l.length 4 (cssCells l) ∧ ∀ p ∈ l, CssIn p := by obtain ⟨fuel, hf⟩ := h0; exact css_open (by simpa [Value.cells] using hf)
  have n0 : ∀ a n cap, Value.slice a0 len0 cap0 = .slice a n cap → (a = none → cap = 0) ∧ n ≤ cap := fun _ _ _ hh => by cases hh; obtain ⟨fuel, hf⟩ := h0; exact ⟨css_nil (by simpa [Value.cells] using hf), css_cap (by simpa [Value.cells] using hf)⟩
  obtain ⟨a1, len1, cap1, rfl⟩ := okWide_slice Tryz.underlying29 (hval 1 29 v1 rfl rfl)
  have k1 := h1
  have lt1 : ∀ x ∈ p1, x.block < W.heap.size := by obtain ⟨m, hm⟩ := k1; exact DataW.trod_lt m _ _ _ hm
  obtain ⟨z1, e1, w1⟩ : ∃ l, l.length = len1 ∧ Sl W (.slice a1 len1 cap1) l := by obtain ⟨fuel, hf⟩ := h1; exact sl_open (by simpa [Value.cells] using hf)
  clear hA0 hval0
  refine (walk (.slice a0 len0 cap0) z0 (.slice a1 len1 cap1) z1 W (tb_laid hL (by rfl)) (mx_shape hsh) w0 m0 n0 w1).mono fun e W' hend => ?_
  obtain ⟨he, X, hX⟩ := hend
  have bel : Below W.heap.size W W' := by rw [hX]; exact below_grow W X
  subst he
  exact ⟨_, rfl, _, _, _, [], _, [], hW', trodAll_mk1 (shut_bool Tryz.underlying4 _), (trodAll_cons_mk (Below.trod laidOut (by kernel_rfl) (of_decide_eq_true (by kernel_rfl)) k0 bel lt0) (trodAll_cons_mk (Below.trod laidOut (by kernel_rfl) (of_decide_eq_true (by kernel_rfl)) k1 bel lt1) trodAll_mk0)), rfl, bel.frame _, fun h => by cases h⟩

theorem over : Rows.cssvalStepsRow.holds Tryz.pinned (OpenSpec.ofChange Rows.cssvalStepsSpec) :=
  OpenClaim.holds_of_wide 4 Tryz.f4 rfl rfl rfl rfl rfl rfl rfl ⟨rfl, rfl, rfl, rfl, rfl⟩ rfl rfl rfl rfl rfl (by kernel_rfl) Tryz.func4 (by kernel_rfl)
    (of_decide_eq_true (by kernel_rfl)) (by unfold Func.isWrapper; rw [if_neg (of_decide_eq_false (by kernel_rfl))]; exact ⟨rfl, rfl⟩)
    (fun os started H enc _ => lifted os started H enc)

/-- The statement. -/
theorem proved : Rows.CssvalStepsCardSaid :=
  Claim7.holds_tied_plain_at .later [] [.data, .data, .data, .data, .pinned] true _ false over (fun _ h => by cases h) (by kernel_rfl) (fun _ h => by cases h) cssvalSteps_row_tie rfl ⟨rfl, rfl⟩ (by kernel_rfl) rfl
    (fun f fn hf hfn => by
      obtain rfl : f = 4 := Option.some.inj ((show Tryz.prog.funcNamed "cribble/cribblelaw16.CssvalSteps" = some 4 by kernel_rfl).symm.trans hf) |>.symm
      obtain rfl : fn = Tryz.f4 := (Option.some.inj (Tryz.func4.symm.trans hfn)).symm
      exact ⟨by kernel_rfl, fun j t ht => by
        rw [Tryz.params4] at ht
        have hm : t ∈ [22, 29] := by simpa using Array.mem_of_getElem? ht
        have hall : ([22, 29].all fun u => !Tryz.prog.wantsStandIn u) = true := by kernel_rfl
        exact (show Tryz.prog.wantsStandIn t = false by simpa using List.all_eq_true.1 hall t hm)⟩)
    (by kernel_rfl)

end Go.Proofs.YtgcccpdadponiaaGreatDoor.cssvalSteps
