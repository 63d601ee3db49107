/- Any property's value of any pieces is as the document says: CssvalValues returns true. No condition: whatever the arguments; the row lists tables of Go's library, which the card ties to the program's text. -/
import Derived.ProofKit
import Derived.ChangeSame
import Derived.ChangeAt
import Derived.SizedLaws
import Derived.OpenShut
import Derived.ShutString
import Derived.ChangeOld
import Derived.LaidMore
import Derived.Lay
import Derived.SevenTiedAt
import Derived.Stop.Joined
import Derived.Test.YtgcccpdadponiaaGreatDoorRows
import Derived.Test.YtgcccpdadponiaaGreatDoorCards
import Derived.Test.YtgcccpdadponiaaGreatDoorTie
import Derived.Test.YtgcccpdadponiaaGreatDoorCssOpen
import Derived.Test.YtgcccpdadponiaaGreatDoorTB
import Derived.Test.YtgcccpdadponiaaGreatDoorValL
import Derived.Test.YtgcccpdadponiaaGreatDoorRW
namespace Go.Proofs.YtgcccpdadponiaaGreatDoor.cssvalValues
open Go.ChangeShapes Go.WideShapes Go.ChangeAt Go.RowKit
open Go.ChangeMaps (open_string shut_string)

theorem own : ownKnob Tryz.prog.godebug = none := by kernel_rfl
theorem laidOut : laidOutB Tryz.prog = true := by kernel_rfl

theorem css_cap {H : Type} {enc : TypeId × Value → H} {w : World} {base : Nat} {spare : Nat → Bool} {held : Bool} {fuel : Nat} {a : Option Addr} {len cap : Nat} {x : DataW H × List MemPlace}
    (h : DataW.trod enc Tryz.prog w base spare held fuel 22 [.slice a len cap] = some x) : len ≤ cap := by
  rcases Deep.open_slice Tryz.underlying22 h with ⟨hcs, _⟩ | ⟨ad, len', cap', m, n, D, Pl, hcs, hb, hl, hm, hmm, hx, hi⟩
  · simp at hcs; omega
  · simp at hcs; omega

set_option maxRecDepth 100000 in
set_option maxHeartbeats 2000000 in
theorem walk (S : ByteArray) (v : Value) (l : List Css) (w : World) (hT : Tb w) (hX : Mx w) (_h1 : S.size ≤ maxLen) (h : Rd w v l.length 4 (cssCells l)) (hz : ∀ p ∈ l, CssIn p) (hn : ∀ a n cap, v = .slice a n cap → (a = none → cap = 0) ∧ n ≤ cap) : Calls Tryz.prog 3 #[.string S, v] w (Ret (.bool true) w) := by
  have hmx : Tryz.prog.follows .mixedOrders = true := by kernel_rfl
  have HTB := Lib.hid hT
  have HMX := Lib.hid hX
  have HTM := Lib.hid (fun W (hB : Below w.heap.size w W) => And.intro (Tb.below hT hB) (Mx.below hX hB))
  have HR := Lib.hid h
  have HZ := Lib.hid hz
  obtain ⟨_, hml, A, c, rfl, _⟩ := h
  obtain ⟨hA0, hcap⟩ := hn _ _ _ rfl
  clear hz hT hX hn _h1
  cases hf : fewB l
  · have HF := Lib.hid (fun X => hf ▸ few_any A l.length c l (w.grow X) (HR.out.grow X))
    clear hf hA0
    go_enter Tryz.func3, Tryz.ntmps3
    go_wp2_with (first
      | (go_at_call 9; refine (awake16_any _ HTB.out HMX.out).mono ?_; rintro e w' ⟨rfl, A0, rfl⟩) | (go_at_call 10; (with_reducible refine (HF.out _).mono ?_); rintro e w' ⟨rfl, F0, rfl⟩))
    go_ret
    exact Ret.of rfl (by repeat (first | with_reducible exact Below.refl _ _ | (with_reducible refine Below.alloc ?_ (by first | omega | (simp [go_sem] <;> omega)) _) | (with_reducible refine Below.drew ?_) | (with_reducible refine Below.drewN ?_ _) | (with_reducible refine Below.grow ?_ (by first | omega | (simp [go_sem] <;> omega)) _) | (with_reducible refine Below.setCell ?_ (by first | omega | (simp [go_sem] <;> omega)) _)))
  have HF := Lib.hid (fun X => Ret.flat (hf ▸ few_any A l.length c l (w.grow X) (HR.out.grow X)))
  obtain ⟨hs, hl1, hl2⟩ := few_short hf HZ.out
  clear hf
  have HV0 := fun W (hB : Below w.heap.size w W) => (value16_any S.data.toList A l.length c l W (HTM.out W hB).1 (HTM.out W hB).2 (Rd.below' HR.out hB) hA0 hs (by omega)).mono fun _ _ h => RetV.abs h
  have HW0 := fun W (hB : Below w.heap.size w W) => (rvalue16_any S.data.toList A l.length c l W (Rd.below' HR.out hB) hA0 hcap hs (by omega)).mono fun _ _ h => RetV.abs h
  generalize valueT S.data.toList l = R at *
  generalize R.getD [] = L at *
  generalize R.isSome = b at *
  have HSm := Lib.hid (fun (W : World) (A1 A2 : Option Addr) (c1 c2 : Nat) (ha : Rd W (.slice A1 L.length c1) L.length 4 (cssCells L)) (hb : Rd W (.slice A2 L.length c2) L.length 4 (cssCells L)) => show Calls Tryz.prog 13 #[.slice A1 L.length c1, .slice A2 L.length c2] W (Ret (.bool true) W) from by
    have h8 := same_any A1 A2 _ _ c1 c2 L L W ha hb
    rwa [decide_eq_true rfl] at h8)
  clear hs hA0
  cases b
  all_goals
    have HV1 := Lib.hid HV0
    have HW1 := Lib.hid HW0
    clear HV0 HW0
    go_enter Tryz.func3, Tryz.ntmps3
    go_wp2_with (first
      | (go_at_call 9; refine (awake16_any _ HTB.out HMX.out).mono ?_; rintro e w' ⟨rfl, A0, rfl⟩) | (go_at_call 10; (with_reducible refine (HF.out _).mono ?_); rintro e w' ⟨rfl, F0, rfl⟩)
      | (go_at_call 11; (with_reducible refine (HV1.out _ (by (repeat (first | with_reducible exact Below.refl _ _ | (with_reducible refine Below.alloc ?_ (by first | omega | (simp [go_sem] <;> omega)) _) | (with_reducible refine Below.drew ?_) | (with_reducible refine Below.drewN ?_ _) | (with_reducible refine Below.grow ?_ (by first | omega | (simp [go_sem] <;> omega)) _) | (with_reducible refine Below.setCell ?_ (by first | omega | (simp [go_sem] <;> omega)) _))); done)).mono ?_); rintro e W1 ⟨A1, c1, rfl, hb1, hA1, hc1, hr1⟩; have HB1 := Lib.hid (below_next (show Below w.heap.size w _ from (by (repeat (first | with_reducible exact Below.refl _ _ | (with_reducible refine Below.alloc ?_ (by first | omega | (simp [go_sem] <;> omega)) _) | (with_reducible refine Below.drew ?_) | (with_reducible refine Below.drewN ?_ _) | (with_reducible refine Below.grow ?_ (by first | omega | (simp [go_sem] <;> omega)) _) | (with_reducible refine Below.setCell ?_ (by first | omega | (simp [go_sem] <;> omega)) _))); done)) hb1); have HR1 := Lib.hid hr1; clear hb1 hA1 hc1 hr1)
      | (go_at_call 12; (with_reducible refine (HW1.out W1 HB1.out).mono ?_); rintro e W2 ⟨A2, c2, rfl, hb2, hA2, hc2, hr2⟩; have HB2 := Lib.hid (below_next HB1.out hb2); have HSf := Lib.hid (HSm.out W2 A1 A2 c1 c2 (Rd.below' HR1.out hb2) hr2); clear hb2 hA2 hc2 hr2)
      | (go_at_call 13; (with_reducible refine HSf.out.mono ?_); rintro e w' ⟨rfl, X4, rfl⟩))
    go_ret
    exact Ret.of rfl (below_next HB2.out (by repeat (first | with_reducible exact Below.refl _ _ | (with_reducible refine Below.alloc ?_ (by first | omega | (simp [go_sem] <;> omega)) _) | (with_reducible refine Below.drew ?_) | (with_reducible refine Below.drewN ?_ _) | (with_reducible refine Below.grow ?_ (by first | omega | (simp [go_sem] <;> omega)) _) | (with_reducible refine Below.setCell ?_ (by first | omega | (simp [go_sem] <;> omega)) _))))

set_option maxRecDepth 100000 in
theorem lifted (os : Os) (started : os.Started) (H : Type) (enc : TypeId × Value → H) :
    ReturnsInHanded {} Tryz.checked os 3 .any (fun w args => (Rows.cssvalValuesSpec.pre enc Tryz.prog Tryz.f3 Rows.cssvalValuesRow.domain false w args ∧ laidMetH Tryz.prog Rows.cssvalValuesRow.laid w) ∧ sizedMet enc Tryz.prog Tryz.f3 (OpenSpec.ofChange Rows.cssvalValuesSpec) false w args) (Rows.cssvalValuesSpec.post enc Tryz.prog Tryz.f3 false true false false) := by
  refine handed_shape (C := Tryz.checked) (X := fun w _ => laidMetH Tryz.prog Rows.cssvalValuesRow.laid w) (fun _ _ _ hh h => h.of_heap hh) own started (by kernel_rfl) Tryz.func3
    (ChangeSpec.witness_shaped (enc := enc) (C := Tryz.checked) (os := os) (X := fun w _ => laidMetH Tryz.prog Rows.cssvalValuesRow.laid w) false (World.laidAll Tryz.prog os Rows.cssvalValuesRow.laid) #[.string ⟨#[]⟩, .slice none 0 0] 8 (World.laidAll_os _ _ _)
      (World.shaped_of_ZipB (by kernel_rfl) (by kernel_rfl)) (by kernel_rfl) (by kernel_rfl) (by kernel_rfl)
      (by rw [MakeChecks.laidMetH_plain _ _ _ (by kernel_rfl)]; exact laidMet_laidAll _ (by kernel_rfl) (by kernel_rfl))) ?_
  intro W base args ds gs before hval0 hW hL hsh
  have hval : ∀ (j : Nat) t v, Tryz.f3.params[j]? = some t → args[j]? = some v → Value.okWide Tryz.prog W .any base t v := hval0
  have hW' := hW
  obtain ⟨p, q, hA0, hV, rfl, hfz, hnd⟩ := hW
  have hA : DataW.TrodAll enc Tryz.prog W 0 (fun _ => true) true Tryz.f3.params.toList args.toList ds p := hA0
  rw [Tryz.params3] at hA hval
  obtain ⟨v0, vs0, d0, ds0, p0, q0, hargs, rfl, rfl, h0, r0⟩ := trodAll_cons hA
  obtain ⟨v1, vs1, d1, ds1, p1, q1, rfl, rfl, rfl, h1, r1⟩ := trodAll_cons r0
  obtain ⟨rfl, rfl, rfl⟩ := trodAll_nil r1
  obtain rfl : args = #[v0, v1] := by cases args; simp_all
  obtain ⟨rfl, rfl⟩ := trodVars_none hV
  obtain ⟨s0, rfl, rfl, rfl, w0⟩ := open_string Tryz.underlying9 (hval 0 9 v0 rfl rfl) h0
  obtain ⟨a1, len1, cap1, rfl⟩ := okWide_slice Tryz.underlying22 (hval 1 22 v1 rfl rfl)
  have k1 := h1
  have lt1 : ∀ x ∈ p1, x.block < W.heap.size := by obtain ⟨m, hm⟩ := k1; exact DataW.trod_lt m _ _ _ hm
  obtain ⟨z1, e1, w1, m1⟩ : ∃ l : List Css, l.length = len1 ∧ Rd W (.slice a1 len1 cap1) l.length 4 (cssCells l) ∧ ∀ p ∈ l, CssIn p := by obtain ⟨fuel, hf⟩ := h1; exact css_open (by simpa [Value.cells] using hf)
  have n1 : ∀ a n cap, Value.slice a1 len1 cap1 = .slice a n cap → (a = none → cap = 0) ∧ n ≤ cap := fun _ _ _ hh => by cases hh; obtain ⟨fuel, hf⟩ := h1; exact ⟨css_nil (by simpa [Value.cells] using hf), css_cap (by simpa [Value.cells] using hf)⟩
  clear hA0 hval0
  refine (walk s0 (.slice a1 len1 cap1) z1 W (tb_laid hL (by rfl)) (mx_shape hsh) w0 w1 m1 n1).mono fun e W' hend => ?_
  obtain ⟨he, X, hX⟩ := hend
  have bel : Below W.heap.size W W' := by rw [hX]; exact below_grow W X
  subst he
  exact ⟨_, rfl, _, _, _, [], _, [], hW', trodAll_mk1 (shut_bool Tryz.underlying4 _), (trodAll_cons_mk (shut_string Tryz.underlying9 w0) (trodAll_cons_mk (Below.trod laidOut (by kernel_rfl) (of_decide_eq_true (by kernel_rfl)) k1 bel lt1) trodAll_mk0)), rfl, bel.frame _, fun h => by cases h⟩

theorem over : Rows.cssvalValuesRow.holds Tryz.pinned (OpenSpec.ofChange Rows.cssvalValuesSpec) :=
  OpenClaim.holds_of_wide 3 Tryz.f3 rfl rfl rfl rfl rfl rfl rfl ⟨rfl, rfl, rfl, rfl, rfl⟩ rfl rfl rfl rfl rfl (by kernel_rfl) Tryz.func3 (by kernel_rfl)
    (of_decide_eq_true (by kernel_rfl)) (by unfold Func.isWrapper; rw [if_neg (of_decide_eq_false (by kernel_rfl))]; exact ⟨rfl, rfl⟩)
    (fun os started H enc _ => lifted os started H enc)

/-- The statement. -/
theorem proved : Rows.CssvalValuesCardSaid :=
  Claim7.holds_tied_plain_at .later [] [.data, .data, .data, .data, .pinned] true _ false over (fun _ h => by cases h) (by kernel_rfl) (fun _ h => by cases h) cssvalValues_row_tie rfl ⟨rfl, rfl⟩ (by kernel_rfl) rfl
    (fun f fn hf hfn => by
      obtain rfl : f = 3 := Option.some.inj ((show Tryz.prog.funcNamed "cribble/cribblelaw16.CssvalValues" = some 3 by kernel_rfl).symm.trans hf) |>.symm
      obtain rfl : fn = Tryz.f3 := (Option.some.inj (Tryz.func3.symm.trans hfn)).symm
      exact ⟨by kernel_rfl, fun j t ht => by
        rw [Tryz.params3] at ht
        have hm : t ∈ [9, 22] := by simpa using Array.mem_of_getElem? ht
        have hall : ([9, 22].all fun u => !Tryz.prog.wantsStandIn u) = true := by kernel_rfl
        exact (show Tryz.prog.wantsStandIn t = false by simpa using List.all_eq_true.1 hall t hm)⟩)
    (by kernel_rfl)

end Go.Proofs.YtgcccpdadponiaaGreatDoor.cssvalValues
