/- Any pieces as text, whether any may be told, and the figures of any number are those of the reference: CsstokTexts returns true. No condition: whatever the arguments; the row lists tables of Go's library, which the card ties to the program's text. -/
import Derived.ProofKit
import Derived.ChangeSame
import Derived.ChangeAt
import Derived.SizedLaws
import Derived.OpenShut
import Derived.ShutString
import Derived.ChangeOld
import Derived.LaidMore
import Derived.Lay
import Derived.SevenTiedAt
import Derived.Stop.Joined
import Derived.Test.YtjaebdjlgohapaaGreatDoorRows
import Derived.Test.YtjaebdjlgohapaaGreatDoorCards
import Derived.Test.YtjaebdjlgohapaaGreatDoorTie
import Derived.Test.YtjaebdjlgohapaaGreatDoorCssR
import Derived.Test.YtjaebdjlgohapaaGreatDoorCssQa
import Derived.Test.YtjaebdjlgohapaaGreatDoorCssY
namespace Go.Proofs.YtjaebdjlgohapaaGreatDoor.csstokTexts
open Go.ChangeShapes Go.WideShapes Go.ChangeAt Go.RowKit
open Go.ChangeMaps (open_string shut_string)

theorem own : ownKnob Tryz.prog.godebug = none := by kernel_rfl
theorem laidOut : laidOutB Tryz.prog = true := by kernel_rfl


set_option maxRecDepth 100000 in
set_option maxHeartbeats 8000000 in
theorem walk (v : Value) (l : List Css) (n : Int) (w : World) (hT : Tb w) (hX : Mx w) (h : Rd w v l.length 4 (cssCells l)) (hz : ∀ p ∈ l, CssIn p) (_hn : ∀ a n cap, v = .slice a n cap → a = none → cap = 0) (hi : (Lit.int .i64 n).wf = true) : Calls Tryz.prog 4 #[v, .int .i64 n] w (Ret (.bool true) w) := by
  have hmx : Tryz.prog.follows .mixedOrders = true := by kernel_rfl
  have HR := Lib.hid h
  have HZ := Lib.hid hz
  have HTB := Lib.hid hT
  have HMX := Lib.hid hX
  have hr := int_wf hi
  obtain ⟨_, hm, A, c, rfl, _⟩ := h
  clear hz hT hX _hn hi
  cases hf : fewB l
  · have HF := Lib.hid (fun X => hf ▸ few_any A l.length c l (w.grow X) (HR.out.grow X))
    clear hf
    go_enter Tryz.func4, Tryz.ntmps4
    go_wp2_with (first | (go_at_call 5; refine (awake_any _ HTB.out HMX.out).mono ?_; rintro e w' ⟨rfl, A0, rfl⟩) | (go_at_call 9; (with_reducible refine (HF.out _).mono ?_); rintro e w' ⟨rfl, F0, rfl⟩))
    go_ret
    exact Ret.of rfl (by repeat (first | with_reducible exact Below.refl _ _ | (with_reducible refine Below.alloc ?_ (by first | omega | (simp [go_sem] <;> omega)) _) | (with_reducible refine Below.drew ?_) | (with_reducible refine Below.drewN ?_ _) | (with_reducible refine Below.grow ?_ (by first | omega | (simp [go_sem] <;> omega)) _) | (with_reducible refine Below.setCell ?_ (by first | omega | (simp [go_sem] <;> omega)) _)))
  have HF := Lib.hid (fun X => hf ▸ few_any A l.length c l (w.grow X) (HR.out.grow X))
  obtain ⟨hs, hl1, hl2⟩ := few_short hf HZ.out
  have HSh := Lib.hid hs
  obtain ⟨D, hD⟩ : ∃ D, l.all rightC = D := ⟨_, rfl⟩
  obtain ⟨T, hTT⟩ : ∃ T : ByteArray, ⟨(if l.all rightC then textC l else []).toArray⟩ = T := ⟨_, rfl⟩
  have HT1 := Lib.hid (fun X => show Calls Tryz.prog 12 #[.slice A l.length c] (w.grow X) (Ret (.tuple #[.string T, .bool D]) (w.grow X)) from by
    have := text_any A l.length c l (w.grow X) (HTB.out.grow X) (HMX.out.grow X) (HR.out.grow X) hs (by omega)
    rw [hTT, hD] at this; exact this)
  have HT2 := Lib.hid (fun X => show Calls Tryz.prog 13 #[.slice A l.length c] (w.grow X) (Ret (.tuple #[.string T, .bool D]) (w.grow X)) from by
    have := rtext_any A l.length c l (w.grow X) (HR.out.grow X) hs (by omega)
    rw [hTT, hD] at this; exact this)
  obtain ⟨F, hFg⟩ : ∃ F : ByteArray, ⟨(figuresL n).toArray⟩ = F := ⟨_, rfl⟩
  have HF1 := Lib.hid (fun X => hFg ▸ figures_any n (w.grow X) (HTB.out.grow X) hr.1 hr.2)
  have HF2 := Lib.hid (fun X => hFg ▸ rfigures_any n (w.grow X) hr.1 hr.2)
  clear hs hl1 hl2 hD hTT hFg hf hr
  go_enter Tryz.func4, Tryz.ntmps4
  go_wp2_with (first | (go_at_call 5; refine (awake_any _ HTB.out HMX.out).mono ?_; rintro e w' ⟨rfl, A0, rfl⟩) | (go_at_call 9; (with_reducible refine (Ret.flat (HF.out _)).mono ?_); rintro e w' ⟨rfl, F0, rfl⟩))
  go_loopw [7] (fun i wr => ∃ (k : Nat) (X : Gr), k ≤ l.length ∧ i = .int .i64 k ∧ wr = w.grow X) (fun i _ => l.length - (intOf i).toNat)
  case atStart => exact ⟨0, _, by omega, rfl, rfl⟩
  case round =>
    obtain ⟨k, X, hk, rfl, rfl⟩ := hrel
    by_cases hlt : k < l.length
    · obtain ⟨b, off, rfl, hb, c0, c1, c2, c3⟩ := Rd.css HR.out k hlt
      obtain ⟨o1, o2, o3⟩ := HSh.out _ (List.getElem_mem hlt)
      generalize l[k] = x at *
      have HRt := Lib.hid (fun W (hW : Tb W) (hX : Mx W) => right_any x W hW hX o1 o2 o3)
      have HRr := Lib.hid (fun W => rright_any x W o1 o2 o3)
      simp only [Css.agg, sv] at HRt HRr c1 c3
      generalize (⟨x.text.toArray⟩ : ByteArray) = a1 at *
      generalize (⟨x.unit.toArray⟩ : ByteArray) = a2 at *
      generalize rightC x = d at *
      go_wp2_with fail
      refine wp_region_grow (by kernel_rfl) (by kernel_rfl) ?_
      repeat (go_big_quiet_step ((first | (go_at_call 10; with_reducible exact Calls.grow_of (HRt.out _ ((HTB.out.grow _).grow _) ((HMX.out.grow _).grow _))) | (go_at_call 11; with_reducible exact Calls.grow_of (HRr.out _)))))
      refine wpQuiet_nil ?_
      intro _ hw'; obtain ⟨nq, hw''⟩ := hw'; subst hw''
      go_wp2_with fail
      go_roundw
      case rel => exact ⟨k + 1, _, by omega, by go_num, grow_grow w X nq⟩
      case measure => simp [intOf]; omega
    · go_wp2_with (first
        | (go_at_call 12; (with_reducible refine (Ret.flat (HT1.out _)).mono ?_); rintro e w' ⟨rfl, X1, rfl⟩)
        | (go_at_call 13; (with_reducible refine (Ret.flat (HT2.out _)).mono ?_); rintro e w' ⟨rfl, X2, rfl⟩)
        | (go_at_call 14; (with_reducible refine (Ret.flat (HF1.out _)).mono ?_); rintro e w' ⟨rfl, X3, rfl⟩)
        | (go_at_call 15; (with_reducible refine (Ret.flat (HF2.out _)).mono ?_); rintro e w' ⟨rfl, X4, rfl⟩))
      go_ret
      exact Ret.of (by simp) (by repeat (first | with_reducible exact Below.refl _ _ | (with_reducible refine Below.alloc ?_ (by first | omega | (simp [go_sem] <;> omega)) _) | (with_reducible refine Below.drew ?_) | (with_reducible refine Below.drewN ?_ _) | (with_reducible refine Below.grow ?_ (by first | omega | (simp [go_sem] <;> omega)) _) | (with_reducible refine Below.setCell ?_ (by first | omega | (simp [go_sem] <;> omega)) _)))

set_option maxRecDepth 100000 in
theorem lifted (os : Os) (started : os.Started) (H : Type) (enc : TypeId × Value → H) :
    ReturnsInHanded {} Tryz.checked os 4 .any (fun w args => (Rows.csstokTextsSpec.pre enc Tryz.prog Tryz.f4 Rows.csstokTextsRow.domain false w args ∧ laidMetH Tryz.prog Rows.csstokTextsRow.laid w) ∧ sizedMet enc Tryz.prog Tryz.f4 (OpenSpec.ofChange Rows.csstokTextsSpec) false w args) (Rows.csstokTextsSpec.post enc Tryz.prog Tryz.f4 false true false false) := by
  refine handed_shape (C := Tryz.checked) (X := fun w _ => laidMetH Tryz.prog Rows.csstokTextsRow.laid w) (fun _ _ _ hh h => h.of_heap hh) own started (by kernel_rfl) Tryz.func4
    (ChangeSpec.witness_shaped (enc := enc) (C := Tryz.checked) (os := os) (X := fun w _ => laidMetH Tryz.prog Rows.csstokTextsRow.laid w) false (World.laidAll Tryz.prog os Rows.csstokTextsRow.laid) #[.slice none 0 0, .int .i64 0] 8 (World.laidAll_os _ _ _)
      (World.shaped_of_ZipB (by kernel_rfl) (by kernel_rfl)) (by kernel_rfl) (by kernel_rfl) (by kernel_rfl)
      (by rw [MakeChecks.laidMetH_plain _ _ _ (by kernel_rfl)]; exact laidMet_laidAll _ (by kernel_rfl) (by kernel_rfl))) ?_
  intro W base args ds gs before hval0 hW hL hsh
  have hval : ∀ (j : Nat) t v, Tryz.f4.params[j]? = some t → args[j]? = some v → Value.okWide Tryz.prog W .any base t v := hval0
  have hW' := hW
  obtain ⟨p, q, hA0, hV, rfl, hfz, hnd⟩ := hW
  have hA : DataW.TrodAll enc Tryz.prog W 0 (fun _ => true) true Tryz.f4.params.toList args.toList ds p := hA0
  rw [Tryz.params4] at hA hval
  obtain ⟨v0, vs0, d0, ds0, p0, q0, hargs, rfl, rfl, h0, r0⟩ := trodAll_cons hA
  obtain ⟨v1, vs1, d1, ds1, p1, q1, rfl, rfl, rfl, h1, r1⟩ := trodAll_cons r0
  obtain ⟨rfl, rfl, rfl⟩ := trodAll_nil r1
  obtain rfl : args = #[v0, v1] := by cases args; simp_all
  obtain ⟨rfl, rfl⟩ := trodVars_none hV
  obtain ⟨a0, len0, cap0, rfl⟩ := okWide_slice Tryz.underlying24 (hval 0 24 v0 rfl rfl)
  have k0 := h0
  have lt0 : ∀ x ∈ p0, x.block < W.heap.size := by obtain ⟨m, hm⟩ := k0; exact DataW.trod_lt m _ _ _ hm
  obtain ⟨z0, e0, w0, m0⟩ : ∃ l : List Css, l.length = len0 ∧ Rd W (.slice a0 len0 cap0) l.length 4 (cssCells l) ∧ ∀ p ∈ l, CssIn p := by obtain ⟨fuel, hf⟩ := h0; exact css_open (by simpa [Value.cells] using hf)
  have n0 : ∀ a n cap, Value.slice a0 len0 cap0 = .slice a n cap → a = none → cap = 0 := fun _ _ _ hh => by cases hh; obtain ⟨fuel, hf⟩ := h0; exact css_nil (by simpa [Value.cells] using hf)
  obtain ⟨a1, rfl, rfl, rfl, w1⟩ := open_int Tryz.underlying3 (hval 1 3 v1 rfl rfl) h1
  clear hA0 hval0
  refine (walk (.slice a0 len0 cap0) z0 a1 W (tb_laid hL (by rfl)) (mx_shape hsh) w0 m0 n0 w1).mono fun e W' hend => ?_
  obtain ⟨he, X, hX⟩ := hend
  have bel : Below W.heap.size W W' := by rw [hX]; exact below_grow W X
  subst he
  exact ⟨_, rfl, _, _, _, [], _, [], hW', trodAll_mk1 (shut_bool Tryz.underlying4 _), (trodAll_cons_mk (Below.trod laidOut (by kernel_rfl) (of_decide_eq_true (by kernel_rfl)) k0 bel lt0) (trodAll_cons_mk (shut_int Tryz.underlying3 w1) trodAll_mk0)), rfl, bel.frame _, fun h => by cases h⟩

theorem over : Rows.csstokTextsRow.holds Tryz.pinned (OpenSpec.ofChange Rows.csstokTextsSpec) :=
  OpenClaim.holds_of_wide 4 Tryz.f4 rfl rfl rfl rfl rfl rfl rfl ⟨rfl, rfl, rfl, rfl, rfl⟩ rfl rfl rfl rfl rfl (by kernel_rfl) Tryz.func4 (by kernel_rfl)
    (of_decide_eq_true (by kernel_rfl)) (by unfold Func.isWrapper; rw [if_neg (of_decide_eq_false (by kernel_rfl))]; exact ⟨rfl, rfl⟩)
    (fun os started H enc _ => lifted os started H enc)

/-- The statement. -/
theorem proved : Rows.CsstokTextsCardSaid :=
  Claim7.holds_tied_plain_at .later [] [.data, .data, .data, .data, .pinned] true _ false over (fun _ h => by cases h) (by kernel_rfl) (fun _ h => by cases h) csstokTexts_row_tie rfl ⟨rfl, rfl⟩ (by kernel_rfl) rfl
    (fun f fn hf hfn => by
      obtain rfl : f = 4 := Option.some.inj ((show Tryz.prog.funcNamed "cribble/cribblelaw13.CsstokTexts" = some 4 by kernel_rfl).symm.trans hf) |>.symm
      obtain rfl : fn = Tryz.f4 := (Option.some.inj (Tryz.func4.symm.trans hfn)).symm
      exact ⟨by kernel_rfl, fun j t ht => by
        rw [Tryz.params4] at ht
        have hm : t ∈ [24, 3] := by simpa using Array.mem_of_getElem? ht
        have hall : ([24, 3].all fun u => !Tryz.prog.wantsStandIn u) = true := by kernel_rfl
        exact (show Tryz.prog.wantsStandIn t = false by simpa using List.all_eq_true.1 hall t hm)⟩)
    (by kernel_rfl)

end Go.Proofs.YtjaebdjlgohapaaGreatDoor.csstokTexts
