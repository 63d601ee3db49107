/- A number's figures are scanned as it, with any unit that may be: CsstokNumbers returns true. No condition: whatever the arguments; the row lists tables of Go's library, which the card ties to the program's text. -/
import Derived.ProofKit
import Derived.ChangeSame
import Derived.ChangeAt
import Derived.SizedLaws
import Derived.OpenShut
import Derived.ShutString
import Derived.ChangeOld
import Derived.LaidMore
import Derived.Lay
import Derived.SevenTiedAt
import Derived.Stop.Joined
import Derived.Test.YtjaebdjlgohapaaDoorRows
import Derived.Test.YtjaebdjlgohapaaDoorCards
import Derived.Test.YtjaebdjlgohapaaDoorTie
import Derived.Test.YtjaebdjlgohapaaDoorCssR
namespace Go.Proofs.YtjaebdjlgohapaaDoor.csstokNumbers
open Go.ChangeShapes Go.WideShapes Go.ChangeAt Go.RowKit
open Go.ChangeMaps (open_string shut_string)

theorem own : ownKnob Tryd.prog.godebug = none := by kernel_rfl
theorem laidOut : laidOutB Tryd.prog = true := by kernel_rfl


theorem one_scan (n : Int) (h : n.natAbs ≤ 999999999) : cssL (figuresL n) = [⟨3, [], n, []⟩] := by
  have h1 := num_scan n [] h (.inl rfl)
  obtain ⟨_, _, _, h2, _⟩ := fig_head n []
  rw [List.append_nil] at h1 h2
  rw [scan_solid h2, h1, List.drop_length, scan_nil (s := []) rfl]
set_option maxRecDepth 100000 in
set_option maxHeartbeats 8000000 in
theorem walk (n : Int) (s : ByteArray) (w : World) (hT : Tb w) (hX : Mx w) (hn : (Lit.int .i64 n).wf = true) (_hm : s.size ≤ maxLen) : Calls Tryd.prog 5 #[.int .i64 n, .string s] w (Ret (.bool true) w) := by
  have hmx : Tryd.prog.follows .mixedOrders = true := by kernel_rfl
  have HTB := Lib.hid hT
  have HMX := Lib.hid hX
  have hr := int_wf hn
  clear hT hX hn _hm
  by_cases h1 : 100 < s.size
  · have b1 : decide ((100 : Int) < s.size) = true := by simp; omega
    clear h1
    go_enter Tryd.func5, Tryd.ntmps5
    go_wp2_with (go_at_call 7; refine (awake_any _ HTB.out HMX.out).mono ?_; rintro e w' ⟨rfl, A0, rfl⟩)
    go_ret
    exact Ret.of rfl (by repeat (first | with_reducible exact Below.refl _ _ | (with_reducible refine Below.alloc ?_ (by first | omega | (simp [go_sem] <;> omega)) _) | (with_reducible refine Below.drew ?_) | (with_reducible refine Below.drewN ?_ _) | (with_reducible refine Below.grow ?_ (by first | omega | (simp [go_sem] <;> omega)) _) | (with_reducible refine Below.setCell ?_ (by first | omega | (simp [go_sem] <;> omega)) _)))
  have b1 : decide ((100 : Int) < s.size) = false := by simp; omega
  by_cases h2 : n < -999999999
  · have b2 : decide (n < -999999999) = true := by simpa using h2
    go_enter Tryd.func5, Tryd.ntmps5
    go_wp2_with (go_at_call 7; refine (awake_any _ HTB.out HMX.out).mono ?_; rintro e w' ⟨rfl, A0, rfl⟩)
    go_ret
    exact Ret.of rfl (by repeat (first | with_reducible exact Below.refl _ _ | (with_reducible refine Below.alloc ?_ (by first | omega | (simp [go_sem] <;> omega)) _) | (with_reducible refine Below.drew ?_) | (with_reducible refine Below.drewN ?_ _) | (with_reducible refine Below.grow ?_ (by first | omega | (simp [go_sem] <;> omega)) _) | (with_reducible refine Below.setCell ?_ (by first | omega | (simp [go_sem] <;> omega)) _)))
  have b2 : decide (n < -999999999) = false := by simpa using h2
  by_cases h3 : 999999999 < n
  · have b3 : decide (999999999 < n) = true := by simpa using h3
    go_enter Tryd.func5, Tryd.ntmps5
    go_wp2_with (go_at_call 7; refine (awake_any _ HTB.out HMX.out).mono ?_; rintro e w' ⟨rfl, A0, rfl⟩)
    go_ret
    exact Ret.of rfl (by repeat (first | with_reducible exact Below.refl _ _ | (with_reducible refine Below.alloc ?_ (by first | omega | (simp [go_sem] <;> omega)) _) | (with_reducible refine Below.drew ?_) | (with_reducible refine Below.drewN ?_ _) | (with_reducible refine Below.grow ?_ (by first | omega | (simp [go_sem] <;> omega)) _) | (with_reducible refine Below.setCell ?_ (by first | omega | (simp [go_sem] <;> omega)) _)))
  have b3 : decide (999999999 < n) = false := by simpa using h3
  obtain ⟨u, hu⟩ : ∃ u, s.data.toList = u := ⟨_, rfl⟩
  have hul : u.length ≤ 100 := by rw [← hu, len_data]; omega
  have hsu : (⟨u.toArray⟩ : ByteArray) = s := by rw [← hu]
  have ho : CssOk ⟨3, [], n, u⟩ := ⟨by show (-9223372036854775808 : Int) ≤ 3; decide, by show (3 : Int) ≤ 9223372036854775807; decide, hr.1, hr.2⟩
  obtain ⟨D, hD⟩ : ∃ D, rightC ⟨3, [], n, u⟩ = D := ⟨_, rfl⟩
  have hfl := figures_len n (by omega)
  obtain ⟨F, hF⟩ : ∃ F : ByteArray, ⟨(figuresL n).toArray⟩ = F := ⟨_, rfl⟩
  have hFs : F.size ≤ 30 := by rw [← hF]; exact hfl
  have HFg := Lib.hid (fun W (hW : Tb W) => hF ▸ figures_any n W hW hr.1 hr.2)
  have HS1 := Lib.hid (fun W (hW : Mx W) => show Calls Tryd.prog 11 #[.string F] W (RetS W 1 4 (cssCells [⟨3, [], n, []⟩])) from by
    have := scan_any (figuresL n) W hW (by omega)
    rw [one_scan n (by omega), hF] at this; exact this)
  have HS2 := Lib.hid (fun W (hW : Mx W) (hd : D = true) => show Calls Tryd.prog 11 #[.string (F ++ s)] W (RetS W 1 4 (cssCells [⟨3, [], n, u⟩])) from by
    have := scan_any (figuresL n ++ u) W hW (by rw [List.length_append]; omega)
    rw [← hD] at hd
    rw [show cssL (figuresL n ++ u) = [⟨3, [], n, u⟩] from (right_parts hd).2] at this
    rw [← hF, ← hsu, cat_bs]; exact this)
  have HRt := Lib.hid (fun W (hW : Tb W) (hX : Mx W) => show Calls Tryd.prog 13 #[.agg #[.int .i64 3, .string ⟨#[]⟩, .int .i64 n, .string s]] W (Ret (.bool D) W) from by
    have := right_any ⟨3, [], n, u⟩ W hW hX ho (by simp) (by show u.length ≤ _; omega)
    rw [hD] at this
    simp only [Css.agg, sv, hsu] at this
    exact this)
  have HU := Lib.hid hsu
  have hs1 : s.size ≤ 100 := by omega
  clear hF hD ho hu hsu hul hfl h1
  go_enter Tryd.func5, Tryd.ntmps5
  go_upto_region 5 with (go_at_call 7; refine (awake_any _ HTB.out HMX.out).mono ?_; rintro e w' ⟨rfl, A0, rfl⟩)
  obtain ⟨W1, hW1⟩ : ∃ W1, ((w.grow A0).alloc (.cells #[.int .i64 3, .string ⟨#[]⟩, .int .i64 n, .string s] 30)) = W1 := ⟨_, rfl⟩
  obtain ⟨xb, hxb⟩ : ∃ xb, w.heap.size + A0.blocks.size = xb := ⟨_, rfl⟩
  have hx0 : (w.grow A0).heap.size = xb := by rw [size_grow, hxb]
  have hxl : xb < W1.heap.size := by rw [← hW1, ← hx0]; simp
  have e0 : W1.cell? ⟨xb, 0, none⟩ = some (.int .i64 3) := by rw [← hW1, ← hx0]; simp [World.cell?_alloc_new]
  have e1 : W1.cell? ⟨xb, 1, none⟩ = some (.string ⟨#[]⟩) := by rw [← hW1, ← hx0]; simp [World.cell?_alloc_new]
  have e2 : W1.cell? ⟨xb, 2, none⟩ = some (.int .i64 n) := by rw [← hW1, ← hx0]; simp [World.cell?_alloc_new]
  have e3 : W1.cell? ⟨xb, 3, none⟩ = some (.string s) := by rw [← hW1, ← hx0]; simp [World.cell?_alloc_new]
  have HE : Hid (∀ W, Below W1.heap.size W1 W → W.cell? ⟨xb, 0, none⟩ = some (.int .i64 3) ∧ W.cell? ⟨xb, 1, none⟩ = some (.string ⟨#[]⟩) ∧ W.cell? ⟨xb, 2, none⟩ = some (.int .i64 n) ∧ W.cell? ⟨xb, 3, none⟩ = some (.string s) ∧ xb < W.heap.size) :=
    fun W hW => ⟨(hW.cell hxl).trans e0, (hW.cell hxl).trans e1, (hW.cell hxl).trans e2, (hW.cell hxl).trans e3, Nat.lt_of_lt_of_le hxl hW.size⟩
  have HB1 : Hid (Below w.heap.size w W1) := by show Below _ _ _; rw [← hW1]; exact (by repeat (first | with_reducible exact Below.refl _ _ | (with_reducible refine Below.alloc ?_ (by first | omega | (simp [go_sem] <;> omega)) _) | (with_reducible refine Below.drew ?_) | (with_reducible refine Below.drewN ?_ _) | (with_reducible refine Below.grow ?_ (by first | omega | (simp [go_sem] <;> omega)) _) | (with_reducible refine Below.setCell ?_ (by first | omega | (simp [go_sem] <;> omega)) _)))
  have HTW : Hid (∀ W, Below W1.heap.size W1 W → Tb W ∧ Mx W) := fun W hW => ⟨Tb.below (Tb.below HTB.out HB1.out) hW, Mx.below (Mx.below HMX.out HB1.out) hW⟩
  rw [hW1, hxb]
  clear hW1 hxb hx0 e0 e1 e2 e3 hxl
  have hN : (n == n) = true := by simp
  have bS : (s.toList == s.toList) = true := by simp
  have bE : ((⟨#[]⟩ : ByteArray).toList == (⟨#[]⟩ : ByteArray).toList) = true := by simp
  cases D
  · go_wp2_with (first
    | (go_at_call 12; (with_reducible refine (HFg.out _ (HTW.out _ (Below.refl _ _)).1).mono ?_); rintro e w' ⟨rfl, X1, rfl⟩)
    | (go_at_call 11; (with_reducible refine (HS1.out _ (HTW.out _ (below_grow _ _)).2).mono ?_); rintro e W3 ⟨A3, c3, X3, rfl, hw3, hc3, hr3⟩; (rw [← hw3] at hr3); have hb3 : Below W1.heap.size W1 W3 := (by rw [hw3]; exact (by repeat (first | with_reducible exact Below.refl _ _ | (with_reducible refine Below.alloc ?_ (by first | omega | (simp [go_sem] <;> omega)) _) | (with_reducible refine Below.drew ?_) | (with_reducible refine Below.drewN ?_ _) | (with_reducible refine Below.grow ?_ (by first | omega | (simp [go_sem] <;> omega)) _) | (with_reducible refine Below.setCell ?_ (by first | omega | (simp [go_sem] <;> omega)) _)))); have HB3 := Lib.hid hb3; obtain ⟨d0, d1, d2, d3, d4⟩ := HE.out _ hb3; obtain ⟨b, off, rfl, hb, f0, f1, f2, f3⟩ := Rd.css (l := [⟨3, [], n, []⟩]) hr3 0 (by simp); simp only [List.getElem_cons_zero, Nat.zero_mul, Nat.add_zero, sv] at f0 f1 f2 f3; clear hw3 hr3 hb3)
    | (go_at_call 13; (with_reducible refine (HRt.out _ (HTW.out _ HB3.out).1 (HTW.out _ HB3.out).2).mono ?_); rintro e w' ⟨rfl, X5, rfl⟩))
    go_ret
    exact Ret.of rfl (below_next HB1.out (Below.grow HB3.out HB3.out.size _))
  · have HS2' := Lib.hid (fun W hW => HS2.out W hW rfl)
    clear HS2
    go_wp2_with (first
    | (go_at_call 12; (with_reducible refine (HFg.out _ (HTW.out _ (Below.refl _ _)).1).mono ?_); rintro e w' ⟨rfl, X1, rfl⟩)
    | (go_at_call 11; (with_reducible refine (HS1.out _ (HTW.out _ (below_grow _ _)).2).mono ?_); rintro e W3 ⟨A3, c3, X3, rfl, hw3, hc3, hr3⟩; (rw [← hw3] at hr3); have hb3 : Below W1.heap.size W1 W3 := (by rw [hw3]; exact (by repeat (first | with_reducible exact Below.refl _ _ | (with_reducible refine Below.alloc ?_ (by first | omega | (simp [go_sem] <;> omega)) _) | (with_reducible refine Below.drew ?_) | (with_reducible refine Below.drewN ?_ _) | (with_reducible refine Below.grow ?_ (by first | omega | (simp [go_sem] <;> omega)) _) | (with_reducible refine Below.setCell ?_ (by first | omega | (simp [go_sem] <;> omega)) _)))); have HB3 := Lib.hid hb3; obtain ⟨d0, d1, d2, d3, d4⟩ := HE.out _ hb3; obtain ⟨b, off, rfl, hb, f0, f1, f2, f3⟩ := Rd.css (l := [⟨3, [], n, []⟩]) hr3 0 (by simp); simp only [List.getElem_cons_zero, Nat.zero_mul, Nat.add_zero, sv] at f0 f1 f2 f3; clear hw3 hr3 hb3)
    | (go_at_call 13; (with_reducible refine (HRt.out _ (HTW.out _ HB3.out).1 (HTW.out _ HB3.out).2).mono ?_); rintro e w' ⟨rfl, X5, rfl⟩)
    | (go_at_call 12; (with_reducible refine (HFg.out _ (HTW.out _ (Below.grow HB3.out HB3.out.size _)).1).mono ?_); rintro e w' ⟨rfl, X6, rfl⟩)
    | (go_at_call 11; (with_reducible refine (HS2'.out _ (HTW.out _ (Below.grow (Below.grow HB3.out HB3.out.size _) (Below.grow HB3.out HB3.out.size _).size _)).2).mono ?_); rintro e W9 ⟨A9, c9, X9, rfl, hw9, hc9, hr9⟩; (rw [← hw9] at hr9); have hb9 : Below W1.heap.size W1 W9 := (by rw [hw9]; exact Below.grow (Below.grow (Below.grow HB3.out HB3.out.size _) (Below.grow HB3.out HB3.out.size _).size _) (Below.grow (Below.grow HB3.out HB3.out.size _) (Below.grow HB3.out HB3.out.size _).size _).size _); have HB9 := Lib.hid hb9; obtain ⟨g0, g1, g2, g3, g4⟩ := HE.out _ hb9; obtain ⟨b9, off9, rfl, hb9', f5, f6, f7, f8⟩ := Rd.css (l := [⟨3, [], n, u⟩]) hr9 0 (by simp); simp only [List.getElem_cons_zero, Nat.zero_mul, Nat.add_zero, sv] at f5 f6 f7 f8; (rw [HU.out] at f8); clear hw9 hr9 hb9))
    refine wp_region_grow (by kernel_rfl) (by kernel_rfl) ?_
    repeat (go_big_quiet_step (fail))
    refine wpQuiet_nil ?_
    intro _ hw'; obtain ⟨nq, hw''⟩ := hw'; subst hw''
    go_wp2
    go_ret
    exact Ret.of rfl (below_next HB1.out (Below.grow HB9.out HB9.out.size _))

set_option maxRecDepth 100000 in
theorem lifted (os : Os) (started : os.Started) (H : Type) (enc : TypeId × Value → H) :
    ReturnsInHanded {} Tryd.checked os 5 .any (fun w args => (Rows.csstokNumbersSpec.pre enc Tryd.prog Tryd.f5 Rows.csstokNumbersRow.domain false w args ∧ laidMetH Tryd.prog Rows.csstokNumbersRow.laid w) ∧ sizedMet enc Tryd.prog Tryd.f5 (OpenSpec.ofChange Rows.csstokNumbersSpec) false w args) (Rows.csstokNumbersSpec.post enc Tryd.prog Tryd.f5 false true false false) := by
  refine handed_shape (C := Tryd.checked) (X := fun w _ => laidMetH Tryd.prog Rows.csstokNumbersRow.laid w) (fun _ _ _ hh h => h.of_heap hh) own started (by kernel_rfl) Tryd.func5
    (ChangeSpec.witness_shaped (enc := enc) (C := Tryd.checked) (os := os) (X := fun w _ => laidMetH Tryd.prog Rows.csstokNumbersRow.laid w) false (World.laidAll Tryd.prog os Rows.csstokNumbersRow.laid) #[.int .i64 0, .string ⟨#[]⟩] 8 (World.laidAll_os _ _ _)
      (World.shaped_of_ZipB (by kernel_rfl) (by kernel_rfl)) (by kernel_rfl) (by kernel_rfl) (by kernel_rfl)
      (by rw [MakeChecks.laidMetH_plain _ _ _ (by kernel_rfl)]; exact laidMet_laidAll _ (by kernel_rfl) (by kernel_rfl))) ?_
  intro W base args ds gs before hval0 hW hL hsh
  have hval : ∀ (j : Nat) t v, Tryd.f5.params[j]? = some t → args[j]? = some v → Value.okWide Tryd.prog W .any base t v := hval0
  have hW' := hW
  obtain ⟨p, q, hA0, hV, rfl, hfz, hnd⟩ := hW
  have hA : DataW.TrodAll enc Tryd.prog W 0 (fun _ => true) true Tryd.f5.params.toList args.toList ds p := hA0
  rw [Tryd.params5] at hA hval
  obtain ⟨v0, vs0, d0, ds0, p0, q0, hargs, rfl, rfl, h0, r0⟩ := trodAll_cons hA
  obtain ⟨v1, vs1, d1, ds1, p1, q1, rfl, rfl, rfl, h1, r1⟩ := trodAll_cons r0
  obtain ⟨rfl, rfl, rfl⟩ := trodAll_nil r1
  obtain rfl : args = #[v0, v1] := by cases args; simp_all
  obtain ⟨rfl, rfl⟩ := trodVars_none hV
  obtain ⟨a0, rfl, rfl, rfl, w0⟩ := open_int Tryd.underlying3 (hval 0 3 v0 rfl rfl) h0
  obtain ⟨s1, rfl, rfl, rfl, w1⟩ := open_string Tryd.underlying9 (hval 1 9 v1 rfl rfl) h1
  clear hA0 hval0
  refine (walk a0 s1 W (tb_laid hL (by rfl)) (mx_shape hsh) w0 w1).mono fun e W' hend => ?_
  obtain ⟨he, X, hX⟩ := hend
  have bel : Below W.heap.size W W' := by rw [hX]; exact below_grow W X
  subst he
  exact ⟨_, rfl, _, _, _, [], _, [], hW', trodAll_mk1 (shut_bool Tryd.underlying4 _), (trodAll_cons_mk (shut_int Tryd.underlying3 w0) (trodAll_cons_mk (shut_string Tryd.underlying9 w1) trodAll_mk0)), rfl, bel.frame _, fun h => by cases h⟩

theorem over : Rows.csstokNumbersRow.holds Tryd.pinned (OpenSpec.ofChange Rows.csstokNumbersSpec) :=
  OpenClaim.holds_of_wide 5 Tryd.f5 rfl rfl rfl rfl rfl rfl rfl ⟨rfl, rfl, rfl, rfl, rfl⟩ rfl rfl rfl rfl rfl (by kernel_rfl) Tryd.func5 (by kernel_rfl)
    (of_decide_eq_true (by kernel_rfl)) (by unfold Func.isWrapper; rw [if_neg (of_decide_eq_false (by kernel_rfl))]; exact ⟨rfl, rfl⟩)
    (fun os started H enc _ => lifted os started H enc)

/-- The statement. -/
theorem proved : Rows.CsstokNumbersCardSaid :=
  Claim7.holds_tied_plain_at .later [] [.data, .data, .data, .data, .pinned] true _ false over (fun _ h => by cases h) (by kernel_rfl) (fun _ h => by cases h) csstokNumbers_row_tie rfl ⟨rfl, rfl⟩ (by kernel_rfl) rfl
    (fun f fn hf hfn => by
      obtain rfl : f = 5 := Option.some.inj ((show Tryd.prog.funcNamed "cribble/cribblelaw13.CsstokNumbers" = some 5 by kernel_rfl).symm.trans hf) |>.symm
      obtain rfl : fn = Tryd.f5 := (Option.some.inj (Tryd.func5.symm.trans hfn)).symm
      exact ⟨by kernel_rfl, fun j t ht => by
        rw [Tryd.params5] at ht
        have hm : t ∈ [3, 9] := by simpa using Array.mem_of_getElem? ht
        have hall : ([3, 9].all fun u => !Tryd.prog.wantsStandIn u) = true := by kernel_rfl
        exact (show Tryd.prog.wantsStandIn t = false by simpa using List.all_eq_true.1 hall t hm)⟩)
    (by kernel_rfl)

end Go.Proofs.YtjaebdjlgohapaaDoor.csstokNumbers
