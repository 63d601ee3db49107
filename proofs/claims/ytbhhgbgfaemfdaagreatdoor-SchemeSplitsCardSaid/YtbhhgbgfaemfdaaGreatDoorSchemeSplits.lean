/- Any address cleaned, and its scheme, are what the reference says: SchemeSplits returns true. No condition: whatever the arguments. -/
import Derived.ProofKit
import Derived.ChangeSame
import Derived.ChangeAt
import Derived.SizedLaws
import Derived.OpenShut
import Derived.ShutString
import Derived.ChangeOld
import Derived.LaidMore
import Derived.Lay
import Derived.SevenTiedAt
import Derived.Stop.Joined
import Derived.Test.YtbhhgbgfaemfdaaGreatDoorRows
import Derived.Test.YtbhhgbgfaemfdaaGreatDoorCards
import Derived.Test.YtbhhgbgfaemfdaaGreatDoorTie
import Derived.Test.YtbhhgbgfaemfdaaGreatDoorSchH
import Derived.Test.YtbhhgbgfaemfdaaGreatDoorD2
namespace Go.Proofs.YtbhhgbgfaemfdaaGreatDoor.schemeSplits
open Go.ChangeShapes Go.WideShapes Go.ChangeAt Go.RowKit
open Go.ChangeMaps (open_string shut_string)

theorem own : ownKnob Tryz.prog.godebug = none := by kernel_rfl
theorem laidOut : laidOutB Tryz.prog = true := by kernel_rfl

attribute [local go_sem] Oper.semAt_some
set_option maxRecDepth 100000 in
set_option maxHeartbeats 8000000 in
theorem walk (s : ByteArray) (w : World) (hT : U8 w) (_hs : s.size ≤ maxLen) : Calls Tryz.prog 3 #[.string s] w (Ret (.bool true) w) := by
  have hmx : Tryz.prog.follows .mixedOrders = true := by kernel_rfl
  have HT := Lib.hid hT
  have HAw := Lib.hid (awake11_any w hT)
  clear hT
  by_cases h0 : 2000 < s.size
  · have b0 : decide ((2000 : Int) < s.size) = true := by simp; omega
    clear h0 _hs
    go_enter Tryz.func3, Tryz.ntmps3
    go_wp2_with (go_at_call 14; (with_reducible refine HAw.out.mono ?_); rintro e Wa ⟨rfl, Xa, rfl⟩)
    go_ret
    exact Ret.of rfl (by repeat (first | with_reducible exact Below.refl _ _ | (with_reducible refine Below.alloc ?_ (by first | omega | (simp [go_sem] <;> omega)) _) | (with_reducible refine Below.drew ?_) | (with_reducible refine Below.drewN ?_ _) | (with_reducible refine Below.grow ?_ (by first | omega | (simp [go_sem] <;> omega)) _) | (with_reducible refine Below.setCell ?_ (by first | omega | (simp [go_sem] <;> omega)) _)))
  have b0 : decide ((2000 : Int) < s.size) = false := by simp; omega
  have hm : s.size ≤ 35184372088832 := by omega
  have HSp := Lib.hid (fun W => split11_any s W (by omega))
  have HRs := Lib.hid (fun W => rsplit11_any s W (by omega))
  have HCl := Lib.hid (fun W (hb : Below w.heap.size w W) => clean11_any s W (HT.out.below hb) hm)
  have HRc := Lib.hid (fun W => rclean11_any s W hm)
  have HLo := Lib.hid (fun W => local11_any s W (by omega))
  have HRl := Lib.hid (fun W => rlocal11_any s W (by omega))
  have HHo := Lib.hid (fun W => show Calls Tryz.prog 21 #[.string s] W _ from holds_any s.data.toList W)
  have HRh := Lib.hid (fun W => show Calls Tryz.prog 22 #[.string s] W _ from rholds_any s.data.toList W)
  obtain ⟨R, hR⟩ : ∃ R, splitL s.data.toList = R := ⟨_, rfl⟩
  rw [hR] at HSp HRs
  generalize localL s.data.toList = LB at *
  generalize holdsB s.data.toList = HB at *
  generalize (⟨(cleanL s.data.toList).toArray⟩ : ByteArray) = cb at *
  obtain ⟨ra, rb, ri, hV⟩ : ∃ ra rb ri, splitV s R = .tuple #[.string ra, .string rb, .bool ri] := by
    cases R with
    | none => exact ⟨_, _, _, rfl⟩
    | some x => exact ⟨_, _, _, rfl⟩
  rw [hV] at HSp HRs
  clear hR hV hm h0 _hs
  go_enter Tryz.func3, Tryz.ntmps3
  go_wp2_with (first
    | (go_at_call 14; (with_reducible refine HAw.out.mono ?_); rintro e Wa ⟨rfl, Xa, rfl⟩)
    | (go_at_call 15; (with_reducible refine (Ret.flat (HSp.out _)).mono ?_); rintro e V1 ⟨rfl, Y1, rfl⟩)
    | (go_at_call 16; (with_reducible refine (Ret.flat (HRs.out _)).mono ?_); rintro e V2 ⟨rfl, Y2, rfl⟩)
    | (go_at_call 17; (with_reducible refine (Ret.flat (HCl.out _ (by (repeat (first | with_reducible exact Below.refl _ _ | (with_reducible refine Below.alloc ?_ (by first | omega | (simp [go_sem] <;> omega)) _) | (with_reducible refine Below.drew ?_) | (with_reducible refine Below.drewN ?_ _) | (with_reducible refine Below.grow ?_ (by first | omega | (simp [go_sem] <;> omega)) _) | (with_reducible refine Below.setCell ?_ (by first | omega | (simp [go_sem] <;> omega)) _))); done))).mono ?_); rintro e V3 ⟨rfl, Y3, rfl⟩)
    | (go_at_call 18; (with_reducible refine (Ret.flat (HRc.out _)).mono ?_); rintro e V4 ⟨rfl, Y4, rfl⟩)
    | (go_at_call 19; (with_reducible refine (Ret.flat (HLo.out _)).mono ?_); rintro e V5 ⟨rfl, Y5, rfl⟩)
    | (go_at_call 20; (with_reducible refine (Ret.flat (HRl.out _)).mono ?_); rintro e V6 ⟨rfl, Y6, rfl⟩)
    | (go_at_call 21; (with_reducible refine (Ret.flat (HHo.out _)).mono ?_); rintro e V7 ⟨rfl, Y7, rfl⟩)
    | (go_at_call 22; (with_reducible refine (Ret.flat (HRh.out _)).mono ?_); rintro e V8 ⟨rfl, Y8, rfl⟩))
  go_ret
  exact Ret.of rfl (by repeat (first | with_reducible exact Below.refl _ _ | (with_reducible refine Below.alloc ?_ (by first | omega | (simp [go_sem] <;> omega)) _) | (with_reducible refine Below.drew ?_) | (with_reducible refine Below.drewN ?_ _) | (with_reducible refine Below.grow ?_ (by first | omega | (simp [go_sem] <;> omega)) _) | (with_reducible refine Below.setCell ?_ (by first | omega | (simp [go_sem] <;> omega)) _)))
set_option maxRecDepth 100000 in
theorem lifted (os : Os) (started : os.Started) (H : Type) (enc : TypeId × Value → H) :
    ReturnsInHanded {} Tryz.checked os 3 .any (fun w args => (Rows.schemeSplitsSpec.pre enc Tryz.prog Tryz.f3 Rows.schemeSplitsRow.domain false w args ∧ laidMetH Tryz.prog Rows.schemeSplitsRow.laid w) ∧ sizedMet enc Tryz.prog Tryz.f3 (OpenSpec.ofChange Rows.schemeSplitsSpec) false w args) (Rows.schemeSplitsSpec.post enc Tryz.prog Tryz.f3 false true false false) := by
  refine handed11 (C := Tryz.checked) (X := fun w _ => laidMetH Tryz.prog Rows.schemeSplitsRow.laid w) (fun _ _ _ hh h => h.of_heap hh) own started (by kernel_rfl) Tryz.func3
    (ChangeSpec.witness_shaped (enc := enc) (C := Tryz.checked) (os := os) (X := fun w _ => laidMetH Tryz.prog Rows.schemeSplitsRow.laid w) false (World.laidAll Tryz.prog os Rows.schemeSplitsRow.laid) #[.string ⟨#[]⟩] 8 (World.laidAll_os _ _ _)
      (World.shaped_of_ZipB (by kernel_rfl) (by kernel_rfl)) (by kernel_rfl) (by kernel_rfl) (by kernel_rfl)
      (by rw [MakeChecks.laidMetH_plain _ _ _ (by kernel_rfl)]; exact laidMet_laidAll _ (by kernel_rfl) (by kernel_rfl))) ?_
  intro W base args ds gs before hval0 hW hL _
  have hval : ∀ (j : Nat) t v, Tryz.f3.params[j]? = some t → args[j]? = some v → Value.okWide Tryz.prog W .any base t v := hval0
  have hW' := hW
  obtain ⟨p, q, hA0, hV, rfl, hfz, hnd⟩ := hW
  have hA : DataW.TrodAll enc Tryz.prog W 0 (fun _ => true) true Tryz.f3.params.toList args.toList ds p := hA0
  rw [Tryz.params3] at hA hval
  obtain ⟨v0, vs0, d0, ds0, p0, q0, hargs, rfl, rfl, h0, r0⟩ := trodAll_cons hA
  obtain ⟨rfl, rfl, rfl⟩ := trodAll_nil r0
  obtain rfl : args = #[v0] := by cases args; simp_all
  obtain ⟨rfl, rfl⟩ := trodVars_none hV
  obtain ⟨s0, rfl, rfl, rfl, w0⟩ := open_string Tryz.underlying9 (hval 0 9 v0 rfl rfl) h0
  clear hA0 hval0
  refine (walk s0 W (u8_laid hL (by rfl)) w0).mono fun e W' hend => ?_
  obtain ⟨he, X, hX⟩ := hend
  have bel : Below W.heap.size W W' := by rw [hX]; exact below_grow W X
  subst he
  exact ⟨_, rfl, _, _, _, [], _, [], hW', trodAll_mk1 (shut_bool Tryz.underlying4 _), (trodAll_cons_mk (shut_string Tryz.underlying9 w0) trodAll_mk0), rfl, bel.frame _, fun h => by cases h⟩

theorem over : Rows.schemeSplitsRow.holds Tryz.pinned (OpenSpec.ofChange Rows.schemeSplitsSpec) :=
  OpenClaim.holds_of_wide 3 Tryz.f3 rfl rfl rfl rfl rfl rfl rfl ⟨rfl, rfl, rfl, rfl, rfl⟩ rfl rfl rfl rfl rfl (by kernel_rfl) Tryz.func3 (by kernel_rfl)
    (of_decide_eq_true (by kernel_rfl)) (by unfold Func.isWrapper; rw [if_neg (of_decide_eq_false (by kernel_rfl))]; exact ⟨rfl, rfl⟩)
    (fun os started H enc _ => lifted os started H enc)

/-- The statement. -/
theorem proved : Rows.SchemeSplitsCardSaid :=
  Claim7.holds_tied_plain_at .later [] [.data, .pinned] true _ true over (fun _ h => by cases h) (by kernel_rfl) (fun _ h => by cases h) schemeSplits_row_tie rfl ⟨rfl, rfl⟩ (by kernel_rfl) rfl
    (fun f fn hf hfn => by
      obtain rfl : f = 3 := Option.some.inj ((show Tryz.prog.funcNamed "cribble/cribblelaw11.SchemeSplits" = some 3 by kernel_rfl).symm.trans hf) |>.symm
      obtain rfl : fn = Tryz.f3 := (Option.some.inj (Tryz.func3.symm.trans hfn)).symm
      exact ⟨by kernel_rfl, fun j t ht => by
        rw [Tryz.params3] at ht
        have hm : t ∈ [9] := by simpa using Array.mem_of_getElem? ht
        have hall : ([9].all fun u => !Tryz.prog.wantsStandIn u) = true := by kernel_rfl
        exact (show Tryz.prog.wantsStandIn t = false by simpa using List.all_eq_true.1 hall t hm)⟩)
    (by kernel_rfl)

end Go.Proofs.YtbhhgbgfaemfdaaGreatDoor.schemeSplits
