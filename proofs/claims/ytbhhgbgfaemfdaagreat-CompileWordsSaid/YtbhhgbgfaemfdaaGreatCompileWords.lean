/- Of any word, whether it is denied, unsafe, or void, is what the reference says: CompileWords returns true. No condition: whatever the arguments. -/
import Derived.ProofKit
import Derived.ChangeSame
import Derived.ChangeAt
import Derived.SizedLaws
import Derived.OpenShut
import Derived.ShutString
import Derived.ChangeOld
import Derived.JoinedCond
import Derived.Test.YtbhhgbgfaemfdaaGreatRows
import Derived.Test.YtbhhgbgfaemfdaaGreatCmpM
import Derived.Test.YtbhhgbgfaemfdaaGreatCmpN
namespace Go.Proofs.YtbhhgbgfaemfdaaGreat.compileWords
open Go.ChangeShapes Go.WideShapes Go.ChangeAt Go.RowKit
open Go.ChangeMaps (open_string shut_string)
theorem own : ownKnob Tryz.prog.godebug = none := by kernel_rfl
theorem laidOut : laidOutB Tryz.prog = true := by kernel_rfl
attribute [local go_sem] Oper.semAt_some
theorem str_bsW (s : ByteArray) : sv s.data.toList = .string s := rfl
set_option maxRecDepth 100000 in
set_option maxHeartbeats 4000000 in
theorem walk (s : ByteArray) (w : World) (_hs : s.size ≤ maxLen) : Calls Tryz.prog 6 #[.string s] w (Ret (.bool true) w) := by
 by_cases h1 : 500 < s.size
 ·have b1 : decide ((500 : Int) < s.size) = true := by simp; omega
  clear h1 _hs
  go_enter Tryz.func6, Tryz.ntmps6
  go_wp2_with (go_at_call 8; (with_reducible refine (awake10_any _).mono ?_); rintro e Wa ⟨rfl, Xa, rfl⟩)
  go_ret
  exact Ret.of rfl (by (repeat with_reducible first | exact Below.refl _ _ | refine Below.drew ?_ | refine Below.drewN ?_ _ | refine Below.alloc ?_ ?_ _ | refine Below.grow ?_ ?_ _ | refine Below.setCell ?_ ?_ _); all_goals first | omega | (simp [go_sem] <;> omega))
 have b1 : decide ((500 : Int) < s.size) = false := by simp; omega
 have hl : s.data.toList.length ≤ 1000000 := by
  have : s.data.toList.length = s.size := by rw [Array.length_toList]; rfl
  omega
 have HD := Lib.hid (fun W => show Calls Tryz.prog 14 #[.string s] W _ from denied_any s.data.toList W)
 have HE := Lib.hid (fun W => show Calls Tryz.prog 23 #[.string s] W _ from rdenied10_any s.data.toList W)
 have HU := Lib.hid (fun W => show Calls Tryz.prog 13 #[.string s] W _ from unsafe_any s.data.toList W)
 have HV := Lib.hid (fun W => show Calls Tryz.prog 24 #[.string s] W _ from runsafe10_any s.data.toList W hl)
 have HX := Lib.hid (fun W => show Calls Tryz.prog 25 #[.string s] W _ from void_any s.data.toList W)
 have HY := Lib.hid (fun W => show Calls Tryz.prog 26 #[.string s] W _ from rvoid10_any s.data.toList W)
 generalize deniedB s.data.toList = D at *
 generalize unsafeB s.data.toList = U at *
 generalize voidB s.data.toList = V at *
 clear hl h1 _hs
 go_enter Tryz.func6, Tryz.ntmps6
 go_wp2_with (first
  | (go_at_call 8; (with_reducible refine (awake10_any _).mono ?_); rintro e Wa ⟨rfl, Xa, rfl⟩)
  | (go_at_call 14; (with_reducible refine (Ret.flat (HD.out _)).mono ?_); rintro e V1 ⟨rfl, Y1, rfl⟩)
  | (go_at_call 23; (with_reducible refine (Ret.flat (HE.out _)).mono ?_); rintro e V2 ⟨rfl, Y2, rfl⟩)
  | (go_at_call 13; (with_reducible refine (Ret.flat (HU.out _)).mono ?_); rintro e V3 ⟨rfl, Y3, rfl⟩)
  | (go_at_call 24; (with_reducible refine (Ret.flat (HV.out _)).mono ?_); rintro e V4 ⟨rfl, Y4, rfl⟩)
  | (go_at_call 25; (with_reducible refine (Ret.flat (HX.out _)).mono ?_); rintro e V5 ⟨rfl, Y5, rfl⟩)
  | (go_at_call 26; (with_reducible refine (Ret.flat (HY.out _)).mono ?_); rintro e V6 ⟨rfl, Y6, rfl⟩))
 go_ret
 exact Ret.of rfl (by (repeat with_reducible first | exact Below.refl _ _ | refine Below.drew ?_ | refine Below.drewN ?_ _ | refine Below.alloc ?_ ?_ _ | refine Below.grow ?_ ?_ _ | refine Below.setCell ?_ ?_ _); all_goals first | omega | (simp [go_sem] <;> omega))
set_option maxRecDepth 100000 in
theorem lifted (os : Os) (started : os.Started) (H : Type) (enc : TypeId × Value → H) :
  ReturnsInHanded {} Tryz.checked os 6 .any (Rows.compileWordsSpec.pre6 enc Tryz.prog Tryz.f6 Rows.compileWordsRow.domain false) (Rows.compileWordsSpec.post enc Tryz.prog Tryz.f6 false true false false) := by
 refine returnsInHanded_of_change (C := Tryz.checked) own started (by kernel_rfl) Tryz.func6
  (ChangeSpec.witness6 (enc := enc) (C := Tryz.checked) false ⟨#[], #[.string ⟨#[]⟩], []⟩ 8 (by kernel_rfl) (by kernel_rfl) (by kernel_rfl) (by kernel_rfl)) ?_
 intro W base args ds gs before hval0 hW hcnd _
 have hval : ∀ (j : Nat) t v, Tryz.f6.params[j]? = some t → args[j]? = some v → Value.okWide Tryz.prog W .any base t v := hval0
 have hW' := hW
 obtain ⟨p, q, hA0, hV, rfl, hfz, hnd⟩ := hW
 have hA : DataW.TrodAll enc Tryz.prog W 0 (fun _ => true) true Tryz.f6.params.toList args.toList ds p := hA0
 rw [Tryz.params6] at hA hval
 obtain ⟨v0, vs0, d0, ds0, p0, q0, hargs, rfl, rfl, h0, r0⟩ := trodAll_cons hA
 obtain ⟨rfl, rfl, rfl⟩ := trodAll_nil r0
 obtain rfl : args = #[v0] := by cases args; simp_all
 obtain ⟨rfl, rfl⟩ := trodVars_none hV
 obtain ⟨s0, rfl, rfl, rfl, w0⟩ := open_string Tryz.underlying9 (hval 0 9 v0 rfl rfl) h0
 clear hA0 hval0
 refine (walk s0 W w0).mono fun e W' hend => ?_
 obtain ⟨he, X, hX⟩ := hend
 have bel : Below W.heap.size W W' := by rw [hX]; exact below_grow W X
 subst he
 exact ⟨_, rfl, _, _, _, [], _, [], hW', trodAll_mk1 (shut_bool Tryz.underlying4 _), (trodAll_cons_mk (shut_string Tryz.underlying9 w0) trodAll_mk0), rfl, bel.frame _, fun h => by cases h⟩
theorem over : Rows.compileWordsRow.holds Tryz.pinned (OpenSpec.ofChange Rows.compileWordsSpec) :=
 OpenClaim.holds_of_wide 6 Tryz.f6 rfl rfl rfl rfl rfl rfl rfl ⟨rfl, rfl, rfl, rfl, rfl⟩ rfl rfl rfl rfl rfl (by kernel_rfl) Tryz.func6 (by kernel_rfl)
  (of_decide_eq_true (by kernel_rfl)) (by unfold Func.isWrapper; rw [if_neg (of_decide_eq_false (by kernel_rfl))]; exact ⟨rfl, rfl⟩)
  (fun os started H enc _ => lifted os started H enc)
theorem proved : Rows.CompileWordsSaid := over
end Go.Proofs.YtbhhgbgfaemfdaaGreat.compileWords

