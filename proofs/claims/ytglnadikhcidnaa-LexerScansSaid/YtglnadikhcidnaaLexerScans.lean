/- The program splits every text into the pieces that the reference splits it into: LexerScans returns true. No condition: whatever the arguments. -/
import Derived.ProofKit
import Derived.ChangeSame
import Derived.ChangeAt
import Derived.SizedLaws
import Derived.OpenShut
import Derived.ShutString
import Derived.ChangeOld
import Derived.Test.YtglnadikhcidnaaRows
import Derived.Test.YtglnadikhcidnaaLexK
import Derived.Test.YtglnadikhcidnaaLexM
namespace Go.Proofs.Ytglnadikhcidnaa.lexerScans
open Go.ChangeShapes Go.WideShapes Go.ChangeAt Go.RowKit
open Go.ChangeMaps (open_string shut_string)

theorem own : ownKnob Try.prog.godebug = none := by kernel_rfl
theorem laidOut : laidOutB Try.prog = true := by kernel_rfl


set_option maxRecDepth 100000 in
set_option maxHeartbeats 4000000 in
theorem walk (s : ByteArray) (w : World) (_hm : s.size ≤ maxLen) : Calls Try.prog 3 #[.string s] w (Ret (.bool true) w) := by
  by_cases h9 : 9000 < s.size
  · have b9 : decide ((9000 : Int) < s.size) = true := by simp; omega
    clear h9 _hm
    go_enter Try.func3, Try.ntmps3
    go_wp2_with (go_at_call 9; refine (awake_any _).mono ?_; rintro e w' ⟨rfl, A, rfl⟩)
    go_ret
    exact Ret.of rfl (by repeat (first | with_reducible exact Below.refl _ _ | (with_reducible refine Below.alloc ?_ (by first | omega | (simp [go_sem] <;> omega)) _) | (with_reducible refine Below.drew ?_) | (with_reducible refine Below.drewN ?_ _) | (with_reducible refine Below.grow ?_ (by first | omega | (simp [go_sem] <;> omega)) _) | (with_reducible refine Below.setCell ?_ (by first | omega | (simp [go_sem] <;> omega)) _)))
  · have b9 : decide ((9000 : Int) < s.size) = false := by simp; omega
    by_cases h8 : 8192 < s.size
    · have H1 := Lib.hid (fun W => scan_full s W h8)
      have H2 := Lib.hid (fun W => rscan_full s W h8)
      clear h9 h8 _hm
      go_enter Try.func3, Try.ntmps3
      go_wp2_with (first | (go_at_call 9; refine (awake_any _).mono ?_; rintro e w' ⟨rfl, A, rfl⟩) | (go_at_call 10; (with_reducible refine (H1.out _).mono ?_); rintro e w' ⟨rfl, X1, rfl⟩) | (go_at_call 11; (with_reducible refine (H2.out _).mono ?_); rintro e w' ⟨rfl, X2, rfl⟩) | (go_at_call 12; refine (same_yes _ _ [] [] _ _ (Rd.nil _ _) (Rd.nil _ _) (LxEq.refl _ _)).mono ?_; rintro e w' ⟨rfl, X3, rfl⟩))
      go_ret
      exact Ret.of rfl (by repeat (first | with_reducible exact Below.refl _ _ | (with_reducible refine Below.alloc ?_ (by first | omega | (simp [go_sem] <;> omega)) _) | (with_reducible refine Below.drew ?_) | (with_reducible refine Below.drewN ?_ _) | (with_reducible refine Below.grow ?_ (by first | omega | (simp [go_sem] <;> omega)) _) | (with_reducible refine Below.setCell ?_ (by first | omega | (simp [go_sem] <;> omega)) _)))
    · have H1 := Lib.hid (fun W => show Calls Try.prog 10 #[.string s] W (scanP (scanL 0 s.data.toList) W) from scan_any s W (by omega))
      have H2 := Lib.hid (fun W => show Calls Try.prog 11 #[.string s] W (scanP (scanL 0 s.data.toList) W) from rscan_any s W (by omega))
      generalize scanL 0 s.data.toList = R at *
      clear h9 h8 _hm
      cases R with
      | ok l =>
        go_enter Try.func3, Try.ntmps3
        go_wp2_with (first | (go_at_call 9; refine (awake_any _).mono ?_; rintro e w' ⟨rfl, A, rfl⟩) | (go_at_call 10; (with_reducible refine (H1.out _).mono ?_); intro e w1 h1; obtain ⟨A1, c1, hb1, rfl, hr1⟩ := scanP_ok h1; have hb1 := Lib.hid hb1; have hr1 := Lib.hid hr1; clear h1) | (go_at_call 11; (with_reducible refine (H2.out _).mono ?_); intro e w2 h2; obtain ⟨A2, c2, hb2, rfl, hr2⟩ := scanP_ok h2; have hb2 := Lib.hid hb2; have hr2 := Lib.hid hr2; clear h2) | (go_at_call 12; refine (same_yes _ _ l l _ _ (hr1.out.below hb2.out rfl) hr2.out (LxEq.refl _ _)).mono ?_; rintro e w' ⟨rfl, X3, rfl⟩))
        go_ret
        exact Ret.of rfl (below_next (below_next (below_next (below_start w A) hb1.out) hb2.out) (below_start _ X3))
      | bad n =>
        go_enter Try.func3, Try.ntmps3
        go_wp2_with (first | (go_at_call 9; refine (awake_any _).mono ?_; rintro e w' ⟨rfl, A, rfl⟩) | (go_at_call 10; (with_reducible refine (H1.out _).mono ?_); intro e w1 h1; obtain ⟨_, hb1, rfl⟩ := h1; have hb1 := Lib.hid hb1) | (go_at_call 11; (with_reducible refine (H2.out _).mono ?_); intro e w2 h2; obtain ⟨_, hb2, rfl⟩ := h2; have hb2 := Lib.hid hb2) | (go_at_call 12; refine (same_yes _ _ [] [] _ _ (Rd.nil _ _) (Rd.nil _ _) (LxEq.refl _ _)).mono ?_; rintro e w' ⟨rfl, X3, rfl⟩))
        go_ret
        exact Ret.of rfl (below_next (below_next (below_next (below_start w A) hb1.out) hb2.out) (below_start _ X3))

set_option maxRecDepth 100000 in
theorem lifted (os : Os) (started : os.Started) (H : Type) (enc : TypeId × Value → H) :
    ReturnsInHanded {} Try.checked os 3 .any (Rows.lexerScansSpec.pre6 enc Try.prog Try.f3 Rows.lexerScansRow.domain false) (Rows.lexerScansSpec.post enc Try.prog Try.f3 false true false false) := by
  refine returnsInHanded_of_change (C := Try.checked) own started (by kernel_rfl) Try.func3
    (ChangeSpec.witness6 (enc := enc) (C := Try.checked) false ⟨#[], #[.string ⟨#[]⟩], []⟩ 8 (by kernel_rfl) (by kernel_rfl) (by kernel_rfl) (by kernel_rfl)) ?_
  intro W base args ds gs before hval0 hW hcnd _
  have hval : ∀ (j : Nat) t v, Try.f3.params[j]? = some t → args[j]? = some v → Value.okWide Try.prog W .any base t v := hval0
  have hW' := hW
  obtain ⟨p, q, hA0, hV, rfl, hfz, hnd⟩ := hW
  have hA : DataW.TrodAll enc Try.prog W 0 (fun _ => true) true Try.f3.params.toList args.toList ds p := hA0
  rw [Try.params3] at hA hval
  obtain ⟨v0, vs0, d0, ds0, p0, q0, hargs, rfl, rfl, h0, r0⟩ := trodAll_cons hA
  obtain ⟨rfl, rfl, rfl⟩ := trodAll_nil r0
  obtain rfl : args = #[v0] := by cases args; simp_all
  obtain ⟨rfl, rfl⟩ := trodVars_none hV
  obtain ⟨s0, rfl, rfl, rfl, w0⟩ := open_string Try.underlying9 (hval 0 9 v0 rfl rfl) h0
  clear hA0 hval0
  refine (walk s0 W w0).mono fun e W' hend => ?_
  obtain ⟨he, X, hX⟩ := hend
  have bel : Below W.heap.size W W' := by rw [hX]; exact below_grow W X
  subst he
  exact ⟨_, rfl, _, _, _, [], _, [], hW', trodAll_mk1 (shut_bool Try.underlying4 _), (trodAll_cons_mk (shut_string Try.underlying9 w0) trodAll_mk0), rfl, bel.frame _, fun h => by cases h⟩

theorem over : Rows.lexerScansRow.holds Try.pinned (OpenSpec.ofChange Rows.lexerScansSpec) :=
  OpenClaim.holds_of_wide 3 Try.f3 rfl rfl rfl rfl rfl rfl rfl ⟨rfl, rfl, rfl, rfl, rfl⟩ rfl rfl rfl rfl rfl (by kernel_rfl) Try.func3 (by kernel_rfl)
    (of_decide_eq_true (by kernel_rfl)) (by unfold Func.isWrapper; rw [if_neg (of_decide_eq_false (by kernel_rfl))]; exact ⟨rfl, rfl⟩)
    (fun os started H enc _ => lifted os started H enc)

/-- The statement. -/
theorem proved : Rows.LexerScansSaid := over

end Go.Proofs.Ytglnadikhcidnaa.lexerScans
