/- The program parses every text into the pictures that the reference parses it into, and tells of each whether it is a size as the reference does: SrcsetParses returns true. No condition: whatever the arguments; the row lists two tables of Go's library, which the card ties to the program's text. -/
import Derived.ProofKit
import Derived.ChangeSame
import Derived.ChangeAt
import Derived.SizedLaws
import Derived.OpenShut
import Derived.ShutString
import Derived.ChangeOld
import Derived.LaidMore
import Derived.Lay
import Derived.SevenTiedAt
import Derived.Stop.Joined
import Derived.Test.YtgoioaobknjmcaaDoorRows
import Derived.Test.YtgoioaobknjmcaaDoorCards
import Derived.Test.YtgoioaobknjmcaaDoorTie
import Derived.Test.YtgoioaobknjmcaaDoorSrcT
namespace Go.Proofs.YtgoioaobknjmcaaDoor.srcsetParses
open Go.ChangeShapes Go.WideShapes Go.ChangeAt Go.RowKit
open Go.ChangeMaps (open_string shut_string)

theorem own : ownKnob Tryd.prog.godebug = none := by kernel_rfl
theorem laidOut : laidOutB Tryd.prog = true := by kernel_rfl


set_option maxRecDepth 100000 in
set_option maxHeartbeats 4000000 in
theorem walk (s : ByteArray) (w : World) (_hm : s.size ≤ maxLen) : Calls Tryd.prog 3 #[.string s] w (Ret (.bool true) w) := by
  have hmx : Tryd.prog.follows .mixedOrders = true := by kernel_rfl
  by_cases h9 : 1000 < s.size
  · have b9 : decide ((1000 : Int) < s.size) = true := by simp; omega
    clear h9 _hm
    go_enter Tryd.func3, Tryd.ntmps3
    go_wp2_with (go_at_call 7; refine (awake_any _).mono ?_; rintro e w' ⟨rfl, A0, rfl⟩)
    go_ret
    exact Ret.of rfl (by repeat (first | with_reducible exact Below.refl _ _ | (with_reducible refine Below.alloc ?_ (by first | omega | (simp [go_sem] <;> omega)) _) | (with_reducible refine Below.drew ?_) | (with_reducible refine Below.drewN ?_ _) | (with_reducible refine Below.grow ?_ (by first | omega | (simp [go_sem] <;> omega)) _) | (with_reducible refine Below.setCell ?_ (by first | omega | (simp [go_sem] <;> omega)) _)))
  · have b9 : decide ((1000 : Int) < s.size) = false := by simp; omega
    obtain ⟨⟨t⟩⟩ := s
    have ht : t.length ≤ 1000 := by
      have : (⟨⟨t⟩⟩ : ByteArray).size = t.length := rfl
      omega
    have HP := Lib.hid (fun W => parse_any t W (by omega))
    have HQ := Lib.hid (fun W => rparse_any t W (by omega))
    have HZ := Lib.hid (fun W => sizeok_any t W (by omega))
    have HY := Lib.hid (fun W => rsizeok_any t W (by omega))
    obtain ⟨S, hS⟩ : ∃ S : ByteArray, ⟨t.toArray⟩ = S := ⟨_, rfl⟩
    have hS2 : (⟨⟨t⟩⟩ : ByteArray) = S := hS
    rw [hS2] at b9 ⊢
    rw [hS] at HP HQ HZ HY
    generalize picL t = L at *
    generalize sizeB t = z at *
    clear h9 _hm hS hS2 ht
    go_enter Tryd.func3, Tryd.ntmps3
    go_wp2_with (first | (go_at_call 7; refine (awake_any _).mono ?_; rintro e w' ⟨rfl, A0, rfl⟩) | (go_at_call 9; (with_reducible refine (HP.out _).mono ?_); rintro e w' ⟨A1, c1, X1, rfl, rfl, hc1, hr1⟩; have HR1 := Lib.hid hr1; clear hr1) | (go_at_call 10; (with_reducible refine (HQ.out _).mono ?_); rintro e w' ⟨A2, c2, X2, rfl, rfl, hc2, hr2⟩; have HR2 := Lib.hid hr2; clear hr2) | (go_at_call 8; refine (same_any _ _ _ _ _ _ L L _ (HR1.out.grow X2) HR2.out).mono ?_; rintro e w' ⟨rfl, X3, rfl⟩) | (go_at_call 11; (with_reducible refine (HZ.out _).mono ?_); rintro e w' ⟨rfl, X4, rfl⟩) | (go_at_call 12; (with_reducible refine (HY.out _).mono ?_); rintro e w' ⟨rfl, rfl⟩))
    go_ret
    exact Ret.of rfl (by repeat (first | with_reducible exact Below.refl _ _ | (with_reducible refine Below.alloc ?_ (by first | omega | (simp [go_sem] <;> omega)) _) | (with_reducible refine Below.drew ?_) | (with_reducible refine Below.drewN ?_ _) | (with_reducible refine Below.grow ?_ (by first | omega | (simp [go_sem] <;> omega)) _) | (with_reducible refine Below.setCell ?_ (by first | omega | (simp [go_sem] <;> omega)) _)))

set_option maxRecDepth 100000 in
theorem lifted (os : Os) (started : os.Started) (H : Type) (enc : TypeId × Value → H) :
    ReturnsInHanded {} Tryd.checked os 3 .any (fun w args => (Rows.srcsetParsesSpec.pre enc Tryd.prog Tryd.f3 Rows.srcsetParsesRow.domain false w args ∧ laidMetH Tryd.prog Rows.srcsetParsesRow.laid w) ∧ sizedMet enc Tryd.prog Tryd.f3 (OpenSpec.ofChange Rows.srcsetParsesSpec) false w args) (Rows.srcsetParsesSpec.post enc Tryd.prog Tryd.f3 false true false false) := by
  refine returnsInHanded_of_change_and (C := Tryd.checked) (X := fun w _ => laidMetH Tryd.prog Rows.srcsetParsesRow.laid w) (fun _ _ _ hh h => h.of_heap hh) own started (by kernel_rfl) Tryd.func3
    (ChangeSpec.witness_shaped (enc := enc) (C := Tryd.checked) (os := os) (X := fun w _ => laidMetH Tryd.prog Rows.srcsetParsesRow.laid w) false (World.laidAll Tryd.prog os Rows.srcsetParsesRow.laid) #[.string ⟨#[]⟩] 8 (World.laidAll_os _ _ _)
      (World.shaped_of_ZipB (by kernel_rfl) (by kernel_rfl)) (by kernel_rfl) (by kernel_rfl) (by kernel_rfl)
      (by rw [MakeChecks.laidMetH_plain _ _ _ (by kernel_rfl)]; exact laidMet_laidAll _ (by kernel_rfl) (by kernel_rfl))) ?_
  intro W base args ds gs before hval0 hW hcnd hsz0 _ _
  have hval : ∀ (j : Nat) t v, Tryd.f3.params[j]? = some t → args[j]? = some v → Value.okWide Tryd.prog W .any base t v := hval0
  have hW' := hW
  obtain ⟨p, q, hA0, hV, rfl, hfz, hnd⟩ := hW
  have hA : DataW.TrodAll enc Tryd.prog W 0 (fun _ => true) true Tryd.f3.params.toList args.toList ds p := hA0
  rw [Tryd.params3] at hA hval
  obtain ⟨v0, vs0, d0, ds0, p0, q0, hargs, rfl, rfl, h0, r0⟩ := trodAll_cons hA
  obtain ⟨rfl, rfl, rfl⟩ := trodAll_nil r0
  obtain rfl : args = #[v0] := by cases args; simp_all
  obtain ⟨rfl, rfl⟩ := trodVars_none hV
  obtain ⟨s0, rfl, rfl, rfl, w0⟩ := open_string Tryd.underlying9 (hval 0 9 v0 rfl rfl) h0
  clear hA0 hval0
  refine (walk s0 W w0).mono fun e W' hend => ?_
  obtain ⟨he, X, hX⟩ := hend
  have bel : Below W.heap.size W W' := by rw [hX]; exact below_grow W X
  subst he
  exact ⟨_, rfl, _, _, _, [], _, [], hW', trodAll_mk1 (shut_bool Tryd.underlying4 _), (trodAll_cons_mk (shut_string Tryd.underlying9 w0) trodAll_mk0), rfl, bel.frame _, fun h => by cases h⟩

theorem over : Rows.srcsetParsesRow.holds Tryd.pinned (OpenSpec.ofChange Rows.srcsetParsesSpec) :=
  OpenClaim.holds_of_wide 3 Tryd.f3 rfl rfl rfl rfl rfl rfl rfl ⟨rfl, rfl, rfl, rfl, rfl⟩ rfl rfl rfl rfl rfl (by kernel_rfl) Tryd.func3 (by kernel_rfl)
    (of_decide_eq_true (by kernel_rfl)) (by unfold Func.isWrapper; rw [if_neg (of_decide_eq_false (by kernel_rfl))]; exact ⟨rfl, rfl⟩)
    (fun os started H enc _ => lifted os started H enc)

/-- The statement. -/
theorem proved : Rows.SrcsetParsesCardSaid :=
  Claim7.holds_tied_plain_at .later [] [.data, .pinned] true _ false over (fun _ h => by cases h) (by kernel_rfl) (fun _ h => by cases h) srcsetParses_row_tie rfl ⟨rfl, rfl⟩ (by kernel_rfl) rfl
    (fun f fn hf hfn => by
      obtain rfl : f = 3 := Option.some.inj ((show Tryd.prog.funcNamed "cribble/cribblelaw12.SrcsetParses" = some 3 by kernel_rfl).symm.trans hf) |>.symm
      obtain rfl : fn = Tryd.f3 := (Option.some.inj (Tryd.func3.symm.trans hfn)).symm
      exact ⟨by kernel_rfl, fun j t ht => by
        rw [Tryd.params3] at ht
        have hm : t ∈ [9] := by simpa using Array.mem_of_getElem? ht
        have hall : ([9].all fun u => !Tryd.prog.wantsStandIn u) = true := by kernel_rfl
        exact (show Tryd.prog.wantsStandIn t = false by simpa using List.all_eq_true.1 hall t hm)⟩)
    (by kernel_rfl)

end Go.Proofs.YtgoioaobknjmcaaDoor.srcsetParses
