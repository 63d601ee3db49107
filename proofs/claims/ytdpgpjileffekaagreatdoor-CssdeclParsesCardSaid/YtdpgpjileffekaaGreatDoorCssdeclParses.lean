/- The declarations of any text are those of the reference: CssdeclParses returns true. No condition: whatever the arguments; the row lists tables of Go's library, which the card ties to the program's text. -/
import Derived.ProofKit
import Derived.ChangeSame
import Derived.ChangeAt
import Derived.SizedLaws
import Derived.OpenShut
import Derived.ShutString
import Derived.ChangeOld
import Derived.LaidMore
import Derived.Lay
import Derived.SevenTiedAt
import Derived.Stop.Joined
import Derived.Test.YtdpgpjileffekaaGreatDoorRows
import Derived.Test.YtdpgpjileffekaaGreatDoorCards
import Derived.Test.YtdpgpjileffekaaGreatDoorTie
import Derived.Test.YtdpgpjileffekaaGreatDoorCssOpen
import Derived.Test.YtdpgpjileffekaaGreatDoorDecQ
import Derived.Test.YtdpgpjileffekaaGreatDoorDecR
namespace Go.Proofs.YtdpgpjileffekaaGreatDoor.cssdeclParses
open Go.ChangeShapes Go.WideShapes Go.ChangeAt Go.RowKit
open Go.ChangeMaps (open_string shut_string)

theorem own : ownKnob Tryz.prog.godebug = none := by kernel_rfl
theorem laidOut : laidOutB Tryz.prog = true := by kernel_rfl


set_option maxRecDepth 100000 in
set_option maxHeartbeats 8000000 in
theorem walk (s : ByteArray) (w : World) (hT : Tb w) (hX : Mx w) (_hm : s.size ≤ maxLen) : Calls Tryz.prog 3 #[.string s] w (Ret (.bool true) w) := by
  have hmx : Tryz.prog.follows .mixedOrders = true := by kernel_rfl
  have HTB := Lib.hid hT
  have HMX := Lib.hid hX
  clear hT hX _hm
  by_cases h9 : 1000 < s.size
  · have b9 : decide ((1000 : Int) < s.size) = true := by simp; omega
    clear h9
    go_enter Tryz.func3, Tryz.ntmps3
    go_wp2_with (go_at_call 8; refine (awake14_any _ HTB.out HMX.out).mono ?_; rintro e w' ⟨rfl, A0, rfl⟩)
    go_ret
    exact Ret.of rfl (by repeat (first | with_reducible exact Below.refl _ _ | (with_reducible refine Below.alloc ?_ (by first | omega | (simp [go_sem] <;> omega)) _) | (with_reducible refine Below.drew ?_) | (with_reducible refine Below.drewN ?_ _) | (with_reducible refine Below.grow ?_ (by first | omega | (simp [go_sem] <;> omega)) _) | (with_reducible refine Below.setCell ?_ (by first | omega | (simp [go_sem] <;> omega)) _)))
  have b9 : decide ((1000 : Int) < s.size) = false := by simp; omega
  obtain ⟨⟨s0⟩⟩ := s
  have hs0 : s0.length ≤ 1000 := by
    have : (⟨⟨s0⟩⟩ : ByteArray).size = s0.length := rfl
    omega
  have HP := Lib.hid (fun W (hB : Below w.heap.size w W) => show Calls Tryz.prog 10 #[.string ⟨⟨s0⟩⟩] W (RetD W (declsL (cssL s0))) from by
    obtain ⟨X, rfl⟩ := grow_of_below hB
    exact parse_any s0 (w.grow X) (HMX.out.grow X) (by omega))
  have HP2 := Lib.hid (fun W => show Calls Tryz.prog 11 #[.string ⟨⟨s0⟩⟩] W (RetD W (declsL (cssL s0))) from rparse_any s0 W (by omega))
  have HSa := Lib.hid (fun (W : World) (A1 A2 : Option Addr) (n1 n2 c1 c2 : Nat) (ha : RdD W (.slice A1 n1 c1) (declsL (cssL s0))) (hb : RdD W (.slice A2 n2 c2) (declsL (cssL s0))) => show Calls Tryz.prog 9 #[.slice A1 n1 c1, .slice A2 n2 c2] W (Ret (.bool true) W) from by
    have := dsame_any A1 A2 _ _ c1 c2 _ _ W ha hb
    rwa [decide_eq_true rfl] at this)
  clear hs0 h9
  generalize declsL (cssL s0) = M at *
  generalize (⟨⟨s0⟩⟩ : ByteArray) = s at *
  go_enter Tryz.func3, Tryz.ntmps3
  go_wp2_with (first
    | (go_at_call 8; refine (awake14_any _ HTB.out HMX.out).mono ?_; rintro e w' ⟨rfl, A0, rfl⟩)
    | (go_at_call 10; (with_reducible refine (HP.out _ (by repeat (first | with_reducible exact Below.refl _ _ | (with_reducible refine Below.alloc ?_ (by first | omega | (simp [go_sem] <;> omega)) _) | (with_reducible refine Below.drew ?_) | (with_reducible refine Below.drewN ?_ _) | (with_reducible refine Below.grow ?_ (by first | omega | (simp [go_sem] <;> omega)) _) | (with_reducible refine Below.setCell ?_ (by first | omega | (simp [go_sem] <;> omega)) _)))).mono ?_); rintro e w' ⟨A2, c2, X2, rfl, rfl, hc2, _, hr2⟩; have HR2 := Lib.hid hr2; clear hr2)
    | (go_at_call 11; (with_reducible refine (HP2.out _).mono ?_); rintro e w' ⟨A3, c3, X3, rfl, rfl, hc3, _, hr3⟩; have HR3 := Lib.hid hr3; clear hr3)
    | (go_at_call 9; (with_reducible refine (HSa.out _ _ _ _ _ _ _ (HR2.out.grow _) HR3.out).mono ?_); rintro e w' ⟨rfl, X4, rfl⟩))
  go_ret
  exact Ret.of rfl (by repeat (first | with_reducible exact Below.refl _ _ | (with_reducible refine Below.alloc ?_ (by first | omega | (simp [go_sem] <;> omega)) _) | (with_reducible refine Below.drew ?_) | (with_reducible refine Below.drewN ?_ _) | (with_reducible refine Below.grow ?_ (by first | omega | (simp [go_sem] <;> omega)) _) | (with_reducible refine Below.setCell ?_ (by first | omega | (simp [go_sem] <;> omega)) _)))

set_option maxRecDepth 100000 in
theorem lifted (os : Os) (started : os.Started) (H : Type) (enc : TypeId × Value → H) :
    ReturnsInHanded {} Tryz.checked os 3 .any (fun w args => (Rows.cssdeclParsesSpec.pre enc Tryz.prog Tryz.f3 Rows.cssdeclParsesRow.domain false w args ∧ laidMetH Tryz.prog Rows.cssdeclParsesRow.laid w) ∧ sizedMet enc Tryz.prog Tryz.f3 (OpenSpec.ofChange Rows.cssdeclParsesSpec) false w args) (Rows.cssdeclParsesSpec.post enc Tryz.prog Tryz.f3 false true false false) := by
  refine handed_shape (C := Tryz.checked) (X := fun w _ => laidMetH Tryz.prog Rows.cssdeclParsesRow.laid w) (fun _ _ _ hh h => h.of_heap hh) own started (by kernel_rfl) Tryz.func3
    (ChangeSpec.witness_shaped (enc := enc) (C := Tryz.checked) (os := os) (X := fun w _ => laidMetH Tryz.prog Rows.cssdeclParsesRow.laid w) false (World.laidAll Tryz.prog os Rows.cssdeclParsesRow.laid) #[.string ⟨#[]⟩] 8 (World.laidAll_os _ _ _)
      (World.shaped_of_ZipB (by kernel_rfl) (by kernel_rfl)) (by kernel_rfl) (by kernel_rfl) (by kernel_rfl)
      (by rw [MakeChecks.laidMetH_plain _ _ _ (by kernel_rfl)]; exact laidMet_laidAll _ (by kernel_rfl) (by kernel_rfl))) ?_
  intro W base args ds gs before hval0 hW hL hsh
  have hval : ∀ (j : Nat) t v, Tryz.f3.params[j]? = some t → args[j]? = some v → Value.okWide Tryz.prog W .any base t v := hval0
  have hW' := hW
  obtain ⟨p, q, hA0, hV, rfl, hfz, hnd⟩ := hW
  have hA : DataW.TrodAll enc Tryz.prog W 0 (fun _ => true) true Tryz.f3.params.toList args.toList ds p := hA0
  rw [Tryz.params3] at hA hval
  obtain ⟨v0, vs0, d0, ds0, p0, q0, hargs, rfl, rfl, h0, r0⟩ := trodAll_cons hA
  obtain ⟨rfl, rfl, rfl⟩ := trodAll_nil r0
  obtain rfl : args = #[v0] := by cases args; simp_all
  obtain ⟨rfl, rfl⟩ := trodVars_none hV
  obtain ⟨s0, rfl, rfl, rfl, w0⟩ := open_string Tryz.underlying9 (hval 0 9 v0 rfl rfl) h0
  clear hA0 hval0
  refine (walk s0 W (tb_laid hL (by rfl)) (mx_shape hsh) w0).mono fun e W' hend => ?_
  obtain ⟨he, X, hX⟩ := hend
  have bel : Below W.heap.size W W' := by rw [hX]; exact below_grow W X
  subst he
  exact ⟨_, rfl, _, _, _, [], _, [], hW', trodAll_mk1 (shut_bool Tryz.underlying4 _), (trodAll_cons_mk (shut_string Tryz.underlying9 w0) trodAll_mk0), rfl, bel.frame _, fun h => by cases h⟩

theorem over : Rows.cssdeclParsesRow.holds Tryz.pinned (OpenSpec.ofChange Rows.cssdeclParsesSpec) :=
  OpenClaim.holds_of_wide 3 Tryz.f3 rfl rfl rfl rfl rfl rfl rfl ⟨rfl, rfl, rfl, rfl, rfl⟩ rfl rfl rfl rfl rfl (by kernel_rfl) Tryz.func3 (by kernel_rfl)
    (of_decide_eq_true (by kernel_rfl)) (by unfold Func.isWrapper; rw [if_neg (of_decide_eq_false (by kernel_rfl))]; exact ⟨rfl, rfl⟩)
    (fun os started H enc _ => lifted os started H enc)

/-- The statement. -/
theorem proved : Rows.CssdeclParsesCardSaid :=
  Claim7.holds_tied_plain_at .later [] [.data, .data, .data, .data, .pinned] true _ false over (fun _ h => by cases h) (by kernel_rfl) (fun _ h => by cases h) cssdeclParses_row_tie rfl ⟨rfl, rfl⟩ (by kernel_rfl) rfl
    (fun f fn hf hfn => by
      obtain rfl : f = 3 := Option.some.inj ((show Tryz.prog.funcNamed "cribble/cribblelaw14.CssdeclParses" = some 3 by kernel_rfl).symm.trans hf) |>.symm
      obtain rfl : fn = Tryz.f3 := (Option.some.inj (Tryz.func3.symm.trans hfn)).symm
      exact ⟨by kernel_rfl, fun j t ht => by
        rw [Tryz.params3] at ht
        have hm : t ∈ [9] := by simpa using Array.mem_of_getElem? ht
        have hall : ([9].all fun u => !Tryz.prog.wantsStandIn u) = true := by kernel_rfl
        exact (show Tryz.prog.wantsStandIn t = false by simpa using List.all_eq_true.1 hall t hm)⟩)
    (by kernel_rfl)

end Go.Proofs.YtdpgpjileffekaaGreatDoor.cssdeclParses
