/- Pieces begin where they are said, each behind the one ahead of it, for every text: LexerPlaces returns true. No condition: whatever the arguments. -/
import Derived.ProofKit
import Derived.ChangeSame
import Derived.ChangeAt
import Derived.SizedLaws
import Derived.OpenShut
import Derived.ShutString
import Derived.ChangeOld
import Derived.Test.YtglnadikhcidnaaRows
import Derived.Test.YtglnadikhcidnaaLexM
import Derived.Test.YtglnadikhcidnaaLexJ
import Derived.Test.YtglnadikhcidnaaLexPlainD
namespace Go.Proofs.Ytglnadikhcidnaa.lexerPlaces
open Go.ChangeShapes Go.WideShapes Go.ChangeAt Go.RowKit
open Go.ChangeMaps (open_string shut_string)

theorem own : ownKnob Try.prog.godebug = none := by kernel_rfl
theorem laidOut : laidOutB Try.prog = true := by kernel_rfl


set_option maxRecDepth 100000 in
set_option maxHeartbeats 8000000 in
theorem walk (s : ByteArray) (w : World) (_hm : s.size ≤ maxLen) : Calls Try.prog 4 #[.string s] w (Ret (.bool true) w) := by
  by_cases h9 : 9000 < s.size
  · have b9 : decide ((9000 : Int) < s.size) = true := by simp; omega
    clear h9 _hm
    go_enter Try.func4, Try.ntmps4
    go_wp2_with (go_at_call 9; refine (awake_any _).mono ?_; rintro e w' ⟨rfl, A, rfl⟩)
    go_ret
    exact Ret.of rfl (by repeat (first | with_reducible exact Below.refl _ _ | (with_reducible refine Below.alloc ?_ (by first | omega | (simp [go_sem] <;> omega)) _) | (with_reducible refine Below.drew ?_) | (with_reducible refine Below.drewN ?_ _) | (with_reducible refine Below.grow ?_ (by first | omega | (simp [go_sem] <;> omega)) _) | (with_reducible refine Below.setCell ?_ (by first | omega | (simp [go_sem] <;> omega)) _)))
  · have b9 : decide ((9000 : Int) < s.size) = false := by simp; omega
    by_cases h8 : 8192 < s.size
    · have H1 := Lib.hid (fun W => scan_full s W h8)
      clear h9 _hm h8
      go_enter Try.func4, Try.ntmps4
      go_wp2_with (first | (go_at_call 9; refine (awake_any _).mono ?_; rintro e w' ⟨rfl, A, rfl⟩) | (go_at_call 10; (with_reducible refine (H1.out _).mono ?_); rintro e w' ⟨rfl, X1, rfl⟩))
      go_ret
      exact Ret.of rfl (by repeat (first | with_reducible exact Below.refl _ _ | (with_reducible refine Below.alloc ?_ (by first | omega | (simp [go_sem] <;> omega)) _) | (with_reducible refine Below.drew ?_) | (with_reducible refine Below.drewN ?_ _) | (with_reducible refine Below.grow ?_ (by first | omega | (simp [go_sem] <;> omega)) _) | (with_reducible refine Below.setCell ?_ (by first | omega | (simp [go_sem] <;> omega)) _)))
    · have H1 := Lib.hid (fun W => show Calls Try.prog 10 #[.string s] W (scanP (scanL 0 s.data.toList) W) from scan_any s W (by omega))
      have HP := Lib.hid (scanL_places s.data.toList)
      have HN := Lib.hid (scanL_len 0 s.data.toList)
      generalize scanL 0 s.data.toList = R at *
      cases R with
      | bad n =>
        have hn := HP.out.2 n rfl
        rw [len_data] at hn
        clear h9 h8 _hm HP HN
        go_enter Try.func4, Try.ntmps4
        go_wp2_with (first | (go_at_call 9; refine (awake_any _).mono ?_; rintro e w' ⟨rfl, A, rfl⟩) | (go_at_call 10; (with_reducible refine (H1.out _).mono ?_); intro e w1 h1; obtain ⟨_, hb1, rfl⟩ := h1; have hb1 := Lib.hid hb1))
        go_ret
        exact Ret.of rfl (below_next (below_start w A) hb1.out)
      | ok l =>
        have HPl := Lib.hid (HP.out.1 l rfl)
        have hll := HN.out l rfl
        rw [len_data] at hll
        clear HP HN _hm
        go_enter Try.func4, Try.ntmps4
        go_wp2_with (first | (go_at_call 9; refine (awake_any _).mono ?_; rintro e w' ⟨rfl, A, rfl⟩) | (go_at_call 10; (with_reducible refine (H1.out _).mono ?_); intro e w1 h1; obtain ⟨A1, c1, hb1, rfl, hr1⟩ := scanP_ok h1; have hb1 := Lib.hid hb1; have hr1 := Lib.hid hr1; clear h1))
        obtain ⟨w0, hw0⟩ : ∃ w0 : World, w1 = w0 := ⟨_, rfl⟩
        subst hw0
        go_loopw [7, 8] (fun la i wr => ∃ (k a : Nat), k ≤ l.length ∧ i = .int .i64 k ∧ la = .int .i64 ((a : Int) - 1) ∧ a ≤ s.size ∧ (∃ X, wr = w1.grow X) ∧ Hid (Places s.data.toList a (l.drop k))) (fun _ i _ => l.length - (intOf i).toNat)
        case atStart => exact ⟨0, 0, by omega, rfl, rfl, by omega, ⟨_, (grow_refl w1).symm⟩, by rw [List.drop_zero]; exact HPl⟩
        case round =>
          obtain ⟨k, a, hk, rfl, rfl, ha, ⟨X, rfl⟩, HK⟩ := hrel
          by_cases hlt : k < l.length
          · obtain ⟨b, off, rfl, hb, c0, c1, c2⟩ := hr1.out.lx k hlt
            have HD := HK.out
            rw [List.drop_eq_getElem_cons hlt] at HD
            obtain ⟨q1, ⟨q2, q3⟩, q4⟩ := HD
            have HN := Lib.hid q4
            clear q4 HK
            generalize l[k] = x at *
            obtain ⟨kd, xa, xt⟩ := x
            dsimp only at *
            rw [len_data] at q2
            rcases q3 with ⟨rfl, c, r, e1, e2⟩ | ⟨q3, q5, q6⟩
            · rw [drop_at s xa q2] at e1
              cases e1
              have b34 : ((s[xa].toNat : Int) != 34) = false := by simp; omega
              clear e2
              go_wp2_with fail
              refine wp_region_grow (by kernel_rfl) (by kernel_rfl) ?_
              repeat (go_big_quiet_step (fail))
              refine wpQuiet_nil ?_
              intro _ hw'; obtain ⟨nq, hw''⟩ := hw'; subst hw''
              go_wp2
              go_roundw
              case rel => exact ⟨k + 1, xa + 1, by omega, by go_num, by go_num, by omega, grow_of_below (by repeat (first | with_reducible exact Below.refl _ _ | (with_reducible refine Below.alloc ?_ (by first | omega | (simp [go_sem] <;> omega)) _) | (with_reducible refine Below.drew ?_) | (with_reducible refine Below.drewN ?_ _) | (with_reducible refine Below.grow ?_ (by first | omega | (simp [go_sem] <;> omega)) _) | (with_reducible refine Below.setCell ?_ (by first | omega | (simp [go_sem] <;> omega)) _))), HN⟩
              case measure => simp [intOf]; omega
            · rw [len_data] at q6
              have k3 : ((kd : Int) == 3) = false := by simp; omega
              have k4 : ((kd : Int) != 3) = true := by simp; omega
              have hE : s.extract xa (xa + xt.length) = ⟨xt.toArray⟩ := by rw [str_mid, ← q5]
              clear q5 q3
              have s1 : IntKind.i64.wrap ((xa : Int) + xt.length) = (xa : Int) + xt.length := by rw [IntKind.wrap_i64]; omega
              have s2 : (0 : Int) ≤ (xa : Int) + xt.length := by omega
              have s3 : ((xa : Int) + xt.length).toNat = xa + xt.length := by omega
              have s4 : decide ((s.size : Int) < (xa : Int) + xt.length) = false := by simp; omega
              go_wp2_with fail
              refine wp_region_grow (by kernel_rfl) (by kernel_rfl) ?_
              repeat (go_big_quiet_step (fail))
              refine wpQuiet_nil ?_
              intro _ hw'; obtain ⟨nq, hw''⟩ := hw'; subst hw''
              go_wp2
              go_roundw
              case rel => exact ⟨k + 1, xa + 1, by omega, by go_num, by go_num, by omega, grow_of_below (by repeat (first | with_reducible exact Below.refl _ _ | (with_reducible refine Below.alloc ?_ (by first | omega | (simp [go_sem] <;> omega)) _) | (with_reducible refine Below.drew ?_) | (with_reducible refine Below.drewN ?_ _) | (with_reducible refine Below.grow ?_ (by first | omega | (simp [go_sem] <;> omega)) _) | (with_reducible refine Below.setCell ?_ (by first | omega | (simp [go_sem] <;> omega)) _))), HN⟩
              case measure => simp [intOf]; omega
          · go_wp2
            go_ret
            exact Ret.of rfl (below_next (below_next (below_start w A) hb1.out) (below_start _ X))

set_option maxRecDepth 100000 in
theorem lifted (os : Os) (started : os.Started) (H : Type) (enc : TypeId × Value → H) :
    ReturnsInHanded {} Try.checked os 4 .any (Rows.lexerPlacesSpec.pre6 enc Try.prog Try.f4 Rows.lexerPlacesRow.domain false) (Rows.lexerPlacesSpec.post enc Try.prog Try.f4 false true false false) := by
  refine returnsInHanded_of_change (C := Try.checked) own started (by kernel_rfl) Try.func4
    (ChangeSpec.witness6 (enc := enc) (C := Try.checked) false ⟨#[], #[.string ⟨#[]⟩], []⟩ 8 (by kernel_rfl) (by kernel_rfl) (by kernel_rfl) (by kernel_rfl)) ?_
  intro W base args ds gs before hval0 hW hcnd _
  have hval : ∀ (j : Nat) t v, Try.f4.params[j]? = some t → args[j]? = some v → Value.okWide Try.prog W .any base t v := hval0
  have hW' := hW
  obtain ⟨p, q, hA0, hV, rfl, hfz, hnd⟩ := hW
  have hA : DataW.TrodAll enc Try.prog W 0 (fun _ => true) true Try.f4.params.toList args.toList ds p := hA0
  rw [Try.params4] at hA hval
  obtain ⟨v0, vs0, d0, ds0, p0, q0, hargs, rfl, rfl, h0, r0⟩ := trodAll_cons hA
  obtain ⟨rfl, rfl, rfl⟩ := trodAll_nil r0
  obtain rfl : args = #[v0] := by cases args; simp_all
  obtain ⟨rfl, rfl⟩ := trodVars_none hV
  obtain ⟨s0, rfl, rfl, rfl, w0⟩ := open_string Try.underlying9 (hval 0 9 v0 rfl rfl) h0
  clear hA0 hval0
  refine (walk s0 W w0).mono fun e W' hend => ?_
  obtain ⟨he, X, hX⟩ := hend
  have bel : Below W.heap.size W W' := by rw [hX]; exact below_grow W X
  subst he
  exact ⟨_, rfl, _, _, _, [], _, [], hW', trodAll_mk1 (shut_bool Try.underlying4 _), (trodAll_cons_mk (shut_string Try.underlying9 w0) trodAll_mk0), rfl, bel.frame _, fun h => by cases h⟩

theorem over : Rows.lexerPlacesRow.holds Try.pinned (OpenSpec.ofChange Rows.lexerPlacesSpec) :=
  OpenClaim.holds_of_wide 4 Try.f4 rfl rfl rfl rfl rfl rfl rfl ⟨rfl, rfl, rfl, rfl, rfl⟩ rfl rfl rfl rfl rfl (by kernel_rfl) Try.func4 (by kernel_rfl)
    (of_decide_eq_true (by kernel_rfl)) (by unfold Func.isWrapper; rw [if_neg (of_decide_eq_false (by kernel_rfl))]; exact ⟨rfl, rfl⟩)
    (fun os started H enc _ => lifted os started H enc)

/-- The statement. -/
theorem proved : Rows.LexerPlacesSaid := over

end Go.Proofs.Ytglnadikhcidnaa.lexerPlaces
