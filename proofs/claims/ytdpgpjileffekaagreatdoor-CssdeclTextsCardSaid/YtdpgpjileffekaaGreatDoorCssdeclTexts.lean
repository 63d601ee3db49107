/- Any declarations as text, and whether any may be told, are as the reference says: CssdeclTexts returns true. No condition: whatever the arguments; the row lists tables of Go's library, which the card ties to the program's text. -/
import Derived.ProofKit
import Derived.ChangeSame
import Derived.ChangeAt
import Derived.SizedLaws
import Derived.OpenShut
import Derived.ShutString
import Derived.ChangeOld
import Derived.LaidMore
import Derived.Lay
import Derived.SevenTiedAt
import Derived.Stop.Joined
import Derived.Test.YtdpgpjileffekaaGreatDoorRows
import Derived.Test.YtdpgpjileffekaaGreatDoorCards
import Derived.Test.YtdpgpjileffekaaGreatDoorTie
import Derived.Test.YtdpgpjileffekaaGreatDoorCssOpen
import Derived.Test.YtdpgpjileffekaaGreatDoorDecN
import Derived.Test.YtdpgpjileffekaaGreatDoorDecR
namespace Go.Proofs.YtdpgpjileffekaaGreatDoor.cssdeclTexts
open Go.ChangeShapes Go.WideShapes Go.ChangeAt Go.RowKit
open Go.ChangeMaps (open_string shut_string)

theorem own : ownKnob Tryz.prog.godebug = none := by kernel_rfl
theorem laidOut : laidOutB Tryz.prog = true := by kernel_rfl


set_option maxRecDepth 100000 in
set_option maxHeartbeats 8000000 in
theorem walk (v : Value) (l : List Dcl) (w : World) (hT : Tb w) (hX : Mx w) (h : RdD w v l) (hz : ∀ d ∈ l, DclIn d) (_hn : ∀ a n cap, v = .slice a n cap → a = none → cap = 0) : Calls Tryz.prog 4 #[v] w (Ret (.bool true) w) := by
  have hmx : Tryz.prog.follows .mixedOrders = true := by kernel_rfl
  have HR := Lib.hid h
  have HZ := Lib.hid hz
  have HTB := Lib.hid hT
  have HMX := Lib.hid hX
  obtain ⟨vs0, hall0, _, hlm, A, c, rfl, _⟩ := id h
  clear hz hT hX
  have HF := Lib.hid (fun W (hB : Below w.heap.size w W) => show Calls Tryz.prog 12 #[.slice A l.length c] W (Ret (.bool (fewD l)) W) from by
    obtain ⟨X, rfl⟩ := grow_of_below hB
    exact rfewd_any A l.length c l (w.grow X) (HR.out.grow X))
  cases hf : fewD l
  · rw [hf] at HF
    have HF' := Lib.hid HF.out
    clear hf HF
    go_enter Tryz.func4, Tryz.ntmps4
    go_wp2_with (first | (go_at_call 8; refine (awake14_any _ HTB.out HMX.out).mono ?_; rintro e w' ⟨rfl, A0, rfl⟩) | (go_at_call 12; (with_reducible refine (HF'.out _ (by repeat (first | with_reducible exact Below.refl _ _ | (with_reducible refine Below.alloc ?_ (by first | omega | (simp [go_sem] <;> omega)) _) | (with_reducible refine Below.drew ?_) | (with_reducible refine Below.drewN ?_ _) | (with_reducible refine Below.grow ?_ (by first | omega | (simp [go_sem] <;> omega)) _) | (with_reducible refine Below.setCell ?_ (by first | omega | (simp [go_sem] <;> omega)) _)))).mono ?_); rintro e w' ⟨rfl, F0, rfl⟩))
    go_ret
    exact Ret.of rfl (by repeat (first | with_reducible exact Below.refl _ _ | (with_reducible refine Below.alloc ?_ (by first | omega | (simp [go_sem] <;> omega)) _) | (with_reducible refine Below.drew ?_) | (with_reducible refine Below.drewN ?_ _) | (with_reducible refine Below.grow ?_ (by first | omega | (simp [go_sem] <;> omega)) _) | (with_reducible refine Below.setCell ?_ (by first | omega | (simp [go_sem] <;> omega)) _)))
  obtain ⟨hs, hl, _⟩ := few_shortD hf HZ.out
  have HS := Lib.hid hs
  rw [hf] at HF
  have HF' := Lib.hid HF.out
  clear hf HF hs
  obtain ⟨D, hD⟩ : ∃ D, l.all rightD = D := ⟨_, rfl⟩
  obtain ⟨Z, hZ⟩ : ∃ Z : ByteArray, ⟨(if l.all rightD then textD l else []).toArray⟩ = Z := ⟨_, rfl⟩
  have HT1 := Lib.hid (fun W (hB : Below w.heap.size w W) => show Calls Tryz.prog 15 #[.slice A l.length c] W (Ret (.tuple #[.string Z, .bool D]) W) from by
    obtain ⟨X, rfl⟩ := grow_of_below hB
    have := dtext_any A l.length c l (w.grow X) (HTB.out.grow X) (HMX.out.grow X) (HR.out.grow X) HS.out (by omega)
    rwa [hZ, hD] at this)
  have HT2 := Lib.hid (fun W (hB : Below w.heap.size w W) => show Calls Tryz.prog 16 #[.slice A l.length c] W (Ret (.tuple #[.string Z, .bool D]) W) from by
    obtain ⟨X, rfl⟩ := grow_of_below hB
    have := rdtext_any A l.length c l (w.grow X) (HR.out.grow X) HS.out (by omega)
    rwa [hZ, hD] at this)
  clear hZ hD
  go_enter Tryz.func4, Tryz.ntmps4
  go_wp2_with (first | (go_at_call 8; refine (awake14_any _ HTB.out HMX.out).mono ?_; rintro e w' ⟨rfl, A0, rfl⟩) | (go_at_call 12; (with_reducible refine (HF'.out _ (by repeat (first | with_reducible exact Below.refl _ _ | (with_reducible refine Below.alloc ?_ (by first | omega | (simp [go_sem] <;> omega)) _) | (with_reducible refine Below.drew ?_) | (with_reducible refine Below.drewN ?_ _) | (with_reducible refine Below.grow ?_ (by first | omega | (simp [go_sem] <;> omega)) _) | (with_reducible refine Below.setCell ?_ (by first | omega | (simp [go_sem] <;> omega)) _)))).mono ?_); rintro e w' ⟨rfl, F0, rfl⟩))
  go_loopw [5] (fun i wr => ∃ (k : Nat), k ≤ l.length ∧ i = .int .i64 k ∧ Hid (Below w.heap.size w wr)) (fun i _ => l.length - (intOf i).toNat)
  case atStart => exact ⟨0, by omega, rfl, by show Below _ _ _; exact (by repeat (first | with_reducible exact Below.refl _ _ | (with_reducible refine Below.alloc ?_ (by first | omega | (simp [go_sem] <;> omega)) _) | (with_reducible refine Below.drew ?_) | (with_reducible refine Below.drewN ?_ _) | (with_reducible refine Below.grow ?_ (by first | omega | (simp [go_sem] <;> omega)) _) | (with_reducible refine Below.setCell ?_ (by first | omega | (simp [go_sem] <;> omega)) _)))⟩
  case round =>
    obtain ⟨k, hk, rfl, HB⟩ := hrel
    by_cases hlt : k < l.length
    · obtain ⟨b, off, vd, rfl, hb, ⟨Av, cv, rfl, _, hcv, hrd⟩, c0, c1, c2⟩ := (HR.out.below HB.out).at k hlt
      have hsd := HS.out _ (List.getElem_mem hlt)
      generalize l[k] = d at *
      have HRa := Lib.hid (fun W (hB : Below wr.heap.size wr W) => show Calls Tryz.prog 13 #[.agg #[sv d.name, .slice Av d.value.length cv, .bool d.imp]] W (Ret (.bool (rightD d)) W) from
        dright_any d Av cv W (HTB.out.below (below_next HB.out hB)) (HMX.out.below (below_next HB.out hB)) (hrd.below hB rfl) hsd)
      have HRb := Lib.hid (fun W (hB : Below wr.heap.size wr W) => show Calls Tryz.prog 14 #[.agg #[sv d.name, .slice Av d.value.length cv, .bool d.imp]] W (Ret (.bool (rightD d)) W) from
        rdright_any d Av cv W (hrd.below hB rfl) hsd)
      simp only [sv] at HRa HRb c0
      generalize (⟨d.name.toArray⟩ : ByteArray) = nm at *
      generalize d.value.length = m at *
      generalize d.imp = im at *
      generalize rightD d = r at *
      clear hrd hsd
      go_wp2_with fail
      refine wp_region_grow (by kernel_rfl) (by kernel_rfl) ?_
      repeat (go_big_quiet_step (first | (go_at_call 13; with_reducible exact Calls.grow_of (HRa.out _ (by (repeat (first | with_reducible exact Below.refl _ _ | (with_reducible refine Below.alloc ?_ (by first | omega | (simp [go_sem] <;> omega)) _) | (with_reducible refine Below.drew ?_) | (with_reducible refine Below.drewN ?_ _) | (with_reducible refine Below.grow ?_ (by first | omega | (simp [go_sem] <;> omega)) _) | (with_reducible refine Below.setCell ?_ (by first | omega | (simp [go_sem] <;> omega)) _))); done))) | (go_at_call 14; with_reducible exact Calls.grow_of (HRb.out _ (by (repeat (first | with_reducible exact Below.refl _ _ | (with_reducible refine Below.alloc ?_ (by first | omega | (simp [go_sem] <;> omega)) _) | (with_reducible refine Below.drew ?_) | (with_reducible refine Below.drewN ?_ _) | (with_reducible refine Below.grow ?_ (by first | omega | (simp [go_sem] <;> omega)) _) | (with_reducible refine Below.setCell ?_ (by first | omega | (simp [go_sem] <;> omega)) _))); done)))))
      refine wpQuiet_nil ?_
      intro _ hw'; obtain ⟨nq, hw''⟩ := hw'; subst hw''
      go_wp2
      go_roundw
      case rel => exact ⟨k + 1, by omega, by go_num, by show Below _ _ _; exact below_next HB.out (by (repeat (first | with_reducible exact Below.refl _ _ | (with_reducible refine Below.alloc ?_ (by first | omega | (simp [go_sem] <;> omega)) _) | (with_reducible refine Below.drew ?_) | (with_reducible refine Below.drewN ?_ _) | (with_reducible refine Below.grow ?_ (by first | omega | (simp [go_sem] <;> omega)) _) | (with_reducible refine Below.setCell ?_ (by first | omega | (simp [go_sem] <;> omega)) _))); done)⟩
      case measure => simp [intOf]; omega
    · go_wp2_with (first
        | (go_at_call 15; (with_reducible refine (HT1.out _ HB.out).mono ?_); rintro e w' ⟨rfl, X1, rfl⟩)
        | (go_at_call 16; (with_reducible refine (HT2.out _ (below_next HB.out (by (repeat (first | with_reducible exact Below.refl _ _ | (with_reducible refine Below.alloc ?_ (by first | omega | (simp [go_sem] <;> omega)) _) | (with_reducible refine Below.drew ?_) | (with_reducible refine Below.drewN ?_ _) | (with_reducible refine Below.grow ?_ (by first | omega | (simp [go_sem] <;> omega)) _) | (with_reducible refine Below.setCell ?_ (by first | omega | (simp [go_sem] <;> omega)) _))); done))).mono ?_); rintro e w' ⟨rfl, X2, rfl⟩))
      go_ret
      exact Ret.of (by first | rfl | simp) (below_next HB.out (by (repeat (first | with_reducible exact Below.refl _ _ | (with_reducible refine Below.alloc ?_ (by first | omega | (simp [go_sem] <;> omega)) _) | (with_reducible refine Below.drew ?_) | (with_reducible refine Below.drewN ?_ _) | (with_reducible refine Below.grow ?_ (by first | omega | (simp [go_sem] <;> omega)) _) | (with_reducible refine Below.setCell ?_ (by first | omega | (simp [go_sem] <;> omega)) _))); done))

set_option maxRecDepth 100000 in
theorem lifted (os : Os) (started : os.Started) (H : Type) (enc : TypeId × Value → H) :
    ReturnsInHanded {} Tryz.checked os 4 .any (fun w args => (Rows.cssdeclTextsSpec.pre enc Tryz.prog Tryz.f4 Rows.cssdeclTextsRow.domain false w args ∧ laidMetH Tryz.prog Rows.cssdeclTextsRow.laid w) ∧ sizedMet enc Tryz.prog Tryz.f4 (OpenSpec.ofChange Rows.cssdeclTextsSpec) false w args) (Rows.cssdeclTextsSpec.post enc Tryz.prog Tryz.f4 false true false false) := by
  refine handed_shape (C := Tryz.checked) (X := fun w _ => laidMetH Tryz.prog Rows.cssdeclTextsRow.laid w) (fun _ _ _ hh h => h.of_heap hh) own started (by kernel_rfl) Tryz.func4
    (ChangeSpec.witness_shaped (enc := enc) (C := Tryz.checked) (os := os) (X := fun w _ => laidMetH Tryz.prog Rows.cssdeclTextsRow.laid w) false (World.laidAll Tryz.prog os Rows.cssdeclTextsRow.laid) #[.slice none 0 0] 8 (World.laidAll_os _ _ _)
      (World.shaped_of_ZipB (by kernel_rfl) (by kernel_rfl)) (by kernel_rfl) (by kernel_rfl) (by kernel_rfl)
      (by rw [MakeChecks.laidMetH_plain _ _ _ (by kernel_rfl)]; exact laidMet_laidAll _ (by kernel_rfl) (by kernel_rfl))) ?_
  intro W base args ds gs before hval0 hW hL hsh
  have hval : ∀ (j : Nat) t v, Tryz.f4.params[j]? = some t → args[j]? = some v → Value.okWide Tryz.prog W .any base t v := hval0
  have hW' := hW
  obtain ⟨p, q, hA0, hV, rfl, hfz, hnd⟩ := hW
  have hA : DataW.TrodAll enc Tryz.prog W 0 (fun _ => true) true Tryz.f4.params.toList args.toList ds p := hA0
  rw [Tryz.params4] at hA hval
  obtain ⟨v0, vs0, d0, ds0, p0, q0, hargs, rfl, rfl, h0, r0⟩ := trodAll_cons hA
  obtain ⟨rfl, rfl, rfl⟩ := trodAll_nil r0
  obtain rfl : args = #[v0] := by cases args; simp_all
  obtain ⟨rfl, rfl⟩ := trodVars_none hV
  obtain ⟨a0, len0, cap0, rfl⟩ := okWide_slice Tryz.underlying24 (hval 0 24 v0 rfl rfl)
  have k0 := h0
  have lt0 : ∀ x ∈ p0, x.block < W.heap.size := by obtain ⟨m, hm⟩ := k0; exact DataW.trod_lt m _ _ _ hm
  obtain ⟨z0, e0, w0, m0⟩ : ∃ l : List Dcl, l.length = len0 ∧ RdD W (.slice a0 len0 cap0) l ∧ ∀ d ∈ l, DclIn d := by obtain ⟨fuel, hf⟩ := h0; exact decl_open (by simpa [Value.cells] using hf)
  have n0 : ∀ a n cap, Value.slice a0 len0 cap0 = .slice a n cap → a = none → cap = 0 := fun _ _ _ hh => by cases hh; obtain ⟨fuel, hf⟩ := h0; exact decl_nil (by simpa [Value.cells] using hf)
  clear hA0 hval0
  refine (walk (.slice a0 len0 cap0) z0 W (tb_laid hL (by rfl)) (mx_shape hsh) w0 m0 n0).mono fun e W' hend => ?_
  obtain ⟨he, X, hX⟩ := hend
  have bel : Below W.heap.size W W' := by rw [hX]; exact below_grow W X
  subst he
  exact ⟨_, rfl, _, _, _, [], _, [], hW', trodAll_mk1 (shut_bool Tryz.underlying4 _), (trodAll_cons_mk (Below.trod laidOut (by kernel_rfl) (of_decide_eq_true (by kernel_rfl)) k0 bel lt0) trodAll_mk0), rfl, bel.frame _, fun h => by cases h⟩

theorem over : Rows.cssdeclTextsRow.holds Tryz.pinned (OpenSpec.ofChange Rows.cssdeclTextsSpec) :=
  OpenClaim.holds_of_wide 4 Tryz.f4 rfl rfl rfl rfl rfl rfl rfl ⟨rfl, rfl, rfl, rfl, rfl⟩ rfl rfl rfl rfl rfl (by kernel_rfl) Tryz.func4 (by kernel_rfl)
    (of_decide_eq_true (by kernel_rfl)) (by unfold Func.isWrapper; rw [if_neg (of_decide_eq_false (by kernel_rfl))]; exact ⟨rfl, rfl⟩)
    (fun os started H enc _ => lifted os started H enc)

/-- The statement. -/
theorem proved : Rows.CssdeclTextsCardSaid :=
  Claim7.holds_tied_plain_at .later [] [.data, .data, .data, .data, .pinned] true _ false over (fun _ h => by cases h) (by kernel_rfl) (fun _ h => by cases h) cssdeclTexts_row_tie rfl ⟨rfl, rfl⟩ (by kernel_rfl) rfl
    (fun f fn hf hfn => by
      obtain rfl : f = 4 := Option.some.inj ((show Tryz.prog.funcNamed "cribble/cribblelaw14.CssdeclTexts" = some 4 by kernel_rfl).symm.trans hf) |>.symm
      obtain rfl : fn = Tryz.f4 := (Option.some.inj (Tryz.func4.symm.trans hfn)).symm
      exact ⟨by kernel_rfl, fun j t ht => by
        rw [Tryz.params4] at ht
        have hm : t ∈ [24] := by simpa using Array.mem_of_getElem? ht
        have hall : ([24].all fun u => !Tryz.prog.wantsStandIn u) = true := by kernel_rfl
        exact (show Tryz.prog.wantsStandIn t = false by simpa using List.all_eq_true.1 hall t hm)⟩)
    (by kernel_rfl)

end Go.Proofs.YtdpgpjileffekaaGreatDoor.cssdeclTexts
