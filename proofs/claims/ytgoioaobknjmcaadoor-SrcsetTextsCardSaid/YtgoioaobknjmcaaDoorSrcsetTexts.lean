/- The program tells every list of pictures as the text that the reference tells it as, and tells of each picture whether it may be told as the reference does: SrcsetTexts returns true. No condition: whatever the arguments; the row lists two tables of Go's library, which the card ties to the program's text. -/
import Derived.ProofKit
import Derived.ChangeSame
import Derived.ChangeAt
import Derived.SizedLaws
import Derived.OpenShut
import Derived.ShutString
import Derived.ChangeOld
import Derived.LaidMore
import Derived.Lay
import Derived.SevenTiedAt
import Derived.Stop.Joined
import Derived.Test.YtgoioaobknjmcaaDoorRows
import Derived.Test.YtgoioaobknjmcaaDoorCards
import Derived.Test.YtgoioaobknjmcaaDoorTie
import Derived.Test.YtgoioaobknjmcaaDoorSrcOpen
namespace Go.Proofs.YtgoioaobknjmcaaDoor.srcsetTexts
open Go.ChangeShapes Go.WideShapes Go.ChangeAt Go.RowKit
open Go.ChangeMaps (open_string shut_string)

theorem own : ownKnob Tryd.prog.godebug = none := by kernel_rfl
theorem laidOut : laidOutB Tryd.prog = true := by kernel_rfl


set_option maxRecDepth 100000 in
set_option maxHeartbeats 8000000 in
theorem walk (v : Value) (l : List Pic) (w : World) (h : Rd w v l.length 2 (picCells l)) : Calls Tryd.prog 4 #[v] w (Ret (.bool true) w) := by
  have hmx : Tryd.prog.follows .mixedOrders = true := by kernel_rfl
  have HR := Lib.hid h
  obtain ⟨_, hm, A, c, rfl, _⟩ := h
  by_cases h9 : 100 < l.length
  · have b9 : decide ((100 : Int) < l.length) = true := by simp; omega
    clear h9
    go_enter Tryd.func4, Tryd.ntmps4
    go_wp2_with (go_at_call 7; refine (awake_any _).mono ?_; rintro e w' ⟨rfl, A0, rfl⟩)
    go_ret
    exact Ret.of rfl (by repeat (first | with_reducible exact Below.refl _ _ | (with_reducible refine Below.alloc ?_ (by first | omega | (simp [go_sem] <;> omega)) _) | (with_reducible refine Below.drew ?_) | (with_reducible refine Below.drewN ?_ _) | (with_reducible refine Below.grow ?_ (by first | omega | (simp [go_sem] <;> omega)) _) | (with_reducible refine Below.setCell ?_ (by first | omega | (simp [go_sem] <;> omega)) _)))
  · have b9 : decide ((100 : Int) < l.length) = false := by simp; omega
    go_enter Tryd.func4, Tryd.ntmps4
    go_wp2_with (go_at_call 7; refine (awake_any _).mono ?_; rintro e w' ⟨rfl, A0, rfl⟩)
    go_loopw [4] (fun i wr => ∃ (k : Nat) (X : Gr), k ≤ l.length ∧ i = .int .i64 k ∧ wr = w.grow X ∧ Hid (∀ p ∈ l.take k, p.url.length ≤ 500 ∧ p.size.length ≤ 500)) (fun i _ => l.length - (intOf i).toNat)
    case atStart => exact ⟨0, _, by omega, rfl, rfl, by intro p hp; simp at hp⟩
    case round =>
      obtain ⟨k, X, hk, rfl, rfl, HK⟩ := hrel
      by_cases hlt : k < l.length
      · obtain ⟨b, off, rfl, hb, c0, c1⟩ := HR.out.pic k hlt
        have HN := Lib.hid (show (l[k].url.length ≤ 500 ∧ l[k].size.length ≤ 500) → ∀ p ∈ l.take (k + 1), p.url.length ≤ 500 ∧ p.size.length ≤ 500 from by
          intro hh p hp
          rw [List.take_succ_eq_append_getElem hlt, List.mem_append] at hp
          rcases hp with hp | hp
          · exact HK.out p hp
          · rw [List.mem_singleton] at hp; subst hp; exact hh)
        generalize l[k] = p at *
        have z1 : (⟨p.url.toArray⟩ : ByteArray).size = p.url.length := rfl
        have z2 : (⟨p.size.toArray⟩ : ByteArray).size = p.size.length := rfl
        by_cases h5 : 500 < p.url.length
        · have b5 : decide ((500 : Int) < (⟨p.url.toArray⟩ : ByteArray).size) = true := by rw [z1]; simp; omega
          simp only [sv] at c0 c1
          clear z1 z2
          go_wp2_with fail
          go_ret
          exact Ret.of rfl (by repeat (first | with_reducible exact Below.refl _ _ | (with_reducible refine Below.alloc ?_ (by first | omega | (simp [go_sem] <;> omega)) _) | (with_reducible refine Below.drew ?_) | (with_reducible refine Below.drewN ?_ _) | (with_reducible refine Below.grow ?_ (by first | omega | (simp [go_sem] <;> omega)) _) | (with_reducible refine Below.setCell ?_ (by first | omega | (simp [go_sem] <;> omega)) _)))
        · have b5 : decide ((500 : Int) < (⟨p.url.toArray⟩ : ByteArray).size) = false := by rw [z1]; simp; omega
          by_cases h6 : 500 < p.size.length
          · have b6 : decide ((500 : Int) < (⟨p.size.toArray⟩ : ByteArray).size) = true := by rw [z2]; simp; omega
            simp only [sv] at c0 c1
            clear z1 z2
            go_wp2_with fail
            go_ret
            exact Ret.of rfl (by repeat (first | with_reducible exact Below.refl _ _ | (with_reducible refine Below.alloc ?_ (by first | omega | (simp [go_sem] <;> omega)) _) | (with_reducible refine Below.drew ?_) | (with_reducible refine Below.drewN ?_ _) | (with_reducible refine Below.grow ?_ (by first | omega | (simp [go_sem] <;> omega)) _) | (with_reducible refine Below.setCell ?_ (by first | omega | (simp [go_sem] <;> omega)) _)))
          · have b6 : decide ((500 : Int) < (⟨p.size.toArray⟩ : ByteArray).size) = false := by rw [z2]; simp; omega
            have HA := Lib.hid (fun W => show Calls Tryd.prog 13 #[.agg #[.string ⟨p.url.toArray⟩, .string ⟨p.size.toArray⟩]] W (Ret (.bool (rightP p)) W) from right_any p W (by omega) (by omega))
            have HB := Lib.hid (fun W => show Calls Tryd.prog 14 #[.agg #[.string ⟨p.url.toArray⟩, .string ⟨p.size.toArray⟩]] W (Ret (.bool (rightP p)) W) from rright_any p W (by omega) (by omega))
            have HN2 := Lib.hid (HN.out ⟨by omega, by omega⟩)
            simp only [sv] at c0 c1
            generalize rightP p = r at *
            clear z1 z2 HN h5 h6
            generalize (⟨p.url.toArray⟩ : ByteArray) = U at *
            generalize (⟨p.size.toArray⟩ : ByteArray) = Z at *
            go_wp2_with fail
            refine wp_region_grow (by kernel_rfl) (by kernel_rfl) ?_
            repeat (go_big_quiet_step (first | (go_at_call 13; with_reducible exact Calls.grow_of (HA.out _)) | (go_at_call 14; with_reducible exact Calls.grow_of (HB.out _))))
            refine wpQuiet_nil ?_
            intro _ hw'; obtain ⟨nq, hw''⟩ := hw'; subst hw''
            go_wp2
            go_roundw
            case rel => exact ⟨k + 1, _, by omega, by go_num, grow_grow w X nq, HN2⟩
            case measure => simp [intOf]; omega
      · have hk2 : k = l.length := by omega
        subst hk2
        have hall : ∀ p ∈ l, p.url.length ≤ 500 ∧ p.size.length ≤ 500 := by have := HK.out; rwa [List.take_length] at this
        have ht := textP_len 1000 l (fun p hp => by have := hall p hp; omega)
        have ht2 : (textP l).length ≤ 140737488355 := by omega
        have HT1 := Lib.hid (fun W (hW : Rd W (.slice A l.length c) l.length 2 (picCells l)) => text_any A l.length c l W hW (by omega) ht2 (fun p hp => by have := hall p hp; omega))
        have HT2 := Lib.hid (fun W (hW : Rd W (.slice A l.length c) l.length 2 (picCells l)) => rtext_any A l.length c l W hW (by omega) ht2 (fun p hp => by have := hall p hp; omega))
        have HRX := Lib.hid (fun Y : Gr => (HR.out.grow X).grow Y)
        have HR0 := Lib.hid (HR.out.grow X)
        clear hall ht ht2
        generalize textP l = T at *
        go_wp2_with (first | (go_at_call 15; (with_reducible refine (HT1.out _ HR0.out).mono ?_); rintro e w' ⟨rfl, X1, rfl⟩) | (go_at_call 16; (with_reducible refine (HT2.out _ (HRX.out X1)).mono ?_); rintro e w' ⟨rfl, rfl⟩))
        go_ret
        exact Ret.of (by simp) (by repeat (first | with_reducible exact Below.refl _ _ | (with_reducible refine Below.alloc ?_ (by first | omega | (simp [go_sem] <;> omega)) _) | (with_reducible refine Below.drew ?_) | (with_reducible refine Below.drewN ?_ _) | (with_reducible refine Below.grow ?_ (by first | omega | (simp [go_sem] <;> omega)) _) | (with_reducible refine Below.setCell ?_ (by first | omega | (simp [go_sem] <;> omega)) _)))

set_option maxRecDepth 100000 in
theorem lifted (os : Os) (started : os.Started) (H : Type) (enc : TypeId × Value → H) :
    ReturnsInHanded {} Tryd.checked os 4 .any (fun w args => (Rows.srcsetTextsSpec.pre enc Tryd.prog Tryd.f4 Rows.srcsetTextsRow.domain false w args ∧ laidMetH Tryd.prog Rows.srcsetTextsRow.laid w) ∧ sizedMet enc Tryd.prog Tryd.f4 (OpenSpec.ofChange Rows.srcsetTextsSpec) false w args) (Rows.srcsetTextsSpec.post enc Tryd.prog Tryd.f4 false true false false) := by
  refine returnsInHanded_of_change_and (C := Tryd.checked) (X := fun w _ => laidMetH Tryd.prog Rows.srcsetTextsRow.laid w) (fun _ _ _ hh h => h.of_heap hh) own started (by kernel_rfl) Tryd.func4
    (ChangeSpec.witness_shaped (enc := enc) (C := Tryd.checked) (os := os) (X := fun w _ => laidMetH Tryd.prog Rows.srcsetTextsRow.laid w) false (World.laidAll Tryd.prog os Rows.srcsetTextsRow.laid) #[.slice none 0 0] 8 (World.laidAll_os _ _ _)
      (World.shaped_of_ZipB (by kernel_rfl) (by kernel_rfl)) (by kernel_rfl) (by kernel_rfl) (by kernel_rfl)
      (by rw [MakeChecks.laidMetH_plain _ _ _ (by kernel_rfl)]; exact laidMet_laidAll _ (by kernel_rfl) (by kernel_rfl))) ?_
  intro W base args ds gs before hval0 hW hcnd hsz0 _ _
  have hval : ∀ (j : Nat) t v, Tryd.f4.params[j]? = some t → args[j]? = some v → Value.okWide Tryd.prog W .any base t v := hval0
  have hW' := hW
  obtain ⟨p, q, hA0, hV, rfl, hfz, hnd⟩ := hW
  have hA : DataW.TrodAll enc Tryd.prog W 0 (fun _ => true) true Tryd.f4.params.toList args.toList ds p := hA0
  rw [Tryd.params4] at hA hval
  obtain ⟨v0, vs0, d0, ds0, p0, q0, hargs, rfl, rfl, h0, r0⟩ := trodAll_cons hA
  obtain ⟨rfl, rfl, rfl⟩ := trodAll_nil r0
  obtain rfl : args = #[v0] := by cases args; simp_all
  obtain ⟨rfl, rfl⟩ := trodVars_none hV
  obtain ⟨a0, len0, cap0, rfl⟩ := okWide_slice Tryd.underlying24 (hval 0 24 v0 rfl rfl)
  have k0 := h0
  have lt0 : ∀ x ∈ p0, x.block < W.heap.size := by obtain ⟨m, hm⟩ := k0; exact DataW.trod_lt m _ _ _ hm
  obtain ⟨z0, e0, w0, m0⟩ : ∃ l : List Pic, l.length = len0 ∧ Rd W (.slice a0 len0 cap0) l.length 2 (picCells l) ∧ ∀ p ∈ l, p.url.length ≤ maxLen ∧ p.size.length ≤ maxLen := by obtain ⟨fuel, hf⟩ := h0; exact pics_open (by simpa [Value.cells] using hf)
  clear hA0 hval0
  refine (walk (.slice a0 len0 cap0) z0 W w0).mono fun e W' hend => ?_
  obtain ⟨he, X, hX⟩ := hend
  have bel : Below W.heap.size W W' := by rw [hX]; exact below_grow W X
  subst he
  exact ⟨_, rfl, _, _, _, [], _, [], hW', trodAll_mk1 (shut_bool Tryd.underlying4 _), (trodAll_cons_mk (Below.trod laidOut (by kernel_rfl) (of_decide_eq_true (by kernel_rfl)) k0 bel lt0) trodAll_mk0), rfl, bel.frame _, fun h => by cases h⟩

theorem over : Rows.srcsetTextsRow.holds Tryd.pinned (OpenSpec.ofChange Rows.srcsetTextsSpec) :=
  OpenClaim.holds_of_wide 4 Tryd.f4 rfl rfl rfl rfl rfl rfl rfl ⟨rfl, rfl, rfl, rfl, rfl⟩ rfl rfl rfl rfl rfl (by kernel_rfl) Tryd.func4 (by kernel_rfl)
    (of_decide_eq_true (by kernel_rfl)) (by unfold Func.isWrapper; rw [if_neg (of_decide_eq_false (by kernel_rfl))]; exact ⟨rfl, rfl⟩)
    (fun os started H enc _ => lifted os started H enc)

/-- The statement. -/
theorem proved : Rows.SrcsetTextsCardSaid :=
  Claim7.holds_tied_plain_at .later [] [.data, .pinned] true _ false over (fun _ h => by cases h) (by kernel_rfl) (fun _ h => by cases h) srcsetTexts_row_tie rfl ⟨rfl, rfl⟩ (by kernel_rfl) rfl
    (fun f fn hf hfn => by
      obtain rfl : f = 4 := Option.some.inj ((show Tryd.prog.funcNamed "cribble/cribblelaw12.SrcsetTexts" = some 4 by kernel_rfl).symm.trans hf) |>.symm
      obtain rfl : fn = Tryd.f4 := (Option.some.inj (Tryd.func4.symm.trans hfn)).symm
      exact ⟨by kernel_rfl, fun j t ht => by
        rw [Tryd.params4] at ht
        have hm : t ∈ [24] := by simpa using Array.mem_of_getElem? ht
        have hall : ([24].all fun u => !Tryd.prog.wantsStandIn u) = true := by kernel_rfl
        exact (show Tryd.prog.wantsStandIn t = false by simpa using List.all_eq_true.1 hall t hm)⟩)
    (by kernel_rfl)

end Go.Proofs.YtgoioaobknjmcaaDoor.srcsetTexts
