/- What is told may be, is told as it is, and can be told as text: CssvalStays returns true. No condition: whatever the arguments; the row lists tables of Go's library, which the card ties to the program's text. -/
import Derived.ProofKit
import Derived.ChangeSame
import Derived.ChangeAt
import Derived.SizedLaws
import Derived.OpenShut
import Derived.ShutString
import Derived.ChangeOld
import Derived.LaidMore
import Derived.Lay
import Derived.SevenTiedAt
import Derived.Stop.Joined
import Derived.Test.YtgcccpdadponiaaGreatDoorRows
import Derived.Test.YtgcccpdadponiaaGreatDoorCards
import Derived.Test.YtgcccpdadponiaaGreatDoorTie
import Derived.Test.YtgcccpdadponiaaGreatDoorCssOpen
import Derived.Test.YtgcccpdadponiaaGreatDoorTB
import Derived.Test.YtgcccpdadponiaaGreatDoorValL
namespace Go.Proofs.YtgcccpdadponiaaGreatDoor.cssvalStays
open Go.ChangeShapes Go.WideShapes Go.ChangeAt Go.RowKit
open Go.ChangeMaps (open_string shut_string)

theorem own : ownKnob Tryz.prog.godebug = none := by kernel_rfl
theorem laidOut : laidOutB Tryz.prog = true := by kernel_rfl

theorem css_cap {H : Type} {enc : TypeId × Value → H} {w : World} {base : Nat} {spare : Nat → Bool} {held : Bool} {fuel : Nat} {a : Option Addr} {len cap : Nat} {x : DataW H × List MemPlace}
    (h : DataW.trod enc Tryz.prog w base spare held fuel 22 [.slice a len cap] = some x) : len ≤ cap := by
  rcases Deep.open_slice Tryz.underlying22 h with ⟨hcs, _⟩ | ⟨ad, len', cap', m, n, D, Pl, hcs, hb, hl, hm, hmm, hx, hi⟩
  · simp at hcs; omega
  · simp at hcs; omega

set_option maxRecDepth 100000 in
set_option maxHeartbeats 2000000 in
theorem walk (S : ByteArray) (v : Value) (l : List Css) (w : World) (hT : Tb w) (hX : Mx w) (_h1 : S.size ≤ maxLen) (h : Rd w v l.length 4 (cssCells l)) (hz : ∀ p ∈ l, CssIn p) (hn : ∀ a n cap, v = .slice a n cap → (a = none → cap = 0) ∧ n ≤ cap) : Calls Tryz.prog 8 #[.string S, v] w (Ret (.bool true) w) := by
  have hmx : Tryz.prog.follows .mixedOrders = true := by kernel_rfl
  have HTB := Lib.hid hT
  have HMX := Lib.hid hX
  have HTM := Lib.hid (fun W (hB : Below w.heap.size w W) => And.intro (Tb.below hT hB) (Mx.below hX hB))
  have HR := Lib.hid h
  have HZ := Lib.hid hz
  obtain ⟨_, hml, A, c, rfl, _⟩ := h
  obtain ⟨hA0, hcap⟩ := hn _ _ _ rfl
  clear hz hT hX hn _h1
  cases hf : fewB l
  · have HF := Lib.hid (fun X => hf ▸ few_any A l.length c l (w.grow X) (HR.out.grow X))
    clear hf hA0
    go_enter Tryz.func8, Tryz.ntmps8
    go_wp2_with (first
      | (go_at_call 9; refine (awake16_any _ HTB.out HMX.out).mono ?_; rintro e w' ⟨rfl, A0, rfl⟩) | (go_at_call 10; (with_reducible refine (HF.out _).mono ?_); rintro e w' ⟨rfl, F0, rfl⟩))
    go_ret
    exact Ret.of rfl (by repeat (first | with_reducible exact Below.refl _ _ | (with_reducible refine Below.alloc ?_ (by first | omega | (simp [go_sem] <;> omega)) _) | (with_reducible refine Below.drew ?_) | (with_reducible refine Below.drewN ?_ _) | (with_reducible refine Below.grow ?_ (by first | omega | (simp [go_sem] <;> omega)) _) | (with_reducible refine Below.setCell ?_ (by first | omega | (simp [go_sem] <;> omega)) _)))
  have HF := Lib.hid (fun X => Ret.flat (hf ▸ few_any A l.length c l (w.grow X) (HR.out.grow X)))
  obtain ⟨hs, hl1, hl2⟩ := few_short hf HZ.out
  clear hf
  have HV0 := fun W (hB : Below w.heap.size w W) => (value16_any S.data.toList A l.length c l W (HTM.out W hB).1 (HTM.out W hB).2 (Rd.below' HR.out hB) hA0 hs (by omega)).mono fun _ _ h => RetV.abs h
  cases hv : valueT S.data.toList l with
  | none =>
    rw [hv] at HV0
    have HV1 := Lib.hid HV0
    simp only [Option.getD_none, Option.isSome_none, List.length_nil] at HV1
    clear hv HV0 hs hA0
    go_enter Tryz.func8, Tryz.ntmps8
    go_wp2_with (first
      | (go_at_call 9; refine (awake16_any _ HTB.out HMX.out).mono ?_; rintro e w' ⟨rfl, A0, rfl⟩) | (go_at_call 10; (with_reducible refine (HF.out _).mono ?_); rintro e w' ⟨rfl, F0, rfl⟩)
      | (go_at_call 11; (with_reducible refine (HV1.out _ (by (repeat (first | with_reducible exact Below.refl _ _ | (with_reducible refine Below.alloc ?_ (by first | omega | (simp [go_sem] <;> omega)) _) | (with_reducible refine Below.drew ?_) | (with_reducible refine Below.drewN ?_ _) | (with_reducible refine Below.grow ?_ (by first | omega | (simp [go_sem] <;> omega)) _) | (with_reducible refine Below.setCell ?_ (by first | omega | (simp [go_sem] <;> omega)) _))); done)).mono ?_); rintro e W1 ⟨A1, c1, rfl, hb1, hA1, hc1, hr1⟩; have HB1 := Lib.hid (below_next (show Below w.heap.size w _ from (by (repeat (first | with_reducible exact Below.refl _ _ | (with_reducible refine Below.alloc ?_ (by first | omega | (simp [go_sem] <;> omega)) _) | (with_reducible refine Below.drew ?_) | (with_reducible refine Below.drewN ?_ _) | (with_reducible refine Below.grow ?_ (by first | omega | (simp [go_sem] <;> omega)) _) | (with_reducible refine Below.setCell ?_ (by first | omega | (simp [go_sem] <;> omega)) _))); done)) hb1); clear hb1 hr1 hA1))
    go_ret
    exact Ret.of rfl HB1.out
  | some a =>
    rw [hv] at HV0
    have HV1 := Lib.hid HV0
    simp only [Option.getD_some, Option.isSome_some] at HV1
    obtain ⟨hs1, hs2, hs3⟩ := value_stays hv
    obtain ⟨has, hal⟩ := value_short hs hl1 hv
    have hall : a.all rightC = true := List.all_eq_true.2 fun z hz => (hs3 z hz).2
    have HSane : Hid (∀ z ∈ a, saneC z) := fun z hz => (hs3 z hz).1
    have HV2 := Lib.hid (fun W (hB : Below w.heap.size w W) (A1 : Option Addr) (c1 : Nat) (hA : A1 = none → c1 = 0) (hr : Rd W (.slice A1 a.length c1) a.length 4 (cssCells a)) => show Calls Tryz.prog 11 #[.string S, .slice A1 a.length c1] W (fun e w' => ∃ A2 c2, e = .returned (.tuple #[.slice A2 a.length c2, .bool true]) ∧ Below W.heap.size W w' ∧ Rd w' (.slice A2 a.length c2) a.length 4 (cssCells a)) from by
      have h8 := (value16_any S.data.toList A1 a.length c1 a W (HTM.out W hB).1 (HTM.out W hB).2 hr hA has (by omega)).mono fun _ _ h => RetV.abs h
      rw [hs1] at h8
      exact h8.mono fun e w' ⟨A2, c2, e1, e2, _, _, e5⟩ => ⟨A2, c2, e1, e2, e5⟩)
    have HTx := Lib.hid (fun W (hB : Below w.heap.size w W) (A1 : Option Addr) (c1 : Nat) (hr : Rd W (.slice A1 a.length c1) a.length 4 (cssCells a)) => show ∃ T : ByteArray, Calls Tryz.prog 21 #[.slice A1 a.length c1] W (Ret (.tuple #[.string T, .bool true]) W) from by
      have h8 := text_any A1 a.length c1 a W (HTM.out W hB).1 (HTM.out W hB).2 hr has (by omega)
      rw [hall] at h8
      exact ⟨_, h8⟩)
    have HSa := Lib.hid (fun (W : World) (A1 A2 : Option Addr) (c1 c2 : Nat) (ha : Rd W (.slice A1 a.length c1) a.length 4 (cssCells a)) (hb : Rd W (.slice A2 a.length c2) a.length 4 (cssCells a)) => show Calls Tryz.prog 13 #[.slice A1 a.length c1, .slice A2 a.length c2] W (Ret (.bool true) W) from by
      have h8 := same_any A1 A2 _ _ c1 c2 a a W ha hb
      rwa [decide_eq_true rfl] at h8)
    have hpos : 0 < a.length := List.length_pos_iff.2 hs2
    clear hv HV0 hs hA0 hs1 hs2 hs3 has hall
    go_enter Tryz.func8, Tryz.ntmps8
    go_wp2_with (first
      | (go_at_call 9; refine (awake16_any _ HTB.out HMX.out).mono ?_; rintro e w' ⟨rfl, A0, rfl⟩) | (go_at_call 10; (with_reducible refine (HF.out _).mono ?_); rintro e w' ⟨rfl, F0, rfl⟩)
      | (go_at_call 11; (with_reducible refine (HV1.out _ (by (repeat (first | with_reducible exact Below.refl _ _ | (with_reducible refine Below.alloc ?_ (by first | omega | (simp [go_sem] <;> omega)) _) | (with_reducible refine Below.drew ?_) | (with_reducible refine Below.drewN ?_ _) | (with_reducible refine Below.grow ?_ (by first | omega | (simp [go_sem] <;> omega)) _) | (with_reducible refine Below.setCell ?_ (by first | omega | (simp [go_sem] <;> omega)) _))); done)).mono ?_); rintro e W1 ⟨A1, c1, rfl, hb1, hA1, hc1, hr1⟩; have HB1 := Lib.hid (below_next (show Below w.heap.size w _ from (by (repeat (first | with_reducible exact Below.refl _ _ | (with_reducible refine Below.alloc ?_ (by first | omega | (simp [go_sem] <;> omega)) _) | (with_reducible refine Below.drew ?_) | (with_reducible refine Below.drewN ?_ _) | (with_reducible refine Below.grow ?_ (by first | omega | (simp [go_sem] <;> omega)) _) | (with_reducible refine Below.setCell ?_ (by first | omega | (simp [go_sem] <;> omega)) _))); done)) hb1); have HR1 := Lib.hid hr1; have HV := Lib.hid (HV2.out W1 HB1.out A1 c1 hA1 hr1); clear hb1 hr1 hA1)
      | (go_at_call 11; (with_reducible refine HV.out.mono ?_); rintro e W2 ⟨A2, c2, rfl, hb2, hr2⟩; have HB2 := Lib.hid (below_next HB1.out hb2); have HR2 := Lib.hid (Rd.below' HR1.out hb2); have HQ2 := Lib.hid hr2; obtain ⟨T, hT⟩ := HTx.out W2 HB2.out A1 c1 HR2.out; have HT := Lib.hid hT; clear hb2 hr2 hT)
      | (go_at_call 21; (with_reducible refine HT.out.mono ?_); rintro e w' ⟨rfl, X3, rfl⟩))
    go_loopw [13] (fun i wr => ∃ k : Nat, k ≤ a.length ∧ i = .int .i64 k ∧ wr = W2.grow X3) (fun i _ => a.length - (intOf i).toNat)
    case atStart => exact ⟨0, by omega, rfl, rfl⟩
    case round =>
      obtain ⟨k, hk, rfl, rfl⟩ := hrel
      by_cases hlt : k < a.length
      · obtain ⟨b, off, rfl, hb, q0, q1, q2, q3⟩ := (HR2.out.grow X3).css k hlt
        obtain ⟨z7, z2⟩ := HSane.out _ (List.getElem_mem hlt)
        simp only [sv] at q1
        have hz : ∀ t : Bs, ((⟨a[k].text.toArray⟩ : ByteArray).toList == t) = decide (a[k].text = t) := fun t => by rw [ByteArray.toList_eq, Bool.eq_iff_iff]; exact beq_iff_eq.trans decide_eq_true_iff.symm
        have b7 : (a[k].kind == 7) = false := by simpa using z7
        cases k2 : (a[k].kind == 2)
        · generalize (⟨a[k].text.toArray⟩ : ByteArray) = a1 at *
          generalize a[k].kind = kk at *
          clear z7 z2 hz
          go_wp2_with fail
          go_roundw
          case rel => exact ⟨k + 1, by omega, by go_num, by first | rfl | trivial⟩
          case measure => simp [intOf]; omega
        · obtain ⟨u1, u2⟩ := z2 (by simpa using k2)
          have b1 : ((⟨a[k].text.toArray⟩ : ByteArray).toList == [117, 114, 108]) = false := by rw [hz]; simpa using u1
          have b2 : ((⟨a[k].text.toArray⟩ : ByteArray).toList == [101, 120, 112, 114, 101, 115, 115, 105, 111, 110]) = false := by rw [hz]; simpa using u2
          generalize (⟨a[k].text.toArray⟩ : ByteArray) = a1 at *
          generalize a[k].kind = kk at *
          clear z7 z2 hz u1 u2
          go_wp2_with fail
          go_roundw
          case rel => exact ⟨k + 1, by omega, by go_num, by first | rfl | trivial⟩
          case measure => simp [intOf]; omega
      · have HSf := Lib.hid (HSa.out (W2.grow X3) A1 A2 c1 c2 (HR2.out.grow X3) (HQ2.out.grow X3))
        have b0 : decide ((0 : Int) < a.length) = true := by simp; omega
        go_wp2_with (go_at_call 13; (with_reducible refine HSf.out.mono ?_); rintro e w' ⟨rfl, X4, rfl⟩)
        go_ret
        exact Ret.of rfl (below_next HB2.out (by repeat (first | with_reducible exact Below.refl _ _ | (with_reducible refine Below.alloc ?_ (by first | omega | (simp [go_sem] <;> omega)) _) | (with_reducible refine Below.drew ?_) | (with_reducible refine Below.drewN ?_ _) | (with_reducible refine Below.grow ?_ (by first | omega | (simp [go_sem] <;> omega)) _) | (with_reducible refine Below.setCell ?_ (by first | omega | (simp [go_sem] <;> omega)) _))))

set_option maxRecDepth 100000 in
theorem lifted (os : Os) (started : os.Started) (H : Type) (enc : TypeId × Value → H) :
    ReturnsInHanded {} Tryz.checked os 8 .any (fun w args => (Rows.cssvalStaysSpec.pre enc Tryz.prog Tryz.f8 Rows.cssvalStaysRow.domain false w args ∧ laidMetH Tryz.prog Rows.cssvalStaysRow.laid w) ∧ sizedMet enc Tryz.prog Tryz.f8 (OpenSpec.ofChange Rows.cssvalStaysSpec) false w args) (Rows.cssvalStaysSpec.post enc Tryz.prog Tryz.f8 false true false false) := by
  refine handed_shape (C := Tryz.checked) (X := fun w _ => laidMetH Tryz.prog Rows.cssvalStaysRow.laid w) (fun _ _ _ hh h => h.of_heap hh) own started (by kernel_rfl) Tryz.func8
    (ChangeSpec.witness_shaped (enc := enc) (C := Tryz.checked) (os := os) (X := fun w _ => laidMetH Tryz.prog Rows.cssvalStaysRow.laid w) false (World.laidAll Tryz.prog os Rows.cssvalStaysRow.laid) #[.string ⟨#[]⟩, .slice none 0 0] 8 (World.laidAll_os _ _ _)
      (World.shaped_of_ZipB (by kernel_rfl) (by kernel_rfl)) (by kernel_rfl) (by kernel_rfl) (by kernel_rfl)
      (by rw [MakeChecks.laidMetH_plain _ _ _ (by kernel_rfl)]; exact laidMet_laidAll _ (by kernel_rfl) (by kernel_rfl))) ?_
  intro W base args ds gs before hval0 hW hL hsh
  have hval : ∀ (j : Nat) t v, Tryz.f8.params[j]? = some t → args[j]? = some v → Value.okWide Tryz.prog W .any base t v := hval0
  have hW' := hW
  obtain ⟨p, q, hA0, hV, rfl, hfz, hnd⟩ := hW
  have hA : DataW.TrodAll enc Tryz.prog W 0 (fun _ => true) true Tryz.f8.params.toList args.toList ds p := hA0
  rw [Tryz.params8] at hA hval
  obtain ⟨v0, vs0, d0, ds0, p0, q0, hargs, rfl, rfl, h0, r0⟩ := trodAll_cons hA
  obtain ⟨v1, vs1, d1, ds1, p1, q1, rfl, rfl, rfl, h1, r1⟩ := trodAll_cons r0
  obtain ⟨rfl, rfl, rfl⟩ := trodAll_nil r1
  obtain rfl : args = #[v0, v1] := by cases args; simp_all
  obtain ⟨rfl, rfl⟩ := trodVars_none hV
  obtain ⟨s0, rfl, rfl, rfl, w0⟩ := open_string Tryz.underlying9 (hval 0 9 v0 rfl rfl) h0
  obtain ⟨a1, len1, cap1, rfl⟩ := okWide_slice Tryz.underlying22 (hval 1 22 v1 rfl rfl)
  have k1 := h1
  have lt1 : ∀ x ∈ p1, x.block < W.heap.size := by obtain ⟨m, hm⟩ := k1; exact DataW.trod_lt m _ _ _ hm
  obtain ⟨z1, e1, w1, m1⟩ : ∃ l : List Css, l.length = len1 ∧ Rd W (.slice a1 len1 cap1) l.length 4 (cssCells l) ∧ ∀ p ∈ l, CssIn p := by obtain ⟨fuel, hf⟩ := h1; exact css_open (by simpa [Value.cells] using hf)
  have n1 : ∀ a n cap, Value.slice a1 len1 cap1 = .slice a n cap → (a = none → cap = 0) ∧ n ≤ cap := fun _ _ _ hh => by cases hh; obtain ⟨fuel, hf⟩ := h1; exact ⟨css_nil (by simpa [Value.cells] using hf), css_cap (by simpa [Value.cells] using hf)⟩
  clear hA0 hval0
  refine (walk s0 (.slice a1 len1 cap1) z1 W (tb_laid hL (by rfl)) (mx_shape hsh) w0 w1 m1 n1).mono fun e W' hend => ?_
  obtain ⟨he, X, hX⟩ := hend
  have bel : Below W.heap.size W W' := by rw [hX]; exact below_grow W X
  subst he
  exact ⟨_, rfl, _, _, _, [], _, [], hW', trodAll_mk1 (shut_bool Tryz.underlying4 _), (trodAll_cons_mk (shut_string Tryz.underlying9 w0) (trodAll_cons_mk (Below.trod laidOut (by kernel_rfl) (of_decide_eq_true (by kernel_rfl)) k1 bel lt1) trodAll_mk0)), rfl, bel.frame _, fun h => by cases h⟩

theorem over : Rows.cssvalStaysRow.holds Tryz.pinned (OpenSpec.ofChange Rows.cssvalStaysSpec) :=
  OpenClaim.holds_of_wide 8 Tryz.f8 rfl rfl rfl rfl rfl rfl rfl ⟨rfl, rfl, rfl, rfl, rfl⟩ rfl rfl rfl rfl rfl (by kernel_rfl) Tryz.func8 (by kernel_rfl)
    (of_decide_eq_true (by kernel_rfl)) (by unfold Func.isWrapper; rw [if_neg (of_decide_eq_false (by kernel_rfl))]; exact ⟨rfl, rfl⟩)
    (fun os started H enc _ => lifted os started H enc)

/-- The statement. -/
theorem proved : Rows.CssvalStaysCardSaid :=
  Claim7.holds_tied_plain_at .later [] [.data, .data, .data, .data, .pinned] true _ false over (fun _ h => by cases h) (by kernel_rfl) (fun _ h => by cases h) cssvalStays_row_tie rfl ⟨rfl, rfl⟩ (by kernel_rfl) rfl
    (fun f fn hf hfn => by
      obtain rfl : f = 8 := Option.some.inj ((show Tryz.prog.funcNamed "cribble/cribblelaw16.CssvalStays" = some 8 by kernel_rfl).symm.trans hf) |>.symm
      obtain rfl : fn = Tryz.f8 := (Option.some.inj (Tryz.func8.symm.trans hfn)).symm
      exact ⟨by kernel_rfl, fun j t ht => by
        rw [Tryz.params8] at ht
        have hm : t ∈ [9, 22] := by simpa using Array.mem_of_getElem? ht
        have hall : ([9, 22].all fun u => !Tryz.prog.wantsStandIn u) = true := by kernel_rfl
        exact (show Tryz.prog.wantsStandIn t = false by simpa using List.all_eq_true.1 hall t hm)⟩)
    (by kernel_rfl)

end Go.Proofs.YtgcccpdadponiaaGreatDoor.cssvalStays
