/- What is told as text is scanned as the same pieces, and any text's pieces can be told if none is bad: CsstokBack returns true. No condition: whatever the arguments; the row lists tables of Go's library, which the card ties to the program's text. -/
import Derived.ProofKit
import Derived.ChangeSame
import Derived.ChangeAt
import Derived.SizedLaws
import Derived.OpenShut
import Derived.ShutString
import Derived.ChangeOld
import Derived.LaidMore
import Derived.Lay
import Derived.SevenTiedAt
import Derived.Stop.Joined
import Derived.Test.YtjaebdjlgohapaaDoorRows
import Derived.Test.YtjaebdjlgohapaaDoorCards
import Derived.Test.YtjaebdjlgohapaaDoorTie
import Derived.Test.YtjaebdjlgohapaaDoorCssR
namespace Go.Proofs.YtjaebdjlgohapaaDoor.csstokBack
open Go.ChangeShapes Go.WideShapes Go.ChangeAt Go.RowKit
open Go.ChangeMaps (open_string shut_string)

theorem own : ownKnob Tryd.prog.godebug = none := by kernel_rfl
theorem laidOut : laidOutB Tryd.prog = true := by kernel_rfl


set_option maxRecDepth 100000 in
set_option maxHeartbeats 8000000 in
theorem walk (v : Value) (l : List Css) (s : ByteArray) (w : World) (hT : Tb w) (hX : Mx w) (h : Rd w v l.length 4 (cssCells l)) (hz : ∀ p ∈ l, CssIn p) (_hn : ∀ a n cap, v = .slice a n cap → a = none → cap = 0) (_hm : s.size ≤ maxLen) : Calls Tryd.prog 3 #[v, .string s] w (Ret (.bool true) w) := by
  have hmx : Tryd.prog.follows .mixedOrders = true := by kernel_rfl
  have HR := Lib.hid h
  have HZ := Lib.hid hz
  have HTB := Lib.hid hT
  have HMX := Lib.hid hX
  obtain ⟨_, hm, A, c, rfl, _⟩ := h
  clear hz hT hX _hn
  cases hf : fewB l
  · have HF := Lib.hid (fun X => hf ▸ few_any A l.length c l (w.grow X) (HR.out.grow X))
    clear hf
    go_enter Tryd.func3, Tryd.ntmps3
    go_wp2_with (first | (go_at_call 7; refine (awake_any _ HTB.out HMX.out).mono ?_; rintro e w' ⟨rfl, A0, rfl⟩) | (go_at_call 8; (with_reducible refine (HF.out _).mono ?_); rintro e w' ⟨rfl, F0, rfl⟩))
    go_ret
    exact Ret.of rfl (by repeat (first | with_reducible exact Below.refl _ _ | (with_reducible refine Below.alloc ?_ (by first | omega | (simp [go_sem] <;> omega)) _) | (with_reducible refine Below.drew ?_) | (with_reducible refine Below.drewN ?_ _) | (with_reducible refine Below.grow ?_ (by first | omega | (simp [go_sem] <;> omega)) _) | (with_reducible refine Below.setCell ?_ (by first | omega | (simp [go_sem] <;> omega)) _)))
  have HF := Lib.hid (fun X => hf ▸ few_any A l.length c l (w.grow X) (HR.out.grow X))
  by_cases h9 : 1000 < s.size
  · have b9 : decide ((1000 : Int) < s.size) = true := by simp; omega
    clear h9 _hm hf
    go_enter Tryd.func3, Tryd.ntmps3
    go_wp2_with (first | (go_at_call 7; refine (awake_any _ HTB.out HMX.out).mono ?_; rintro e w' ⟨rfl, A0, rfl⟩) | (go_at_call 8; (with_reducible refine (HF.out _).mono ?_); rintro e w' ⟨rfl, F0, rfl⟩))
    go_ret
    exact Ret.of rfl (by repeat (first | with_reducible exact Below.refl _ _ | (with_reducible refine Below.alloc ?_ (by first | omega | (simp [go_sem] <;> omega)) _) | (with_reducible refine Below.drew ?_) | (with_reducible refine Below.drewN ?_ _) | (with_reducible refine Below.grow ?_ (by first | omega | (simp [go_sem] <;> omega)) _) | (with_reducible refine Below.setCell ?_ (by first | omega | (simp [go_sem] <;> omega)) _)))
  have b9 : decide ((1000 : Int) < s.size) = false := by simp; omega
  obtain ⟨hs, hl1, hl2⟩ := few_short hf HZ.out
  clear _hm
  obtain ⟨D, hD⟩ : ∃ D, l.all rightC = D := ⟨_, rfl⟩
  obtain ⟨T, hTT⟩ : ∃ T : ByteArray, ⟨(if D then textC l else []).toArray⟩ = T := ⟨_, rfl⟩
  have HTx := Lib.hid (fun X => show Calls Tryd.prog 9 #[.slice A l.length c] (w.grow X) (Ret (.tuple #[.string T, .bool D]) (w.grow X)) from by
    have := text_any A l.length c l (w.grow X) (HTB.out.grow X) (HMX.out.grow X) (HR.out.grow X) hs (by omega)
    rw [hD, hTT] at this; exact this)
  have HS1 := Lib.hid (fun X (hd : D = true) => show Calls Tryd.prog 11 #[.string T] (w.grow X) (RetS (w.grow X) l.length 4 (cssCells l)) from by
    have h1 := text_short hs (by omega) hl2
    subst hd
    have := scan_any (textC l) (w.grow X) (HMX.out.grow X) (by omega)
    rw [scan_text hD] at this
    rw [← hTT]; exact this)
  have HSa := Lib.hid (fun (W : World) (A1 A2 : Option Addr) (c1 c2 n : Nat) (ll : List Css) (ha : Rd W (.slice A1 n c1) ll.length 4 (cssCells ll)) (hb : Rd W (.slice A2 n c2) ll.length 4 (cssCells ll)) => show Calls Tryd.prog 10 #[.slice A1 n c1, .slice A2 n c2] W (Ret (.bool true) W) from by
    have := same_any A1 A2 n n c1 c2 ll ll W ha hb
    rwa [decide_eq_true rfl] at this)
  obtain ⟨⟨s0⟩⟩ := s
  have hs0 : s0.length ≤ 1000 := by
    have : (⟨⟨s0⟩⟩ : ByteArray).size = s0.length := rfl
    omega
  obtain ⟨M, hM⟩ : ∃ M, cssL s0 = M := ⟨_, rfl⟩
  obtain ⟨hM1, hM2, hM3⟩ := hM ▸ scan_short hs0
  have HAll := Lib.hid (hM ▸ scan_all s0)
  have HS2 := Lib.hid (fun X => show Calls Tryd.prog 11 #[.string ⟨⟨s0⟩⟩] (w.grow X) (RetS (w.grow X) M.length 4 (cssCells M)) from by
    have := scan_any s0 (w.grow X) (HMX.out.grow X) (by omega)
    rw [hM] at this; exact this)
  obtain ⟨U, hU⟩ : ∃ U : ByteArray, ⟨(if M.all rightC then textC M else []).toArray⟩ = U := ⟨_, rfl⟩
  have HT2 := Lib.hid (fun X A1 c1 (hr : Rd (w.grow X) (.slice A1 M.length c1) M.length 4 (cssCells M)) => show Calls Tryd.prog 9 #[.slice A1 M.length c1] (w.grow X) (Ret (.tuple #[.string U, .bool (M.all rightC)]) (w.grow X)) from by
    have := text_any A1 M.length c1 M (w.grow X) (HTB.out.grow X) (HMX.out.grow X) hr hM1 (by omega)
    rw [hU] at this; exact this)
  have HS3 := Lib.hid (fun X (hd : M.all rightC = true) => show Calls Tryd.prog 11 #[.string U] (w.grow X) (RetS (w.grow X) M.length 4 (cssCells M)) from by
    have h1 := text_short hM1 (by omega) hM3
    have := scan_any (textC M) (w.grow X) (HMX.out.grow X) (by omega)
    rw [scan_text hd] at this
    rw [← hU, if_pos hd]; exact this)
  clear hs hl1 hl2 hU hM1 hM3 hM hs0 h9 hf
  generalize (⟨⟨s0⟩⟩ : ByteArray) = s at *
  cases D
  · clear hD hTT HS1
    go_enter Tryd.func3, Tryd.ntmps3
    go_wp2_with (first | (go_at_call 7; refine (awake_any _ HTB.out HMX.out).mono ?_; rintro e w' ⟨rfl, A0, rfl⟩) | (go_at_call 8; (with_reducible refine (Ret.flat (HF.out _)).mono ?_); rintro e w' ⟨rfl, F0, rfl⟩) | (go_at_call 9; (with_reducible refine (Ret.flat (HTx.out _)).mono ?_); rintro e w' ⟨rfl, X1, rfl⟩) | (go_at_call 11; (with_reducible refine (RetS.flat (HS2.out _)).mono ?_); rintro e w' ⟨A2, c2, X2, rfl, rfl, hc2, hr2⟩; have HM2 := Lib.hid hr2; clear hr2))
    go_loopw [10, 11] (fun b i wr => ∃ (k : Nat), k ≤ M.length ∧ i = .int .i64 k ∧ wr = w.grow X2 ∧ b = .bool ((M.take k).any fun x => decide (x.kind = 7))) (fun _ i _ => M.length - (intOf i).toNat)
    case atStart => exact ⟨0, by omega, rfl, rfl, rfl⟩
    case round =>
      obtain ⟨k, hk, rfl, rfl, rfl⟩ := hrel
      by_cases hlt : k < M.length
      · obtain ⟨b, off, rfl, hb, c0, c1', c2', c3'⟩ := HM2.out.css k hlt
        have HAn := Lib.hid (show (M.take (k + 1)).any (fun x => decide (x.kind = 7)) = ((M.take k).any (fun x => decide (x.kind = 7)) || decide (M[k].kind = 7)) by rw [List.take_succ_eq_append_getElem hlt, List.any_append]; simp)
        generalize M[k] = x at *
        cases hb0 : (M.take k).any fun x => decide (x.kind = 7)
        · rw [hb0] at HAn
          by_cases h7 : x.kind = 7
          · have b7 : (x.kind == 7) = true := by simp [h7]
            rw [decide_eq_true h7] at HAn
            clear h7
            generalize x.kind = kk at *
            go_wp2_with fail
            go_roundw
            case rel => exact ⟨k + 1, by omega, by go_num, by first | rfl | trivial, by rw [HAn.out]; rfl⟩
            case measure => simp [intOf]; omega
          · have b7 : (x.kind == 7) = false := by simp [h7]
            rw [decide_eq_false h7] at HAn
            clear h7
            generalize x.kind = kk at *
            go_wp2_with fail
            go_roundw
            case rel => exact ⟨k + 1, by omega, by go_num, by first | rfl | trivial, by rw [HAn.out]; rfl⟩
            case measure => simp [intOf]; omega
        · rw [hb0] at HAn
          go_wp2_with fail
          go_roundw
          case rel => exact ⟨k + 1, by omega, by go_num, by first | rfl | trivial, by rw [HAn.out]; rfl⟩
          case measure => simp [intOf]; omega
      · have hk2 : k = M.length := by omega
        subst hk2
        have HAll2 := HAll
        rw [List.take_length]
        cases hbad : M.any fun x => decide (x.kind = 7)
        · rw [hbad] at HAll2
          have hM3 : M.all rightC = true := HAll2.out
          have HT3 := Lib.hid (fun X A1 c1 hr => hM3 ▸ HT2.out X A1 c1 hr)
          have HS4 := Lib.hid (fun X => HS3.out X hM3)
          clear hM3 hbad HAll2
          go_wp2_with (first | (go_at_call 9; (with_reducible refine (HT3.out _ _ _ HM2.out).mono ?_); rintro e w' ⟨rfl, Z1, rfl⟩; rw [grow_grow]; have HM3 := Lib.hid (show Rd (w.grow _) _ _ _ _ from grow_grow w X2 Z1 ▸ HM2.out.grow Z1)) | (go_at_call 11; (with_reducible refine (HS4.out _).mono ?_); rintro e w' ⟨A4, c4, Z2, rfl, rfl, hc4, hr4⟩; have HM4 := Lib.hid hr4; clear hr4) | (go_at_call 10; (refine (HSa.out _ _ _ _ _ _ M HM4.out (HM3.out.grow _)).mono ?_); rintro e w' ⟨rfl, Z3, rfl⟩))
          go_ret
          exact Ret.of rfl (by repeat (first | with_reducible exact Below.refl _ _ | (with_reducible refine Below.alloc ?_ (by first | omega | (simp [go_sem] <;> omega)) _) | (with_reducible refine Below.drew ?_) | (with_reducible refine Below.drewN ?_ _) | (with_reducible refine Below.grow ?_ (by first | omega | (simp [go_sem] <;> omega)) _) | (with_reducible refine Below.setCell ?_ (by first | omega | (simp [go_sem] <;> omega)) _)))
        · rw [hbad] at HAll2
          have hM3 : M.all rightC = false := HAll2.out
          have HT3 := Lib.hid (fun X A1 c1 hr => hM3 ▸ HT2.out X A1 c1 hr)
          clear hM3 hbad HAll2
          go_wp2_with (go_at_call 9; (with_reducible refine (HT3.out _ _ _ HM2.out).mono ?_); rintro e w' ⟨rfl, Z1, rfl⟩)
          go_ret
          exact Ret.of rfl (by repeat (first | with_reducible exact Below.refl _ _ | (with_reducible refine Below.alloc ?_ (by first | omega | (simp [go_sem] <;> omega)) _) | (with_reducible refine Below.drew ?_) | (with_reducible refine Below.drewN ?_ _) | (with_reducible refine Below.grow ?_ (by first | omega | (simp [go_sem] <;> omega)) _) | (with_reducible refine Below.setCell ?_ (by first | omega | (simp [go_sem] <;> omega)) _)))
  · have HS1' := Lib.hid (fun X => HS1.out X rfl)
    clear hD hTT HS1
    go_enter Tryd.func3, Tryd.ntmps3
    go_wp2_with (first | (go_at_call 7; refine (awake_any _ HTB.out HMX.out).mono ?_; rintro e w' ⟨rfl, A0, rfl⟩) | (go_at_call 8; (with_reducible refine (Ret.flat (HF.out _)).mono ?_); rintro e w' ⟨rfl, F0, rfl⟩) | (go_at_call 9; (with_reducible refine (Ret.flat (HTx.out _)).mono ?_); rintro e w' ⟨rfl, X1, rfl⟩) | (go_at_call 11; (with_reducible refine (RetS.flat (HS1'.out _)).mono ?_); rintro e w' ⟨A1, c1, Y1, rfl, rfl, hc1, hr1⟩; have HM1 := Lib.hid hr1; clear hr1) | (go_at_call 10; (refine (Ret.flat (HSa.out _ _ _ _ _ _ l HM1.out (HR.out.grow _))).mono ?_); rintro e w' ⟨rfl, Y2, rfl⟩) | (go_at_call 11; (with_reducible refine (RetS.flat (HS2.out _)).mono ?_); rintro e w' ⟨A2, c2, X2, rfl, rfl, hc2, hr2⟩; have HM2 := Lib.hid hr2; clear hr2))
    go_loopw [10, 11] (fun b i wr => ∃ (k : Nat), k ≤ M.length ∧ i = .int .i64 k ∧ wr = w.grow X2 ∧ b = .bool ((M.take k).any fun x => decide (x.kind = 7))) (fun _ i _ => M.length - (intOf i).toNat)
    case atStart => exact ⟨0, by omega, rfl, rfl, rfl⟩
    case round =>
      obtain ⟨k, hk, rfl, rfl, rfl⟩ := hrel
      by_cases hlt : k < M.length
      · obtain ⟨b, off, rfl, hb, c0, c1', c2', c3'⟩ := HM2.out.css k hlt
        have HAn := Lib.hid (show (M.take (k + 1)).any (fun x => decide (x.kind = 7)) = ((M.take k).any (fun x => decide (x.kind = 7)) || decide (M[k].kind = 7)) by rw [List.take_succ_eq_append_getElem hlt, List.any_append]; simp)
        generalize M[k] = x at *
        cases hb0 : (M.take k).any fun x => decide (x.kind = 7)
        · rw [hb0] at HAn
          by_cases h7 : x.kind = 7
          · have b7 : (x.kind == 7) = true := by simp [h7]
            rw [decide_eq_true h7] at HAn
            clear h7
            generalize x.kind = kk at *
            go_wp2_with fail
            go_roundw
            case rel => exact ⟨k + 1, by omega, by go_num, by first | rfl | trivial, by rw [HAn.out]; rfl⟩
            case measure => simp [intOf]; omega
          · have b7 : (x.kind == 7) = false := by simp [h7]
            rw [decide_eq_false h7] at HAn
            clear h7
            generalize x.kind = kk at *
            go_wp2_with fail
            go_roundw
            case rel => exact ⟨k + 1, by omega, by go_num, by first | rfl | trivial, by rw [HAn.out]; rfl⟩
            case measure => simp [intOf]; omega
        · rw [hb0] at HAn
          go_wp2_with fail
          go_roundw
          case rel => exact ⟨k + 1, by omega, by go_num, by first | rfl | trivial, by rw [HAn.out]; rfl⟩
          case measure => simp [intOf]; omega
      · have hk2 : k = M.length := by omega
        subst hk2
        have HAll2 := HAll
        rw [List.take_length]
        cases hbad : M.any fun x => decide (x.kind = 7)
        · rw [hbad] at HAll2
          have hM3 : M.all rightC = true := HAll2.out
          have HT3 := Lib.hid (fun X A1 c1 hr => hM3 ▸ HT2.out X A1 c1 hr)
          have HS4 := Lib.hid (fun X => HS3.out X hM3)
          clear hM3 hbad HAll2
          go_wp2_with (first | (go_at_call 9; (with_reducible refine (HT3.out _ _ _ HM2.out).mono ?_); rintro e w' ⟨rfl, Z1, rfl⟩; rw [grow_grow]; have HM3 := Lib.hid (show Rd (w.grow _) _ _ _ _ from grow_grow w X2 Z1 ▸ HM2.out.grow Z1)) | (go_at_call 11; (with_reducible refine (HS4.out _).mono ?_); rintro e w' ⟨A4, c4, Z2, rfl, rfl, hc4, hr4⟩; have HM4 := Lib.hid hr4; clear hr4) | (go_at_call 10; (refine (HSa.out _ _ _ _ _ _ M HM4.out (HM3.out.grow _)).mono ?_); rintro e w' ⟨rfl, Z3, rfl⟩))
          go_ret
          exact Ret.of rfl (by repeat (first | with_reducible exact Below.refl _ _ | (with_reducible refine Below.alloc ?_ (by first | omega | (simp [go_sem] <;> omega)) _) | (with_reducible refine Below.drew ?_) | (with_reducible refine Below.drewN ?_ _) | (with_reducible refine Below.grow ?_ (by first | omega | (simp [go_sem] <;> omega)) _) | (with_reducible refine Below.setCell ?_ (by first | omega | (simp [go_sem] <;> omega)) _)))
        · rw [hbad] at HAll2
          have hM3 : M.all rightC = false := HAll2.out
          have HT3 := Lib.hid (fun X A1 c1 hr => hM3 ▸ HT2.out X A1 c1 hr)
          clear hM3 hbad HAll2
          go_wp2_with (go_at_call 9; (with_reducible refine (HT3.out _ _ _ HM2.out).mono ?_); rintro e w' ⟨rfl, Z1, rfl⟩)
          go_ret
          exact Ret.of rfl (by repeat (first | with_reducible exact Below.refl _ _ | (with_reducible refine Below.alloc ?_ (by first | omega | (simp [go_sem] <;> omega)) _) | (with_reducible refine Below.drew ?_) | (with_reducible refine Below.drewN ?_ _) | (with_reducible refine Below.grow ?_ (by first | omega | (simp [go_sem] <;> omega)) _) | (with_reducible refine Below.setCell ?_ (by first | omega | (simp [go_sem] <;> omega)) _)))

set_option maxRecDepth 100000 in
theorem lifted (os : Os) (started : os.Started) (H : Type) (enc : TypeId × Value → H) :
    ReturnsInHanded {} Tryd.checked os 3 .any (fun w args => (Rows.csstokBackSpec.pre enc Tryd.prog Tryd.f3 Rows.csstokBackRow.domain false w args ∧ laidMetH Tryd.prog Rows.csstokBackRow.laid w) ∧ sizedMet enc Tryd.prog Tryd.f3 (OpenSpec.ofChange Rows.csstokBackSpec) false w args) (Rows.csstokBackSpec.post enc Tryd.prog Tryd.f3 false true false false) := by
  refine handed_shape (C := Tryd.checked) (X := fun w _ => laidMetH Tryd.prog Rows.csstokBackRow.laid w) (fun _ _ _ hh h => h.of_heap hh) own started (by kernel_rfl) Tryd.func3
    (ChangeSpec.witness_shaped (enc := enc) (C := Tryd.checked) (os := os) (X := fun w _ => laidMetH Tryd.prog Rows.csstokBackRow.laid w) false (World.laidAll Tryd.prog os Rows.csstokBackRow.laid) #[.slice none 0 0, .string ⟨#[]⟩] 8 (World.laidAll_os _ _ _)
      (World.shaped_of_ZipB (by kernel_rfl) (by kernel_rfl)) (by kernel_rfl) (by kernel_rfl) (by kernel_rfl)
      (by rw [MakeChecks.laidMetH_plain _ _ _ (by kernel_rfl)]; exact laidMet_laidAll _ (by kernel_rfl) (by kernel_rfl))) ?_
  intro W base args ds gs before hval0 hW hL hsh
  have hval : ∀ (j : Nat) t v, Tryd.f3.params[j]? = some t → args[j]? = some v → Value.okWide Tryd.prog W .any base t v := hval0
  have hW' := hW
  obtain ⟨p, q, hA0, hV, rfl, hfz, hnd⟩ := hW
  have hA : DataW.TrodAll enc Tryd.prog W 0 (fun _ => true) true Tryd.f3.params.toList args.toList ds p := hA0
  rw [Tryd.params3] at hA hval
  obtain ⟨v0, vs0, d0, ds0, p0, q0, hargs, rfl, rfl, h0, r0⟩ := trodAll_cons hA
  obtain ⟨v1, vs1, d1, ds1, p1, q1, rfl, rfl, rfl, h1, r1⟩ := trodAll_cons r0
  obtain ⟨rfl, rfl, rfl⟩ := trodAll_nil r1
  obtain rfl : args = #[v0, v1] := by cases args; simp_all
  obtain ⟨rfl, rfl⟩ := trodVars_none hV
  obtain ⟨a0, len0, cap0, rfl⟩ := okWide_slice Tryd.underlying22 (hval 0 22 v0 rfl rfl)
  have k0 := h0
  have lt0 : ∀ x ∈ p0, x.block < W.heap.size := by obtain ⟨m, hm⟩ := k0; exact DataW.trod_lt m _ _ _ hm
  obtain ⟨z0, e0, w0, m0⟩ : ∃ l : List Css, l.length = len0 ∧ Rd W (.slice a0 len0 cap0) l.length 4 (cssCells l) ∧ ∀ p ∈ l, CssIn p := by obtain ⟨fuel, hf⟩ := h0; exact css_open (by simpa [Value.cells] using hf)
  have n0 : ∀ a n cap, Value.slice a0 len0 cap0 = .slice a n cap → a = none → cap = 0 := fun _ _ _ hh => by cases hh; obtain ⟨fuel, hf⟩ := h0; exact css_nil (by simpa [Value.cells] using hf)
  obtain ⟨s1, rfl, rfl, rfl, w1⟩ := open_string Tryd.underlying9 (hval 1 9 v1 rfl rfl) h1
  clear hA0 hval0
  refine (walk (.slice a0 len0 cap0) z0 s1 W (tb_laid hL (by rfl)) (mx_shape hsh) w0 m0 n0 w1).mono fun e W' hend => ?_
  obtain ⟨he, X, hX⟩ := hend
  have bel : Below W.heap.size W W' := by rw [hX]; exact below_grow W X
  subst he
  exact ⟨_, rfl, _, _, _, [], _, [], hW', trodAll_mk1 (shut_bool Tryd.underlying4 _), (trodAll_cons_mk (Below.trod laidOut (by kernel_rfl) (of_decide_eq_true (by kernel_rfl)) k0 bel lt0) (trodAll_cons_mk (shut_string Tryd.underlying9 w1) trodAll_mk0)), rfl, bel.frame _, fun h => by cases h⟩

theorem over : Rows.csstokBackRow.holds Tryd.pinned (OpenSpec.ofChange Rows.csstokBackSpec) :=
  OpenClaim.holds_of_wide 3 Tryd.f3 rfl rfl rfl rfl rfl rfl rfl ⟨rfl, rfl, rfl, rfl, rfl⟩ rfl rfl rfl rfl rfl (by kernel_rfl) Tryd.func3 (by kernel_rfl)
    (of_decide_eq_true (by kernel_rfl)) (by unfold Func.isWrapper; rw [if_neg (of_decide_eq_false (by kernel_rfl))]; exact ⟨rfl, rfl⟩)
    (fun os started H enc _ => lifted os started H enc)

/-- The statement. -/
theorem proved : Rows.CsstokBackCardSaid :=
  Claim7.holds_tied_plain_at .later [] [.data, .data, .data, .data, .pinned] true _ false over (fun _ h => by cases h) (by kernel_rfl) (fun _ h => by cases h) csstokBack_row_tie rfl ⟨rfl, rfl⟩ (by kernel_rfl) rfl
    (fun f fn hf hfn => by
      obtain rfl : f = 3 := Option.some.inj ((show Tryd.prog.funcNamed "cribble/cribblelaw13.CsstokBack" = some 3 by kernel_rfl).symm.trans hf) |>.symm
      obtain rfl : fn = Tryd.f3 := (Option.some.inj (Tryd.func3.symm.trans hfn)).symm
      exact ⟨by kernel_rfl, fun j t ht => by
        rw [Tryd.params3] at ht
        have hm : t ∈ [22, 9] := by simpa using Array.mem_of_getElem? ht
        have hall : ([22, 9].all fun u => !Tryd.prog.wantsStandIn u) = true := by kernel_rfl
        exact (show Tryd.prog.wantsStandIn t = false by simpa using List.all_eq_true.1 hall t hm)⟩)
    (by kernel_rfl)

end Go.Proofs.YtjaebdjlgohapaaDoor.csstokBack
