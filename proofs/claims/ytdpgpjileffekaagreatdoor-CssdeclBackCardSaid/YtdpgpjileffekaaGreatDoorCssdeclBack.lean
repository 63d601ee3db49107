/- What is told as text is parsed as the same declarations; what is parsed can be told, and is parsed so again: CssdeclBack returns true. No condition: whatever the arguments; the row lists tables of Go's library, which the card ties to the program's text. -/
import Derived.ProofKit
import Derived.ChangeSame
import Derived.ChangeAt
import Derived.SizedLaws
import Derived.OpenShut
import Derived.ShutString
import Derived.ChangeOld
import Derived.LaidMore
import Derived.Lay
import Derived.SevenTiedAt
import Derived.Stop.Joined
import Derived.Test.YtdpgpjileffekaaGreatDoorRows
import Derived.Test.YtdpgpjileffekaaGreatDoorCards
import Derived.Test.YtdpgpjileffekaaGreatDoorTie
import Derived.Test.YtdpgpjileffekaaGreatDoorCssOpen
import Derived.Test.YtdpgpjileffekaaGreatDoorDecN
import Derived.Test.YtdpgpjileffekaaGreatDoorDecR
namespace Go.Proofs.YtdpgpjileffekaaGreatDoor.cssdeclBack
open Go.ChangeShapes Go.WideShapes Go.ChangeAt Go.RowKit
open Go.ChangeMaps (open_string shut_string)

theorem own : ownKnob Tryz.prog.godebug = none := by kernel_rfl
theorem laidOut : laidOutB Tryz.prog = true := by kernel_rfl


set_option maxRecDepth 100000 in
set_option maxHeartbeats 8000000 in
theorem walk (v : Value) (l : List Dcl) (s : ByteArray) (w : World) (hT : Tb w) (hX : Mx w) (h : RdD w v l) (hz : ∀ d ∈ l, DclIn d) (_hn : ∀ a n cap, v = .slice a n cap → a = none → cap = 0) (_hm : s.size ≤ maxLen) : Calls Tryz.prog 5 #[v, .string s] w (Ret (.bool true) w) := by
  have hmx : Tryz.prog.follows .mixedOrders = true := by kernel_rfl
  have HR := Lib.hid h
  have HZ := Lib.hid hz
  have HTB := Lib.hid hT
  have HMX := Lib.hid hX
  obtain ⟨vs0, hall0, _, hlm, A, c, rfl, _⟩ := id h
  clear hz hT hX
  have HF := Lib.hid (fun W (hB : Below w.heap.size w W) => show Calls Tryz.prog 12 #[.slice A l.length c] W (Ret (.bool (fewD l)) W) from by
    obtain ⟨X, rfl⟩ := grow_of_below hB
    exact rfewd_any A l.length c l (w.grow X) (HR.out.grow X))
  cases hf : fewD l
  · rw [hf] at HF
    have HF' := Lib.hid HF.out
    clear hf HF
    go_enter Tryz.func5, Tryz.ntmps5
    go_wp2_with (first | (go_at_call 8; refine (awake14_any _ HTB.out HMX.out).mono ?_; rintro e w' ⟨rfl, A0, rfl⟩) | (go_at_call 12; (with_reducible refine (HF'.out _ (by repeat (first | with_reducible exact Below.refl _ _ | (with_reducible refine Below.alloc ?_ (by first | omega | (simp [go_sem] <;> omega)) _) | (with_reducible refine Below.drew ?_) | (with_reducible refine Below.drewN ?_ _) | (with_reducible refine Below.grow ?_ (by first | omega | (simp [go_sem] <;> omega)) _) | (with_reducible refine Below.setCell ?_ (by first | omega | (simp [go_sem] <;> omega)) _)))).mono ?_); rintro e w' ⟨rfl, F0, rfl⟩))
    go_ret
    exact Ret.of rfl (by repeat (first | with_reducible exact Below.refl _ _ | (with_reducible refine Below.alloc ?_ (by first | omega | (simp [go_sem] <;> omega)) _) | (with_reducible refine Below.drew ?_) | (with_reducible refine Below.drewN ?_ _) | (with_reducible refine Below.grow ?_ (by first | omega | (simp [go_sem] <;> omega)) _) | (with_reducible refine Below.setCell ?_ (by first | omega | (simp [go_sem] <;> omega)) _)))
  obtain ⟨hs, hl, htl⟩ := few_shortD hf HZ.out
  have HS := Lib.hid hs
  rw [hf] at HF
  have HF' := Lib.hid HF.out
  clear hf HF hs
  by_cases h9 : 1000 < s.size
  · have b9 : decide ((1000 : Int) < s.size) = true := by simp; omega
    clear h9
    go_enter Tryz.func5, Tryz.ntmps5
    go_wp2_with (first | (go_at_call 8; refine (awake14_any _ HTB.out HMX.out).mono ?_; rintro e w' ⟨rfl, A0, rfl⟩) | (go_at_call 12; (with_reducible refine (HF'.out _ (by repeat (first | with_reducible exact Below.refl _ _ | (with_reducible refine Below.alloc ?_ (by first | omega | (simp [go_sem] <;> omega)) _) | (with_reducible refine Below.drew ?_) | (with_reducible refine Below.drewN ?_ _) | (with_reducible refine Below.grow ?_ (by first | omega | (simp [go_sem] <;> omega)) _) | (with_reducible refine Below.setCell ?_ (by first | omega | (simp [go_sem] <;> omega)) _)))).mono ?_); rintro e w' ⟨rfl, F0, rfl⟩))
    go_ret
    exact Ret.of rfl (by repeat (first | with_reducible exact Below.refl _ _ | (with_reducible refine Below.alloc ?_ (by first | omega | (simp [go_sem] <;> omega)) _) | (with_reducible refine Below.drew ?_) | (with_reducible refine Below.drewN ?_ _) | (with_reducible refine Below.grow ?_ (by first | omega | (simp [go_sem] <;> omega)) _) | (with_reducible refine Below.setCell ?_ (by first | omega | (simp [go_sem] <;> omega)) _)))
  have b9 : decide ((1000 : Int) < s.size) = false := by simp; omega
  obtain ⟨⟨s0⟩⟩ := s
  have hs0 : s0.length ≤ 1000 := by
    have : (⟨⟨s0⟩⟩ : ByteArray).size = s0.length := rfl
    omega
  obtain ⟨D, hD⟩ : ∃ D, l.all rightD = D := ⟨_, rfl⟩
  obtain ⟨Z, hZ⟩ : ∃ Z : ByteArray, ⟨(if l.all rightD then textD l else []).toArray⟩ = Z := ⟨_, rfl⟩
  have HT1 := Lib.hid (fun W (hB : Below w.heap.size w W) => show Calls Tryz.prog 15 #[.slice A l.length c] W (Ret (.tuple #[.string Z, .bool D]) W) from by
    obtain ⟨X, rfl⟩ := grow_of_below hB
    have := dtext_any A l.length c l (w.grow X) (HTB.out.grow X) (HMX.out.grow X) (HR.out.grow X) HS.out (by omega)
    rwa [hZ, hD] at this)
  have HPz := Lib.hid (fun (hd : D = true) W (hB : Below w.heap.size w W) => show Calls Tryz.prog 10 #[.string Z] W (RetD W l) from by
    obtain ⟨X, rfl⟩ := grow_of_below hB
    rw [hd] at hD
    have := parse_any (textD l) (w.grow X) (HMX.out.grow X) (by omega)
    rw [decl_back (List.all_eq_true.1 hD)] at this
    rw [← hZ, hD, if_pos rfl]
    exact this)
  have hM := parsed_short hs0
  have hu := parsed_text hs0
  have hMr : (declsL (cssL s0)).all rightD = true := by rw [List.all_eq_true]; exact fun d hd => (hM.2 d hd).2.1
  obtain ⟨M, hMM⟩ : ∃ M, declsL (cssL s0) = M := ⟨_, rfl⟩
  rw [hMM] at hM hu hMr
  have HPs := Lib.hid (fun W (hB : Below w.heap.size w W) => show Calls Tryz.prog 10 #[.string ⟨⟨s0⟩⟩] W (RetD W M) from by
    obtain ⟨X, rfl⟩ := grow_of_below hB
    have := parse_any s0 (w.grow X) (HMX.out.grow X) (by omega)
    rwa [hMM] at this)
  obtain ⟨U, hU⟩ : ∃ Z : ByteArray, ⟨(textD M).toArray⟩ = Z := ⟨_, rfl⟩
  have HTM := Lib.hid (fun W (hB : Below w.heap.size w W) A2 n2 c2 (hr : RdD W (.slice A2 n2 c2) M) => show Calls Tryz.prog 15 #[.slice A2 n2 c2] W (Ret (.tuple #[.string U, .bool true]) W) from by
    obtain ⟨X, rfl⟩ := grow_of_below hB
    have := dtext_any A2 n2 c2 M (w.grow X) (HTB.out.grow X) (HMX.out.grow X) hr (fun d hd => (hM.2 d hd).1) (by omega)
    rw [hMr, if_pos rfl, hU] at this; exact this)
  have HPu := Lib.hid (fun W (hB : Below w.heap.size w W) => show Calls Tryz.prog 10 #[.string U] W (RetD W M) from by
    obtain ⟨X, rfl⟩ := grow_of_below hB
    have := parse_any (textD M) (w.grow X) (HMX.out.grow X) (by omega)
    rw [decl_back (List.all_eq_true.1 hMr)] at this
    rw [← hU]
    exact this)
  have HSa := Lib.hid (fun (W : World) (M : List Dcl) (A1 A2 : Option Addr) (n1 n2 c1 c2 : Nat) (ha : RdD W (.slice A1 n1 c1) M) (hb : RdD W (.slice A2 n2 c2) M) => show Calls Tryz.prog 9 #[.slice A1 n1 c1, .slice A2 n2 c2] W (Ret (.bool true) W) from by
    have := dsame_any A1 A2 _ _ c1 c2 _ _ W ha hb
    rwa [decide_eq_true rfl] at this)
  clear hD hZ hM hu hMr hMM hU hs0 h9 htl
  generalize (⟨⟨s0⟩⟩ : ByteArray) = s at *
  cases D
  · clear HPz
    go_enter Tryz.func5, Tryz.ntmps5
    go_wp2_with (first
      | (go_at_call 8; refine (awake14_any _ HTB.out HMX.out).mono ?_; rintro e w' ⟨rfl, A0, rfl⟩) | (go_at_call 12; (with_reducible refine (HF'.out _ (by repeat (first | with_reducible exact Below.refl _ _ | (with_reducible refine Below.alloc ?_ (by first | omega | (simp [go_sem] <;> omega)) _) | (with_reducible refine Below.drew ?_) | (with_reducible refine Below.drewN ?_ _) | (with_reducible refine Below.grow ?_ (by first | omega | (simp [go_sem] <;> omega)) _) | (with_reducible refine Below.setCell ?_ (by first | omega | (simp [go_sem] <;> omega)) _)))).mono ?_); rintro e w' ⟨rfl, F0, rfl⟩)
      | (go_at_call 15; (with_reducible refine (HT1.out _ (by repeat (first | with_reducible exact Below.refl _ _ | (with_reducible refine Below.alloc ?_ (by first | omega | (simp [go_sem] <;> omega)) _) | (with_reducible refine Below.drew ?_) | (with_reducible refine Below.drewN ?_ _) | (with_reducible refine Below.grow ?_ (by first | omega | (simp [go_sem] <;> omega)) _) | (with_reducible refine Below.setCell ?_ (by first | omega | (simp [go_sem] <;> omega)) _)))).mono ?_); rintro e w' ⟨rfl, X1, rfl⟩)
      | (go_at_call 15; (with_reducible refine (HTM.out _ (by repeat (first | with_reducible exact Below.refl _ _ | (with_reducible refine Below.alloc ?_ (by first | omega | (simp [go_sem] <;> omega)) _) | (with_reducible refine Below.drew ?_) | (with_reducible refine Below.drewN ?_ _) | (with_reducible refine Below.grow ?_ (by first | omega | (simp [go_sem] <;> omega)) _) | (with_reducible refine Below.setCell ?_ (by first | omega | (simp [go_sem] <;> omega)) _))) _ _ _ HR4.out).mono ?_); rintro e w' ⟨rfl, X5, rfl⟩)
      | (go_at_call 10; (with_reducible refine (HPs.out _ (by repeat (first | with_reducible exact Below.refl _ _ | (with_reducible refine Below.alloc ?_ (by first | omega | (simp [go_sem] <;> omega)) _) | (with_reducible refine Below.drew ?_) | (with_reducible refine Below.drewN ?_ _) | (with_reducible refine Below.grow ?_ (by first | omega | (simp [go_sem] <;> omega)) _) | (with_reducible refine Below.setCell ?_ (by first | omega | (simp [go_sem] <;> omega)) _)))).mono ?_); rintro e w' ⟨A4, c4, X4, rfl, rfl, hc4, _, hr4⟩; have HR4 := Lib.hid hr4; clear hr4)
      | (go_at_call 10; (with_reducible refine (HPu.out _ (by repeat (first | with_reducible exact Below.refl _ _ | (with_reducible refine Below.alloc ?_ (by first | omega | (simp [go_sem] <;> omega)) _) | (with_reducible refine Below.drew ?_) | (with_reducible refine Below.drewN ?_ _) | (with_reducible refine Below.grow ?_ (by first | omega | (simp [go_sem] <;> omega)) _) | (with_reducible refine Below.setCell ?_ (by first | omega | (simp [go_sem] <;> omega)) _)))).mono ?_); rintro e w' ⟨A6, c6, X6, rfl, rfl, hc6, _, hr6⟩; have HR6 := Lib.hid hr6; clear hr6)
      | (go_at_call 9; (with_reducible refine (HSa.out _ _ _ _ _ _ _ _ HR6.out ((HR4.out.grow _).grow _)).mono ?_); rintro e w' ⟨rfl, X7, rfl⟩))
    go_ret
    exact Ret.of rfl (by repeat (first | with_reducible exact Below.refl _ _ | (with_reducible refine Below.alloc ?_ (by first | omega | (simp [go_sem] <;> omega)) _) | (with_reducible refine Below.drew ?_) | (with_reducible refine Below.drewN ?_ _) | (with_reducible refine Below.grow ?_ (by first | omega | (simp [go_sem] <;> omega)) _) | (with_reducible refine Below.setCell ?_ (by first | omega | (simp [go_sem] <;> omega)) _)))
  · have HPz2 := Lib.hid (HPz.out rfl)
    clear HPz
    go_enter Tryz.func5, Tryz.ntmps5
    go_wp2_with (first
      | (go_at_call 8; refine (awake14_any _ HTB.out HMX.out).mono ?_; rintro e w' ⟨rfl, A0, rfl⟩) | (go_at_call 12; (with_reducible refine (HF'.out _ (by repeat (first | with_reducible exact Below.refl _ _ | (with_reducible refine Below.alloc ?_ (by first | omega | (simp [go_sem] <;> omega)) _) | (with_reducible refine Below.drew ?_) | (with_reducible refine Below.drewN ?_ _) | (with_reducible refine Below.grow ?_ (by first | omega | (simp [go_sem] <;> omega)) _) | (with_reducible refine Below.setCell ?_ (by first | omega | (simp [go_sem] <;> omega)) _)))).mono ?_); rintro e w' ⟨rfl, F0, rfl⟩)
      | (go_at_call 15; (with_reducible refine (HT1.out _ (by repeat (first | with_reducible exact Below.refl _ _ | (with_reducible refine Below.alloc ?_ (by first | omega | (simp [go_sem] <;> omega)) _) | (with_reducible refine Below.drew ?_) | (with_reducible refine Below.drewN ?_ _) | (with_reducible refine Below.grow ?_ (by first | omega | (simp [go_sem] <;> omega)) _) | (with_reducible refine Below.setCell ?_ (by first | omega | (simp [go_sem] <;> omega)) _)))).mono ?_); rintro e w' ⟨rfl, X1, rfl⟩)
      | (go_at_call 15; (with_reducible refine (HTM.out _ (by repeat (first | with_reducible exact Below.refl _ _ | (with_reducible refine Below.alloc ?_ (by first | omega | (simp [go_sem] <;> omega)) _) | (with_reducible refine Below.drew ?_) | (with_reducible refine Below.drewN ?_ _) | (with_reducible refine Below.grow ?_ (by first | omega | (simp [go_sem] <;> omega)) _) | (with_reducible refine Below.setCell ?_ (by first | omega | (simp [go_sem] <;> omega)) _))) _ _ _ HR4.out).mono ?_); rintro e w' ⟨rfl, X5, rfl⟩)
      | (go_at_call 10; (with_reducible refine (HPz2.out _ (by repeat (first | with_reducible exact Below.refl _ _ | (with_reducible refine Below.alloc ?_ (by first | omega | (simp [go_sem] <;> omega)) _) | (with_reducible refine Below.drew ?_) | (with_reducible refine Below.drewN ?_ _) | (with_reducible refine Below.grow ?_ (by first | omega | (simp [go_sem] <;> omega)) _) | (with_reducible refine Below.setCell ?_ (by first | omega | (simp [go_sem] <;> omega)) _)))).mono ?_); rintro e w' ⟨A2, c2, X2, rfl, rfl, hc2, _, hr2⟩; have HR2 := Lib.hid hr2; clear hr2)
      | (go_at_call 10; (with_reducible refine (HPs.out _ (by repeat (first | with_reducible exact Below.refl _ _ | (with_reducible refine Below.alloc ?_ (by first | omega | (simp [go_sem] <;> omega)) _) | (with_reducible refine Below.drew ?_) | (with_reducible refine Below.drewN ?_ _) | (with_reducible refine Below.grow ?_ (by first | omega | (simp [go_sem] <;> omega)) _) | (with_reducible refine Below.setCell ?_ (by first | omega | (simp [go_sem] <;> omega)) _)))).mono ?_); rintro e w' ⟨A4, c4, X4, rfl, rfl, hc4, _, hr4⟩; have HR4 := Lib.hid hr4; clear hr4)
      | (go_at_call 10; (with_reducible refine (HPu.out _ (by repeat (first | with_reducible exact Below.refl _ _ | (with_reducible refine Below.alloc ?_ (by first | omega | (simp [go_sem] <;> omega)) _) | (with_reducible refine Below.drew ?_) | (with_reducible refine Below.drewN ?_ _) | (with_reducible refine Below.grow ?_ (by first | omega | (simp [go_sem] <;> omega)) _) | (with_reducible refine Below.setCell ?_ (by first | omega | (simp [go_sem] <;> omega)) _)))).mono ?_); rintro e w' ⟨A6, c6, X6, rfl, rfl, hc6, _, hr6⟩; have HR6 := Lib.hid hr6; clear hr6)
      | (go_at_call 9; (with_reducible refine (HSa.out _ l _ _ _ _ _ _ HR2.out (HR.out.below (by repeat (first | with_reducible exact Below.refl _ _ | (with_reducible refine Below.alloc ?_ (by first | omega | (simp [go_sem] <;> omega)) _) | (with_reducible refine Below.drew ?_) | (with_reducible refine Below.drewN ?_ _) | (with_reducible refine Below.grow ?_ (by first | omega | (simp [go_sem] <;> omega)) _) | (with_reducible refine Below.setCell ?_ (by first | omega | (simp [go_sem] <;> omega)) _))))).mono ?_); rintro e w' ⟨rfl, X3, rfl⟩)
      | (go_at_call 9; (with_reducible refine (HSa.out _ M _ _ _ _ _ _ HR6.out ((HR4.out.grow _).grow _)).mono ?_); rintro e w' ⟨rfl, X7, rfl⟩))
    go_ret
    exact Ret.of rfl (by repeat (first | with_reducible exact Below.refl _ _ | (with_reducible refine Below.alloc ?_ (by first | omega | (simp [go_sem] <;> omega)) _) | (with_reducible refine Below.drew ?_) | (with_reducible refine Below.drewN ?_ _) | (with_reducible refine Below.grow ?_ (by first | omega | (simp [go_sem] <;> omega)) _) | (with_reducible refine Below.setCell ?_ (by first | omega | (simp [go_sem] <;> omega)) _)))

set_option maxRecDepth 100000 in
theorem lifted (os : Os) (started : os.Started) (H : Type) (enc : TypeId × Value → H) :
    ReturnsInHanded {} Tryz.checked os 5 .any (fun w args => (Rows.cssdeclBackSpec.pre enc Tryz.prog Tryz.f5 Rows.cssdeclBackRow.domain false w args ∧ laidMetH Tryz.prog Rows.cssdeclBackRow.laid w) ∧ sizedMet enc Tryz.prog Tryz.f5 (OpenSpec.ofChange Rows.cssdeclBackSpec) false w args) (Rows.cssdeclBackSpec.post enc Tryz.prog Tryz.f5 false true false false) := by
  refine handed_shape (C := Tryz.checked) (X := fun w _ => laidMetH Tryz.prog Rows.cssdeclBackRow.laid w) (fun _ _ _ hh h => h.of_heap hh) own started (by kernel_rfl) Tryz.func5
    (ChangeSpec.witness_shaped (enc := enc) (C := Tryz.checked) (os := os) (X := fun w _ => laidMetH Tryz.prog Rows.cssdeclBackRow.laid w) false (World.laidAll Tryz.prog os Rows.cssdeclBackRow.laid) #[.slice none 0 0, .string ⟨#[]⟩] 8 (World.laidAll_os _ _ _)
      (World.shaped_of_ZipB (by kernel_rfl) (by kernel_rfl)) (by kernel_rfl) (by kernel_rfl) (by kernel_rfl)
      (by rw [MakeChecks.laidMetH_plain _ _ _ (by kernel_rfl)]; exact laidMet_laidAll _ (by kernel_rfl) (by kernel_rfl))) ?_
  intro W base args ds gs before hval0 hW hL hsh
  have hval : ∀ (j : Nat) t v, Tryz.f5.params[j]? = some t → args[j]? = some v → Value.okWide Tryz.prog W .any base t v := hval0
  have hW' := hW
  obtain ⟨p, q, hA0, hV, rfl, hfz, hnd⟩ := hW
  have hA : DataW.TrodAll enc Tryz.prog W 0 (fun _ => true) true Tryz.f5.params.toList args.toList ds p := hA0
  rw [Tryz.params5] at hA hval
  obtain ⟨v0, vs0, d0, ds0, p0, q0, hargs, rfl, rfl, h0, r0⟩ := trodAll_cons hA
  obtain ⟨v1, vs1, d1, ds1, p1, q1, rfl, rfl, rfl, h1, r1⟩ := trodAll_cons r0
  obtain ⟨rfl, rfl, rfl⟩ := trodAll_nil r1
  obtain rfl : args = #[v0, v1] := by cases args; simp_all
  obtain ⟨rfl, rfl⟩ := trodVars_none hV
  obtain ⟨a0, len0, cap0, rfl⟩ := okWide_slice Tryz.underlying24 (hval 0 24 v0 rfl rfl)
  have k0 := h0
  have lt0 : ∀ x ∈ p0, x.block < W.heap.size := by obtain ⟨m, hm⟩ := k0; exact DataW.trod_lt m _ _ _ hm
  obtain ⟨z0, e0, w0, m0⟩ : ∃ l : List Dcl, l.length = len0 ∧ RdD W (.slice a0 len0 cap0) l ∧ ∀ d ∈ l, DclIn d := by obtain ⟨fuel, hf⟩ := h0; exact decl_open (by simpa [Value.cells] using hf)
  have n0 : ∀ a n cap, Value.slice a0 len0 cap0 = .slice a n cap → a = none → cap = 0 := fun _ _ _ hh => by cases hh; obtain ⟨fuel, hf⟩ := h0; exact decl_nil (by simpa [Value.cells] using hf)
  obtain ⟨s1, rfl, rfl, rfl, w1⟩ := open_string Tryz.underlying9 (hval 1 9 v1 rfl rfl) h1
  clear hA0 hval0
  refine (walk (.slice a0 len0 cap0) z0 s1 W (tb_laid hL (by rfl)) (mx_shape hsh) w0 m0 n0 w1).mono fun e W' hend => ?_
  obtain ⟨he, X, hX⟩ := hend
  have bel : Below W.heap.size W W' := by rw [hX]; exact below_grow W X
  subst he
  exact ⟨_, rfl, _, _, _, [], _, [], hW', trodAll_mk1 (shut_bool Tryz.underlying4 _), (trodAll_cons_mk (Below.trod laidOut (by kernel_rfl) (of_decide_eq_true (by kernel_rfl)) k0 bel lt0) (trodAll_cons_mk (shut_string Tryz.underlying9 w1) trodAll_mk0)), rfl, bel.frame _, fun h => by cases h⟩

theorem over : Rows.cssdeclBackRow.holds Tryz.pinned (OpenSpec.ofChange Rows.cssdeclBackSpec) :=
  OpenClaim.holds_of_wide 5 Tryz.f5 rfl rfl rfl rfl rfl rfl rfl ⟨rfl, rfl, rfl, rfl, rfl⟩ rfl rfl rfl rfl rfl (by kernel_rfl) Tryz.func5 (by kernel_rfl)
    (of_decide_eq_true (by kernel_rfl)) (by unfold Func.isWrapper; rw [if_neg (of_decide_eq_false (by kernel_rfl))]; exact ⟨rfl, rfl⟩)
    (fun os started H enc _ => lifted os started H enc)

/-- The statement. -/
theorem proved : Rows.CssdeclBackCardSaid :=
  Claim7.holds_tied_plain_at .later [] [.data, .data, .data, .data, .pinned] true _ false over (fun _ h => by cases h) (by kernel_rfl) (fun _ h => by cases h) cssdeclBack_row_tie rfl ⟨rfl, rfl⟩ (by kernel_rfl) rfl
    (fun f fn hf hfn => by
      obtain rfl : f = 5 := Option.some.inj ((show Tryz.prog.funcNamed "cribble/cribblelaw14.CssdeclBack" = some 5 by kernel_rfl).symm.trans hf) |>.symm
      obtain rfl : fn = Tryz.f5 := (Option.some.inj (Tryz.func5.symm.trans hfn)).symm
      exact ⟨by kernel_rfl, fun j t ht => by
        rw [Tryz.params5] at ht
        have hm : t ∈ [24, 9] := by simpa using Array.mem_of_getElem? ht
        have hall : ([24, 9].all fun u => !Tryz.prog.wantsStandIn u) = true := by kernel_rfl
        exact (show Tryz.prog.wantsStandIn t = false by simpa using List.all_eq_true.1 hall t hm)⟩)
    (by kernel_rfl)

end Go.Proofs.YtdpgpjileffekaaGreatDoor.cssdeclBack
