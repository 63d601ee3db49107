/- The declarations of two styles with a semicolon between are those of both: CssdeclJoins returns true. No condition: whatever the arguments; the row lists tables of Go's library, which the card ties to the program's text. -/
import Derived.ProofKit
import Derived.ChangeSame
import Derived.ChangeAt
import Derived.SizedLaws
import Derived.OpenShut
import Derived.ShutString
import Derived.ChangeOld
import Derived.LaidMore
import Derived.Lay
import Derived.SevenTiedAt
import Derived.Stop.Joined
import Derived.Test.YtdpgpjileffekaaGreatDoorRows
import Derived.Test.YtdpgpjileffekaaGreatDoorCards
import Derived.Test.YtdpgpjileffekaaGreatDoorTie
import Derived.Test.YtdpgpjileffekaaGreatDoorCssOpen
import Derived.Test.YtdpgpjileffekaaGreatDoorDecN
import Derived.Test.YtdpgpjileffekaaGreatDoorDecR
namespace Go.Proofs.YtdpgpjileffekaaGreatDoor.cssdeclJoins
open Go.ChangeShapes Go.WideShapes Go.ChangeAt Go.RowKit
open Go.ChangeMaps (open_string shut_string)

theorem own : ownKnob Tryz.prog.godebug = none := by kernel_rfl
theorem laidOut : laidOutB Tryz.prog = true := by kernel_rfl


set_option maxRecDepth 100000 in
set_option maxHeartbeats 8000000 in
theorem walk (v : Value) (l : List Dcl) (s : ByteArray) (w : World) (hT : Tb w) (hX : Mx w) (h : RdD w v l) (hz : ∀ d ∈ l, DclIn d) (hn : ∀ a n cap, v = .slice a n cap → a = none → cap = 0) (_hm : s.size ≤ maxLen) : Calls Tryz.prog 6 #[v, .string s] w (Ret (.bool true) w) := by
  have hmx : Tryz.prog.follows .mixedOrders = true := by kernel_rfl
  have HR := Lib.hid h
  have HZ := Lib.hid hz
  have HTB := Lib.hid hT
  have HMX := Lib.hid hX
  obtain ⟨vs0, hall0, _, hlm, A, c, rfl, _⟩ := id h
  clear hz hT hX
  have HF := Lib.hid (fun W (hB : Below w.heap.size w W) => show Calls Tryz.prog 12 #[.slice A l.length c] W (Ret (.bool (fewD l)) W) from by
    obtain ⟨X, rfl⟩ := grow_of_below hB
    exact rfewd_any A l.length c l (w.grow X) (HR.out.grow X))
  have HNA := Lib.hid (hn _ _ _ rfl)
  clear hn
  cases hf : fewD l
  · rw [hf] at HF
    have HF' := Lib.hid HF.out
    clear hf HF
    go_enter Tryz.func6, Tryz.ntmps6
    go_wp2_with (first | (go_at_call 8; refine (awake14_any _ HTB.out HMX.out).mono ?_; rintro e w' ⟨rfl, A0, rfl⟩) | (go_at_call 12; (with_reducible refine (HF'.out _ (by repeat (first | with_reducible exact Below.refl _ _ | (with_reducible refine Below.alloc ?_ (by first | omega | (simp [go_sem] <;> omega)) _) | (with_reducible refine Below.drew ?_) | (with_reducible refine Below.drewN ?_ _) | (with_reducible refine Below.grow ?_ (by first | omega | (simp [go_sem] <;> omega)) _) | (with_reducible refine Below.setCell ?_ (by first | omega | (simp [go_sem] <;> omega)) _)))).mono ?_); rintro e w' ⟨rfl, F0, rfl⟩))
    go_ret
    exact Ret.of rfl (by repeat (first | with_reducible exact Below.refl _ _ | (with_reducible refine Below.alloc ?_ (by first | omega | (simp [go_sem] <;> omega)) _) | (with_reducible refine Below.drew ?_) | (with_reducible refine Below.drewN ?_ _) | (with_reducible refine Below.grow ?_ (by first | omega | (simp [go_sem] <;> omega)) _) | (with_reducible refine Below.setCell ?_ (by first | omega | (simp [go_sem] <;> omega)) _)))
  obtain ⟨hs, hl, htl⟩ := few_shortD hf HZ.out
  have HS := Lib.hid hs
  rw [hf] at HF
  have HF' := Lib.hid HF.out
  clear hf HF hs
  by_cases h9 : 1000 < s.size
  · have b9 : decide ((1000 : Int) < s.size) = true := by simp; omega
    clear h9
    go_enter Tryz.func6, Tryz.ntmps6
    go_wp2_with (first | (go_at_call 8; refine (awake14_any _ HTB.out HMX.out).mono ?_; rintro e w' ⟨rfl, A0, rfl⟩) | (go_at_call 12; (with_reducible refine (HF'.out _ (by repeat (first | with_reducible exact Below.refl _ _ | (with_reducible refine Below.alloc ?_ (by first | omega | (simp [go_sem] <;> omega)) _) | (with_reducible refine Below.drew ?_) | (with_reducible refine Below.drewN ?_ _) | (with_reducible refine Below.grow ?_ (by first | omega | (simp [go_sem] <;> omega)) _) | (with_reducible refine Below.setCell ?_ (by first | omega | (simp [go_sem] <;> omega)) _)))).mono ?_); rintro e w' ⟨rfl, F0, rfl⟩))
    go_ret
    exact Ret.of rfl (by repeat (first | with_reducible exact Below.refl _ _ | (with_reducible refine Below.alloc ?_ (by first | omega | (simp [go_sem] <;> omega)) _) | (with_reducible refine Below.drew ?_) | (with_reducible refine Below.drewN ?_ _) | (with_reducible refine Below.grow ?_ (by first | omega | (simp [go_sem] <;> omega)) _) | (with_reducible refine Below.setCell ?_ (by first | omega | (simp [go_sem] <;> omega)) _)))
  have b9 : decide ((1000 : Int) < s.size) = false := by simp; omega
  obtain ⟨⟨s0⟩⟩ := s
  have hs0 : s0.length ≤ 1000 := by
    have : (⟨⟨s0⟩⟩ : ByteArray).size = s0.length := rfl
    omega
  obtain ⟨D, hD⟩ : ∃ D, l.all rightD = D := ⟨_, rfl⟩
  obtain ⟨Z, hZ⟩ : ∃ Z : ByteArray, ⟨(if l.all rightD then textD l else []).toArray⟩ = Z := ⟨_, rfl⟩
  have HT1 := Lib.hid (fun W (hB : Below w.heap.size w W) => show Calls Tryz.prog 15 #[.slice A l.length c] W (Ret (.tuple #[.string Z, .bool D]) W) from by
    obtain ⟨X, rfl⟩ := grow_of_below hB
    have := dtext_any A l.length c l (w.grow X) (HTB.out.grow X) (HMX.out.grow X) (HR.out.grow X) HS.out (by omega)
    rwa [hZ, hD] at this)
  have hml := (parsed_short hs0).1
  have HPb := Lib.hid (fun (hd : D = true) W (hB : Below w.heap.size w W) => show Calls Tryz.prog 10 #[.string (Z ++ ⟨#[59]⟩ ++ ⟨⟨s0⟩⟩)] W (RetD W (l ++ declsL (cssL s0))) from by
    obtain ⟨X, rfl⟩ := grow_of_below hB
    rw [hd] at hD
    have := parse_any (textD l ++ 59 :: s0) (w.grow X) (HMX.out.grow X) (by simp only [List.length_append, List.length_cons]; omega)
    rw [decl_joins (List.all_eq_true.1 hD)] at this
    have e : (Z ++ ⟨#[59]⟩ ++ ⟨⟨s0⟩⟩ : ByteArray) = ⟨(textD l ++ 59 :: s0).toArray⟩ := by
      apply ba_ext
      rw [← hZ, hD, if_pos rfl]
      simp only [ByteArray.data_append, Array.toList_append]
      simp
    rw [e]; exact this)
  obtain ⟨M, hMM⟩ : ∃ M, declsL (cssL s0) = M := ⟨_, rfl⟩
  have HPs := Lib.hid (fun W (hB : Below w.heap.size w W) => show Calls Tryz.prog 10 #[.string ⟨⟨s0⟩⟩] W (RetDO W M) from by
    obtain ⟨X, rfl⟩ := grow_of_below hB
    have := parseO_any s0 (w.grow X) (HMX.out.grow X) (by omega)
    rwa [hMM] at this)
  rw [hMM] at HPb hml
  have HSa := Lib.hid (fun (W : World) (M : List Dcl) (A1 A2 : Option Addr) (n1 n2 c1 c2 : Nat) (ha : RdD W (.slice A1 n1 c1) M) (hb : RdD W (.slice A2 n2 c2) M) => show Calls Tryz.prog 9 #[.slice A1 n1 c1, .slice A2 n2 c2] W (Ret (.bool true) W) from by
    have := dsame_any A1 A2 _ _ c1 c2 _ _ W ha hb
    rwa [decide_eq_true rfl] at this)
  obtain ⟨vs, hall, hrd⟩ := h
  have HRd := Lib.hid hrd
  have HAll := Lib.hid hall
  have hzs : Z.size ≤ 2000000 := by
    rw [← hZ]
    show (if l.all rightD then textD l else []).length ≤ _
    split
    · exact htl
    · simp
  have hss : (⟨⟨s0⟩⟩ : ByteArray).size ≤ 1000 := hs0
  clear hD hZ hMM hs0 h9 htl hrd hall hall0 HS HZ
  generalize (⟨⟨s0⟩⟩ : ByteArray) = s at *
  cases D
  · clear HPb
    go_enter Tryz.func6, Tryz.ntmps6
    go_wp2_with (first
      | (go_at_call 8; refine (awake14_any _ HTB.out HMX.out).mono ?_; rintro e w' ⟨rfl, A0, rfl⟩) | (go_at_call 12; (with_reducible refine (HF'.out _ (by repeat (first | with_reducible exact Below.refl _ _ | (with_reducible refine Below.alloc ?_ (by first | omega | (simp [go_sem] <;> omega)) _) | (with_reducible refine Below.drew ?_) | (with_reducible refine Below.drewN ?_ _) | (with_reducible refine Below.grow ?_ (by first | omega | (simp [go_sem] <;> omega)) _) | (with_reducible refine Below.setCell ?_ (by first | omega | (simp [go_sem] <;> omega)) _)))).mono ?_); rintro e w' ⟨rfl, F0, rfl⟩)
      | (go_at_call 15; (with_reducible refine (HT1.out _ (by repeat (first | with_reducible exact Below.refl _ _ | (with_reducible refine Below.alloc ?_ (by first | omega | (simp [go_sem] <;> omega)) _) | (with_reducible refine Below.drew ?_) | (with_reducible refine Below.drewN ?_ _) | (with_reducible refine Below.grow ?_ (by first | omega | (simp [go_sem] <;> omega)) _) | (with_reducible refine Below.setCell ?_ (by first | omega | (simp [go_sem] <;> omega)) _)))).mono ?_); rintro e w' ⟨rfl, X1, rfl⟩))
    go_ret
    exact Ret.of rfl (by repeat (first | with_reducible exact Below.refl _ _ | (with_reducible refine Below.alloc ?_ (by first | omega | (simp [go_sem] <;> omega)) _) | (with_reducible refine Below.drew ?_) | (with_reducible refine Below.drewN ?_ _) | (with_reducible refine Below.grow ?_ (by first | omega | (simp [go_sem] <;> omega)) _) | (with_reducible refine Below.setCell ?_ (by first | omega | (simp [go_sem] <;> omega)) _)))
  · have HPb2 := Lib.hid (HPb.out rfl)
    clear HPb
    go_enter Tryz.func6, Tryz.ntmps6
    go_wp2_with (first
      | (go_at_call 8; refine (awake14_any _ HTB.out HMX.out).mono ?_; rintro e w' ⟨rfl, A0, rfl⟩) | (go_at_call 12; (with_reducible refine (HF'.out _ (by repeat (first | with_reducible exact Below.refl _ _ | (with_reducible refine Below.alloc ?_ (by first | omega | (simp [go_sem] <;> omega)) _) | (with_reducible refine Below.drew ?_) | (with_reducible refine Below.drewN ?_ _) | (with_reducible refine Below.grow ?_ (by first | omega | (simp [go_sem] <;> omega)) _) | (with_reducible refine Below.setCell ?_ (by first | omega | (simp [go_sem] <;> omega)) _)))).mono ?_); rintro e w' ⟨rfl, F0, rfl⟩)
      | (go_at_call 15; (with_reducible refine (HT1.out _ (by repeat (first | with_reducible exact Below.refl _ _ | (with_reducible refine Below.alloc ?_ (by first | omega | (simp [go_sem] <;> omega)) _) | (with_reducible refine Below.drew ?_) | (with_reducible refine Below.drewN ?_ _) | (with_reducible refine Below.grow ?_ (by first | omega | (simp [go_sem] <;> omega)) _) | (with_reducible refine Below.setCell ?_ (by first | omega | (simp [go_sem] <;> omega)) _)))).mono ?_); rintro e w' ⟨rfl, X1, rfl⟩)
      | (go_at_call 10; (with_reducible refine (HPs.out _ (by repeat (first | with_reducible exact Below.refl _ _ | (with_reducible refine Below.alloc ?_ (by first | omega | (simp [go_sem] <;> omega)) _) | (with_reducible refine Below.drew ?_) | (with_reducible refine Below.drewN ?_ _) | (with_reducible refine Below.grow ?_ (by first | omega | (simp [go_sem] <;> omega)) _) | (with_reducible refine Below.setCell ?_ (by first | omega | (simp [go_sem] <;> omega)) _)))).mono ?_); rintro e w' ⟨v4, vs4, X4, rfl, rfl, ho4, ha4⟩; obtain ⟨A4, c4, rfl, hc4⟩ := own_cap ho4; have HO4 := Lib.hid ho4; have HA4 := Lib.hid ha4; clear ho4 ha4)
      | (at_builtin; go_loud (refine append_any rfl _ _ 24 rfl decl_row w.heap.size rfl (own_grow hown3 X4) (by simp [size_grow]; omega) M.length (dclFlat M vs4) (news_rd (Rd.own HO4.out) (own_nil HO4.out) (Below.refl _ _)) (Rd.own HO4.out).1 (dcl_one (HA4.out.mono fun d u _ h => VR.own h)) (by unfold maxLen; omega) (by omega) ?_); intro v5 W5 hown5 hg5; (rw [List.nil_append] at hown5); (have hj := RdD.joined HAll.out (show Below w.heap.size w ((w.grow X3).grow X4) from (by repeat (first | with_reducible exact Below.refl _ _ | (with_reducible refine Below.alloc ?_ (by first | omega | (simp [go_sem] <;> omega)) _) | (with_reducible refine Below.drew ?_) | (with_reducible refine Below.drewN ?_ _) | (with_reducible refine Below.grow ?_ (by first | omega | (simp [go_sem] <;> omega)) _) | (with_reducible refine Below.setCell ?_ (by first | omega | (simp [go_sem] <;> omega)) _)))) (HA4.out.mono fun d u _ h => own_base h (by simp [size_grow])) (own_grow hown3 X4) hg5 hown5 (by omega)); (obtain ⟨A5, c5, rfl, hc5⟩ := own_cap hown5); have HJ := Lib.hid hj.1; have HB5 := Lib.hid hj.2; clear hj hown5 hg5)
      | (at_builtin; go_loud (refine append_src rfl _ _ 24 rfl decl_row w rfl (own_emp (by simp [go_sem]) (by simp [go_sem] <;> omega)) (by repeat (first | with_reducible exact Below.refl _ _ | (with_reducible refine Below.alloc ?_ (by first | omega | (simp [go_sem] <;> omega)) _) | (with_reducible refine Below.drew ?_) | (with_reducible refine Below.drewN ?_ _) | (with_reducible refine Below.grow ?_ (by first | omega | (simp [go_sem] <;> omega)) _) | (with_reducible refine Below.setCell ?_ (by first | omega | (simp [go_sem] <;> omega)) _))) l.length (dclFlat l vs) (news_rd HRd.out HNA.out (by repeat (first | with_reducible exact Below.refl _ _ | (with_reducible refine Below.alloc ?_ (by first | omega | (simp [go_sem] <;> omega)) _) | (with_reducible refine Below.drew ?_) | (with_reducible refine Below.drewN ?_ _) | (with_reducible refine Below.grow ?_ (by first | omega | (simp [go_sem] <;> omega)) _) | (with_reducible refine Below.setCell ?_ (by first | omega | (simp [go_sem] <;> omega)) _)))) HRd.out.1 (dcl_one HAll.out) (by unfold maxLen; omega) (by omega) ?_); intro v3 X3 hown3)
      | (go_at_call 10; (with_reducible refine (HPb2.out _ HB5.out).mono ?_); rintro e w' ⟨A6, c6, X6, rfl, rfl, hc6, _, hr6⟩; have HR6 := Lib.hid hr6; clear hr6)
      | (go_at_call 9; (refine (HSa.out _ (l ++ M) _ _ _ _ _ _ (by simpa using HR6.out) (by simpa using HJ.out.grow X6)).mono ?_); rintro e w' ⟨rfl, X7, rfl⟩))
    go_ret
    exact Ret.of rfl (below_next HB5.out (by (repeat (first | with_reducible exact Below.refl _ _ | (with_reducible refine Below.alloc ?_ (by first | omega | (simp [go_sem] <;> omega)) _) | (with_reducible refine Below.drew ?_) | (with_reducible refine Below.drewN ?_ _) | (with_reducible refine Below.grow ?_ (by first | omega | (simp [go_sem] <;> omega)) _) | (with_reducible refine Below.setCell ?_ (by first | omega | (simp [go_sem] <;> omega)) _))); done))

set_option maxRecDepth 100000 in
theorem lifted (os : Os) (started : os.Started) (H : Type) (enc : TypeId × Value → H) :
    ReturnsInHanded {} Tryz.checked os 6 .any (fun w args => (Rows.cssdeclJoinsSpec.pre enc Tryz.prog Tryz.f6 Rows.cssdeclJoinsRow.domain false w args ∧ laidMetH Tryz.prog Rows.cssdeclJoinsRow.laid w) ∧ sizedMet enc Tryz.prog Tryz.f6 (OpenSpec.ofChange Rows.cssdeclJoinsSpec) false w args) (Rows.cssdeclJoinsSpec.post enc Tryz.prog Tryz.f6 false true false false) := by
  refine handed_shape (C := Tryz.checked) (X := fun w _ => laidMetH Tryz.prog Rows.cssdeclJoinsRow.laid w) (fun _ _ _ hh h => h.of_heap hh) own started (by kernel_rfl) Tryz.func6
    (ChangeSpec.witness_shaped (enc := enc) (C := Tryz.checked) (os := os) (X := fun w _ => laidMetH Tryz.prog Rows.cssdeclJoinsRow.laid w) false (World.laidAll Tryz.prog os Rows.cssdeclJoinsRow.laid) #[.slice none 0 0, .string ⟨#[]⟩] 8 (World.laidAll_os _ _ _)
      (World.shaped_of_ZipB (by kernel_rfl) (by kernel_rfl)) (by kernel_rfl) (by kernel_rfl) (by kernel_rfl)
      (by rw [MakeChecks.laidMetH_plain _ _ _ (by kernel_rfl)]; exact laidMet_laidAll _ (by kernel_rfl) (by kernel_rfl))) ?_
  intro W base args ds gs before hval0 hW hL hsh
  have hval : ∀ (j : Nat) t v, Tryz.f6.params[j]? = some t → args[j]? = some v → Value.okWide Tryz.prog W .any base t v := hval0
  have hW' := hW
  obtain ⟨p, q, hA0, hV, rfl, hfz, hnd⟩ := hW
  have hA : DataW.TrodAll enc Tryz.prog W 0 (fun _ => true) true Tryz.f6.params.toList args.toList ds p := hA0
  rw [Tryz.params6] at hA hval
  obtain ⟨v0, vs0, d0, ds0, p0, q0, hargs, rfl, rfl, h0, r0⟩ := trodAll_cons hA
  obtain ⟨v1, vs1, d1, ds1, p1, q1, rfl, rfl, rfl, h1, r1⟩ := trodAll_cons r0
  obtain ⟨rfl, rfl, rfl⟩ := trodAll_nil r1
  obtain rfl : args = #[v0, v1] := by cases args; simp_all
  obtain ⟨rfl, rfl⟩ := trodVars_none hV
  obtain ⟨a0, len0, cap0, rfl⟩ := okWide_slice Tryz.underlying24 (hval 0 24 v0 rfl rfl)
  have k0 := h0
  have lt0 : ∀ x ∈ p0, x.block < W.heap.size := by obtain ⟨m, hm⟩ := k0; exact DataW.trod_lt m _ _ _ hm
  obtain ⟨z0, e0, w0, m0⟩ : ∃ l : List Dcl, l.length = len0 ∧ RdD W (.slice a0 len0 cap0) l ∧ ∀ d ∈ l, DclIn d := by obtain ⟨fuel, hf⟩ := h0; exact decl_open (by simpa [Value.cells] using hf)
  have n0 : ∀ a n cap, Value.slice a0 len0 cap0 = .slice a n cap → a = none → cap = 0 := fun _ _ _ hh => by cases hh; obtain ⟨fuel, hf⟩ := h0; exact decl_nil (by simpa [Value.cells] using hf)
  obtain ⟨s1, rfl, rfl, rfl, w1⟩ := open_string Tryz.underlying9 (hval 1 9 v1 rfl rfl) h1
  clear hA0 hval0
  refine (walk (.slice a0 len0 cap0) z0 s1 W (tb_laid hL (by rfl)) (mx_shape hsh) w0 m0 n0 w1).mono fun e W' hend => ?_
  obtain ⟨he, X, hX⟩ := hend
  have bel : Below W.heap.size W W' := by rw [hX]; exact below_grow W X
  subst he
  exact ⟨_, rfl, _, _, _, [], _, [], hW', trodAll_mk1 (shut_bool Tryz.underlying4 _), (trodAll_cons_mk (Below.trod laidOut (by kernel_rfl) (of_decide_eq_true (by kernel_rfl)) k0 bel lt0) (trodAll_cons_mk (shut_string Tryz.underlying9 w1) trodAll_mk0)), rfl, bel.frame _, fun h => by cases h⟩

theorem over : Rows.cssdeclJoinsRow.holds Tryz.pinned (OpenSpec.ofChange Rows.cssdeclJoinsSpec) :=
  OpenClaim.holds_of_wide 6 Tryz.f6 rfl rfl rfl rfl rfl rfl rfl ⟨rfl, rfl, rfl, rfl, rfl⟩ rfl rfl rfl rfl rfl (by kernel_rfl) Tryz.func6 (by kernel_rfl)
    (of_decide_eq_true (by kernel_rfl)) (by unfold Func.isWrapper; rw [if_neg (of_decide_eq_false (by kernel_rfl))]; exact ⟨rfl, rfl⟩)
    (fun os started H enc _ => lifted os started H enc)

/-- The statement. -/
theorem proved : Rows.CssdeclJoinsCardSaid :=
  Claim7.holds_tied_plain_at .later [] [.data, .data, .data, .data, .pinned] true _ false over (fun _ h => by cases h) (by kernel_rfl) (fun _ h => by cases h) cssdeclJoins_row_tie rfl ⟨rfl, rfl⟩ (by kernel_rfl) rfl
    (fun f fn hf hfn => by
      obtain rfl : f = 6 := Option.some.inj ((show Tryz.prog.funcNamed "cribble/cribblelaw14.CssdeclJoins" = some 6 by kernel_rfl).symm.trans hf) |>.symm
      obtain rfl : fn = Tryz.f6 := (Option.some.inj (Tryz.func6.symm.trans hfn)).symm
      exact ⟨by kernel_rfl, fun j t ht => by
        rw [Tryz.params6] at ht
        have hm : t ∈ [24, 9] := by simpa using Array.mem_of_getElem? ht
        have hall : ([24, 9].all fun u => !Tryz.prog.wantsStandIn u) = true := by kernel_rfl
        exact (show Tryz.prog.wantsStandIn t = false by simpa using List.all_eq_true.1 hall t hm)⟩)
    (by kernel_rfl)

end Go.Proofs.YtdpgpjileffekaaGreatDoor.cssdeclJoins
