/- Pieces' texts with a space between are the pieces of both, for all lists of pieces: CsstokJoins returns true. No condition: whatever the arguments; the row lists tables of Go's library, which the card ties to the program's text. -/
import Derived.ProofKit
import Derived.ChangeSame
import Derived.ChangeAt
import Derived.SizedLaws
import Derived.OpenShut
import Derived.ShutString
import Derived.ChangeOld
import Derived.LaidMore
import Derived.Lay
import Derived.SevenTiedAt
import Derived.Stop.Joined
import Derived.Test.YtjaebdjlgohapaaDoorRows
import Derived.Test.YtjaebdjlgohapaaDoorCards
import Derived.Test.YtjaebdjlgohapaaDoorTie
import Derived.Test.YtjaebdjlgohapaaDoorCssR
namespace Go.Proofs.YtjaebdjlgohapaaDoor.csstokJoins
open Go.ChangeShapes Go.WideShapes Go.ChangeAt Go.RowKit
open Go.ChangeMaps (open_string shut_string)

theorem own : ownKnob Tryd.prog.godebug = none := by kernel_rfl
theorem laidOut : laidOutB Tryd.prog = true := by kernel_rfl


theorem join_app (a b : List Bs) (ha : a ≠ []) (hb : b ≠ []) : joinC (a ++ b) = joinC a ++ 32 :: joinC b := by
  induction a with
  | nil => exact absurd rfl ha
  | cons u a ih =>
    cases a with
    | nil =>
      cases b with
      | nil => exact absurd rfl hb
      | cons v b => rfl
    | cons v a =>
      have := ih (by simp)
      rw [List.cons_append] at this
      show joinC (u :: v :: (a ++ b)) = _
      rw [joinC, this]
      simp [joinC]
theorem both_scan {l m : List Css} (hl : l.all rightC = true) (hm : m.all rightC = true) : cssL (textC l ++ [32] ++ textC m) = l ++ m := by
  have h1 := text_scan l (List.all_eq_true.1 hl) (32 :: textC m) (.inr ⟨32, _, rfl, by decide⟩)
  rw [scan_sp (by decide), scan_text hm] at h1
  rw [List.append_assoc]
  exact h1
theorem css_one (l : List Css) : ∀ u ∈ cssCells l, u.oneCell' = true := by
  intro u hu
  rw [cssCells, List.mem_flatMap] at hu
  obtain ⟨p, _, hp⟩ := hu
  simp [Css.cells, sv] at hp
  rcases hp with rfl | rfl | rfl | rfl <;> rfl
set_option maxRecDepth 100000 in
set_option maxHeartbeats 8000000 in
theorem walk (v : Value) (l : List Css) (v2 : Value) (m : List Css) (w : World) (hT : Tb w) (hX : Mx w) (h : Rd w v l.length 4 (cssCells l)) (hz : ∀ p ∈ l, CssIn p) (hn : ∀ a n cap, v = .slice a n cap → a = none → cap = 0)
    (h2 : Rd w v2 m.length 4 (cssCells m)) (hz2 : ∀ p ∈ m, CssIn p) (hn2 : ∀ a n cap, v2 = .slice a n cap → a = none → cap = 0) : Calls Tryd.prog 6 #[v, v2] w (Ret (.bool true) w) := by
  have hmx : Tryd.prog.follows .mixedOrders = true := by kernel_rfl
  have HR := Lib.hid h
  have HR2 := Lib.hid h2
  have HZ := Lib.hid hz
  have HZ2 := Lib.hid hz2
  have HTB := Lib.hid hT
  have HMX := Lib.hid hX
  obtain ⟨_, hlm, A, c, rfl, _⟩ := h
  obtain ⟨_, hmm, A2, c2, rfl, _⟩ := h2
  have HNA := Lib.hid (hn _ _ _ rfl)
  have HNB := Lib.hid (hn2 _ _ _ rfl)
  clear hz hz2 hT hX hn hn2
  have HF := Lib.hid (fun X => few_any A l.length c l (w.grow X) (HR.out.grow X))
  have HF2 := Lib.hid (fun X => few_any A2 m.length c2 m (w.grow X) (HR2.out.grow X))
  cases hf : fewB l
  · rw [hf] at HF
    have HF' := Lib.hid HF.out
    generalize fewB m = fm at *
    clear hf HF
    go_enter Tryd.func6, Tryd.ntmps6
    go_wp2_with (first | (go_at_call 7; refine (awake_any _ HTB.out HMX.out).mono ?_; rintro e w' ⟨rfl, A0, rfl⟩) | (go_at_call 8; (with_reducible refine (Ret.flat (HF'.out _)).mono ?_); rintro e w' ⟨rfl, F0, rfl⟩) | (go_at_call 8; (with_reducible refine (Ret.flat (HF2.out _)).mono ?_); rintro e w' ⟨rfl, F1, rfl⟩))
    go_ret
    exact Ret.of rfl (by repeat (first | with_reducible exact Below.refl _ _ | (with_reducible refine Below.alloc ?_ (by first | omega | (simp [go_sem] <;> omega)) _) | (with_reducible refine Below.drew ?_) | (with_reducible refine Below.drewN ?_ _) | (with_reducible refine Below.grow ?_ (by first | omega | (simp [go_sem] <;> omega)) _) | (with_reducible refine Below.setCell ?_ (by first | omega | (simp [go_sem] <;> omega)) _)))
  cases hf2 : fewB m
  · rw [hf] at HF
    rw [hf2] at HF2
    have HF' := Lib.hid HF.out
    have HF2' := Lib.hid HF2.out
    clear hf hf2 HF HF2
    go_enter Tryd.func6, Tryd.ntmps6
    go_wp2_with (first | (go_at_call 7; refine (awake_any _ HTB.out HMX.out).mono ?_; rintro e w' ⟨rfl, A0, rfl⟩) | (go_at_call 8; (with_reducible refine (Ret.flat (HF'.out _)).mono ?_); rintro e w' ⟨rfl, F0, rfl⟩) | (go_at_call 8; (with_reducible refine (Ret.flat (HF2'.out _)).mono ?_); rintro e w' ⟨rfl, F1, rfl⟩))
    go_ret
    exact Ret.of rfl (by repeat (first | with_reducible exact Below.refl _ _ | (with_reducible refine Below.alloc ?_ (by first | omega | (simp [go_sem] <;> omega)) _) | (with_reducible refine Below.drew ?_) | (with_reducible refine Below.drewN ?_ _) | (with_reducible refine Below.grow ?_ (by first | omega | (simp [go_sem] <;> omega)) _) | (with_reducible refine Below.setCell ?_ (by first | omega | (simp [go_sem] <;> omega)) _)))
  rw [hf] at HF
  rw [hf2] at HF2
  have HF' := Lib.hid HF.out
  have HF2' := Lib.hid HF2.out
  obtain ⟨hs, hl1, hl2⟩ := few_short hf HZ.out
  obtain ⟨hs2, hm1, hm2⟩ := few_short hf2 HZ2.out
  have hsb : Short (l ++ m) := fun x hx => by rcases List.mem_append.1 hx with hx | hx; exact hs x hx; exact hs2 x hx
  have hblen : (l ++ m).length = l.length + m.length := by rw [List.length_append]
  obtain ⟨D, hD⟩ : ∃ D, l.all rightC = D := ⟨_, rfl⟩
  obtain ⟨D2, hD2⟩ : ∃ D, m.all rightC = D := ⟨_, rfl⟩
  have hDb : (l ++ m).all rightC = (D && D2) := by rw [List.all_append, hD, hD2]
  obtain ⟨T, hTT⟩ : ∃ T : ByteArray, ⟨(if D then textC l else []).toArray⟩ = T := ⟨_, rfl⟩
  obtain ⟨T2, hTT2⟩ : ∃ T : ByteArray, ⟨(if D2 then textC m else []).toArray⟩ = T := ⟨_, rfl⟩
  obtain ⟨T3, hTT3⟩ : ∃ T : ByteArray, ⟨(if (D && D2) then textC (l ++ m) else []).toArray⟩ = T := ⟨_, rfl⟩
  have HT1 := Lib.hid (fun X => show Calls Tryd.prog 9 #[.slice A l.length c] (w.grow X) (Ret (.tuple #[.string T, .bool D]) (w.grow X)) from by
    have := text_any A l.length c l (w.grow X) (HTB.out.grow X) (HMX.out.grow X) (HR.out.grow X) hs (by omega)
    rw [hD, hTT] at this; exact this)
  have HT2 := Lib.hid (fun X => show Calls Tryd.prog 9 #[.slice A2 m.length c2] (w.grow X) (Ret (.tuple #[.string T2, .bool D2]) (w.grow X)) from by
    have := text_any A2 m.length c2 m (w.grow X) (HTB.out.grow X) (HMX.out.grow X) (HR2.out.grow X) hs2 (by omega)
    rw [hD2, hTT2] at this; exact this)
  have HT3 := Lib.hid (fun X A5 c5 (hr : Rd (w.grow X) (.slice A5 (l.length + m.length) c5) (l.length + m.length) 4 (cssCells (l ++ m))) => show Calls Tryd.prog 9 #[.slice A5 (l.length + m.length) c5] (w.grow X) (Ret (.tuple #[.string T3, .bool (D && D2)]) (w.grow X)) from by
    rw [← hblen] at hr ⊢
    have := text_any A5 (l ++ m).length c5 (l ++ m) (w.grow X) (HTB.out.grow X) (HMX.out.grow X) hr hsb (by omega)
    rw [hDb, hTT3] at this; exact this)
  have HCb : Hid ([] ++ cssCells l ++ cssCells m = cssCells (l ++ m)) := by
    show _ = _; rw [List.nil_append, cssCells, cssCells, cssCells, List.flatMap_append]
  have hts : T.size ≤ 10000000 := by
    rw [← hTT]
    show (if D then textC l else []).length ≤ _
    split
    · exact text_short hs (by omega) hl2
    · simp
  have hts2 : T2.size ≤ 10000000 := by
    rw [← hTT2]
    show (if D2 then textC m else []).length ≤ _
    split
    · exact text_short hs2 (by omega) hm2
    · simp
  have HSc := Lib.hid (fun X (hd : D = true) (hd2 : D2 = true) => show Calls Tryd.prog 11 #[.string (T ++ ⟨#[32]⟩ ++ T2)] (w.grow X) (RetS (w.grow X) (l.length + m.length) 4 (cssCells (l ++ m))) from by
    subst hd hd2
    have h1 := text_short hs (by omega) hl2
    have h2 := text_short hs2 (by omega) hm2
    have := scan_any (textC l ++ [32] ++ textC m) (w.grow X) (HMX.out.grow X) (by simp only [List.length_append, List.length_cons, List.length_nil]; omega)
    rw [both_scan hD hD2, hblen] at this
    rw [← hTT, ← hTT2, show (⟨#[32]⟩ : ByteArray) = ⟨([32] : Bs).toArray⟩ from rfl]
    simp only [if_true]
    rw [cat_bs, cat_bs]
    exact this)
  have HSa := Lib.hid (fun (W : World) (A1 A2 : Option Addr) (c1 c2 : Nat) (ha : Rd W (.slice A1 (l.length + m.length) c1) (l.length + m.length) 4 (cssCells (l ++ m))) (hb : Rd W (.slice A2 (l.length + m.length) c2) (l.length + m.length) 4 (cssCells (l ++ m))) => show Calls Tryd.prog 10 #[.slice A1 (l.length + m.length) c1, .slice A2 (l.length + m.length) c2] W (Ret (.bool true) W) from by
    rw [← hblen] at ha hb ⊢
    have := same_any A1 A2 _ _ c1 c2 (l ++ m) (l ++ m) W ha hb
    rwa [decide_eq_true rfl] at this)
  have HEq : Hid (D = true → D2 = true → l ≠ [] → m ≠ [] → (T3.toList == (T ++ ⟨#[32]⟩ ++ T2).toList) = true) := fun hd hd2 hl hm => by
    subst hd hd2
    rw [ba_bq, ← hTT, ← hTT2, ← hTT3]
    simp only [Bool.and_self, if_true, decide_eq_true_eq, ByteArray.data_append, Array.toList_append]
    show textC (l ++ m) = textC l ++ [32] ++ textC m
    unfold textC
    rw [List.map_append, join_app _ _ (by simpa using hl) (by simpa using hm)]
    simp
  have hb1 : l.length ≤ 100 := hl1
  have hb2 : m.length ≤ 100 := hm1
  clear hf hf2 HF HF2 hs hs2 hsb hD hD2 hDb hTT hTT2 hTT3 hl2 hm2 hl1 hm1 hblen
  go_enter Tryd.func6, Tryd.ntmps6
  go_upto_region 10 with (first
    | (go_at_call 7; refine (awake_any _ HTB.out HMX.out).mono ?_; rintro e w' ⟨rfl, A0, rfl⟩)
    | (go_at_call 8; (with_reducible refine (Ret.flat (HF'.out _)).mono ?_); rintro e w' ⟨rfl, F0, rfl⟩)
    | (go_at_call 8; (with_reducible refine (Ret.flat (HF2'.out _)).mono ?_); rintro e w' ⟨rfl, F1, rfl⟩)
    | (go_at_call 9; (with_reducible refine (Ret.flat (HT1.out _)).mono ?_); rintro e w' ⟨rfl, X1, rfl⟩)
    | (go_at_call 9; (with_reducible refine (Ret.flat (HT2.out _)).mono ?_); rintro e w' ⟨rfl, X2, rfl⟩)
    | (go_at_call 9; (with_reducible refine (HT3.out _ _ _ HBo.out).mono ?_); rintro e w' ⟨rfl, X5, rfl⟩; have HBp := Lib.hid (HBo.out.grow X5))
    | (at_builtin; go_loud (refine append_src rfl _ _ 22 rfl css_row w rfl hown3 (below_grow _ _) m.length (cssCells m) (news_rd HR2.out HNB.out (below_grow _ _)) HR2.out.1 (css_one m) (by unfold maxLen; omega) (by omega) ?_); intro v4 X4 hown4; (rw [Nat.zero_add] at hown4); (obtain ⟨A5, c5, rfl, hc5⟩ := own_cap hown4); have HBo : Hid (Rd (w.grow X4) (.slice A5 (l.length + m.length) c5) (l.length + m.length) 4 (cssCells (l ++ m))) := (by have := Rd.own hown4; rw [HCb.out] at this; exact this))
    | (at_builtin; go_loud (refine append_src rfl _ _ 22 rfl css_row w rfl (own_emp (by simp [go_sem]) (by simp [go_sem] <;> omega)) (by repeat (first | with_reducible exact Below.refl _ _ | (with_reducible refine Below.alloc ?_ (by first | omega | (simp [go_sem] <;> omega)) _) | (with_reducible refine Below.drew ?_) | (with_reducible refine Below.drewN ?_ _) | (with_reducible refine Below.grow ?_ (by first | omega | (simp [go_sem] <;> omega)) _) | (with_reducible refine Below.setCell ?_ (by first | omega | (simp [go_sem] <;> omega)) _))) l.length (cssCells l) (news_rd HR.out HNA.out (by repeat (first | with_reducible exact Below.refl _ _ | (with_reducible refine Below.alloc ?_ (by first | omega | (simp [go_sem] <;> omega)) _) | (with_reducible refine Below.drew ?_) | (with_reducible refine Below.drewN ?_ _) | (with_reducible refine Below.grow ?_ (by first | omega | (simp [go_sem] <;> omega)) _) | (with_reducible refine Below.setCell ?_ (by first | omega | (simp [go_sem] <;> omega)) _)))) HR.out.1 (css_one l) (by unfold maxLen; omega) (by omega) ?_); intro v3 X3 hown3))
  clear hown4 hown3
  have bel4 : Below w.heap.size w ((w.grow X4).grow X5) := (by repeat (first | with_reducible exact Below.refl _ _ | (with_reducible refine Below.alloc ?_ (by first | omega | (simp [go_sem] <;> omega)) _) | (with_reducible refine Below.drew ?_) | (with_reducible refine Below.drewN ?_ _) | (with_reducible refine Below.grow ?_ (by first | omega | (simp [go_sem] <;> omega)) _) | (with_reducible refine Below.setCell ?_ (by first | omega | (simp [go_sem] <;> omega)) _)))
  have HBW := Lib.hid bel4
  clear bel4
  obtain ⟨Y5, hY5⟩ : ∃ Y, (w.grow X4).grow X5 = w.grow Y := ⟨_, grow_grow w X4 X5⟩
  rw [hY5] at HBW HBp ⊢
  clear hY5
  cases D
  · clear HSc HEq
    go_wp2_with fail
    go_ret
    exact Ret.of rfl HBW.out
  cases D2
  · clear HSc HEq
    go_wp2_with fail
    go_ret
    exact Ret.of rfl HBW.out
  have HSc2 := Lib.hid (fun X => HSc.out X rfl rfl)
  have HEq2 := Lib.hid (HEq.out rfl rfl)
  clear HSc HEq HTB HMX HT1 HT2 HT3 HF' HF2' HR HR2 HNA HNB
  have fin : ∀ b1 b2 b3 : Bool, ((l.length : Int) == 0) = b1 → ((m.length : Int) == 0) = b2 → (T3.toList == (T ++ ⟨#[32]⟩ ++ T2).toList) = b3 → (b1 || b2 || b3) = true := by
    intro b1 b2 b3 h1 h2 h3
    rw [← h1, ← h2, ← h3]
    by_cases hl0 : l = []
    · simp [hl0]
    by_cases hm0 : m = []
    · simp [hm0]
    rw [HEq2.out hl0 hm0]; simp
  have hbb := fin _ _ _ rfl rfl rfl
  clear fin HEq2
  generalize hx1 : ((l.length : Int) == 0) = b1 at hbb
  generalize hx2 : ((m.length : Int) == 0) = b2 at hbb
  generalize hx3 : (T3.toList == (T ++ ⟨#[32]⟩ ++ T2).toList) = b3 at hbb
  have HE1 := Lib.hid hx1
  have HE2 := Lib.hid hx2
  clear hx1 hx2
  generalize l.length = ll at *
  generalize m.length = lm at *
  have b1' := HE1.out
  cases b1
  · have b2' := HE2.out
    cases b2
    · cases b3
      · cases hbb
      go_wp2_with (first
        | (go_at_call 11; go_loud (with_reducible refine (HSc2.out _).mono ?_); rintro e w' ⟨A4, c4, Z2, rfl, rfl, hc4, hr4⟩; have HM4 := Lib.hid hr4; clear hr4)
        | (go_at_call 10; go_loud (with_reducible refine (HSa.out _ _ _ _ _ HM4.out (HBp.out.grow _)).mono ?_); rintro e w' ⟨rfl, Z3, rfl⟩))
      go_ret
      exact Ret.of rfl (below_next HBW.out (by (repeat (first | with_reducible exact Below.refl _ _ | (with_reducible refine Below.alloc ?_ (by first | omega | (simp [go_sem] <;> omega)) _) | (with_reducible refine Below.drew ?_) | (with_reducible refine Below.drewN ?_ _) | (with_reducible refine Below.grow ?_ (by first | omega | (simp [go_sem] <;> omega)) _) | (with_reducible refine Below.setCell ?_ (by first | omega | (simp [go_sem] <;> omega)) _))); done))
    · go_wp2_with (first
        | (go_at_call 11; go_loud (with_reducible refine (HSc2.out _).mono ?_); rintro e w' ⟨A4, c4, Z2, rfl, rfl, hc4, hr4⟩; have HM4 := Lib.hid hr4; clear hr4)
        | (go_at_call 10; go_loud (with_reducible refine (HSa.out _ _ _ _ _ HM4.out (HBp.out.grow _)).mono ?_); rintro e w' ⟨rfl, Z3, rfl⟩))
      go_ret
      exact Ret.of rfl (below_next HBW.out (by (repeat (first | with_reducible exact Below.refl _ _ | (with_reducible refine Below.alloc ?_ (by first | omega | (simp [go_sem] <;> omega)) _) | (with_reducible refine Below.drew ?_) | (with_reducible refine Below.drewN ?_ _) | (with_reducible refine Below.grow ?_ (by first | omega | (simp [go_sem] <;> omega)) _) | (with_reducible refine Below.setCell ?_ (by first | omega | (simp [go_sem] <;> omega)) _))); done))
  · go_wp2_with (first
      | (go_at_call 11; go_loud (with_reducible refine (HSc2.out _).mono ?_); rintro e w' ⟨A4, c4, Z2, rfl, rfl, hc4, hr4⟩; have HM4 := Lib.hid hr4; clear hr4)
      | (go_at_call 10; go_loud (with_reducible refine (HSa.out _ _ _ _ _ HM4.out (HBp.out.grow _)).mono ?_); rintro e w' ⟨rfl, Z3, rfl⟩))
    go_ret
    exact Ret.of rfl (below_next HBW.out (by (repeat (first | with_reducible exact Below.refl _ _ | (with_reducible refine Below.alloc ?_ (by first | omega | (simp [go_sem] <;> omega)) _) | (with_reducible refine Below.drew ?_) | (with_reducible refine Below.drewN ?_ _) | (with_reducible refine Below.grow ?_ (by first | omega | (simp [go_sem] <;> omega)) _) | (with_reducible refine Below.setCell ?_ (by first | omega | (simp [go_sem] <;> omega)) _))); done))

set_option maxRecDepth 100000 in
theorem lifted (os : Os) (started : os.Started) (H : Type) (enc : TypeId × Value → H) :
    ReturnsInHanded {} Tryd.checked os 6 .any (fun w args => (Rows.csstokJoinsSpec.pre enc Tryd.prog Tryd.f6 Rows.csstokJoinsRow.domain false w args ∧ laidMetH Tryd.prog Rows.csstokJoinsRow.laid w) ∧ sizedMet enc Tryd.prog Tryd.f6 (OpenSpec.ofChange Rows.csstokJoinsSpec) false w args) (Rows.csstokJoinsSpec.post enc Tryd.prog Tryd.f6 false true false false) := by
  refine handed_shape (C := Tryd.checked) (X := fun w _ => laidMetH Tryd.prog Rows.csstokJoinsRow.laid w) (fun _ _ _ hh h => h.of_heap hh) own started (by kernel_rfl) Tryd.func6
    (ChangeSpec.witness_shaped (enc := enc) (C := Tryd.checked) (os := os) (X := fun w _ => laidMetH Tryd.prog Rows.csstokJoinsRow.laid w) false (World.laidAll Tryd.prog os Rows.csstokJoinsRow.laid) #[.slice none 0 0, .slice none 0 0] 8 (World.laidAll_os _ _ _)
      (World.shaped_of_ZipB (by kernel_rfl) (by kernel_rfl)) (by kernel_rfl) (by kernel_rfl) (by kernel_rfl)
      (by rw [MakeChecks.laidMetH_plain _ _ _ (by kernel_rfl)]; exact laidMet_laidAll _ (by kernel_rfl) (by kernel_rfl))) ?_
  intro W base args ds gs before hval0 hW hL hsh
  have hval : ∀ (j : Nat) t v, Tryd.f6.params[j]? = some t → args[j]? = some v → Value.okWide Tryd.prog W .any base t v := hval0
  have hW' := hW
  obtain ⟨p, q, hA0, hV, rfl, hfz, hnd⟩ := hW
  have hA : DataW.TrodAll enc Tryd.prog W 0 (fun _ => true) true Tryd.f6.params.toList args.toList ds p := hA0
  rw [Tryd.params6] at hA hval
  obtain ⟨v0, vs0, d0, ds0, p0, q0, hargs, rfl, rfl, h0, r0⟩ := trodAll_cons hA
  obtain ⟨v1, vs1, d1, ds1, p1, q1, rfl, rfl, rfl, h1, r1⟩ := trodAll_cons r0
  obtain ⟨rfl, rfl, rfl⟩ := trodAll_nil r1
  obtain rfl : args = #[v0, v1] := by cases args; simp_all
  obtain ⟨rfl, rfl⟩ := trodVars_none hV
  obtain ⟨a0, len0, cap0, rfl⟩ := okWide_slice Tryd.underlying22 (hval 0 22 v0 rfl rfl)
  have k0 := h0
  have lt0 : ∀ x ∈ p0, x.block < W.heap.size := by obtain ⟨m, hm⟩ := k0; exact DataW.trod_lt m _ _ _ hm
  obtain ⟨z0, e0, w0, m0⟩ : ∃ l : List Css, l.length = len0 ∧ Rd W (.slice a0 len0 cap0) l.length 4 (cssCells l) ∧ ∀ p ∈ l, CssIn p := by obtain ⟨fuel, hf⟩ := h0; exact css_open (by simpa [Value.cells] using hf)
  have n0 : ∀ a n cap, Value.slice a0 len0 cap0 = .slice a n cap → a = none → cap = 0 := fun _ _ _ hh => by cases hh; obtain ⟨fuel, hf⟩ := h0; exact css_nil (by simpa [Value.cells] using hf)
  obtain ⟨a1, len1, cap1, rfl⟩ := okWide_slice Tryd.underlying22 (hval 1 22 v1 rfl rfl)
  have k1 := h1
  have lt1 : ∀ x ∈ p1, x.block < W.heap.size := by obtain ⟨m, hm⟩ := k1; exact DataW.trod_lt m _ _ _ hm
  obtain ⟨z1, e1, w1, m1⟩ : ∃ l : List Css, l.length = len1 ∧ Rd W (.slice a1 len1 cap1) l.length 4 (cssCells l) ∧ ∀ p ∈ l, CssIn p := by obtain ⟨fuel, hf⟩ := h1; exact css_open (by simpa [Value.cells] using hf)
  have n1 : ∀ a n cap, Value.slice a1 len1 cap1 = .slice a n cap → a = none → cap = 0 := fun _ _ _ hh => by cases hh; obtain ⟨fuel, hf⟩ := h1; exact css_nil (by simpa [Value.cells] using hf)
  clear hA0 hval0
  refine (walk (.slice a0 len0 cap0) z0 (.slice a1 len1 cap1) z1 W (tb_laid hL (by rfl)) (mx_shape hsh) w0 m0 n0 w1 m1 n1).mono fun e W' hend => ?_
  obtain ⟨he, X, hX⟩ := hend
  have bel : Below W.heap.size W W' := by rw [hX]; exact below_grow W X
  subst he
  exact ⟨_, rfl, _, _, _, [], _, [], hW', trodAll_mk1 (shut_bool Tryd.underlying4 _), (trodAll_cons_mk (Below.trod laidOut (by kernel_rfl) (of_decide_eq_true (by kernel_rfl)) k0 bel lt0) (trodAll_cons_mk (Below.trod laidOut (by kernel_rfl) (of_decide_eq_true (by kernel_rfl)) k1 bel lt1) trodAll_mk0)), rfl, bel.frame _, fun h => by cases h⟩

theorem over : Rows.csstokJoinsRow.holds Tryd.pinned (OpenSpec.ofChange Rows.csstokJoinsSpec) :=
  OpenClaim.holds_of_wide 6 Tryd.f6 rfl rfl rfl rfl rfl rfl rfl ⟨rfl, rfl, rfl, rfl, rfl⟩ rfl rfl rfl rfl rfl (by kernel_rfl) Tryd.func6 (by kernel_rfl)
    (of_decide_eq_true (by kernel_rfl)) (by unfold Func.isWrapper; rw [if_neg (of_decide_eq_false (by kernel_rfl))]; exact ⟨rfl, rfl⟩)
    (fun os started H enc _ => lifted os started H enc)

/-- The statement. -/
theorem proved : Rows.CsstokJoinsCardSaid :=
  Claim7.holds_tied_plain_at .later [] [.data, .data, .data, .data, .pinned] true _ false over (fun _ h => by cases h) (by kernel_rfl) (fun _ h => by cases h) csstokJoins_row_tie rfl ⟨rfl, rfl⟩ (by kernel_rfl) rfl
    (fun f fn hf hfn => by
      obtain rfl : f = 6 := Option.some.inj ((show Tryd.prog.funcNamed "cribble/cribblelaw13.CsstokJoins" = some 6 by kernel_rfl).symm.trans hf) |>.symm
      obtain rfl : fn = Tryd.f6 := (Option.some.inj (Tryd.func6.symm.trans hfn)).symm
      exact ⟨by kernel_rfl, fun j t ht => by
        rw [Tryd.params6] at ht
        have hm : t ∈ [22, 22] := by simpa using Array.mem_of_getElem? ht
        have hall : ([22, 22].all fun u => !Tryd.prog.wantsStandIn u) = true := by kernel_rfl
        exact (show Tryd.prog.wantsStandIn t = false by simpa using List.all_eq_true.1 hall t hm)⟩)
    (by kernel_rfl)

end Go.Proofs.YtjaebdjlgohapaaDoor.csstokJoins
