/- The walks of styles by the reference: pieces of a text. -/
import Derived.Test.YtgcccpdadponiaaGreatDoorCssK
import Derived.Test.YtgcccpdadponiaaGreatDoorCssV
namespace Go.Proofs.YtgcccpdadponiaaGreatDoor
open Go.RowKit Go.Shelf
attribute [local go_sem] Oper.semAt_some
def vLen : Value → Nat
  | .string t => t.size
  | _ => 0
theorem css_nilL : cssL [] = [] := rfl
theorem rem_blk {r : Bs} : blkM 0 (47 :: 42 :: r) = blkM 2 r := rfl
theorem blk2_end {t : Bs} : blkM 2 (42 :: 47 :: t) = blkM 0 t := rfl
theorem blk2_go {c : UInt8} {t : Bs} (h : ¬ (c.toNat = 42 ∧ hd (fun d => decide (d.toNat = 47)) t = true)) : blkM 2 (c :: t) = blkM 2 t := by
  simp only [blkM]; rw [if_neg h]
theorem solid_of {c : UInt8} {r : Bs} (h1 : spB c = false) (h2 : ¬ (c.toNat = 47 ∧ hd (fun d => decide (d.toNat = 42)) r = true)) : Solid (c :: r) := ⟨h1, h2⟩
set_option maxRecDepth 100000 in
set_option maxHeartbeats 8000000 in
theorem rscanO_any (s : Bs) (w : World) (hm : s.length ≤ 1000000000) : Calls Tryz.prog 76 #[.string ⟨s.toArray⟩] w (RetO w (cssL s).length 4 37 (cssCells (cssL s))) := by
  obtain ⟨L, hL⟩ : ∃ L, cssL s = L := ⟨_, rfl⟩
  have HL := Lib.hid hL
  rw [hL]
  clear hL
  go_enter Tryz.func76, Tryz.ntmps76
  go_wp2_with fail
  go_loopw [0, 3] (fun x v wr => ∃ (u : Bs) (us : List Css) (X : Gr), u.length + us.length ≤ s.length ∧ x = .string ⟨u.toArray⟩ ∧ wr = w.grow X ∧ (w.grow X).ownsRow w.heap.size 37 4 v us.length (cssCells us) ∧ Hid (us ++ cssL u = L)) (fun x _ _ => vLen x)
  case atStart => exact ⟨s, [], _, by simp, rfl, (grow_refl w).symm, by rw [grow_refl]; exact World.ownsRow_nil _ _ _ _, HL⟩
  case round =>
    obtain ⟨u, us, X, hle, rfl, rfl, hown, HK⟩ := hrel
    cases u with
    | nil =>
      have HN : Hid (us = L) := by show _ = _; rw [← HK.out, css_nilL, List.append_nil]
      go_wp2_with fail
      go_ret
      rw [← HN.out]
      exact RetO.own (by repeat (first | with_reducible exact Below.refl _ _ | (with_reducible refine Below.alloc ?_ (by first | omega | (simp [go_sem] <;> omega)) _) | (with_reducible refine Below.drew ?_) | (with_reducible refine Below.drewN ?_ _) | (with_reducible refine Below.grow ?_ (by first | omega | (simp [go_sem] <;> omega)) _) | (with_reducible refine Below.setCell ?_ (by first | omega | (simp [go_sem] <;> omega)) _))) hown (Nat.le_refl _)
    | cons c r =>
      obtain ⟨U, hU⟩ : ∃ U : ByteArray, ⟨(c :: r).toArray⟩ = U := ⟨_, rfl⟩
      have hUs : U.size = r.length + 1 := by rw [← hU]; rfl
      have hU1 : 0 < U.size := by omega
      have hUe := ba_full hU1
      have hUd : U.data.toList = c :: r := by rw [← hU]
      have hU0 : U[0]'hU1 = c := at_bs U _ hUd 0 hU1
      simp only [List.length_cons] at hle
      have hUm : U.size ≤ 1000000000 := by omega
      have HUs := Lib.hid hUs
      have HPc := Lib.hid (fun W => hU ▸ rpiece_any (c :: r) W (by simp only [List.length_cons]; omega) (by simp))
      have HSp := Lib.hid (fun W => show Calls Tryz.prog 97 #[.int .u8 U[0].toNat] W fun e w' => e = .returned (.bool (spB c)) ∧ W = w' from by rw [hU0]; exact rspace_any c W)
      rw [hU]
      cases hs : spB c
      · rw [hs] at HSp
        have HSp2 := Lib.hid HSp.out
        obtain ⟨rem, hrem⟩ : ∃ b, decide (c.toNat = 47 ∧ hd (fun d => decide (d.toNat = 42)) r = true) = b := ⟨_, rfl⟩
        have HRm := Lib.hid hrem
        have HU0 := Lib.hid hU0
        have HUd := Lib.hid hUd
        have H47 : Hid (((U[0].toNat : Int) == 47) = decide (c.toNat = 47)) := by show _ = _; rw [hU0, Bool.eq_iff_iff]; simp; omega
        have H42 : Hid (∀ h : 1 < U.size, hd (fun d => decide (d.toNat = 42)) r = ((U[1].toNat : Int) == 42)) := fun h => by
          cases r with
          | nil => rw [hUs] at h; simp at h
          | cons d r2 =>
            have : U[1] = d := at_bs U _ hUd 1 h
            rw [this, Bool.eq_iff_iff]; simp [hd]; omega
        have H40 : Hid (¬ 1 < U.size → r = []) := fun h => List.eq_nil_of_length_eq_zero (by omega)
        have hHS := hs
        clear HSp hrem hU0 hUd hU hs hUs
        go_upto_region 5 with (go_at_call 97; (with_reducible refine (HSp2.out _).mono ?_); rintro e w' ⟨rfl, rfl⟩)
        go_cut [25] (fun s25 wx => s25 = .bool rem ∧ w.grow X = wx)
        case first =>
          clear HPc HK
          by_cases h1 : 1 < U.size
          · have h42 := H42.out h1
            have h47 := H47.out
            cases e47 : ((U[0].toNat : Int) == 47)
            · have HB : Hid (rem = false) := by show _ = _; rw [← HRm.out]; rw [e47] at h47; simp at h47; simp; omega
              clear h42 h47
              go_wp2_with fail
              go_meet
              case rel => exact ⟨by rw [HB.out], rfl⟩
            · rw [e47] at h47
              cases e42 : ((U[1].toNat : Int) == 42)
              · have HB : Hid (rem = false) := by show _ = _; rw [← HRm.out, h42, e42]; simp
                clear h42 h47
                go_wp2_with fail
                go_meet
                case rel => exact ⟨by rw [HB.out], rfl⟩
              · have HB : Hid (rem = true) := by show _ = _; rw [← HRm.out, h42, e42]; simp at h47; simp; omega
                clear h42 h47
                go_wp2_with fail
                go_meet
                case rel => exact ⟨by rw [HB.out], rfl⟩
          · have HB : Hid (rem = false) := by show _ = _; rw [← HRm.out, H40.out h1]; simp [hd]
            go_wp2_with fail
            go_meet
            case rel => exact ⟨by rw [HB.out], rfl⟩
        case rest =>
          obtain ⟨rfl, rfl⟩ := hcut
          clear H47 H42 H40 HSp2
          cases rem
          · have hnr : ¬ (c.toNat = 47 ∧ hd (fun d => decide (d.toNat = 42)) r = true) := by simpa using HRm.out
            have HS := Lib.hid (scan_solid (solid_of hHS hnr))
            have hk := piece_kinds (s := c :: r) (by simp) (x := (pieceC (c :: r)).1) (n := (pieceC (c :: r)).2) rfl
            obtain ⟨⟨x, n⟩, hx⟩ : ∃ y, pieceC (c :: r) = y := ⟨_, rfl⟩
            rw [hx] at HPc HS hk
            simp only [List.length_cons] at hk
            have hn1 := hk.1
            have hn2 : n ≤ U.size := by rw [HUs.out]; exact hk.2.1
            have HPc2 := Lib.hid HPc.out
            simp only [Css.agg, sv] at HPc2
            obtain ⟨V, hV⟩ : ∃ V : ByteArray, ⟨((c :: r).drop n).toArray⟩ = V := ⟨_, rfl⟩
            have he1 : U.extract n U.size = V := by rw [str_drop, HUd.out, hV]
            have HV := Lib.hid hV
            have hvl : ((c :: r).drop n).length ≤ r.length := by rw [List.length_drop]; simp; omega
            have HVl := Lib.hid hvl
            have HN : Hid ((us ++ [x]) ++ cssL ((c :: r).drop n) = L) := by show _ = _; rw [← HK.out, HS.out, List.append_assoc]; rfl
            have HM := Lib.hid (show cssCells (us ++ [x]) = cssCells us ++ [.int .i64 x.kind, .string ⟨x.text.toArray⟩, .int .i64 x.num, .string ⟨x.unit.toArray⟩] by rw [cssCells, cssCells, List.flatMap_append]; rfl)
            have HM2 := Lib.hid (show (us ++ [x]).length = us.length + 1 by simp)
            clear hk hx hnr hHS HPc HS hV hvl HK HRm
            generalize (⟨x.text.toArray⟩ : ByteArray) = a1 at *
            generalize (⟨x.unit.toArray⟩ : ByteArray) = a2 at *
            go_wp2_with (first | (go_at_call 98; (with_reducible refine (HPc2.out _).mono ?_); rintro e w' ⟨rfl, X2, rfl⟩) | (at_builtin; go_loud (refine append_grow rfl _ _ 22 rfl css_row w rfl (((own_grow hown X2).alloc _).alloc _) (by repeat (first | with_reducible exact Below.refl _ _ | (with_reducible refine Below.alloc ?_ (by first | omega | (simp [go_sem] <;> omega)) _) | (with_reducible refine Below.drew ?_) | (with_reducible refine Below.drewN ?_ _) | (with_reducible refine Below.grow ?_ (by first | omega | (simp [go_sem] <;> omega)) _) | (with_reducible refine Below.setCell ?_ (by first | omega | (simp [go_sem] <;> omega)) _))) ⟨_, 0, none⟩ 1 1 [.int .i64 x.kind, .string a1, .int .i64 x.num, .string a2] rfl rfl (new_cells (c := #[.int .i64 x.kind, .string a1, .int .i64 x.num, .string a2]) (by simp [go_sem])) (by simp [Value.oneCell']) (by unfold maxLen; omega) (by omega) ?_); intro v' X3 hown' _))
            go_roundw
            case rel => exact ⟨(c :: r).drop n, us ++ [x], X3, by rw [HM2.out]; have := HVl.out; omega, by rw [HV.out], rfl, by rw [HM.out, HM2.out]; exact hown', HN⟩
            case measure => have h1 : V.size = ((c :: r).drop n).length := (by rw [← HV.out]; rfl); have h2 := HVl.out; have h3 := HUs.out; show V.size < U.size; omega
          · have hr := HRm.out
            simp only [decide_eq_true_eq] at hr
            obtain ⟨d, t, rfl⟩ : ∃ d t, r = d :: t := by
              cases r with
              | nil => simp [hd] at hr
              | cons d t => exact ⟨d, t, rfl⟩
            have hc : c = 47 := UInt8.toNat_inj.1 hr.1
            have hdd : d = 42 := UInt8.toNat_inj.1 (by simpa [hd] using hr.2)
            subst hc hdd
            have hu2 : 2 ≤ U.size := by rw [HUs.out]; simp
            obtain ⟨V, hV⟩ : ∃ V : ByteArray, ⟨t.toArray⟩ = V := ⟨_, rfl⟩
            have he1 : U.extract 2 U.size = V := by rw [str_drop, HUd.out, ← hV]; rfl
            have HV := Lib.hid hV
            have hKt : ∀ v : Bs, blkM 0 v = blkM 2 t → us ++ cssL v = L := fun v hv => by rw [← HK.out]; rw [scan_blk (s := 47 :: 42 :: t) (t := v) (by rw [hv]; rfl)]
            have HKt := Lib.hid hKt
            have htl : U.size = t.length + 2 := by rw [HUs.out]; simp
            have HTl := Lib.hid htl
            clear hr hV hKt HPc HRm hHS HK HUd HU0 htl
            go_wp2_with fail
            go_loop [0] (fun x => ∃ (v : Bs), v.length ≤ t.length ∧ x = .string ⟨v.toArray⟩ ∧ Hid (blkM 2 v = blkM 2 t)) (fun x => vLen x)
            case atStart => exact ⟨t, Nat.le_refl _, by rw [HV.out], rfl⟩
            case round =>
              obtain ⟨v, hv, rfl, HB⟩ := hrel
              cases v with
              | nil =>
                have HN := Lib.hid (HKt.out [] (by rw [← HB.out]; rfl))
                go_wp2_with fail
                go_roundw
                case rel => exact ⟨[], us, X, by simp; omega, rfl, rfl, hown, HN⟩
                case measure => have h3 := HTl.out; show 0 < U.size; omega
              | cons c2 r2 =>
                obtain ⟨Y, hY⟩ : ∃ U : ByteArray, ⟨(c2 :: r2).toArray⟩ = U := ⟨_, rfl⟩
                have hYs : Y.size = r2.length + 1 := by rw [← hY]; rfl
                have hY1 : 0 < Y.size := by omega
                have hYe := ba_full hY1
                have hYd : Y.data.toList = c2 :: r2 := by rw [← hY]
                have hY0 : Y[0]'hY1 = c2 := at_bs Y _ hYd 0 hY1
                simp only [List.length_cons] at hv
                have hYm : Y.size ≤ 1000000000 := by have := HTl.out; omega
                have hx1 : Y.extract 1 Y.size = ⟨r2.toArray⟩ := by rw [str_drop, hYd]; rfl
                have HYs := Lib.hid hYs
                rw [hY]
                obtain ⟨en, hen⟩ : ∃ b, decide (c2.toNat = 42 ∧ hd (fun d => decide (d.toNat = 47)) r2 = true) = b := ⟨_, rfl⟩
                have HEn := Lib.hid hen
                have H42 : Hid (((Y[0].toNat : Int) == 42) = decide (c2.toNat = 42)) := by show _ = _; rw [hY0, Bool.eq_iff_iff]; simp; omega
                have H47 : Hid (∀ h : 1 < Y.size, hd (fun d => decide (d.toNat = 47)) r2 = ((Y[1].toNat : Int) == 47)) := fun h => by
                  cases r2 with
                  | nil => rw [hYs] at h; simp at h
                  | cons d r3 =>
                    have : Y[1] = d := at_bs Y _ hYd 1 h
                    rw [this, Bool.eq_iff_iff]; simp [hd]; omega
                have H40 : Hid (¬ 1 < Y.size → r2 = []) := fun h => List.eq_nil_of_length_eq_zero (by omega)
                have HYd := Lib.hid hYd
                clear hen hY0 hYd hY hYs
                go_upto_region 7 with fail
                go_cut [45] (fun s45 wx => s45 = .bool (!en) ∧ w.grow X = wx)
                case first =>
                  by_cases h1 : 1 < Y.size
                  · have h42 := H42.out
                    have h47 := H47.out h1
                    cases e42 : ((Y[0].toNat : Int) == 42)
                    · have HB : Hid (en = false) := by show _ = _; rw [← HEn.out]; rw [e42] at h42; simp at h42; simp; omega
                      clear h42 h47
                      go_wp2_with fail
                      go_meet
                      case rel => exact ⟨by rw [HB.out]; rfl, rfl⟩
                    · rw [e42] at h42
                      cases e47 : ((Y[1].toNat : Int) == 47)
                      · have HB : Hid (en = false) := by show _ = _; rw [← HEn.out, h47, e47]; simp
                        clear h42 h47
                        go_wp2_with fail
                        go_meet
                        case rel => exact ⟨by rw [HB.out]; rfl, rfl⟩
                      · have HB : Hid (en = true) := by show _ = _; rw [← HEn.out, h47, e47]; simp at h42; simp; omega
                        clear h42 h47
                        go_wp2_with fail
                        go_meet
                        case rel => exact ⟨by rw [HB.out]; rfl, rfl⟩
                  · have HB : Hid (en = false) := by show _ = _; rw [← HEn.out, H40.out h1]; simp [hd]
                    go_wp2_with fail
                    go_meet
                    case rel => exact ⟨by rw [HB.out]; rfl, rfl⟩
                case rest =>
                  obtain ⟨rfl, rfl⟩ := hcut
                  clear H42 H47 H40
                  cases en
                  · have hne : ¬ (c2.toNat = 42 ∧ hd (fun d => decide (d.toNat = 47)) r2 = true) := by simpa using HEn.out
                    have HN : Hid (blkM 2 r2 = blkM 2 t) := by show _ = _; rw [← HB.out, blk2_go hne]
                    clear hne HEn HYd
                    go_wp2_with fail
                    go_round
                    case rel => exact ⟨r2, by omega, by rw [← hx1], HN⟩
                    case measure => have h1 := HYs.out; show r2.length < Y.size; omega
                  · have hr := HEn.out
                    simp only [decide_eq_true_eq] at hr
                    obtain ⟨d, t3, rfl⟩ : ∃ d t, r2 = d :: t := by
                      cases r2 with
                      | nil => simp [hd] at hr
                      | cons d t => exact ⟨d, t, rfl⟩
                    have hc : c2 = 42 := UInt8.toNat_inj.1 hr.1
                    have hdd : d = 47 := UInt8.toNat_inj.1 (by simpa [hd] using hr.2)
                    subst hc hdd
                    have hy2 : 2 ≤ Y.size := by rw [HYs.out]; simp
                    have hx2 : Y.extract 2 Y.size = ⟨t3.toArray⟩ := by rw [str_drop, HYd.out]; rfl
                    have HN := Lib.hid (HKt.out t3 (by rw [← HB.out]; rfl))
                    have HT3 : Hid (t3.length + 2 ≤ t.length) := by show _ ≤ _; simp at hv; omega
                    clear hr HEn HYd hx1 hv
                    go_wp2_with fail
                    go_roundw
                    case rel => exact ⟨t3, us, X, by have := HT3.out; simp at hle; omega, by rw [← hx2], rfl, hown, HN⟩
                    case measure => have h3 := HTl.out; have h4 := HT3.out; show t3.length < U.size; omega
      · rw [hs] at HSp
        have HSp2 := Lib.hid HSp.out
        have HN : Hid (us ++ cssL r = L) := by show _ = _; rw [← HK.out, scan_sp hs]
        have hx1 : U.extract 1 U.size = ⟨r.toArray⟩ := by rw [str_drop, hUd]; rfl
        clear HSp hU0 hUd hU hs HPc hUs
        go_wp2_with (go_at_call 97; (with_reducible refine (HSp2.out _).mono ?_); rintro e w' ⟨rfl, rfl⟩)
        go_roundw
        case rel => exact ⟨r, us, X, by omega, by rw [← hx1], rfl, hown, HN⟩
        case measure => have h1 := HUs.out; show r.length < U.size; omega
theorem rscan_any (s : Bs) (w : World) (hm : s.length ≤ 1000000000) : Calls Tryz.prog 76 #[.string ⟨s.toArray⟩] w (RetS w (cssL s).length 4 (cssCells (cssL s))) := (rscanO_any s w hm).mono fun _ _ h => h.s
end Go.Proofs.YtgcccpdadponiaaGreatDoor
