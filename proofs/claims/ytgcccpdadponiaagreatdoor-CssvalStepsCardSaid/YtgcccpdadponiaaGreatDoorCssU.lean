/- The walks of styles by the reference: a number. -/
import Derived.Test.YtgcccpdadponiaaGreatDoorCssF
import Derived.Test.YtgcccpdadponiaaGreatDoorCssT
namespace Go.Proofs.YtgcccpdadponiaaGreatDoor
open Go.RowKit Go.Shelf
attribute [local go_sem] Oper.semAt_some
theorem valL_z (l : Bs) : valL (l ++ [48]) = valL l * 10 := by rw [valL_snoc]; simp
set_option maxRecDepth 100000 in
set_option maxHeartbeats 8000000 in
theorem rnumber_any (s : Bs) (w : World) (hm : s.length ≤ 1000000000) (hne : s ≠ []) : Calls Tryz.prog 120 #[.string ⟨s.toArray⟩] w (Ret (.tuple #[Css.agg (numV s).1, .int .i64 (numV s).2]) w) := by
  obtain ⟨S, hS⟩ : ∃ S : ByteArray, ⟨s.toArray⟩ = S := ⟨_, rfl⟩
  have hd0 : S.data.toList = s := by rw [← hS]
  have hsz : S.size = s.length := by rw [← hS]; rfl
  have hpos : 0 < S.size := by rw [hsz]; exact List.length_pos_iff.2 hne
  have he := ba_full hpos
  obtain ⟨t, hsg⟩ : ∃ t, sgN s = t := ⟨_, rfl⟩
  have htl : t ≤ s.length := hsg ▸ sgN_le s
  have hSm : S.size ≤ 1000000000 := by omega
  have htS : t ≤ S.size := by omega
  have HV : Hid (numV s = match numC s with
    | some x => x
    | none => (zeroC, 0)) := rfl
  rw [hS]
  have HSg : Hid (t = if sgB S[0] then 1 else 0) := by
    show _ = _
    rw [← hsg, at_bs S s hd0 0 hpos]
    cases s with
    | nil => exact absurd rfl hne
    | cons c s' => rfl
  obtain ⟨wn, hwn⟩ : ∃ n, twc digB (s.drop t) = n := ⟨_, rfl⟩
  have hwl := twc_le digB (s.drop t)
  rw [hwn, List.length_drop] at hwl
  obtain ⟨v, hv⟩ : ∃ v, s.drop (t + wn) = v := ⟨_, rfl⟩
  have hvl : v.length = s.length - (t + wn) := by rw [← hv]; simp
  obtain ⟨p, hp⟩ : ∃ p, dotN v = p := ⟨_, rfl⟩
  have hpl := dotN_le v
  rw [hp] at hpl
  obtain ⟨te, hte⟩ : ∃ n, t + wn + (if p = 0 then 0 else p + 1) = n := ⟨_, rfl⟩
  have htel : te ≤ s.length := by rw [← hte]; split <;> omega
  obtain ⟨r, hr⟩ : ∃ r, s.drop te = r := ⟨_, rfl⟩
  have hrl : r.length = s.length - te := by rw [← hr]; simp
  obtain ⟨un, hun⟩ : ∃ n, unitN r = n := ⟨_, rfl⟩
  have hul := unitN_le r
  rw [hun] at hul
  have HP : Hid (numP s = ⟨hd (fun c => decide (c.toNat = 45)) s, (s.drop t).take wn, (v.drop 1).take p, r.take un, te⟩) := by
    show _ = _
    unfold numP
    simp only [hsg, hwn, List.drop_drop, hv, hp]
    have hr2 : (if p = 0 then v else v.drop (p + 1)) = r := by
      rw [← hr, ← hte, ← hv]
      split
      · rw [Nat.add_zero]
      · rw [List.drop_drop]
    rw [hr2, hun, hte]
  have hal1 : ((s.drop t).take wn).all digB = true := by rw [← hwn]; exact all_take _ _
  have hal2 : ((v.drop 1).take p).all digB = true := by
    rw [← hp]
    cases v with
    | nil => rfl
    | cons c v =>
      simp only [dotN, List.drop_succ_cons, List.drop_zero]
      split
      · exact all_take _ _
      · rfl
  have HR1 := Lib.hid (fun W => show Calls Tryz.prog 141 #[.string S, .int .i64 t] W fun e w' => e = .returned (.int .i64 wn) ∧ W = w' from by
    have := rdigits_any S t W htS (by omega)
    rwa [hd0, hwn] at this)
  have hatS : t + wn ≤ S.size := by omega
  have hc1 : IntKind.i64.wrap ((t : Int) + wn) = ((t + wn : Nat) : Int) := by rw [IntWalk.i64_in _ (by omega)]; omega
  obtain ⟨at1, hat⟩ : ∃ n, t + wn = n := ⟨_, rfl⟩
  have HAt := Lib.hid hat
  rw [hat] at hv hatS hte hvl hc1
  have hav : p ≠ 0 → at1 + 1 + p ≤ S.size := fun h => by omega
  have hteS : te ≤ S.size := by omega
  have hunS : te + un ≤ S.size := by omega
  have hwS : wn ≤ S.size := by omega
  have hpS : p ≤ S.size := by omega
  have HD1 : Hid (hd (fun d => decide (d.toNat = 46)) v = true → at1 + 1 ≤ S.size ∧ twc digB (s.drop (at1 + 1)) = p) := fun h => by
    cases v with
    | nil => simp [hd] at h
    | cons c v' =>
      simp only [hd, decide_eq_true_eq] at h
      refine ⟨by simp at hvl; omega, ?_⟩
      rw [← hp, dotN, if_pos h, ← List.drop_drop, hv]; rfl
  have HD2 : Hid (hd (fun d => decide (d.toNat = 46)) v = false → p = 0) := fun h => by
    cases v with
    | nil => exact hp.symm
    | cons c v' =>
      simp only [hd, decide_eq_false_iff_not] at h
      rw [← hp, dotN, if_neg h]
  have HDv : Hid (∀ h : at1 < S.size, hd (fun d => decide (d.toNat = 46)) v = decide (S[at1].toNat = 46)) := fun h => by
    rw [← hv, List.drop_eq_getElem_cons (by omega), ← at_bs S s hd0 at1 h]; rfl
  have HDn : Hid (¬ at1 < S.size → hd (fun d => decide (d.toNat = 46)) v = false) := fun h => by
    rw [← hv, List.drop_eq_nil_of_le (by omega)]; rfl
  have HPn : Hid (wn + p = 0 → numV s = (zeroC, 0)) := fun h => by
    rw [HV.out]
    have h3 : numC s = none := by
      unfold numC
      rw [HP.out]
      unfold numOf
      simp only
      rw [if_pos ⟨by rw [show wn = 0 by omega]; rfl, by rw [show p = 0 by omega]; rfl⟩]
    rw [h3]
  have HW1 : Hid (((s.drop t).take wn).length = wn) := by show _ = _; rw [List.length_take, List.length_drop]; omega
  have HW2 : Hid (((v.drop 1).take p).length = p) := by show _ = _; rw [List.length_take, List.length_drop]; omega
  have HW3 : Hid ((r.take un).length = un) := by show _ = _; rw [List.length_take]; omega
  have HX1 : Hid (∀ k (h : k < wn), ∃ h2 : t + k < S.size, ∃ h3 : k < ((s.drop t).take wn).length, S[t + k] = ((s.drop t).take wn)[k]) := fun k h =>
    ⟨by omega, by rw [HW1.out]; exact h, by rw [at_bs S s hd0 (t + k) (by omega)]; simp⟩
  have HX2 : Hid (∀ k (h : k < p), ∃ h2 : at1 + 1 + k < S.size, ∃ h3 : k < ((v.drop 1).take p).length, S[at1 + 1 + k] = ((v.drop 1).take p)[k]) := fun k h => by
    subst hv
    exact ⟨by omega, by rw [HW2.out]; exact h, by rw [at_bs S s hd0 (at1 + 1 + k) (by omega)]; simp [Nat.add_comm, Nat.add_left_comm]⟩
  have HTE := Lib.hid hte
  have HRr := Lib.hid hr
  have HUn := Lib.hid hun
  have HD := Lib.hid hd0
  have HL := Lib.hid hsz
  have HTz := Lib.hid htS
  clear hS htl hwl hm hte hr hun hp hv hd0 hvl hrl hul hpl htel hsz hwn hsg hat
  go_enter Tryz.func120, Tryz.ntmps120
  go_upto_region 2 with fail
  go_cut [23] (fun s23 wx => s23 = .bool (sgB S[0]) ∧ wx = (w.alloc (.cells #[.int .i64 0, .string ⟨#[]⟩, .int .i64 0, .string ⟨#[]⟩] 37)))
  case first =>
    by_cases h43 : S[0].toNat = 43
    · have b43 : ((S[0].toNat : Int) == 43) = true := by simp [h43]
      have HB : Hid (sgB S[0] = true) := by show _ = _; simp [sgB, h43]
      clear h43
      go_wp2_with fail
      go_meet
      case rel => exact ⟨by rw [HB.out], rfl⟩
    have b43 : ((S[0].toNat : Int) == 43) = false := by simp; omega
    by_cases h45 : S[0].toNat = 45
    · have b45 : ((S[0].toNat : Int) == 45) = true := by simp [h45]
      have HB : Hid (sgB S[0] = true) := by show _ = _; simp [sgB, h45]
      clear h43 h45
      go_wp2_with fail
      go_meet
      case rel => exact ⟨by rw [HB.out], rfl⟩
    have b45 : ((S[0].toNat : Int) == 45) = false := by simp; omega
    have HB : Hid (sgB S[0] = false) := by show _ = _; simp [sgB, h43, h45]
    clear h43 h45
    go_wp2_with fail
    go_meet
    case rel => exact ⟨by rw [HB.out], rfl⟩
  case rest =>
  obtain ⟨rfl, rfl⟩ := hcut
  go_upto_if 23 with fail
  go_cut [4] (fun s4 wx => s4 = .int .i64 (t : Nat) ∧ wx = (w.alloc (.cells #[.int .i64 0, .string ⟨#[]⟩, .int .i64 0, .string ⟨#[]⟩] 37)))
  case first =>
    cases hb : sgB S[0]
    · rw [hb] at HSg
      have HS2 := Lib.hid HSg.out
      go_wp2_with fail
      go_meet
      case rel => exact ⟨int_eq (by rw [HS2.out]; rfl), rfl⟩
    · rw [hb] at HSg
      have HS2 := Lib.hid HSg.out
      go_wp2_with fail
      go_meet
      case rel => exact ⟨int_eq (by rw [HS2.out]; rfl), rfl⟩
  case rest =>
  obtain ⟨rfl, rfl⟩ := hcut
  go_upto_region 7 with (go_at_call 141; (with_reducible refine (HR1.out _).mono ?_); rintro e w' ⟨rfl, rfl⟩)
  obtain ⟨dot, hdot⟩ : ∃ b, hd (fun d => decide (d.toNat = 46)) v = b := ⟨_, rfl⟩
  rw [hdot] at HD1 HD2 HDv HDn
  go_cut [39] (fun s39 wx => s39 = .bool dot ∧ wx = (w.alloc (.cells #[.int .i64 0, .string ⟨#[]⟩, .int .i64 0, .string ⟨#[]⟩] 37)))
  case first =>
    by_cases hlt : at1 < S.size
    · have HB := Lib.hid (HDv.out hlt)
      by_cases h46 : S[at1].toNat = 46
      · have b46 : ((S[at1].toNat : Int) == 46) = true := by simp [h46]
        rw [decide_eq_true h46] at HB
        clear h46
        go_wp2_with fail
        go_meet
        case rel => exact ⟨by rw [HB.out], rfl⟩
      · have b46 : ((S[at1].toNat : Int) == 46) = false := by simp; omega
        rw [decide_eq_false h46] at HB
        clear h46
        go_wp2_with fail
        go_meet
        case rel => exact ⟨by rw [HB.out], rfl⟩
    · have HB := Lib.hid (HDn.out hlt)
      go_wp2_with fail
      go_meet
      case rel => exact ⟨by rw [HB.out], rfl⟩
  case rest =>
  obtain ⟨rfl, rfl⟩ := hcut
  go_upto_if 39 with fail
  go_cut [6] (fun s6 wx => s6 = .int .i64 (p : Nat) ∧ wx = (w.alloc (.cells #[.int .i64 0, .string ⟨#[]⟩, .int .i64 0, .string ⟨#[]⟩] 37)))
  case first =>
    cases dot
    · have HZ := Lib.hid (HD2.out rfl)
      go_wp2_with fail
      go_meet
      case rel => exact ⟨int_eq (by rw [HZ.out]; rfl), rfl⟩
    · obtain ⟨ha, hb⟩ := HD1.out rfl
      have HR2 := Lib.hid (fun W => show Calls Tryz.prog 141 #[.string S, .int .i64 ((at1 : Int) + 1)] W fun e w' => e = .returned (.int .i64 p) ∧ W = w' from by
        have := rdigits_any S (at1 + 1) W ha (by omega)
        rw [HD.out, hb] at this; exact this)
      clear ha hb
      go_wp2_with (go_at_call 141; (with_reducible refine (HR2.out _).mono ?_); rintro e w' ⟨rfl, rfl⟩)
      go_meet
      case rel => exact ⟨rfl, rfl⟩
  case rest =>
  obtain ⟨rfl, rfl⟩ := hcut
  by_cases h0 : wn + p = 0
  · have HN := Lib.hid (HPn.out h0)
    have b0 : ((wn : Int) + (p : Int) == 0) = true := by simp; omega
    have hz1 : (wn : Int) = 0 := by omega
    have hz2 : (p : Int) = 0 := by omega
    clear h0
    go_wp2_with fail
    ((try simp only [Exit.inBlock, Exit.then]); refine bodyPost_ret (v := .tuple #[.agg #[.int .i64 0, .string ⟨#[]⟩, .int .i64 0, .string ⟨#[]⟩], .int .i64 0]) (by (first | rw [results_cell_tmp rfl] | rw [results_cell1 rfl]); go_simp) rfl ?_)
    exact Ret.of (by rw [HN.out]; rfl) (by repeat (first | with_reducible exact Below.refl _ _ | (with_reducible refine Below.alloc ?_ (by first | omega | (simp [go_sem] <;> omega)) _) | (with_reducible refine Below.drew ?_) | (with_reducible refine Below.drewN ?_ _) | (with_reducible refine Below.grow ?_ (by first | omega | (simp [go_sem] <;> omega)) _) | (with_reducible refine Below.setCell ?_ (by first | omega | (simp [go_sem] <;> omega)) _)))
  have b0 : ((wn : Int) + (p : Int) == 0) = false := by simp; omega
  have b0' : ¬ ((wn : Int) + (p : Int) = 0) := by omega
  have HNo : Hid (¬ ((s.drop t).take wn = [] ∧ (v.drop 1).take p = [])) := fun h => h0 (by rw [← HW1.out, ← HW2.out, h.1, h.2]; rfl)
  have HC : Hid (numC s = if 6 < wn ∨ 3 < p ∨ 64 < un then some (badC, te + un) else some (⟨3, [], if hd (fun c => decide (c.toNat = 45)) s then -(valL ((s.drop t).take wn ++ (v.drop 1).take p ++ List.replicate (3 - p) 48) : Int) else valL ((s.drop t).take wn ++ (v.drop 1).take p ++ List.replicate (3 - p) 48), lowL (r.take un)⟩, te + un)) := by
    show _ = _
    unfold numC
    rw [HP.out]
    unfold numOf
    simp only
    rw [if_neg HNo.out, HW1.out, HW2.out, HW3.out]
  clear h0 HPn HD1 HD2 HDv HDn HR1
  go_upto_if 50 with fail
  go_cut [7] (fun s7 wx => s7 = .int .i64 (te : Nat) ∧ wx = (w.alloc (.cells #[.int .i64 0, .string ⟨#[]⟩, .int .i64 0, .string ⟨#[]⟩] 37)))
  case first =>
    by_cases hp0 : 0 < p
    · have hav2 : at1 + 1 + p ≤ S.size := hav (by omega)
      have HTE2 := HTE.out
      rw [if_neg (by omega)] at HTE2
      have HTE3 := Lib.hid HTE2
      clear HTE2
      go_wp2_with fail
      go_meet
      case rel => exact ⟨int_eq (by have := HTE3.out; omega), rfl⟩
    · have HTE2 := HTE.out
      rw [if_pos (by omega)] at HTE2
      have HTE3 := Lib.hid HTE2
      clear HTE2
      go_wp2_with fail
      go_meet
      case rel => exact ⟨int_eq (by have := HTE3.out; omega), rfl⟩
  case rest =>
  obtain ⟨rfl, rfl⟩ := hcut
  go_upto_region 14 with fail
  obtain ⟨pc, hpc⟩ : ∃ b, hd (fun d => decide (d.toNat = 37)) r = b := ⟨_, rfl⟩
  have HPc := Lib.hid hpc
  clear hpc
  have HR' : Hid (∀ h : te < S.size, r = S[te] :: s.drop (te + 1)) := fun h => by rw [← HRr.out, List.drop_eq_getElem_cons (by rw [← HL.out]; exact h), at_bs S s HD.out te h]
  have HR0 : Hid (¬ te < S.size → r = []) := fun h => by rw [← HRr.out]; exact List.drop_eq_nil_of_le (by rw [← HL.out]; omega)
  go_cut [64] (fun s64 wx => s64 = .bool pc ∧ wx = (w.alloc (.cells #[.int .i64 0, .string ⟨#[]⟩, .int .i64 0, .string ⟨#[]⟩] 37)))
  case first =>
    by_cases hlt : te < S.size
    · have HB : Hid (pc = decide (S[te].toNat = 37)) := by show _ = _; rw [← HPc.out, HR'.out hlt]; rfl
      by_cases h37 : S[te].toNat = 37
      · have b37 : ((S[te].toNat : Int) == 37) = true := by simp [h37]
        rw [decide_eq_true h37] at HB
        clear h37
        go_wp2_with fail
        go_meet
        case rel => exact ⟨by rw [HB.out], rfl⟩
      · have b37 : ((S[te].toNat : Int) == 37) = false := by simp; omega
        rw [decide_eq_false h37] at HB
        clear h37
        go_wp2_with fail
        go_meet
        case rel => exact ⟨by rw [HB.out], rfl⟩
    · have HB : Hid (pc = false) := by show _ = _; rw [← HPc.out, HR0.out hlt]; rfl
      go_wp2_with fail
      go_meet
      case rel => exact ⟨by rw [HB.out], rfl⟩
  case rest =>
  obtain ⟨rfl, rfl⟩ := hcut
  go_upto_if 64 with fail
  go_cut [8] (fun s8 wx => s8 = .int .i64 (un : Nat) ∧ wx = (w.alloc (.cells #[.int .i64 0, .string ⟨#[]⟩, .int .i64 0, .string ⟨#[]⟩] 37)))
  case first =>
    cases pc
    · by_cases hlt : te < S.size
      · have HUe : Hid (un = if letB S[te] then twc goB r else 0) := by
          show _ = _
          have h37 : ¬ S[te].toNat = 37 := by have := HPc.out; rw [HR'.out hlt] at this; simpa [hd] using this
          rw [← HUn.out, HR'.out hlt, unitN, if_neg h37]
        have HLt := Lib.hid (fun W => rletter_any S[te] W)
        cases hl : letB S[te]
        · rw [hl] at HLt HUe
          have HLt2 := Lib.hid HLt.out
          clear HLt hl
          go_wp2_with (go_at_call 142; (with_reducible refine (HLt2.out _).mono ?_); rintro e w' ⟨rfl, rfl⟩)
          go_meet
          case rel => exact ⟨int_eq (by rw [HUe.out]; rfl), rfl⟩
        · rw [hl] at HLt HUe
          have HLt2 := Lib.hid HLt.out
          have HR3 := Lib.hid (fun W => show Calls Tryz.prog 121 #[.string S, .int .i64 te] W fun e w' => e = .returned (.int .i64 un) ∧ W = w' from by
            have := rrun_any S te W hteS (by omega)
            rw [HD.out, HRr.out] at this
            rw [HUe.out]; exact this)
          clear HLt hl
          go_wp2_with (first | (go_at_call 142; (with_reducible refine (HLt2.out _).mono ?_); rintro e w' ⟨rfl, rfl⟩) | (go_at_call 121; (with_reducible refine (HR3.out _).mono ?_); rintro e w' ⟨rfl, rfl⟩))
          go_meet
          case rel => exact ⟨rfl, rfl⟩
      · have HUe : Hid (un = 0) := by show _ = _; rw [← HUn.out, HR0.out hlt]; rfl
        go_wp2_with fail
        go_meet
        case rel => exact ⟨int_eq (by rw [HUe.out]; rfl), rfl⟩
    · have HUe : Hid (un = 1) := by
        show _ = _
        have h1 := HPc.out
        rw [← HUn.out]
        cases hr : r with
        | nil => rw [hr] at h1; simp [hd] at h1
        | cons d r' =>
          rw [hr] at h1
          simp only [hd, decide_eq_true_eq] at h1
          simp [unitN, h1]
      go_wp2_with fail
      go_meet
      case rel => exact ⟨int_eq (by rw [HUe.out]; rfl), rfl⟩
  case rest =>
  obtain ⟨rfl, rfl⟩ := hcut
  by_cases hbad : 6 < wn ∨ 3 < p ∨ 64 < un
  · rw [if_pos hbad] at HC
    go_upto_region 18 with fail
    go_cut [87] (fun s87 wx => s87 = .bool true ∧ wx = (w.alloc (.cells #[.int .i64 0, .string ⟨#[]⟩, .int .i64 0, .string ⟨#[]⟩] 37)))
    case first =>
      have hb : (decide ((6 : Int) < wn) || decide ((3 : Int) < p) || decide ((64 : Int) < un)) = true := by simp; omega
      clear hbad
      go_wp2_with fail
      all_goals (go_meet; case rel => exact ⟨by first | rfl | rw [hb], rfl⟩)
    case rest =>
      obtain ⟨rfl, rfl⟩ := hcut
      clear hbad
      go_wp2_with fail
      ((try simp only [Exit.inBlock, Exit.then]); refine bodyPost_ret (v := .tuple #[.agg #[.int .i64 7, .string ⟨#[]⟩, .int .i64 0, .string ⟨#[]⟩], .int .i64 ((te : Int) + un)]) (by (first | rw [results_cell_tmp rfl] | rw [results_cell1 rfl]); go_simp) rfl ?_)
      exact Ret.of (by rw [HV.out, HC.out]; simp [badC, Css.agg, sv]) (by repeat (first | with_reducible exact Below.refl _ _ | (with_reducible refine Below.alloc ?_ (by first | omega | (simp [go_sem] <;> omega)) _) | (with_reducible refine Below.drew ?_) | (with_reducible refine Below.drewN ?_ _) | (with_reducible refine Below.grow ?_ (by first | omega | (simp [go_sem] <;> omega)) _) | (with_reducible refine Below.setCell ?_ (by first | omega | (simp [go_sem] <;> omega)) _)))
  rw [if_neg hbad] at HC
  have hb1 : ¬ 6 < wn := by omega
  have hb2 : ¬ 3 < p := by omega
  have hb3 : ¬ 64 < un := by omega
  clear hbad
  obtain ⟨WD, hWD⟩ : ∃ l, (s.drop t).take wn = l := ⟨_, rfl⟩
  obtain ⟨PD, hPD⟩ : ∃ l, (v.drop 1).take p = l := ⟨_, rfl⟩
  rw [hWD] at hal1 HX1 HW1 HC
  rw [hPD] at hal2 HX2 HW2 HC
  clear hWD hPD HNo HP
  have HDg : Hid (∀ c ∈ WD ++ PD ++ List.replicate (3 - p) (48 : UInt8), digB c = true) := fun c hc => by
    rw [List.mem_append, List.mem_append] at hc
    rcases hc with (hc | hc) | hc
    · exact List.all_eq_true.1 hal1 c hc
    · exact List.all_eq_true.1 hal2 c hc
    · rw [List.eq_of_mem_replicate hc]; decide
  have HSmall : Hid (∀ l : Bs, (∀ c ∈ l, digB c = true) → l.length ≤ 9 → valL l ≤ 999999999) := fun l h1 h2 => valL_small l (List.all_eq_true.2 h1) h2
  have HTw : Hid (∀ k, k ≤ 3 → (WD ++ (PD ++ List.replicate (3 - p) (48 : UInt8)).take k).length ≤ 9 ∧ ∀ c ∈ WD ++ (PD ++ List.replicate (3 - p) (48 : UInt8)).take k, digB c = true) := fun k hk => by
    refine ⟨by rw [List.length_append, List.length_take, HW1.out]; omega, fun c hc => HDg.out c ?_⟩
    rw [List.append_assoc, List.mem_append]
    rw [List.mem_append] at hc
    rcases hc with hc | hc
    · exact .inl hc
    · exact .inr (List.mem_of_mem_take hc)
  clear hal1 hal2
  go_wp2_with fail
  go_loop [9, 10] (fun n i => ∃ k : Nat, k ≤ wn ∧ i = .int .i64 k ∧ n = .int .i64 (valL (WD.take k))) (fun _ i => wn - (intOf i).toNat)
  case atStart => exact ⟨0, by omega, rfl, rfl⟩
  case round =>
    obtain ⟨k, hk, rfl, rfl⟩ := hrel
    by_cases hlt : k < wn
    · obtain ⟨h2, h3, hSk⟩ := HX1.out k hlt
      have HN := Lib.hid (valL_snoc (WD.take k) WD[k])
      rw [← List.take_succ_eq_append_getElem h3] at HN
      have hdg : digB WD[k] = true := HDg.out _ (by rw [List.append_assoc]; exact List.mem_append_left _ (List.getElem_mem h3))
      have hsm := HSmall.out (WD.take (k + 1)) (fun c hc => HDg.out _ (by rw [List.append_assoc]; exact List.mem_append_left _ (List.mem_of_mem_take hc))) (by rw [List.length_take]; omega)
      rw [← hSk] at HN hdg
      obtain ⟨d, hd1⟩ : ∃ d, S[t + k].toNat = 48 + d := ⟨S[t + k].toNat - 48, by simp [digB] at hdg; omega⟩
      have hd9 : d ≤ 9 := by simp [digB] at hdg; omega
      rw [hd1, Nat.add_sub_cancel_left] at HN
      have hv1 : valL (WD.take k) * 10 + d ≤ 999999999 := by rw [← HN.out]; exact hsm
      have hSd : (S[t + k].toNat : Int) = 48 + (d : Int) := by omega
      have hix : ((t : Int) + k).toNat = t + k := by omega
      have hw1 : IntKind.u8.wrap (48 + (d : Int) - 48) = (d : Int) := by rw [show 48 + (d : Int) - 48 = d by omega]; exact IntWalk.u8_in _ (by omega)
      have hw2 : IntKind.u8.wrap (d : Int) = (d : Int) := IntWalk.u8_in _ (by omega)
      clear hdg hd1 hsm hSk h3
      generalize valL (WD.take k) = vv at *
      go_wp2_with fail
      go_round
      case rel => exact ⟨k + 1, by omega, by go_num, by rw [HN.out]; simp; try omega⟩
      case measure => simp [intOf]; omega
    · obtain rfl : k = wn := by omega
      have HN : Hid (valL (WD.take k) = valL WD) := by show _ = _; rw [List.take_of_length_le (by rw [HW1.out]; omega)]
      rw [HN.out]
      have hv0 := HSmall.out WD (fun c hc => HDg.out _ (by rw [List.append_assoc]; exact List.mem_append_left _ hc)) (by rw [HW1.out]; omega)
      go_wp2_with fail
      go_loop [9, 11] (fun n i => ∃ j : Nat, j ≤ 3 ∧ i = .int .i64 j ∧ n = .int .i64 (valL (WD ++ (PD ++ List.replicate (3 - p) 48).take j))) (fun _ i => 3 - (intOf i).toNat)
      case atStart => exact ⟨0, by omega, rfl, by simp⟩
      case round =>
        obtain ⟨j, hj, rfl, rfl⟩ := hrel
        by_cases hlt3 : j < 3
        · have h6 : j < (PD ++ List.replicate (3 - p) (48 : UInt8)).length := by rw [List.length_append, HW2.out, List.length_replicate]; omega
          have HS := Lib.hid (show WD ++ (PD ++ List.replicate (3 - p) (48 : UInt8)).take (j + 1) = (WD ++ (PD ++ List.replicate (3 - p) (48 : UInt8)).take j) ++ [(PD ++ List.replicate (3 - p) (48 : UInt8))[j]] by rw [List.take_succ_eq_append_getElem h6, List.append_assoc])
          obtain ⟨t1, t2⟩ := HTw.out (j + 1) (by omega)
          have hsm := HSmall.out _ t2 t1
          clear t1 t2
          have HN := Lib.hid (valL_snoc (WD ++ (PD ++ List.replicate (3 - p) (48 : UInt8)).take j) (PD ++ List.replicate (3 - p) (48 : UInt8))[j])
          rw [← HS.out] at HN
          clear HS
          by_cases hjp : j < p
          · obtain ⟨h2, h3, hSk⟩ := HX2.out j hjp
            have hat : (PD ++ List.replicate (3 - p) (48 : UInt8))[j] = S[at1 + 1 + j] := by rw [List.getElem_append_left h3, hSk]
            rw [hat] at HN
            have hdg : digB S[at1 + 1 + j] = true := by rw [← hat]; exact HDg.out _ (by rw [List.append_assoc]; exact List.mem_append_right _ (List.getElem_mem h6))
            obtain ⟨d, hd1⟩ : ∃ d, S[at1 + 1 + j].toNat = 48 + d := ⟨S[at1 + 1 + j].toNat - 48, by simp [digB] at hdg; omega⟩
            have hd9 : d ≤ 9 := by simp [digB] at hdg; omega
            rw [hd1, Nat.add_sub_cancel_left] at HN
            have hv1 : valL (WD ++ (PD ++ List.replicate (3 - p) (48 : UInt8)).take j) * 10 + d ≤ 999999999 := by rw [← HN.out]; exact hsm
            have hSd : (S[at1 + 1 + j].toNat : Int) = 48 + (d : Int) := by omega
            have hix : ((at1 : Int) + 1 + j).toNat = at1 + 1 + j := by omega
            have hw1 : IntKind.u8.wrap (48 + (d : Int) - 48) = (d : Int) := by rw [show 48 + (d : Int) - 48 = d by omega]; exact IntWalk.u8_in _ (by omega)
            have hw2 : IntKind.u8.wrap (d : Int) = (d : Int) := IntWalk.u8_in _ (by omega)
            clear hdg hd1 hsm hSk h3 hat h6
            generalize valL (WD ++ (PD ++ List.replicate (3 - p) (48 : UInt8)).take j) = vv at *
            go_wp2_with fail
            go_round
            case rel => exact ⟨j + 1, by omega, by go_num, by rw [HN.out]; simp; try omega⟩
            case measure => simp [intOf]; omega
          · have hat : (PD ++ List.replicate (3 - p) (48 : UInt8))[j] = 48 := by rw [List.getElem_append_right (by rw [HW2.out]; omega), List.getElem_replicate]
            rw [hat] at HN
            have hv1 : valL (WD ++ (PD ++ List.replicate (3 - p) (48 : UInt8)).take j) * 10 ≤ 999999999 := by have := HN.out; simp at this; omega
            clear hsm hat h6
            generalize valL (WD ++ (PD ++ List.replicate (3 - p) (48 : UInt8)).take j) = vv at *
            go_wp2_with fail
            go_round
            case rel => exact ⟨j + 1, by omega, by go_num, by rw [HN.out]; simp⟩
            case measure => simp [intOf]; omega
        · obtain rfl : j = 3 := by omega
          have hall : WD ++ (PD ++ List.replicate (3 - p) (48 : UInt8)).take 3 = WD ++ PD ++ List.replicate (3 - p) (48 : UInt8) := by
            rw [List.take_of_length_le (by rw [List.length_append, HW2.out, List.length_replicate]; omega), List.append_assoc]
          rw [hall]
          obtain ⟨t1, t2⟩ := HTw.out 3 (by omega)
          have hm9 := HSmall.out _ t2 t1
          rw [hall] at hm9
          clear t1 t2 hall
          generalize valL (WD ++ PD ++ List.replicate (3 - p) (48 : UInt8)) = m at *
          have HLo := Lib.hid (fun W => show Calls Tryz.prog 119 #[.string (S.extract te (te + un))] W (Ret (.string ⟨(lowL (r.take un)).toArray⟩) W) from by
            have := rlower_any (S.extract te (te + un)) W (by rw [← len_data, str_cut]; show ((S.data.toList.take _).drop _).length ≤ _; rw [List.length_drop, List.length_take]; omega)
            rw [show (S.extract te (te + un)).data.toList = r.take un from by rw [str_cut, HD.out, ← HRr.out]; show (s.take _).drop _ = _; rw [List.drop_take]; congr 1; omega] at this
            exact this)
          have HNg : Hid (hd (fun c => decide (c.toNat = 45)) s = decide (S[0].toNat = 45)) := by
            show _ = _
            rw [at_bs S s HD.out 0 hpos]
            cases s with
            | nil => exact absurd rfl hne
            | cons c s' => rfl
          rw [HNg.out] at HC
          by_cases hn : S[0].toNat = 45
          · have b45 : ((S[0].toNat : Int) == 45) = true := by simp [hn]
            rw [decide_eq_true hn, if_pos rfl] at HC
            clear hn
            go_wp2_with (go_at_call 119; (with_reducible refine (HLo.out _).mono ?_); rintro e w' ⟨rfl, X4, rfl⟩)
            ((try simp only [Exit.inBlock, Exit.then]); refine bodyPost_ret (v := .tuple #[.agg #[.int .i64 3, .string ⟨#[]⟩, .int .i64 (-(m : Int)), .string ⟨(lowL (r.take un)).toArray⟩], .int .i64 ((te : Int) + un)]) (by (first | rw [results_cell_tmp rfl] | rw [results_cell1 rfl]); go_simp) rfl ?_)
            exact Ret.of (by rw [HV.out, HC.out]; simp [Css.agg, sv]) (by repeat (first | with_reducible exact Below.refl _ _ | (with_reducible refine Below.alloc ?_ (by first | omega | (simp [go_sem] <;> omega)) _) | (with_reducible refine Below.drew ?_) | (with_reducible refine Below.drewN ?_ _) | (with_reducible refine Below.grow ?_ (by first | omega | (simp [go_sem] <;> omega)) _) | (with_reducible refine Below.setCell ?_ (by first | omega | (simp [go_sem] <;> omega)) _)))
          · have b45 : ((S[0].toNat : Int) == 45) = false := by simp; omega
            rw [decide_eq_false hn, if_neg (by simp)] at HC
            clear hn
            go_wp2_with (go_at_call 119; (with_reducible refine (HLo.out _).mono ?_); rintro e w' ⟨rfl, X4, rfl⟩)
            ((try simp only [Exit.inBlock, Exit.then]); refine bodyPost_ret (v := .tuple #[.agg #[.int .i64 3, .string ⟨#[]⟩, .int .i64 (m : Int), .string ⟨(lowL (r.take un)).toArray⟩], .int .i64 ((te : Int) + un)]) (by (first | rw [results_cell_tmp rfl] | rw [results_cell1 rfl]); go_simp) rfl ?_)
            exact Ret.of (by rw [HV.out, HC.out]; simp [Css.agg, sv]) (by repeat (first | with_reducible exact Below.refl _ _ | (with_reducible refine Below.alloc ?_ (by first | omega | (simp [go_sem] <;> omega)) _) | (with_reducible refine Below.drew ?_) | (with_reducible refine Below.drewN ?_ _) | (with_reducible refine Below.grow ?_ (by first | omega | (simp [go_sem] <;> omega)) _) | (with_reducible refine Below.setCell ?_ (by first | omega | (simp [go_sem] <;> omega)) _)))
end Go.Proofs.YtgcccpdadponiaaGreatDoor
