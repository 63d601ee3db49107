/- The walks of styles: a number that a text begins with. -/
import Derived.Test.YtgcccpdadponiaaGreatDoorCssE
namespace Go.Proofs.YtgcccpdadponiaaGreatDoor
open Go.RowKit Go.Shelf
attribute [local go_sem] Oper.semAt_some
set_option maxRecDepth 100000 in
set_option maxHeartbeats 8000000 in
theorem numv_any (s : Bs) (w : World) (hm : s.length ≤ 1000000000) (hne : s ≠ []) : Calls Tryz.prog 87 #[.string ⟨s.toArray⟩] w (Ret (.tuple #[Css.agg (numV s).1, .int .i64 (numV s).2]) w) := by
  obtain ⟨S, hS⟩ : ∃ S : ByteArray, ⟨s.toArray⟩ = S := ⟨_, rfl⟩
  have hd0 : S.data.toList = s := by rw [← hS]
  have hsz : S.size = s.length := by rw [← hS]; rfl
  obtain ⟨t, ht⟩ : ∃ t, twc sgB s = t := ⟨_, rfl⟩
  have htl : t ≤ s.length := ht ▸ twc_le sgB s
  obtain ⟨T, hT⟩ : ∃ T : ByteArray, ⟨(s.drop t).toArray⟩ = T := ⟨_, rfl⟩
  have htz : T.size = s.length - t := by rw [← hT]; show (s.drop t).length = _; simp
  have HT := Lib.hid (fun W => show Calls Tryz.prog 111 #[.string S, .string ⟨#[43, 45]⟩] W (Ret (.string T) W) from by
    have := trimleft_any S W
    rwa [hd0, ht, hT] at this)
  have hsub : (S.size : Int) - (T.size : Int) = (t : Nat) := by omega
  have hSm : S.size ≤ 1000000000 := by omega
  have hTm : T.size ≤ S.size := by omega
  have htS : t ≤ S.size := by omega
  have HV : Hid (numV s = match numC s with
    | some x => x
    | none => (zeroC, 0)) := rfl
  rw [hS]
  by_cases h1 : 1 < t
  · have HN : Hid (numV s = (zeroC, 0)) := by show _ = _; rw [HV.out, num_signs (by rw [ht]; exact h1)]
    clear hsz htz htl hT hS hd0 ht hm
    go_enter Tryz.func87, Tryz.ntmps87
    go_wp2_with (go_at_call 111; (with_reducible refine (HT.out _).mono ?_); rintro e w' ⟨rfl, X, rfl⟩)
    ((try simp only [Exit.inBlock, Exit.then]); refine bodyPost_ret (v := .tuple #[.agg #[.int .i64 0, .string ⟨#[]⟩, .int .i64 0, .string ⟨#[]⟩], .int .i64 0]) (by (first | rw [results_cell_tmp rfl] | rw [results_cell1 rfl]); go_simp) rfl ?_)
    exact Ret.of (by rw [HN.out]; rfl) (by repeat (first | with_reducible exact Below.refl _ _ | (with_reducible refine Below.alloc ?_ (by first | omega | (simp [go_sem] <;> omega)) _) | (with_reducible refine Below.drew ?_) | (with_reducible refine Below.drewN ?_ _) | (with_reducible refine Below.grow ?_ (by first | omega | (simp [go_sem] <;> omega)) _) | (with_reducible refine Below.setCell ?_ (by first | omega | (simp [go_sem] <;> omega)) _)))
  · have hsg : sgN s = t := ht ▸ sg_one (by rw [ht]; exact h1)
    obtain ⟨wn, hwn⟩ : ∃ n, twc digB (s.drop t) = n := ⟨_, rfl⟩
    have hwl := twc_le digB (s.drop t)
    rw [hwn, List.length_drop] at hwl
    obtain ⟨v, hv⟩ : ∃ v, s.drop (t + wn) = v := ⟨_, rfl⟩
    have hvl : v.length = s.length - (t + wn) := by rw [← hv]; simp
    obtain ⟨p, hp⟩ : ∃ p, dotN v = p := ⟨_, rfl⟩
    have hpl := dotN_le v
    rw [hp] at hpl
    obtain ⟨te, hte⟩ : ∃ n, t + wn + (if p = 0 then 0 else p + 1) = n := ⟨_, rfl⟩
    have htel : te ≤ s.length := by rw [← hte]; split <;> omega
    obtain ⟨r, hr⟩ : ∃ r, s.drop te = r := ⟨_, rfl⟩
    have hrl : r.length = s.length - te := by rw [← hr]; simp
    obtain ⟨un, hun⟩ : ∃ n, unitN r = n := ⟨_, rfl⟩
    have hul := unitN_le r
    rw [hun] at hul
    have HP : Hid (numP s = ⟨hd (fun c => decide (c.toNat = 45)) s, (s.drop t).take wn, (v.drop 1).take p, r.take un, te⟩) := by
      show _ = _
      unfold numP
      simp only [hsg, hwn, List.drop_drop, hv, hp]
      have hr2 : (if p = 0 then v else v.drop (p + 1)) = r := by
        rw [← hr, ← hte, ← hv]
        split
        · rw [Nat.add_zero]
        · rw [List.drop_drop]
      rw [hr2, hun, hte]
    have hal1 : ((s.drop t).take wn).all digB = true := by rw [← hwn]; exact all_take _ _
    have hal2 : ((v.drop 1).take p).all digB = true := by
      rw [← hp]
      cases v with
      | nil => rfl
      | cons c v =>
        simp only [dotN, List.drop_succ_cons, List.drop_zero]
        split
        · exact all_take _ _
        · rfl
    obtain ⟨F1, hF1⟩ : ∃ F : ByteArray, S.extract t (t + wn) = F := ⟨_, rfl⟩
    have hF1d : F1.data.toList = (s.drop t).take wn := by rw [← hF1, str_cut, hd0]; show (s.take (t + wn)).drop t = _; rw [List.drop_take]; congr 1; omega
    obtain ⟨F, hF⟩ : ∃ F : ByteArray, (⟨((s.drop t).take wn ++ (v.drop 1).take p).toArray⟩ : ByteArray) = F := ⟨_, rfl⟩
    have hFd : F.data.toList = (s.drop t).take wn ++ (v.drop 1).take p := by rw [← hF]
    have HR1 := Lib.hid (fun W => show Calls Tryz.prog 89 #[.string S, .int .i64 t, .func (.func 94) #[] #[]] W fun e w' => e = .returned (.int .i64 wn) ∧ W = w' from by
      have := row_any S t _ _ W digit_pred htS (by omega)
      rwa [hd0, hwn] at this)
    have HPf := Lib.hid (fun W => show Calls Tryz.prog 84 #[.string (S.extract (t + wn) S.size), .string ⟨#[46]⟩] W fun e w' => e = .returned (.bool (hd (fun d => decide (d.toNat = 46)) v)) ∧ w' = W from by
      have := prefix_any S (t + wn) 46 W
      rwa [hd0, hv] at this)
    have hatS : t + wn ≤ S.size := by omega
    have hc1 : IntKind.i64.wrap ((t : Int) + wn) = ((t + wn : Nat) : Int) := by rw [IntWalk.i64_in _ (by omega)]; omega
    obtain ⟨at1, hat⟩ : ∃ n, t + wn = n := ⟨_, rfl⟩
    rw [hat] at hF1 hv HPf hatS hte hvl hc1
    have hav : p ≠ 0 → at1 + 1 + p ≤ S.size := fun h => by omega
    have hteS : te ≤ S.size := by omega
    have hunS : te + un ≤ S.size := by omega
    have hwS : wn ≤ S.size := by omega
    have hpS : p ≤ S.size := by omega
    have HD1 : Hid (hd (fun d => decide (d.toNat = 46)) v = true → at1 + 1 ≤ S.size ∧ twc digB (s.drop (at1 + 1)) = p) := fun h => by
      cases v with
      | nil => simp [hd] at h
      | cons c v' =>
        simp only [hd, decide_eq_true_eq] at h
        refine ⟨by simp at hvl; omega, ?_⟩
        rw [← hp, dotN, if_pos h, ← List.drop_drop, hv]; rfl
    have HD2 : Hid (hd (fun d => decide (d.toNat = 46)) v = false → p = 0) := fun h => by
      cases v with
      | nil => exact hp.symm
      | cons c v' =>
        simp only [hd, decide_eq_false_iff_not] at h
        rw [← hp, dotN, if_neg h]
    have HD3 : Hid (p = 0 ∨ at1 + 1 + p ≤ S.size) := by
      show _ ∨ _
      by_cases h0 : p = 0
      · exact .inl h0
      · exact .inr (hav h0)
    have HW1 : Hid (((s.drop t).take wn).length = wn) := by show _ = _; rw [List.length_take, List.length_drop]; omega
    have HW2 : Hid (((v.drop 1).take p).length = p) := by show _ = _; rw [List.length_take, List.length_drop]; omega
    have HW3 : Hid ((r.take un).length = un) := by show _ = _; rw [List.length_take]; omega
    have HTE := Lib.hid hte
    have HRr := Lib.hid hr
    have HUn := Lib.hid hun
    have HPp := Lib.hid hp
    have HV1 := Lib.hid hv
    have HD := Lib.hid hd0
    have HFd := Lib.hid hFd
    have HF1d := Lib.hid hF1d
    have HL := Lib.hid hsz
    have htt : ¬ (1 : Int) < (t : Int) := by omega
    clear hT hS ht htz htl hwl hm hte hr hun hp hv hd0 hFd hF1d hvl hrl hul hpl htel hF hsz hwn hsg h1
    go_enter Tryz.func87, Tryz.ntmps87
    go_upto_if 35 with (first | (go_at_call 111; (with_reducible refine (HT.out _).mono ?_); rintro e w' ⟨rfl, X, rfl⟩) | (go_at_call 89; (with_reducible refine (HR1.out _).mono ?_); rintro e w' ⟨rfl, rfl⟩) | (go_at_call 84; (with_reducible refine (HPf.out _).mono ?_); rintro e w' ⟨rfl, rfl⟩))
    go_cut [7] (fun s7 wx => s7 = .int .i64 (p : Nat) ∧ wx = (w.alloc (.cells #[.int .i64 0, .string ⟨#[]⟩, .int .i64 0, .string ⟨#[]⟩] 37)).grow X)
    case first =>
      generalize hd (fun d => decide (d.toNat = 46)) v = dot at *
      cases dot
      · have h0 := HD2.out rfl
        subst h0
        go_wp2
        go_meet
        case rel => exact ⟨rfl, rfl⟩
      · obtain ⟨ha, hb⟩ := HD1.out rfl
        have HR2 := Lib.hid (fun W => show Calls Tryz.prog 89 #[.string S, .int .i64 ((at1 : Int) + 1), .func (.func 94) #[] #[]] W fun e w' => e = .returned (.int .i64 p) ∧ W = w' from by
          have := row_any S (at1 + 1) _ _ W digit_pred ha (by omega)
          rw [HD.out, hb] at this; exact this)
        clear ha hb
        go_wp2_with (go_at_call 89; (with_reducible refine (HR2.out _).mono ?_); rintro e w' ⟨rfl, rfl⟩)
        go_meet
        case rel => exact ⟨rfl, rfl⟩
    case rest =>
      obtain ⟨rfl, rfl⟩ := hcut
      go_upto_if 41 with fail
      go_cut [4, 6] (fun s4 s6 wx => s4 = .int .i64 (te : Nat) ∧ s6 = .string F ∧ wx = (w.alloc (.cells #[.int .i64 0, .string ⟨#[]⟩, .int .i64 0, .string ⟨#[]⟩] 37)).grow X)
      case first =>
        by_cases hp0 : 0 < p
        · have hav2 : at1 + 1 + p ≤ S.size := hav (by omega)
          have hx1 : ((at1 : Int) + 1).toNat = at1 + 1 := by omega
          have hx2 : ((at1 : Int) + 1 + p).toNat = at1 + 1 + p := by omega
          have HTE2 := HTE.out
          rw [if_neg (by omega)] at HTE2
          have HTE3 := Lib.hid HTE2
          obtain ⟨G, hG⟩ : ∃ G : ByteArray, S.extract (at1 + 1) (at1 + 1 + p) = G := ⟨_, rfl⟩
          have HGd : Hid (G.data.toList = (v.drop 1).take p) := by
            show _ = _
            rw [← hG, str_cut, HD.out]
            show (s.take _).drop _ = _
            rw [List.drop_take, ← HV1.out, List.drop_drop]
            congr 1; omega
          have hGs : G.size ≤ 1000000000 := by rw [← len_data, HGd.out, List.length_take]; omega
          have hF1s : F1.size ≤ 1000000000 := by rw [← len_data, HF1d.out, List.length_take]; omega
          clear HTE2
          go_wp2
          go_meet
          case rel => exact ⟨int_eq (by have := HTE3.out; omega), str_eq (by rw [HFd.out, ByteArray.data_append, Array.toList_append, HF1d.out, HGd.out]), rfl⟩
        · have h0 : p = 0 := by omega
          subst h0
          have HTE2 := HTE.out
          rw [if_pos rfl, Nat.add_zero] at HTE2
          have HTE3 := Lib.hid HTE2
          clear HTE2
          go_wp2
          go_meet
          case rel => exact ⟨int_eq (by have := HTE3.out; omega), str_eq (by rw [HFd.out, HF1d.out, List.take_zero, List.append_nil]), rfl⟩
      case rest =>
        obtain ⟨rfl, rfl, rfl⟩ := hcut
        by_cases hF0 : F.data.toList = []
        · have hFe : F.toList.isEmpty = true := by rw [ba_emp, hF0]; rfl
          have HN : Hid (numV s = (zeroC, 0)) := by
            show _ = _
            have h1 := HFd.out
            rw [hF0] at h1
            have h2 := List.append_eq_nil_iff.1 h1.symm
            have h3 : numC s = none := by
              unfold numC
              rw [HP.out]
              unfold numOf
              simp only
              rw [if_pos h2]
            rw [HV.out, h3]
          go_wp2
          ((try simp only [Exit.inBlock, Exit.then]); refine bodyPost_ret (v := .tuple #[.agg #[.int .i64 0, .string ⟨#[]⟩, .int .i64 0, .string ⟨#[]⟩], .int .i64 0]) (by (first | rw [results_cell_tmp rfl] | rw [results_cell1 rfl]); go_simp) rfl ?_)
          exact Ret.of (by rw [HN.out]; rfl) (by repeat (first | with_reducible exact Below.refl _ _ | (with_reducible refine Below.alloc ?_ (by first | omega | (simp [go_sem] <;> omega)) _) | (with_reducible refine Below.drew ?_) | (with_reducible refine Below.drewN ?_ _) | (with_reducible refine Below.grow ?_ (by first | omega | (simp [go_sem] <;> omega)) _) | (with_reducible refine Below.setCell ?_ (by first | omega | (simp [go_sem] <;> omega)) _)))
        · have hFe : F.toList.isEmpty = false := by rw [ba_emp]; simpa using hF0
          have HNo : Hid (¬ ((s.drop t).take wn = [] ∧ (v.drop 1).take p = [])) := fun h => hF0 (by rw [HFd.out, h.1, h.2]; rfl)
          have HC : Hid (numC s = if 6 < wn ∨ 3 < p ∨ 64 < un then some (badC, te + un) else some (⟨3, [], if hd (fun c => decide (c.toNat = 45)) s then -(valL ((s.drop t).take wn ++ (v.drop 1).take p ++ List.replicate (3 - p) 48) : Int) else valL ((s.drop t).take wn ++ (v.drop 1).take p ++ List.replicate (3 - p) 48), lowL (r.take un)⟩, te + un)) := by
            show _ = _
            unfold numC
            rw [HP.out]
            unfold numOf
            simp only
            rw [if_neg HNo.out, HW1.out, HW2.out, HW3.out]
          clear hF0
          go_upto_block 0 with fail
          go_cut [8] (fun s8 wx => s8 = .int .i64 (un : Nat) ∧ wx = (w.alloc (.cells #[.int .i64 0, .string ⟨#[]⟩, .int .i64 0, .string ⟨#[]⟩] 37)).grow X)
          case first =>
            have HPf2 := Lib.hid (fun W => show Calls Tryz.prog 84 #[.string (S.extract te S.size), .string ⟨#[37]⟩] W fun e w' => e = .returned (.bool (hd (fun d => decide (d.toNat = 37)) r)) ∧ w' = W from by
              have := prefix_any S te 37 W
              rw [HD.out, HRr.out] at this; exact this)
            by_cases hlt : te < S.size
            · have hlt2 : te < s.length := by rw [← HL.out]; exact hlt
              have HR' : Hid (r = S[te] :: s.drop (te + 1)) := by show _ = _; rw [← HRr.out, List.drop_eq_getElem_cons hlt2, at_bs S s HD.out te hlt]
              have HUe : Hid (un = if S[te].toNat = 37 then 1 else if letB S[te] then twc goB r else 0) := by
                show _ = _
                rw [← HUn.out, HR'.out]; rfl
              rw [show hd (fun d => decide (d.toNat = 37)) r = decide (S[te].toNat = 37) by rw [HR'.out]; rfl] at HPf2
              have HLt := Lib.hid (fun W => letter_any S[te] W)
              by_cases h37 : S[te].toNat = 37
              · rw [decide_eq_true h37] at HPf2
                rw [if_pos h37] at HUe
                have HPf3 := Lib.hid HPf2.out
                clear HPf2 h37 HLt
                go_wp2_with (go_at_call 84; (with_reducible refine (HPf3.out _).mono ?_); rintro e w' ⟨rfl, rfl⟩)
                go_meet
                case rel => exact ⟨int_eq (by rw [HUe.out]; rfl), rfl⟩
              · rw [decide_eq_false h37] at HPf2
                rw [if_neg h37] at HUe
                have HPf3 := Lib.hid HPf2.out
                cases hl : letB S[te]
                · rw [hl] at HLt HUe
                  have HLt2 := Lib.hid HLt.out
                  clear HPf2 h37 HLt hl
                  go_wp2_with (first | (go_at_call 84; (with_reducible refine (HPf3.out _).mono ?_); rintro e w' ⟨rfl, rfl⟩) | (go_at_call 112; (with_reducible refine (HLt2.out _).mono ?_); rintro e w' ⟨rfl, rfl⟩))
                  go_meet
                  case rel => exact ⟨int_eq (by rw [HUe.out]; rfl), rfl⟩
                · rw [hl] at HLt HUe
                  have HLt2 := Lib.hid HLt.out
                  have HR3 := Lib.hid (fun W => show Calls Tryz.prog 89 #[.string S, .int .i64 te, .func (.func 90) #[] #[]] W fun e w' => e = .returned (.int .i64 un) ∧ W = w' from by
                    have := row_any S te _ _ W goes_pred hteS (by omega)
                    rw [HD.out, HRr.out] at this
                    rw [HUe.out]; exact this)
                  clear HPf2 h37 HLt hl
                  go_wp2_with (first | (go_at_call 84; (with_reducible refine (HPf3.out _).mono ?_); rintro e w' ⟨rfl, rfl⟩) | (go_at_call 112; (with_reducible refine (HLt2.out _).mono ?_); rintro e w' ⟨rfl, rfl⟩) | (go_at_call 89; (with_reducible refine (HR3.out _).mono ?_); rintro e w' ⟨rfl, rfl⟩))
                  go_meet
                  case rel => exact ⟨rfl, rfl⟩
            · have hr0 : r = [] := by rw [← HRr.out]; exact List.drop_eq_nil_of_le (by rw [← HL.out]; omega)
              have HUe : Hid (un = 0) := by show _ = _; rw [← HUn.out, hr0]; rfl
              rw [show hd (fun d => decide (d.toNat = 37)) r = false by rw [hr0]; rfl] at HPf2
              have HPf3 := Lib.hid HPf2.out
              clear HPf2 hr0
              go_wp2_with (go_at_call 84; (with_reducible refine (HPf3.out _).mono ?_); rintro e w' ⟨rfl, rfl⟩)
              go_meet
              case rel => exact ⟨int_eq (by rw [HUe.out]; rfl), rfl⟩
          case rest =>
            obtain ⟨rfl, rfl⟩ := hcut
            have HBd := Lib.hid (fun W => bad_any W)
            by_cases hb1 : 6 < wn
            · rw [if_pos (.inl hb1)] at HC
              go_wp2_with (go_at_call 93; (with_reducible refine (Ret.flat (HBd.out _)).mono ?_); rintro e w' ⟨rfl, X2, rfl⟩; simp only [Css.agg, badC, sv])
              ((try simp only [Exit.inBlock, Exit.then]); refine bodyPost_ret (v := .tuple #[.agg #[.int .i64 7, .string ⟨#[]⟩, .int .i64 0, .string ⟨#[]⟩], .int .i64 ((te : Int) + un)]) (by (first | rw [results_cell_tmp rfl] | rw [results_cell1 rfl]); go_simp) rfl ?_)
              exact Ret.of (by rw [HV.out, HC.out]; simp [badC, Css.agg, sv]) (by repeat (first | with_reducible exact Below.refl _ _ | (with_reducible refine Below.alloc ?_ (by first | omega | (simp [go_sem] <;> omega)) _) | (with_reducible refine Below.drew ?_) | (with_reducible refine Below.drewN ?_ _) | (with_reducible refine Below.grow ?_ (by first | omega | (simp [go_sem] <;> omega)) _) | (with_reducible refine Below.setCell ?_ (by first | omega | (simp [go_sem] <;> omega)) _)))
            by_cases hb2 : 3 < p
            · rw [if_pos (.inr (.inl hb2))] at HC
              go_wp2_with (go_at_call 93; (with_reducible refine (Ret.flat (HBd.out _)).mono ?_); rintro e w' ⟨rfl, X2, rfl⟩; simp only [Css.agg, badC, sv])
              ((try simp only [Exit.inBlock, Exit.then]); refine bodyPost_ret (v := .tuple #[.agg #[.int .i64 7, .string ⟨#[]⟩, .int .i64 0, .string ⟨#[]⟩], .int .i64 ((te : Int) + un)]) (by (first | rw [results_cell_tmp rfl] | rw [results_cell1 rfl]); go_simp) rfl ?_)
              exact Ret.of (by rw [HV.out, HC.out]; simp [badC, Css.agg, sv]) (by repeat (first | with_reducible exact Below.refl _ _ | (with_reducible refine Below.alloc ?_ (by first | omega | (simp [go_sem] <;> omega)) _) | (with_reducible refine Below.drew ?_) | (with_reducible refine Below.drewN ?_ _) | (with_reducible refine Below.grow ?_ (by first | omega | (simp [go_sem] <;> omega)) _) | (with_reducible refine Below.setCell ?_ (by first | omega | (simp [go_sem] <;> omega)) _)))
            by_cases hb3 : 64 < un
            · rw [if_pos (.inr (.inr hb3))] at HC
              go_wp2_with (go_at_call 93; (with_reducible refine (Ret.flat (HBd.out _)).mono ?_); rintro e w' ⟨rfl, X2, rfl⟩; simp only [Css.agg, badC, sv])
              ((try simp only [Exit.inBlock, Exit.then]); refine bodyPost_ret (v := .tuple #[.agg #[.int .i64 7, .string ⟨#[]⟩, .int .i64 0, .string ⟨#[]⟩], .int .i64 ((te : Int) + un)]) (by (first | rw [results_cell_tmp rfl] | rw [results_cell1 rfl]); go_simp) rfl ?_)
              exact Ret.of (by rw [HV.out, HC.out]; simp [badC, Css.agg, sv]) (by repeat (first | with_reducible exact Below.refl _ _ | (with_reducible refine Below.alloc ?_ (by first | omega | (simp [go_sem] <;> omega)) _) | (with_reducible refine Below.drew ?_) | (with_reducible refine Below.drewN ?_ _) | (with_reducible refine Below.grow ?_ (by first | omega | (simp [go_sem] <;> omega)) _) | (with_reducible refine Below.setCell ?_ (by first | omega | (simp [go_sem] <;> omega)) _)))
            rw [if_neg (by omega)] at HC
            have HZr := Lib.hid (fun W => show Calls Tryz.prog 114 #[.string ⟨#[48]⟩, .int .i64 (3 - (p : Int))] W (Ret (.string ⟨(List.replicate (3 - p) (48 : UInt8)).toArray⟩) W) from by
              have := zeros_any (3 - p) W (by omega)
              rwa [show ((3 - p : Nat) : Int) = 3 - (p : Int) by omega] at this)
            obtain ⟨ZR, hZR⟩ : ∃ Z : ByteArray, ⟨(List.replicate (3 - p) (48 : UInt8)).toArray⟩ = Z := ⟨_, rfl⟩
            have hZs : ZR.size ≤ 3 := by rw [← hZR]; show (List.replicate (3 - p) (48 : UInt8)).length ≤ 3; rw [List.length_replicate]; omega
            have hFs : F.size ≤ 9 := by rw [← len_data, HFd.out, List.length_append, HW1.out, HW2.out]; omega
            obtain ⟨m, hmv⟩ : ∃ m, valL ((s.drop t).take wn ++ (v.drop 1).take p ++ List.replicate (3 - p) 48) = m := ⟨_, rfl⟩
            have hdig : ((s.drop t).take wn ++ (v.drop 1).take p ++ List.replicate (3 - p) (48 : UInt8)).all digB = true := by
              rw [List.all_append, List.all_append, hal1, hal2]
              simp only [Bool.and_self, Bool.true_and, List.all_eq_true]
              intro c hc
              rw [List.eq_of_mem_replicate hc]; decide
            have hdl : ((s.drop t).take wn ++ (v.drop 1).take p ++ List.replicate (3 - p) (48 : UInt8)).length ≤ 9 := by
              rw [List.length_append, List.length_append, HW1.out, HW2.out, List.length_replicate]; omega
            have hm9 := valL_small _ hdig hdl
            have HNu := Lib.hid (fun W => show Calls Tryz.prog 113 #[.string (F ++ ZR), .int .i64 10, .int .i64 1099511627776] W (Ret (.tuple #[.int .i64 (m : Nat), .bool true]) W) from by
              have h0 : (s.drop t).take wn ++ (v.drop 1).take p ++ List.replicate (3 - p) (48 : UInt8) ≠ [] := by
                intro h; rw [List.append_eq_nil_iff, List.append_eq_nil_iff] at h; exact HNo.out h.1
              have := number_any _ W h0 hdig hdl
              rw [hmv] at this
              rw [show F ++ ZR = ⟨((s.drop t).take wn ++ (v.drop 1).take p ++ List.replicate (3 - p) (48 : UInt8)).toArray⟩ from ba_ext (by rw [ByteArray.data_append, Array.toList_append, HFd.out, ← hZR])]
              exact this)
            rw [hmv] at hm9 HC
            rw [hZR] at HZr
            have HLo := Lib.hid (fun W => show Calls Tryz.prog 115 #[.string (S.extract te (te + un))] W (Ret (.string ⟨(lowL (r.take un)).toArray⟩) W) from by
              have := lower_any (S.extract te (te + un)) W (by rw [← len_data, str_cut]; show ((S.data.toList.take _).drop _).length ≤ _; rw [List.length_drop, List.length_take]; omega)
              rw [show (S.extract te (te + un)).data.toList = r.take un from by rw [str_cut, HD.out, ← HRr.out]; show (s.take _).drop _ = _; rw [List.drop_take]; congr 1; omega] at this
              exact this)
            have hpos : 0 < S.size := by rw [HL.out]; exact List.length_pos_iff.2 hne
            have HNg : Hid (hd (fun c => decide (c.toNat = 45)) s = decide (S[0].toNat = 45)) := by
              show _ = _
              rw [at_bs S s HD.out 0 hpos]
              cases s with
              | nil => exact absurd rfl hne
              | cons c s' => rfl
            rw [HNg.out] at HC
            clear hmv hdig hdl hZR hal1 hal2
            by_cases hn : S[0].toNat = 45
            · have b45 : ((S[0].toNat : Int) == 45) = true := by simp [hn]
              rw [decide_eq_true hn, if_pos rfl] at HC
              clear hn
              go_wp2_with (first | (go_at_call 114; (with_reducible refine (Ret.flat (HZr.out _)).mono ?_); rintro e w' ⟨rfl, X2, rfl⟩) | (go_at_call 113; (with_reducible refine (Ret.flat (HNu.out _)).mono ?_); rintro e w' ⟨rfl, X3, rfl⟩) | (go_at_call 115; (with_reducible refine (Ret.flat (HLo.out _)).mono ?_); rintro e w' ⟨rfl, X4, rfl⟩))
              ((try simp only [Exit.inBlock, Exit.then]); refine bodyPost_ret (v := .tuple #[.agg #[.int .i64 3, .string ⟨#[]⟩, .int .i64 (-(m : Int)), .string ⟨(lowL (r.take un)).toArray⟩], .int .i64 ((te : Int) + un)]) (by (first | rw [results_cell_tmp rfl] | rw [results_cell1 rfl]); go_simp) rfl ?_)
              exact Ret.of (by rw [HV.out, HC.out]; simp [Css.agg, sv]) (by repeat (first | with_reducible exact Below.refl _ _ | (with_reducible refine Below.alloc ?_ (by first | omega | (simp [go_sem] <;> omega)) _) | (with_reducible refine Below.drew ?_) | (with_reducible refine Below.drewN ?_ _) | (with_reducible refine Below.grow ?_ (by first | omega | (simp [go_sem] <;> omega)) _) | (with_reducible refine Below.setCell ?_ (by first | omega | (simp [go_sem] <;> omega)) _)))
            · have b45 : ((S[0].toNat : Int) == 45) = false := by simp; omega
              rw [decide_eq_false hn, if_neg (by simp)] at HC
              clear hn
              go_wp2_with (first | (go_at_call 114; (with_reducible refine (Ret.flat (HZr.out _)).mono ?_); rintro e w' ⟨rfl, X2, rfl⟩) | (go_at_call 113; (with_reducible refine (Ret.flat (HNu.out _)).mono ?_); rintro e w' ⟨rfl, X3, rfl⟩) | (go_at_call 115; (with_reducible refine (Ret.flat (HLo.out _)).mono ?_); rintro e w' ⟨rfl, X4, rfl⟩))
              ((try simp only [Exit.inBlock, Exit.then]); refine bodyPost_ret (v := .tuple #[.agg #[.int .i64 3, .string ⟨#[]⟩, .int .i64 (m : Int), .string ⟨(lowL (r.take un)).toArray⟩], .int .i64 ((te : Int) + un)]) (by (first | rw [results_cell_tmp rfl] | rw [results_cell1 rfl]); go_simp) rfl ?_)
              exact Ret.of (by rw [HV.out, HC.out]; simp [Css.agg, sv]) (by repeat (first | with_reducible exact Below.refl _ _ | (with_reducible refine Below.alloc ?_ (by first | omega | (simp [go_sem] <;> omega)) _) | (with_reducible refine Below.drew ?_) | (with_reducible refine Below.drewN ?_ _) | (with_reducible refine Below.grow ?_ (by first | omega | (simp [go_sem] <;> omega)) _) | (with_reducible refine Below.setCell ?_ (by first | omega | (simp [go_sem] <;> omega)) _)))
end Go.Proofs.YtgcccpdadponiaaGreatDoor
