/- The walk of CssdeclEven. -/
import Derived.Test.YtdpgpjileffekaaGreatDoorCssR
import Derived.Test.YtdpgpjileffekaaGreatDoorCssS
import Derived.Test.YtdpgpjileffekaaGreatDoorDecJ
namespace Go.Proofs.YtdpgpjileffekaaGreatDoor
open Go.RowKit Go.Shelf
attribute [local go_sem] Oper.semAt_some
theorem RetD.own' {w : World} {ds : List Dcl} {e : Ending} {w' : World} (h : RetD w ds e w') : ∃ A c X, e = .returned (.slice A ds.length c) ∧ w' = w.grow X ∧ RdD (w.grow X) (.slice A ds.length c) ds := by
  obtain ⟨A, c, X, h1, h2, _, _, h3⟩ := h
  exact ⟨A, c, X, h1, h2, h3⟩
/-- The declarations of a short text. -/
theorem parsed_short {s : Bs} (h : s.length ≤ 1000) : (declsL (cssL s)).length ≤ 1001 ∧ ∀ d ∈ declsL (cssL s), ShortD d ∧ rightD d = true ∧ lowL d.name = d.name ∧ ∀ x ∈ d.value, Proper x := by
  obtain ⟨h1, h2, h3⟩ := scan_short h
  refine ⟨?_, fun d hd => ?_⟩
  · have := List.length_filterMap_le declOf (partsL 0 (cssL s))
    have h4 := (parts_few (cssL s) 0).1
    unfold declsL; omega
  · obtain ⟨p1, p2, p3⟩ := parsed_right hd
    have hr := p1
    rw [right_D, Bool.and_eq_true, Bool.and_eq_true] at hr
    have hvl : d.value.length ≤ 1000 := by
      unfold declsL at hd
      obtain ⟨p, hp, hpd⟩ := List.mem_filterMap.1 hd
      have h5 := (parts_few (cssL s) 0).2 p hp
      by_cases h6 : 2 ≤ p.length
      · rw [declOf_at h6] at hpd
        split at hpd
        · cases hpd
          have := urgV_le (p.drop 2)
          rw [List.length_drop] at this
          simp only; omega
        · cases hpd
      · rw [declOf_few (by omega)] at hpd; cases hpd
    refine ⟨⟨fun x hx => h1 x (p2 x hx), by omega, ?_⟩, p1, ((right_form hr.2).1 rfl).2.2, fun x hx => proper_right (List.all_eq_true.1 hr.1.1 x hx)⟩
    have := (h3 _ p3).1
    simp only at this; omega
set_option maxRecDepth 100000 in
set_option maxHeartbeats 8000000 in
theorem even_walk (s : ByteArray) (w : World) (hT : Tb w) (hX : Mx w) (_hm : s.size ≤ maxLen) : Calls Tryz.prog 7 #[.string s] w (Ret (.bool true) w) := by
  have hmx : Tryz.prog.follows .mixedOrders = true := by kernel_rfl
  have HTB := Lib.hid hT
  have HMX := Lib.hid hX
  clear hT hX _hm
  by_cases h9 : 1000 < s.size
  · have b9 : decide ((1000 : Int) < s.size) = true := by simp; omega
    clear h9
    go_enter Tryz.func7, Tryz.ntmps7
    go_wp2_with (go_at_call 8; refine (awake14_any _ HTB.out HMX.out).mono ?_; rintro e w' ⟨rfl, A0, rfl⟩)
    go_ret
    exact Ret.of rfl (by repeat (first | with_reducible exact Below.refl _ _ | (with_reducible refine Below.alloc ?_ (by first | omega | (simp [go_sem] <;> omega)) _) | (with_reducible refine Below.drew ?_) | (with_reducible refine Below.drewN ?_ _) | (with_reducible refine Below.grow ?_ (by first | omega | (simp [go_sem] <;> omega)) _) | (with_reducible refine Below.setCell ?_ (by first | omega | (simp [go_sem] <;> omega)) _)))
  have b9 : decide ((1000 : Int) < s.size) = false := by simp; omega
  obtain ⟨⟨s0⟩⟩ := s
  have hs0 : s0.length ≤ 1000 := by
    have : (⟨⟨s0⟩⟩ : ByteArray).size = s0.length := rfl
    omega
  obtain ⟨hM1, hM2⟩ := parsed_short hs0
  obtain ⟨M, hM⟩ : ∃ M, declsL (cssL s0) = M := ⟨_, rfl⟩
  have HS := Lib.hid (fun X => show Calls Tryz.prog 10 #[.string ⟨⟨s0⟩⟩] (w.grow X) (RetD (w.grow X) M) from by
    have := parse_any s0 (w.grow X) (HMX.out.grow X) (by omega)
    rw [hM] at this; exact this)
  rw [hM] at hM1 hM2
  have HM2 := Lib.hid hM2
  clear hM hs0 h9 hM2
  generalize (⟨⟨s0⟩⟩ : ByteArray) = s at *
  go_enter Tryz.func7, Tryz.ntmps7
  go_wp2_with (first
    | (go_at_call 8; refine (awake14_any _ HTB.out HMX.out).mono ?_; rintro e w' ⟨rfl, A0, rfl⟩)
    | (go_at_call 10; (with_reducible refine (RetD.flat (HS.out _)).mono ?_); rintro e w' ⟨A2, c2, X2, rfl, rfl, hc2, _, hr2⟩; have HR := Lib.hid hr2; clear hr2))
  go_loopw [5] (fun i wr => ∃ (k : Nat) (X : Gr), k ≤ M.length ∧ i = .int .i64 k ∧ wr = w.grow X ∧ RdD (w.grow X) (.slice A2 M.length c2) M) (fun i _ => M.length - (intOf i).toNat)
  case atStart => exact ⟨0, _, by omega, rfl, rfl, HR.out⟩
  case round =>
    obtain ⟨k, X, hk, rfl, rfl, hrd⟩ := hrel
    by_cases hlt : k < M.length
    · have HRD := Lib.hid hrd
      obtain ⟨b, off, vd, rfl, hb, ⟨Av, cv, rfl, _, hcv, hvr⟩, c0, c1, c2⟩ := hrd.at k hlt
      obtain ⟨hsd, hrt, hlo, hpr⟩ := HM2.out _ (List.getElem_mem hlt)
      generalize M[k] = d at *
      have HV := Lib.hid hvr
      have HSD := Lib.hid hsd
      have HPR := Lib.hid hpr
      have hmay : mayC d.value = true := by
        rw [right_D, Bool.and_eq_true, Bool.and_eq_true] at hrt; exact hrt.1.2
      obtain ⟨m1, m2, m3⟩ := may_facts hmay
      have HEv := Lib.hid m2
      have HOk := Lib.hid m3
      have hpos : 0 < d.value.length := List.length_pos_iff.2 m1
      have hvl : d.value.length ≤ 10000 := hsd.2.1
      have HRt := Lib.hid (fun W (hB : Below (w.grow X).heap.size (w.grow X) W) => show Calls Tryz.prog 13 #[.agg #[sv d.name, .slice Av d.value.length cv, .bool d.imp]] W (Ret (.bool true) W) from by
        obtain ⟨X2, rfl⟩ := grow_of_below hB
        have := dright_any d Av cv ((w.grow X).grow X2) ((HTB.out.grow X).grow X2) ((HMX.out.grow X).grow X2) (hvr.grow X2) hsd
        rwa [hrt] at this)
      have HLo := Lib.hid (fun W => show Calls Tryz.prog 17 #[.string ⟨d.name.toArray⟩] W (Ret (.string ⟨d.name.toArray⟩) W) from by
        have := rlower_any ⟨d.name.toArray⟩ W (by have h := hsd.2.2; show d.name.length ≤ _; omega)
        rw [show (⟨d.name.toArray⟩ : ByteArray).data.toList = d.name from rfl, hlo] at this; exact this)
      simp only [sv] at c0 HRt
      generalize (⟨d.name.toArray⟩ : ByteArray) = N at *
      generalize d.imp = im at *
      generalize d.value = vl at *
      clear hrd hsd hrt hlo hpr hvr hmay m1 m2 m3
      go_wp2_with fail
      go_loopw [6, 7] (fun dp j wr => ∃ (m i : Nat) (Y : Gr), m ≤ i ∧ i ≤ vl.length ∧ dp = .int .i64 m ∧ j = .int .i64 i ∧ wr = (w.grow X).grow Y ∧ Hid (evenF m (vl.drop i) = true)) (fun _ j _ => vl.length - (intOf j).toNat)
      case atStart => exact ⟨0, 0, _, by omega, by omega, rfl, rfl, (grow_refl _).symm, HEv.out⟩
      case round =>
        obtain ⟨m, i, Y, hmi, hi, rfl, rfl, rfl, HE⟩ := hrel
        have c0' := ((below_grow (w.grow X) Y).cell hb).trans c0
        have c1' := ((below_grow (w.grow X) Y).cell hb).trans c1
        have c2' := ((below_grow (w.grow X) Y).cell hb).trans c2
        have hbY : b < ((w.grow X).grow Y).heap.size := by rw [size_grow]; omega
        by_cases hil : i < vl.length
        · obtain ⟨b', off', rfl, hb', d0, d1, d2, d3⟩ := (HV.out.grow Y).css i hil
          have hev := HE.out
          rw [List.drop_eq_getElem_cons hil, evenF] at hev
          obtain ⟨o1, o2, o3⟩ := ok_semi (HOk.out _ (List.getElem_mem hil))
          have hp6 := (HPR.out _ (List.getElem_mem hil)).2
          generalize vl[i] = x at *
          by_cases hk6 : x.kind = 6
          · obtain ⟨ch, rfl⟩ := hp6 hk6
            simp only [mark1, sv] at d0 d1 d2 d3
            by_cases e40 : ch = 40
            · subst e40
              have HE2 : Hid (evenF (m + 1) (vl.drop (i + 1)) = true) := by
                show _ = _
                simpa [mk1, mark1, dn, opC] using hev
              clear hev o1 o2 o3 hp6 hk6
              go_wp2_with fail
              go_roundw
              case rel => exact ⟨m + 1, i + 1, _, by omega, by omega, by go_num, by go_num, by rw [alloc_grow, grow_grow], HE2⟩
              case measure => simp [intOf]; omega
            by_cases e41 : ch = 41
            · subst e41
              have hm1 : 1 ≤ m := by
                rcases Nat.eq_zero_or_pos m with h | h
                · subst h; simp [mk1, mark1] at hev
                · exact h
              have HE2 : Hid (evenF (m - 1) (vl.drop (i + 1)) = true) := by
                show _ = _
                have : m ≠ 0 := by omega
                simpa [mk1, mark1, dn, opC, this] using hev
              have b7 : decide ((m : Int) - 1 < 0) = false := by rw [decide_eq_false_iff_not]; omega
              clear hev o1 o2 o3 hp6 hk6
              go_wp2_with fail
              go_roundw
              case rel => exact ⟨m - 1, i + 1, _, by omega, by omega, by go_num, by go_num, by rw [alloc_grow, grow_grow], HE2⟩
              case measure => simp [intOf]; omega
            · have e59 : ch ≠ 59 := by simpa [mk1, mark1] using o1
              have e33 : ch ≠ 33 := by simpa [mk1, mark1] using o2
              have HE2 : Hid (evenF m (vl.drop (i + 1)) = true) := by
                show _ = _
                simpa [mk1, mark1, dn, opC, e40, e41] using hev
              have b7 : decide ((m : Int) < 0) = false := by rw [decide_eq_false_iff_not]; omega
              have f40 : (ch == 40) = false := by simpa using e40
              have f41 : (ch == 41) = false := by simpa using e41
              have f59 : (ch == 59) = false := by simpa using e59
              have f33 : (ch == 33) = false := by simpa using e33
              clear hev o1 o2 o3 hp6 hk6
              go_wp2_with fail
              go_roundw
              case rel => exact ⟨m, i + 1, _, by omega, by omega, by go_num, by go_num, by rw [alloc_grow, grow_grow], HE2⟩
              case measure => simp [intOf]; omega
          · have q1 : mk1 40 x = false := by simp [mk1, hk6]
            have q2 : mk1 41 x = false := by simp [mk1, hk6]
            have b6 : (x.kind == 6) = false := by simpa using hk6
            have b0 : (x.kind == 7) = false := by simpa using o3
            by_cases hk2 : x.kind = 2
            · have HE2 : Hid (evenF (m + 1) (vl.drop (i + 1)) = true) := by
                show _ = _
                simpa [q2, dn, opC, hk2] using hev
              have b7 : decide ((m : Int) + 1 < 0) = false := by rw [decide_eq_false_iff_not]; omega
              have b2 : (x.kind == 2) = true := by simpa using hk2
              simp only [sv] at d1 d3
              clear hev o1 o2 o3 hp6 hk6 hk2 q1 q2
              generalize x.kind = kk at *
              generalize (⟨x.text.toArray⟩ : ByteArray) = U at *
              generalize (⟨x.unit.toArray⟩ : ByteArray) = V at *
              go_wp2_with fail
              go_roundw
              case rel => exact ⟨m + 1, i + 1, _, by omega, by omega, by go_num, by go_num, by rw [alloc_grow, grow_grow], HE2⟩
              case measure => simp [intOf]; omega
            · have HE2 : Hid (evenF m (vl.drop (i + 1)) = true) := by
                show _ = _
                simpa [q1, q2, dn, opC, hk2] using hev
              have b7 : decide ((m : Int) < 0) = false := by rw [decide_eq_false_iff_not]; omega
              have b2 : (x.kind == 2) = false := by simpa using hk2
              simp only [sv] at d1 d3
              clear hev o1 o2 o3 hp6 hk6 hk2 q1 q2
              generalize x.kind = kk at *
              generalize (⟨x.text.toArray⟩ : ByteArray) = U at *
              generalize (⟨x.unit.toArray⟩ : ByteArray) = V at *
              go_wp2_with fail
              go_roundw
              case rel => exact ⟨m, i + 1, _, by omega, by omega, by go_num, by go_num, by rw [alloc_grow, grow_grow], HE2⟩
              case measure => simp [intOf]; omega
        · have hi2 : i = vl.length := by omega
          have hev := HE.out
          rw [hi2, List.drop_length] at hev
          have hm0 : m = 0 := by simpa [evenF] using hev
          have hmz : (m : Int) = 0 := by omega
          have bl : ((vl.length : Int) == 0) = false := by rw [beq_eq_false_iff_ne]; omega
          rw [hmz]
          subst hi2
          clear hev HE hm0 hmz hmi
          obtain ⟨W1, hW1⟩ : ∃ W1, (w.grow X).grow Y = W1 := ⟨_, rfl⟩
          have HW1 := Lib.hid hW1
          have HB1 : Hid (Below (w.grow X).heap.size (w.grow X) W1) := by show Below _ _ _; rw [← hW1]; exact below_grow _ _
          rw [hW1] at c0' c1' c2' hbY ⊢
          clear hW1
          go_wp2_with fail
          refine wp_region_grow (by kernel_rfl) (by kernel_rfl) ?_
          repeat (go_big_quiet_step (first | (go_at_call 17; with_reducible exact Calls.grow_of (HLo.out _)) | (go_at_call 13; with_reducible exact Calls.grow_of (HRt.out _ (below_next HB1.out (by (repeat (first | with_reducible exact Below.refl _ _ | (with_reducible refine Below.alloc ?_ (by first | omega | (simp [go_sem] <;> omega)) _) | (with_reducible refine Below.drew ?_) | (with_reducible refine Below.drewN ?_ _) | (with_reducible refine Below.grow ?_ (by first | omega | (simp [go_sem] <;> omega)) _) | (with_reducible refine Below.setCell ?_ (by first | omega | (simp [go_sem] <;> omega)) _))); done))))))
          refine wpQuiet_nil ?_
          intro _ hw'; obtain ⟨nq, hw''⟩ := hw'; subst hw''
          go_wp2_with fail
          go_roundw
          obtain ⟨Z, hZ⟩ : ∃ Z, W1.grow nq = (w.grow X).grow Z := ⟨_, by rw [← HW1.out, grow_grow]⟩
          case rel => exact ⟨k + 1, _, by omega, by go_num, by rw [hZ, grow_grow], by rw [← grow_grow]; exact HRD.out.grow Z⟩
          case measure => simp [intOf]; omega
    · go_wp2_with fail
      go_ret
      exact Ret.of rfl (by repeat (first | with_reducible exact Below.refl _ _ | (with_reducible refine Below.alloc ?_ (by first | omega | (simp [go_sem] <;> omega)) _) | (with_reducible refine Below.drew ?_) | (with_reducible refine Below.drewN ?_ _) | (with_reducible refine Below.grow ?_ (by first | omega | (simp [go_sem] <;> omega)) _) | (with_reducible refine Below.setCell ?_ (by first | omega | (simp [go_sem] <;> omega)) _)))
end Go.Proofs.YtdpgpjileffekaaGreatDoor
