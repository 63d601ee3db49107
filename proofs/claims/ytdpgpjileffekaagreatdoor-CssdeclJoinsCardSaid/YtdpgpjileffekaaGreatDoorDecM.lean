/- The walks of declarations by the reference: marks, brackets, what a value may be, whether a list is short. -/
import Derived.Test.YtdpgpjileffekaaGreatDoorDecL
namespace Go.Proofs.YtdpgpjileffekaaGreatDoor
open Go.RowKit Go.Shelf
attribute [local go_sem] Oper.semAt_some
def isM (M : Bs) (x : Css) : Bool := decide (x.kind = 6) && decide (x.text = M)
theorem isM_one (k : UInt8) (x : Css) : isM [k] x = mk1 k x := rfl
set_option maxHeartbeats 800000 in
theorem ris_any (x : Css) (M : Bs) (w : World) : Calls Tryz.prog 26 #[Css.agg x, .string ⟨M.toArray⟩] w (Ret (.bool (isM M x)) w) := by
  have HP : Hid (isM M x = ((x.kind == 6) && ((⟨x.text.toArray⟩ : ByteArray).toList == (⟨M.toArray⟩ : ByteArray).toList))) := by
    show _ = _
    rw [ba_bq]; unfold isM; rw [Bool.eq_iff_iff]; simp
  obtain ⟨D, hD⟩ : ∃ D, isM M x = D := ⟨_, rfl⟩
  rw [hD] at HP ⊢
  clear hD
  simp only [Css.agg, sv]
  generalize x.kind = k at *
  generalize (⟨x.text.toArray⟩ : ByteArray) = a1 at *
  generalize (⟨x.unit.toArray⟩ : ByteArray) = a2 at *
  generalize (⟨M.toArray⟩ : ByteArray) = S at *
  cases e1 : (k == 6)
  · have HN := Lib.hid (show D = false by rw [HP.out, e1]; rfl)
    go_enter Tryz.func26, Tryz.ntmps26
    go_wp2_with fail
    go_ret
    exact Ret.of (by rw [HN.out]; rfl) (by repeat (first | with_reducible exact Below.refl _ _ | (with_reducible refine Below.alloc ?_ (by first | omega | (simp [go_sem] <;> omega)) _) | (with_reducible refine Below.drew ?_) | (with_reducible refine Below.drewN ?_ _) | (with_reducible refine Below.grow ?_ (by first | omega | (simp [go_sem] <;> omega)) _) | (with_reducible refine Below.setCell ?_ (by first | omega | (simp [go_sem] <;> omega)) _)))
  · have HN := Lib.hid (show D = (a1.toList == S.toList) by rw [HP.out, e1]; rfl)
    go_enter Tryz.func26, Tryz.ntmps26
    go_wp2_with fail
    go_ret
    exact Ret.of (by rw [HN.out]; rfl) (by repeat (first | with_reducible exact Below.refl _ _ | (with_reducible refine Below.alloc ?_ (by first | omega | (simp [go_sem] <;> omega)) _) | (with_reducible refine Below.drew ?_) | (with_reducible refine Below.drewN ?_ _) | (with_reducible refine Below.grow ?_ (by first | omega | (simp [go_sem] <;> omega)) _) | (with_reducible refine Below.setCell ?_ (by first | omega | (simp [go_sem] <;> omega)) _)))
set_option maxRecDepth 100000 in
set_option maxHeartbeats 4000000 in
theorem reven_any (A : Option Addr) (n c : Nat) (l : List Css) (w : World) (h : Rd w (.slice A n c) l.length 4 (cssCells l)) (hl : l.length ≤ 1000000000) :
    Calls Tryz.prog 49 #[.slice A n c] w (Ret (.bool (evenF 0 l)) w) := by
  have hmx : Tryz.prog.follows .mixedOrders = true := by kernel_rfl
  have HR := Lib.hid h
  obtain ⟨_, hm, A', c', heq, _⟩ := h
  cases heq
  obtain ⟨D, hD⟩ : ∃ D, evenF 0 l = D := ⟨_, rfl⟩
  have HD := Lib.hid hD
  rw [hD]
  clear hD
  go_enter Tryz.func49, Tryz.ntmps49
  go_wp2_with fail
  go_loopw [3, 4] (fun d i wr => ∃ (k e : Nat) (X : Gr), k ≤ l.length ∧ e ≤ k ∧ i = .int .i64 k ∧ d = .int .i64 e ∧ wr = w.grow X ∧ Hid (D = evenF e (l.drop k))) (fun _ i _ => l.length - (intOf i).toNat)
  case atStart => exact ⟨0, 0, _, by omega, by omega, rfl, rfl, (grow_refl w).symm, by show _ = _; rw [← HD.out]; rfl⟩
  case round =>
    obtain ⟨k, e, X, hk, hek, rfl, rfl, rfl, HK⟩ := hrel
    by_cases hlt : k < l.length
    · obtain ⟨b, off, rfl, hb, c0, c1, c2, c3⟩ := HR.out.css k hlt
      have HS := Lib.hid (HK.out.trans (by rw [List.drop_eq_getElem_cons hlt]))
      generalize l[k] = x at *
      have HI1 := Lib.hid (fun W => isM_one 40 x ▸ ris_any x [40] W)
      have HI2 := Lib.hid (fun W => isM_one 41 x ▸ ris_any x [41] W)
      simp only [Css.agg, sv] at HI1 HI2 c1 c3
      have h6 : x.kind = 2 → mk1 41 x = false := fun h => by simp [mk1, h]
      have hoc := op_cl x
      have HOp : Hid (opC x = (decide (x.kind = 2) || mk1 40 x)) := rfl
      have HE : Hid (evenF e (x :: l.drop (k + 1)) = if mk1 41 x && decide (e = 0) then false else evenF (if opC x then e + 1 else if mk1 41 x then e - 1 else e) (l.drop (k + 1))) := rfl
      generalize mk1 40 x = m1 at *
      generalize mk1 41 x = m2 at *
      generalize opC x = op at *
      generalize (⟨x.text.toArray⟩ : ByteArray) = a1 at *
      generalize (⟨x.unit.toArray⟩ : ByteArray) = a2 at *
      by_cases h2 : x.kind = 2
      · have hm2 := h6 h2
        subst hm2
        have ho : op = true := by rw [HOp.out, decide_eq_true h2]; rfl
        subst ho
        have b2 : (x.kind == 2) = true := by simp [h2]
        have HN : Hid (D = evenF (e + 1) (l.drop (k + 1))) := by show _ = _; rw [HS.out, HE.out]; rfl
        have HI2' := Lib.hid HI2.out
        have b7 : decide ((e : Int) + 1 < 0) = false := by rw [decide_eq_false_iff_not]; omega
        clear h2 h6 hoc HI1
        generalize x.kind = kk at *
        go_wp2_with (go_at_call 26; (with_reducible refine (HI2'.out _).mono ?_); rintro e w' ⟨rfl, X1, rfl⟩)
        go_roundw
        case rel => exact ⟨k + 1, e + 1, _, by omega, by omega, by go_num, by go_num, by first | rw [grow_grow] | rw [alloc_grow, grow_grow, grow_grow], HN⟩
        case measure => simp [intOf]; omega
      have b2 : (x.kind == 2) = false := by simpa using h2
      have ho : op = m1 := by rw [HOp.out, decide_eq_false h2]; rfl
      subst ho
      clear h2 h6 HOp
      generalize x.kind = kk at *
      have HI1' := Lib.hid HI1.out
      clear HI1
      cases op
      · cases m2
        · have HN : Hid (D = evenF e (l.drop (k + 1))) := by show _ = _; rw [HS.out, HE.out]; rfl
          have HI1' := Lib.hid HI1'.out
          have HI2' := Lib.hid HI2.out
          have b7 : decide ((e : Int) < 0) = false := by rw [decide_eq_false_iff_not]; omega
          go_wp2_with (go_at_call 26; first | ((with_reducible refine (HI1'.out _).mono ?_); rintro e w' ⟨rfl, X1, rfl⟩) | ((with_reducible refine (HI2'.out _).mono ?_); rintro e w' ⟨rfl, X2, rfl⟩))
          go_roundw
          case rel => exact ⟨k + 1, e, _, by omega, by omega, by go_num, by go_num, by first | rw [grow_grow, grow_grow] | rw [alloc_grow, grow_grow, grow_grow, grow_grow], HN⟩
          case measure => simp [intOf]; omega
        · have HI1' := Lib.hid HI1'.out
          have HI2' := Lib.hid HI2.out
          by_cases he0 : e = 0
          · subst he0
            have HN : Hid (D = false) := by show _ = _; rw [HS.out, HE.out]; rfl
            go_wp2_with (go_at_call 26; first | ((with_reducible refine (HI1'.out _).mono ?_); rintro e w' ⟨rfl, X1, rfl⟩) | ((with_reducible refine (HI2'.out _).mono ?_); rintro e w' ⟨rfl, X2, rfl⟩))
            go_ret
            exact Ret.of (by rw [HN.out]; rfl) (by repeat (first | with_reducible exact Below.refl _ _ | (with_reducible refine Below.alloc ?_ (by first | omega | (simp [go_sem] <;> omega)) _) | (with_reducible refine Below.drew ?_) | (with_reducible refine Below.drewN ?_ _) | (with_reducible refine Below.grow ?_ (by first | omega | (simp [go_sem] <;> omega)) _) | (with_reducible refine Below.setCell ?_ (by first | omega | (simp [go_sem] <;> omega)) _)))
          · have HN : Hid (D = evenF (e - 1) (l.drop (k + 1))) := by show _ = _; rw [HS.out, HE.out, decide_eq_false he0]; rfl
            have b7 : decide ((e : Int) - 1 < 0) = false := by rw [decide_eq_false_iff_not]; omega
            go_wp2_with (go_at_call 26; first | ((with_reducible refine (HI1'.out _).mono ?_); rintro e w' ⟨rfl, X1, rfl⟩) | ((with_reducible refine (HI2'.out _).mono ?_); rintro e w' ⟨rfl, X2, rfl⟩))
            go_roundw
            case rel => exact ⟨k + 1, e - 1, _, by omega, by omega, by go_num, by go_num, by first | rw [grow_grow, grow_grow] | rw [alloc_grow, grow_grow, grow_grow, grow_grow], HN⟩
            case measure => simp [intOf]; omega
      · have hm2 : m2 = false := hoc rfl
        subst hm2
        have HN : Hid (D = evenF (e + 1) (l.drop (k + 1))) := by show _ = _; rw [HS.out, HE.out]; rfl
        have HI1' := Lib.hid HI1'.out
        have HI2' := Lib.hid HI2.out
        have b7 : decide ((e : Int) + 1 < 0) = false := by rw [decide_eq_false_iff_not]; omega
        go_wp2_with (go_at_call 26; first | ((with_reducible refine (HI1'.out _).mono ?_); rintro e w' ⟨rfl, X1, rfl⟩) | ((with_reducible refine (HI2'.out _).mono ?_); rintro e w' ⟨rfl, X2, rfl⟩))
        go_roundw
        case rel => exact ⟨k + 1, e + 1, _, by omega, by omega, by go_num, by go_num, by first | rw [grow_grow, grow_grow] | rw [alloc_grow, grow_grow, grow_grow, grow_grow], HN⟩
        case measure => simp [intOf]; omega
    · have HN : Hid (D = decide (e = 0)) := by show _ = _; rw [HK.out, List.drop_eq_nil_of_le (by omega)]; rfl
      go_wp2_with fail
      go_ret
      exact Ret.of (by rw [HN.out]; first | rfl | (show Value.bool ((e : Int) == 0) = _; congr 1; rw [Bool.eq_iff_iff]; simp)) (by repeat (first | with_reducible exact Below.refl _ _ | (with_reducible refine Below.alloc ?_ (by first | omega | (simp [go_sem] <;> omega)) _) | (with_reducible refine Below.drew ?_) | (with_reducible refine Below.drewN ?_ _) | (with_reducible refine Below.grow ?_ (by first | omega | (simp [go_sem] <;> omega)) _) | (with_reducible refine Below.setCell ?_ (by first | omega | (simp [go_sem] <;> omega)) _)))
theorem may_all (l : List Css) (k : Nat) (h : k < l.length) : (l.take (k + 1)).all okC = ((l.take k).all okC && okC l[k]) := by
  rw [List.take_succ_eq_append_getElem h, List.all_append]; simp
set_option maxRecDepth 100000 in
set_option maxHeartbeats 4000000 in
theorem rmay_any (A : Option Addr) (n c : Nat) (l : List Css) (w : World) (h : Rd w (.slice A n c) l.length 4 (cssCells l)) (hl : l.length ≤ 1000000000) :
    Calls Tryz.prog 32 #[.slice A n c] w (Ret (.bool (mayC l)) w) := by
  have hmx : Tryz.prog.follows .mixedOrders = true := by kernel_rfl
  have HR := Lib.hid h
  have HEv := Lib.hid (fun W (hB : Below w.heap.size w W) => show Calls Tryz.prog 49 #[.slice A n c] W (Ret (.bool (evenF 0 l)) W) from by
    obtain ⟨X, rfl⟩ := grow_of_below hB
    exact reven_any A n c l (w.grow X) (h.grow X) hl)
  obtain ⟨_, hm, A', c', heq, _⟩ := h
  cases heq
  obtain ⟨D, hD⟩ : ∃ D, mayC l = D := ⟨_, rfl⟩
  have HD : Hid (D = (!l.isEmpty && evenF 0 l && l.all okC)) := hD.symm
  rw [hD]
  clear hD
  go_enter Tryz.func32, Tryz.ntmps32
  go_wp2_with fail
  go_loopw [3] (fun i wr => ∃ (k : Nat) (X : Gr), k ≤ l.length ∧ i = .int .i64 k ∧ wr = w.grow X ∧ Hid ((l.take k).all okC = true)) (fun i _ => l.length - (intOf i).toNat)
  case atStart => exact ⟨0, _, by omega, rfl, (grow_refl w).symm, rfl⟩
  case round =>
    obtain ⟨k, X, hk, rfl, rfl, HK⟩ := hrel
    by_cases hlt : k < l.length
    · obtain ⟨b, off, rfl, hb, c0, c1, c2, c3⟩ := HR.out.css k hlt
      have HAl := Lib.hid (may_all l k hlt)
      have HNo := Lib.hid (show okC l[k] = false → l.all okC = false from fun h => by
        rw [← Bool.not_eq_true, List.all_eq_true]; intro h2; rw [h2 _ (List.getElem_mem hlt)] at h; cases h)
      generalize l[k] = x at *
      have HI1 := Lib.hid (fun W => isM_one 59 x ▸ ris_any x [59] W)
      have HI2 := Lib.hid (fun W => isM_one 33 x ▸ ris_any x [33] W)
      simp only [Css.agg, sv] at HI1 HI2 c1 c3
      have HO : Hid (okC x = (decide (x.kind ≠ 7) && !mk1 59 x && !mk1 33 x)) := rfl
      generalize mk1 59 x = m1 at *
      generalize mk1 33 x = m2 at *
      generalize okC x = ok at *
      generalize (⟨x.text.toArray⟩ : ByteArray) = a1 at *
      generalize (⟨x.unit.toArray⟩ : ByteArray) = a2 at *
      by_cases h7 : x.kind = 7
      · have b7 : (x.kind == 7) = true := by simp [h7]
        have HN : Hid (D = false) := by show _ = _; rw [HD.out, HNo.out (by rw [HO.out, h7]; rfl)]; simp
        clear h7 HO
        generalize x.kind = kk at *
        go_wp2_with fail
        go_ret
        exact Ret.of (by rw [HN.out]; rfl) (by repeat (first | with_reducible exact Below.refl _ _ | (with_reducible refine Below.alloc ?_ (by first | omega | (simp [go_sem] <;> omega)) _) | (with_reducible refine Below.drew ?_) | (with_reducible refine Below.drewN ?_ _) | (with_reducible refine Below.grow ?_ (by first | omega | (simp [go_sem] <;> omega)) _) | (with_reducible refine Below.setCell ?_ (by first | omega | (simp [go_sem] <;> omega)) _)))
      have b7 : (x.kind == 7) = false := by simpa using h7
      have HO2 : Hid (ok = (!m1 && !m2)) := by show _ = _; rw [HO.out, decide_eq_true h7]; rfl
      clear h7 HO
      generalize x.kind = kk at *
      cases m1
      · cases m2
        · have HN : Hid ((l.take (k + 1)).all okC = true) := by show _ = _; rw [HAl.out, HK.out, HO2.out]; rfl
          have HI1' := Lib.hid HI1.out
          have HI2' := Lib.hid HI2.out
          go_wp2_with (go_at_call 26; first | ((with_reducible refine (HI1'.out _).mono ?_); rintro e w' ⟨rfl, X1, rfl⟩) | ((with_reducible refine (HI2'.out _).mono ?_); rintro e w' ⟨rfl, X2, rfl⟩))
          go_roundw
          case rel => exact ⟨k + 1, _, by omega, by go_num, by first | rw [grow_grow, grow_grow] | rw [alloc_grow, grow_grow, grow_grow, grow_grow], HN⟩
          case measure => simp [intOf]; omega
        · have HN : Hid (D = false) := by show _ = _; rw [HD.out, HNo.out (by rw [HO2.out]; rfl)]; simp
          have HI1' := Lib.hid HI1.out
          have HI2' := Lib.hid HI2.out
          go_wp2_with (go_at_call 26; first | ((with_reducible refine (HI1'.out _).mono ?_); rintro e w' ⟨rfl, X1, rfl⟩) | ((with_reducible refine (HI2'.out _).mono ?_); rintro e w' ⟨rfl, X2, rfl⟩))
          go_ret
          exact Ret.of (by rw [HN.out]; rfl) (by repeat (first | with_reducible exact Below.refl _ _ | (with_reducible refine Below.alloc ?_ (by first | omega | (simp [go_sem] <;> omega)) _) | (with_reducible refine Below.drew ?_) | (with_reducible refine Below.drewN ?_ _) | (with_reducible refine Below.grow ?_ (by first | omega | (simp [go_sem] <;> omega)) _) | (with_reducible refine Below.setCell ?_ (by first | omega | (simp [go_sem] <;> omega)) _)))
      · have HN : Hid (D = false) := by show _ = _; rw [HD.out, HNo.out (by rw [HO2.out]; rfl)]; simp
        have HI1' := Lib.hid HI1.out
        go_wp2_with (go_at_call 26; ((with_reducible refine (HI1'.out _).mono ?_); rintro e w' ⟨rfl, X1, rfl⟩))
        go_ret
        exact Ret.of (by rw [HN.out]; rfl) (by repeat (first | with_reducible exact Below.refl _ _ | (with_reducible refine Below.alloc ?_ (by first | omega | (simp [go_sem] <;> omega)) _) | (with_reducible refine Below.drew ?_) | (with_reducible refine Below.drewN ?_ _) | (with_reducible refine Below.grow ?_ (by first | omega | (simp [go_sem] <;> omega)) _) | (with_reducible refine Below.setCell ?_ (by first | omega | (simp [go_sem] <;> omega)) _)))
    · have hk2 : k = l.length := by omega
      subst hk2
      rw [List.take_length] at HK
      have HN : Hid (D = (!l.isEmpty && evenF 0 l)) := by show _ = _; rw [HD.out, HK.out, Bool.and_true]
      by_cases h0 : 0 < l.length
      · have b0 : decide ((0 : Int) < l.length) = true := by simp; omega
        have HN2 : Hid (D = evenF 0 l) := by show _ = _; rw [HN.out, (show l.isEmpty = false by rw [List.isEmpty_eq_false_iff]; intro h; rw [h] at h0; simp at h0)]; rfl
        go_wp2_with (go_at_call 49; (with_reducible refine (HEv.out _ (by repeat (first | with_reducible exact Below.refl _ _ | (with_reducible refine Below.alloc ?_ (by first | omega | (simp [go_sem] <;> omega)) _) | (with_reducible refine Below.drew ?_) | (with_reducible refine Below.drewN ?_ _) | (with_reducible refine Below.grow ?_ (by first | omega | (simp [go_sem] <;> omega)) _) | (with_reducible refine Below.setCell ?_ (by first | omega | (simp [go_sem] <;> omega)) _)))).mono ?_); rintro e w' ⟨rfl, X1, rfl⟩)
        go_ret
        exact Ret.of (by rw [HN2.out]; rfl) (by repeat (first | with_reducible exact Below.refl _ _ | (with_reducible refine Below.alloc ?_ (by first | omega | (simp [go_sem] <;> omega)) _) | (with_reducible refine Below.drew ?_) | (with_reducible refine Below.drewN ?_ _) | (with_reducible refine Below.grow ?_ (by first | omega | (simp [go_sem] <;> omega)) _) | (with_reducible refine Below.setCell ?_ (by first | omega | (simp [go_sem] <;> omega)) _)))
      · have b0 : decide ((0 : Int) < l.length) = false := by rw [decide_eq_false_iff_not]; omega
        have HN2 : Hid (D = false) := by show _ = _; rw [HN.out, (show l.isEmpty = true by rw [List.isEmpty_iff]; exact List.eq_nil_of_length_eq_zero (by omega))]; rfl
        go_wp2_with fail
        go_ret
        exact Ret.of (by rw [HN2.out]; rfl) (by repeat (first | with_reducible exact Below.refl _ _ | (with_reducible refine Below.alloc ?_ (by first | omega | (simp [go_sem] <;> omega)) _) | (with_reducible refine Below.drew ?_) | (with_reducible refine Below.drewN ?_ _) | (with_reducible refine Below.grow ?_ (by first | omega | (simp [go_sem] <;> omega)) _) | (with_reducible refine Below.setCell ?_ (by first | omega | (simp [go_sem] <;> omega)) _)))
end Go.Proofs.YtdpgpjileffekaaGreatDoor
