/- The walks of declarations: declarations as text. -/
import Derived.Test.YtdpgpjileffekaaGreatDoorDecH
namespace Go.Proofs.YtdpgpjileffekaaGreatDoor
open Go.RowKit Go.Shelf
attribute [local go_sem] Oper.semAt_some
theorem join_s (us : List Bs) : Lib.join us [59, 32] = joinS us := by
  induction us with
  | nil => rfl
  | cons u us ih =>
    cases us with
    | nil => simp [Lib.join, List.intercalate, joinS]
    | cons v vs =>
      rw [joinS, ← ih]
      simp [Lib.join, List.intercalate]
theorem strjoin2_any {W : World} {A : Option Addr} {n c : Nat} (us : List Bs) (h : Rd W (.slice A n c) us.length 1 (us.map sv)) (hc : us.length ≤ c) (hl : (joinS us).length ≤ 140737488355328) (hn : us.length ≤ 140737488355328) :
    Calls Tryz.prog 33 #[.slice A n c, .string ⟨#[59, 32]⟩] W (Ret (.string ⟨(joinS us).toArray⟩) W) := by
  obtain ⟨h1, h2, A', c', he, h4⟩ := h
  cases he
  by_cases h0 : us.length = 0
  · obtain rfl : us = [] := List.eq_nil_of_length_eq_zero h0
    refine (Tryz.strings_Join_none A c _ W).mono ?_
    rintro e w' ⟨rfl, rfl⟩
    exact Ret.same rfl
  · obtain ⟨b, off, rfl, hb, hcell⟩ := h4 (by omega)
    have e1 : (us.map fun u => (⟨u.toArray⟩ : ByteArray)).length = us.length := by simp
    have e2 : (us.map fun u => (⟨u.toArray⟩ : ByteArray)).map (·.data.toList) = us := by
      rw [List.map_map]
      conv => rhs; rw [← List.map_id us]
      apply List.map_congr_left
      intro u _
      rfl
    have key := Tryz.strings_Join b off c (us.map fun u => (⟨u.toArray⟩ : ByteArray)) ⟨#[59, 32]⟩ W (fun j x hx => by
      have hx2 : (us.map sv)[j]? = some (.string x) := by
        rw [List.getElem?_map] at hx ⊢
        cases hj : us[j]? with
        | none => rw [hj] at hx; cases hx
        | some u => rw [hj] at hx; cases hx; rfl
      exact hcell j _ hx2) hb (by rw [e1]; exact hn) (by rw [e1]; exact hc) (by rw [e2, show (⟨#[59, 32]⟩ : ByteArray).data.toList = [59, 32] from rfl, join_s]; exact hl)
    rw [e1, e2] at key
    refine key.mono ?_
    rintro e w' ⟨rfl, hB⟩
    refine ⟨?_, grow_of_below hB⟩
    show Ending.returned (.string ⟨(Lib.join us [59, 32]).toArray⟩) = _
    rw [join_s]
theorem joinS_len (m : Nat) : ∀ (us : List Bs), (∀ u ∈ us, u.length ≤ m) → (joinS us).length ≤ us.length * (m + 2) := by
  intro us
  induction us with
  | nil => intro _; simp [joinS]
  | cons u us ih =>
    intro h
    have h1 := h u (List.mem_cons_self ..)
    have h2 := ih (fun v hv => h v (List.mem_cons_of_mem _ hv))
    cases us with
    | nil => simp [joinS]; omega
    | cons v vs =>
      simp only [joinS, List.length_append, List.length_cons] at h2 ⊢
      rw [Nat.succ_mul]; omega
theorem textC_len {l : List Css} (hs : Short l) (hl : l.length ≤ 10000) : (textC l).length ≤ 20000410000 := by
  have h1 := join_len 2000040 (l.map toldC) (fun u hu => by
    rw [List.mem_map] at hu
    obtain ⟨x, hx, rfl⟩ := hu
    obtain ⟨o1, o2, o3⟩ := hs x hx
    have := told_len x o1
    omega)
  simp only [List.length_map] at h1
  change (textC l).length ≤ _ at h1
  omega
theorem toldD_len {d : Dcl} (hs : ShortD d) : (toldD d).length ≤ 20002000000 := by
  have := textC_len hs.1 hs.2.1
  have h3 := hs.2.2
  simp only [toldD, List.length_append]
  have : (if d.imp then impS else []).length ≤ 12 := by split <;> decide
  simp only [List.length_cons, List.length_nil]
  omega
set_option maxRecDepth 100000 in
set_option maxHeartbeats 4000000 in
theorem dtext_any (A : Option Addr) (n c : Nat) (l : List Dcl) (w : World) (hw : Tb w) (hx : Mx w) (h : RdD w (.slice A n c) l) (hs : ∀ d ∈ l, ShortD d) (hl : l.length ≤ 2000) :
    Calls Tryz.prog 15 #[.slice A n c] w (Ret (.tuple #[.string ⟨(if l.all rightD then textD l else []).toArray⟩, .bool (l.all rightD)]) w) := by
  have HR := Lib.hid h
  have HS := Lib.hid hs
  obtain ⟨vs0, _, _, hm, A', c', heq, _⟩ := h
  cases heq
  have HW := Lib.hid hw
  have HX := Lib.hid hx
  obtain ⟨Z, hZ⟩ : ∃ Z : ByteArray, ⟨(if l.all rightD then textD l else []).toArray⟩ = Z := ⟨_, rfl⟩
  have HZ := Lib.hid hZ
  obtain ⟨D, hD⟩ : ∃ D, l.all rightD = D := ⟨_, rfl⟩
  have HD := Lib.hid hD
  rw [hZ, hD]
  clear hs hw hx hZ hD
  go_enter Tryz.func15, Tryz.ntmps15
  go_wp2_with fail
  go_loopw [4, 11] (fun v i wr => ∃ (k : Nat) (X : Gr), k ≤ l.length ∧ i = .int .i64 k ∧ wr = w.grow X ∧ (w.grow X).ownsRow w.heap.size 9 1 v k (((l.take k).map toldD).map sv) ∧ Hid ((l.take k).all rightD = true)) (fun _ i _ => l.length - (intOf i).toNat)
  case atStart => exact ⟨0, _, by omega, rfl, (grow_refl w).symm, by rw [grow_refl]; exact World.ownsRow_nil _ _ _ _, rfl⟩
  case round =>
    obtain ⟨k, X, hk, rfl, rfl, hown, HK⟩ := hrel
    by_cases hlt : k < l.length
    · obtain ⟨b, off, vd, rfl, hb, ⟨Av, cv, rfl, _, hcv, hrd⟩, c0, c1, c2⟩ := HR.out.at k hlt
      have HL := Lib.hid (show ((l.take (k + 1)).map toldD).map sv = ((l.take k).map toldD).map sv ++ [sv (toldD l[k])] by rw [List.take_succ_eq_append_getElem hlt, List.map_append, List.map_append]; rfl)
      have HAl := Lib.hid (show (l.take (k + 1)).all rightD = ((l.take k).all rightD && rightD l[k]) by rw [List.take_succ_eq_append_getElem hlt, List.all_append]; simp)
      have HNo := Lib.hid (show rightD l[k] = false → l.all rightD = false from fun h => by
        rw [← Bool.not_eq_true, List.all_eq_true]; intro h2; rw [h2 _ (List.getElem_mem hlt)] at h; cases h)
      have hsd := HS.out _ (List.getElem_mem hlt)
      generalize l[k] = d at *
      have htl := textC_len hsd.1 hsd.2.1
      have hnl := hsd.2.2
      have HRt := Lib.hid (fun W (hB : Below w.heap.size w W) => show Calls Tryz.prog 13 #[.agg #[sv d.name, .slice Av d.value.length cv, .bool d.imp]] W (Ret (.bool (rightD d)) W) from by
        obtain ⟨X, rfl⟩ := grow_of_below hB
        exact dright_any d Av cv (w.grow X) (HW.out.grow X) (HX.out.grow X) (hrd.grow X) hsd)
      have HTo := Lib.hid (fun (hr : rightD d = true) W (hB : Below w.heap.size w W) => show Calls Tryz.prog 29 #[.slice Av d.value.length cv] W (Ret (.tuple #[.string ⟨(textC d.value).toArray⟩, .bool true]) W) from by
        obtain ⟨X, rfl⟩ := grow_of_below hB
        have := text_any Av d.value.length cv d.value (w.grow X) (HW.out.grow X) (HX.out.grow X) (hrd.grow X) hsd.1 (by have := hsd.2.1; omega)
        have h2 : d.value.all rightC = true := by
          rw [right_D, Bool.and_eq_true, Bool.and_eq_true] at hr; exact hr.1.1
        rwa [h2, if_pos rfl] at this)
      have HTl : Hid (sv (toldD d) = sv (d.name ++ [58, 32] ++ textC d.value ++ (if d.imp then impS else []))) := rfl
      generalize hdi : d.imp = im at *
      generalize hdt : textC d.value = T0 at *
      generalize hdn : d.name = N0 at *
      generalize d.value.length = m at *
      simp only [sv] at HRt c0
      obtain ⟨T, hT⟩ : ∃ S : ByteArray, ⟨T0.toArray⟩ = S := ⟨_, rfl⟩
      obtain ⟨N, hN⟩ : ∃ S : ByteArray, ⟨N0.toArray⟩ = S := ⟨_, rfl⟩
      have hTs : T.size ≤ 20000410000 := by rw [← hT]; exact htl
      have hNs : N.size ≤ 1000000 := by rw [← hN]; exact hnl
      have HTN : Hid (T0 = T.data.toList ∧ N0 = N.data.toList) := by rw [← hT, ← hN]; exact ⟨rfl, rfl⟩
      rw [hT] at HTo
      rw [hN] at HRt c0
      clear hT hN hsd hrd htl hnl hdi hdt hdn
      cases hr : rightD d
      · have HN := Lib.hid (HNo.out hr)
        rw [hr] at HRt
        have HRt2 := Lib.hid HRt.out
        clear HRt hr
        go_wp2_with (go_at_call 13; go_loud (with_reducible refine (HRt2.out _ (by repeat (first | with_reducible exact Below.refl _ _ | (with_reducible refine Below.alloc ?_ (by first | omega | (simp [go_sem] <;> omega)) _) | (with_reducible refine Below.drew ?_) | (with_reducible refine Below.drewN ?_ _) | (with_reducible refine Below.grow ?_ (by first | omega | (simp [go_sem] <;> omega)) _) | (with_reducible refine Below.setCell ?_ (by first | omega | (simp [go_sem] <;> omega)) _)))).mono ?_); rintro e w' ⟨rfl, X1, rfl⟩)
        go_ret2
        exact Ret.of (by rw [← HZ.out, ← HD.out, HN.out]; rfl) (by repeat (first | with_reducible exact Below.refl _ _ | (with_reducible refine Below.alloc ?_ (by first | omega | (simp [go_sem] <;> omega)) _) | (with_reducible refine Below.drew ?_) | (with_reducible refine Below.drewN ?_ _) | (with_reducible refine Below.grow ?_ (by first | omega | (simp [go_sem] <;> omega)) _) | (with_reducible refine Below.setCell ?_ (by first | omega | (simp [go_sem] <;> omega)) _)))
      · have HTo2 := Lib.hid (HTo.out hr)
        rw [hr] at HRt HAl
        have HRt2 := Lib.hid HRt.out
        have HK2 : Hid ((l.take (k + 1)).all rightD = true) := by show _ = _; rw [HAl.out, HK.out]; rfl
        clear HRt hr HTo
        cases im
        · go_wp2_with (first | (go_at_call 13; go_loud (with_reducible refine (HRt2.out _ (by repeat (first | with_reducible exact Below.refl _ _ | (with_reducible refine Below.alloc ?_ (by first | omega | (simp [go_sem] <;> omega)) _) | (with_reducible refine Below.drew ?_) | (with_reducible refine Below.drewN ?_ _) | (with_reducible refine Below.grow ?_ (by first | omega | (simp [go_sem] <;> omega)) _) | (with_reducible refine Below.setCell ?_ (by first | omega | (simp [go_sem] <;> omega)) _)))).mono ?_); rintro e w' ⟨rfl, X1, rfl⟩) | (go_at_call 29; go_loud (with_reducible refine (HTo2.out _ (by repeat (first | with_reducible exact Below.refl _ _ | (with_reducible refine Below.alloc ?_ (by first | omega | (simp [go_sem] <;> omega)) _) | (with_reducible refine Below.drew ?_) | (with_reducible refine Below.drewN ?_ _) | (with_reducible refine Below.grow ?_ (by first | omega | (simp [go_sem] <;> omega)) _) | (with_reducible refine Below.setCell ?_ (by first | omega | (simp [go_sem] <;> omega)) _)))).mono ?_); rintro e w' ⟨rfl, X2, rfl⟩) | (at_builtin; go_loud (refine append_grow rfl _ _ 52 rfl strs_row w rfl (own_below hown (by repeat (first | with_reducible exact Below.refl _ _ | (with_reducible refine Below.alloc ?_ (by first | omega | (simp [go_sem] <;> omega)) _) | (with_reducible refine Below.drew ?_) | (with_reducible refine Below.drewN ?_ _) | (with_reducible refine Below.grow ?_ (by first | omega | (simp [go_sem] <;> omega)) _) | (with_reducible refine Below.setCell ?_ (by first | omega | (simp [go_sem] <;> omega)) _)))) (by repeat (first | with_reducible exact Below.refl _ _ | (with_reducible refine Below.alloc ?_ (by first | omega | (simp [go_sem] <;> omega)) _) | (with_reducible refine Below.drew ?_) | (with_reducible refine Below.drewN ?_ _) | (with_reducible refine Below.grow ?_ (by first | omega | (simp [go_sem] <;> omega)) _) | (with_reducible refine Below.setCell ?_ (by first | omega | (simp [go_sem] <;> omega)) _))) ⟨_, 0, none⟩ 1 1 [.string (N ++ ⟨#[58, 32]⟩ ++ T)] rfl rfl (new_cells (c := #[.string (N ++ ⟨#[58, 32]⟩ ++ T)]) (by simp [go_sem])) (by simp [Value.oneCell']) (by unfold maxLen; omega) (by omega) ?_); intro v' Y hown' _))
          go_roundw
          case rel => exact ⟨k + 1, Y, by omega, by go_num, rfl, by rw [HL.out, HTl.out, HTN.out.1, HTN.out.2]; show World.ownsRow _ _ _ _ _ _ (_ ++ [.string ⟨(_ : Bs).toArray⟩]); simp only [Bool.false_eq_true, if_false, List.append_nil]; rw [← cat_bs, ← cat_bs]; exact hown', HK2⟩
          case measure => simp [intOf]; omega
        · go_wp2_with (first | (go_at_call 13; go_loud (with_reducible refine (HRt2.out _ (by repeat (first | with_reducible exact Below.refl _ _ | (with_reducible refine Below.alloc ?_ (by first | omega | (simp [go_sem] <;> omega)) _) | (with_reducible refine Below.drew ?_) | (with_reducible refine Below.drewN ?_ _) | (with_reducible refine Below.grow ?_ (by first | omega | (simp [go_sem] <;> omega)) _) | (with_reducible refine Below.setCell ?_ (by first | omega | (simp [go_sem] <;> omega)) _)))).mono ?_); rintro e w' ⟨rfl, X1, rfl⟩) | (go_at_call 29; go_loud (with_reducible refine (HTo2.out _ (by repeat (first | with_reducible exact Below.refl _ _ | (with_reducible refine Below.alloc ?_ (by first | omega | (simp [go_sem] <;> omega)) _) | (with_reducible refine Below.drew ?_) | (with_reducible refine Below.drewN ?_ _) | (with_reducible refine Below.grow ?_ (by first | omega | (simp [go_sem] <;> omega)) _) | (with_reducible refine Below.setCell ?_ (by first | omega | (simp [go_sem] <;> omega)) _)))).mono ?_); rintro e w' ⟨rfl, X2, rfl⟩) | (at_builtin; go_loud (refine append_grow rfl _ _ 52 rfl strs_row w rfl (own_below hown (by repeat (first | with_reducible exact Below.refl _ _ | (with_reducible refine Below.alloc ?_ (by first | omega | (simp [go_sem] <;> omega)) _) | (with_reducible refine Below.drew ?_) | (with_reducible refine Below.drewN ?_ _) | (with_reducible refine Below.grow ?_ (by first | omega | (simp [go_sem] <;> omega)) _) | (with_reducible refine Below.setCell ?_ (by first | omega | (simp [go_sem] <;> omega)) _)))) (by repeat (first | with_reducible exact Below.refl _ _ | (with_reducible refine Below.alloc ?_ (by first | omega | (simp [go_sem] <;> omega)) _) | (with_reducible refine Below.drew ?_) | (with_reducible refine Below.drewN ?_ _) | (with_reducible refine Below.grow ?_ (by first | omega | (simp [go_sem] <;> omega)) _) | (with_reducible refine Below.setCell ?_ (by first | omega | (simp [go_sem] <;> omega)) _))) ⟨_, 0, none⟩ 1 1 [.string (N ++ ⟨#[58, 32]⟩ ++ T ++ ⟨#[32, 33, 32, 105, 109, 112, 111, 114, 116, 97, 110, 116]⟩)] rfl rfl (new_cells (c := #[.string (N ++ ⟨#[58, 32]⟩ ++ T ++ ⟨#[32, 33, 32, 105, 109, 112, 111, 114, 116, 97, 110, 116]⟩)]) (by simp [go_sem])) (by simp [Value.oneCell']) (by unfold maxLen; omega) (by omega) ?_); intro v' Y hown' _))
          go_roundw
          case rel => exact ⟨k + 1, Y, by omega, by go_num, rfl, by rw [HL.out, HTl.out, HTN.out.1, HTN.out.2]; show World.ownsRow _ _ _ _ _ _ (_ ++ [.string ⟨(_ : Bs).toArray⟩]); simp only [if_true]; rw [← cat_bs, ← cat_bs, ← cat_bs]; exact hown', HK2⟩
          case measure => simp [intOf]; omega
    · have hk2 : k = l.length := by omega
      subst hk2
      rw [List.take_length] at HK hown
      have hlen : ((l.map toldD)).length = l.length := by simp
      have hjl : (joinS (l.map toldD)).length ≤ 140737488355328 := by
        have h1 := joinS_len 20002000000 (l.map toldD) (fun u hu => by
          rw [List.mem_map] at hu
          obtain ⟨x, hx, rfl⟩ := hu
          exact toldD_len (HS.out x hx))
        rw [hlen] at h1; omega
      obtain ⟨A2, c2, rfl, hc2⟩ := own_cap hown
      have hrd := Rd.own hown
      rw [← hlen] at hrd hc2
      have HJ := Lib.hid (strjoin2_any (l.map toldD) hrd hc2 hjl (by rw [hlen]; omega))
      rw [hlen] at HJ
      have HE : Hid (textD l = joinS (l.map toldD)) := rfl
      clear hrd hc2 hjl hown
      go_wp2_with (go_at_call 33; (with_reducible refine HJ.out.mono ?_); rintro e w' ⟨rfl, X1, rfl⟩)
      go_ret2
      exact Ret.of (by rw [← HZ.out, ← HD.out, HK.out, if_pos rfl, HE.out]; rfl) (by repeat (first | with_reducible exact Below.refl _ _ | (with_reducible refine Below.alloc ?_ (by first | omega | (simp [go_sem] <;> omega)) _) | (with_reducible refine Below.drew ?_) | (with_reducible refine Below.drewN ?_ _) | (with_reducible refine Below.grow ?_ (by first | omega | (simp [go_sem] <;> omega)) _) | (with_reducible refine Below.setCell ?_ (by first | omega | (simp [go_sem] <;> omega)) _)))
end Go.Proofs.YtdpgpjileffekaaGreatDoor
