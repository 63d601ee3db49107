/- The walks of styles: pieces as text; the small thing that is tried first. -/
import Derived.Lib.Join
import Derived.Test.YtgcccpdadponiaaGreatDoorCssO
namespace Go.Proofs.YtgcccpdadponiaaGreatDoor
open Go.RowKit Go.Shelf
attribute [local go_sem] Oper.semAt_some
theorem join_c (us : List Bs) : Lib.join us [32] = joinC us := by
  induction us with
  | nil => rfl
  | cons u us ih =>
    cases us with
    | nil => simp [Lib.join, List.intercalate, joinC]
    | cons v vs =>
      rw [joinC, ← ih]
      simp [Lib.join, List.intercalate]
theorem strjoin_any {W : World} {A : Option Addr} {n c : Nat} (us : List Bs) (h : Rd W (.slice A n c) us.length 1 (us.map sv)) (hc : us.length ≤ c) (hl : (joinC us).length ≤ 140737488355328) (hn : us.length ≤ 140737488355328) :
    Calls Tryz.prog 44 #[.slice A n c, .string ⟨#[32]⟩] W (Ret (.string ⟨(joinC us).toArray⟩) W) := by
  obtain ⟨h1, h2, A', c', he, h4⟩ := h
  cases he
  by_cases h0 : us.length = 0
  · obtain rfl : us = [] := List.eq_nil_of_length_eq_zero h0
    refine (Tryz.strings_Join_none A c _ W).mono ?_
    rintro e w' ⟨rfl, rfl⟩
    exact Ret.same rfl
  · obtain ⟨b, off, rfl, hb, hcell⟩ := h4 (by omega)
    have e1 : (us.map fun u => (⟨u.toArray⟩ : ByteArray)).length = us.length := by simp
    have e2 : (us.map fun u => (⟨u.toArray⟩ : ByteArray)).map (·.data.toList) = us := by
      rw [List.map_map]
      conv => rhs; rw [← List.map_id us]
      apply List.map_congr_left
      intro u _
      rfl
    have key := Tryz.strings_Join b off c (us.map fun u => (⟨u.toArray⟩ : ByteArray)) ⟨#[32]⟩ W (fun j x hx => by
      have hx2 : (us.map sv)[j]? = some (.string x) := by
        rw [List.getElem?_map] at hx ⊢
        cases hj : us[j]? with
        | none => rw [hj] at hx; cases hx
        | some u => rw [hj] at hx; cases hx; rfl
      exact hcell j _ hx2) hb (by rw [e1]; exact hn) (by rw [e1]; exact hc) (by rw [e2, show (⟨#[32]⟩ : ByteArray).data.toList = [32] from rfl, join_c]; exact hl)
    rw [e1, e2] at key
    refine key.mono ?_
    rintro e w' ⟨rfl, hB⟩
    refine ⟨?_, grow_of_below hB⟩
    show Ending.returned (.string ⟨(Lib.join us [32]).toArray⟩) = _
    rw [join_c]
theorem join_len (m : Nat) : ∀ (us : List Bs), (∀ u ∈ us, u.length ≤ m) → (joinC us).length ≤ us.length * (m + 1) := by
  intro us
  induction us with
  | nil => intro _; simp [joinC]
  | cons u us ih =>
    intro h
    have h1 := h u (List.mem_cons_self ..)
    have h2 := ih (fun v hv => h v (List.mem_cons_of_mem _ hv))
    cases us with
    | nil => simp [joinC]; omega
    | cons v vs =>
      simp only [joinC, List.length_append, List.length_cons] at h2 ⊢
      rw [Nat.succ_mul]; omega
theorem strs_row : SlT Tryz.prog 53 9 (.string ⟨#[]⟩) 1 16 := ⟨by kernel_rfl, by kernel_rfl, by kernel_rfl, by decide⟩
/-- Short pieces, as they came in. -/
def Short (l : List Css) : Prop := ∀ x ∈ l, CssOk x ∧ x.text.length ≤ 1000000 ∧ x.unit.length ≤ 1000000
set_option maxRecDepth 100000 in
set_option maxHeartbeats 8000000 in
theorem text_any (A : Option Addr) (n c : Nat) (l : List Css) (w : World) (hw : Tb w) (hx : Mx w) (h : Rd w (.slice A n c) l.length 4 (cssCells l)) (hs : Short l) (hl : l.length ≤ 1000000) :
    Calls Tryz.prog 21 #[.slice A n c] w (Ret (.tuple #[.string ⟨(if l.all rightC then textC l else []).toArray⟩, .bool (l.all rightC)]) w) := by
  have HR := Lib.hid h
  have HS := Lib.hid hs
  obtain ⟨_, hm, A', c', heq, _⟩ := h
  cases heq
  have HW := Lib.hid hw
  have HX := Lib.hid hx
  obtain ⟨Z, hZ⟩ : ∃ Z : ByteArray, ⟨(if l.all rightC then textC l else []).toArray⟩ = Z := ⟨_, rfl⟩
  have HZ := Lib.hid hZ
  obtain ⟨D, hD⟩ : ∃ D, l.all rightC = D := ⟨_, rfl⟩
  have HD := Lib.hid hD
  rw [hZ, hD]
  clear hs hw hx hZ hD
  go_enter Tryz.func21, Tryz.ntmps21
  go_wp2_with fail
  go_loopw [4, 9] (fun v i wr => ∃ (k : Nat) (X : Gr), k ≤ l.length ∧ i = .int .i64 k ∧ wr = w.grow X ∧ (w.grow X).ownsRow w.heap.size 9 1 v k (((l.take k).map toldC).map sv) ∧ Hid ((l.take k).all rightC = true)) (fun _ i _ => l.length - (intOf i).toNat)
  case atStart => exact ⟨0, _, by omega, rfl, (grow_refl w).symm, by rw [grow_refl]; exact World.ownsRow_nil _ _ _ _, rfl⟩
  case round =>
    obtain ⟨k, X, hk, rfl, rfl, hown, HK⟩ := hrel
    by_cases hlt : k < l.length
    · obtain ⟨b, off, rfl, hb, c0, c1, c2, c3⟩ := HR.out.css k hlt
      have HL := Lib.hid (show ((l.take (k + 1)).map toldC).map sv = ((l.take k).map toldC).map sv ++ [sv (toldC l[k])] by rw [List.take_succ_eq_append_getElem hlt, List.map_append, List.map_append]; rfl)
      have HAl := Lib.hid (show (l.take (k + 1)).all rightC = ((l.take k).all rightC && rightC l[k]) by rw [List.take_succ_eq_append_getElem hlt, List.all_append]; simp)
      have HNo := Lib.hid (show rightC l[k] = false → l.all rightC = false from fun h => by
        rw [← Bool.not_eq_true, List.all_eq_true]; intro h2; rw [h2 _ (List.getElem_mem hlt)] at h; cases h)
      obtain ⟨o1, o2, o3⟩ := HS.out _ (List.getElem_mem hlt)
      generalize l[k] = x at *
      have HRt := Lib.hid (fun W (hW : Tb W) (hX : Mx W) => right_any x W hW hX o1 o2 o3)
      have HTo := Lib.hid (fun W (hW : Tb W) => told_any x W hW o1 o2 o3)
      simp only [Css.agg, sv] at HRt HTo c1 c3
      have HTs := Lib.hid (told_len x o1)
      have HTb : Hid (∀ o Y, Tb (((w.grow X).alloc o).grow Y)) := fun o Y => Tb.grow (by rw [alloc_grow]; exact (HW.out.grow X).grow _) Y
      have HMx : Hid (∀ o Y, Mx (((w.grow X).alloc o).grow Y)) := fun o Y => Mx.grow (by rw [alloc_grow]; exact (HX.out.grow X).grow _) Y
      have HTb0 : Hid (∀ o, Tb ((w.grow X).alloc o)) := fun o => by rw [alloc_grow]; exact (HW.out.grow X).grow _
      have HMx0 : Hid (∀ o, Mx ((w.grow X).alloc o)) := fun o => by rw [alloc_grow]; exact (HX.out.grow X).grow _
      obtain ⟨T, hT⟩ : ∃ S : ByteArray, ⟨(toldC x).toArray⟩ = S := ⟨_, rfl⟩
      have HTT := Lib.hid hT
      rw [hT] at HTo
      clear hT o1 o2 o3
      cases hr : rightC x
      · have HN := Lib.hid (HNo.out hr)
        rw [hr] at HRt
        have HRt2 := Lib.hid HRt.out
        clear HRt hr
        go_wp2_with (go_at_call 42; (with_reducible refine (HRt2.out _ (HTb0.out _) (HMx0.out _)).mono ?_); rintro e w' ⟨rfl, X1, rfl⟩)
        go_ret2
        exact Ret.of (by rw [← HZ.out, ← HD.out, HN.out]; rfl) (by repeat (first | with_reducible exact Below.refl _ _ | (with_reducible refine Below.alloc ?_ (by first | omega | (simp [go_sem] <;> omega)) _) | (with_reducible refine Below.drew ?_) | (with_reducible refine Below.drewN ?_ _) | (with_reducible refine Below.grow ?_ (by first | omega | (simp [go_sem] <;> omega)) _) | (with_reducible refine Below.setCell ?_ (by first | omega | (simp [go_sem] <;> omega)) _)))
      · rw [hr] at HRt HAl
        have HRt2 := Lib.hid HRt.out
        have HV : Hid (sv (toldC x) = .string T) := by show _ = _; rw [sv, HTT.out]
        have HK2 : Hid ((l.take (k + 1)).all rightC = true) := by show _ = _; rw [HAl.out, HK.out]; rfl
        clear HRt hr
        go_wp2_with (first | (go_at_call 42; (with_reducible refine (HRt2.out _ (HTb0.out _) (HMx0.out _)).mono ?_); rintro e w' ⟨rfl, X1, rfl⟩) | (go_at_call 43; (with_reducible refine (HTo.out _ (HTb.out _ _)).mono ?_); rintro e w' ⟨rfl, X2, rfl⟩) | (at_builtin; go_loud (refine append_grow rfl _ _ 53 rfl strs_row w rfl (own_alloc (own_grow (own_grow (own_alloc hown _) _) _) _) (by repeat (first | with_reducible exact Below.refl _ _ | (with_reducible refine Below.alloc ?_ (by first | omega | (simp [go_sem] <;> omega)) _) | (with_reducible refine Below.drew ?_) | (with_reducible refine Below.drewN ?_ _) | (with_reducible refine Below.grow ?_ (by first | omega | (simp [go_sem] <;> omega)) _) | (with_reducible refine Below.setCell ?_ (by first | omega | (simp [go_sem] <;> omega)) _))) ⟨_, 0, none⟩ 1 1 [.string T] rfl rfl (new_cells (c := #[.string T]) (by simp [go_sem])) (by simp [Value.oneCell']) (by unfold maxLen; omega) (by omega) ?_); intro v' Y hown' _))
        go_roundw
        case rel => exact ⟨k + 1, Y, by omega, by go_num, rfl, by rw [HL.out, HV.out]; exact hown', HK2⟩
        case measure => simp [intOf]; omega
    · have hk2 : k = l.length := by omega
      subst hk2
      rw [List.take_length] at HK hown
      have hlen : ((l.map toldC)).length = l.length := by simp
      have hjl : (joinC (l.map toldC)).length ≤ 140737488355328 := by
        have h1 := join_len 2000040 (l.map toldC) (fun u hu => by
          rw [List.mem_map] at hu
          obtain ⟨x, hx, rfl⟩ := hu
          obtain ⟨o1, o2, o3⟩ := HS.out x hx
          have := told_len x o1
          omega)
        rw [hlen] at h1; omega
      obtain ⟨A2, c2, rfl, hc2⟩ := own_cap hown
      have hrd := Rd.own hown
      rw [← hlen] at hrd hc2
      have HJ := Lib.hid (strjoin_any (l.map toldC) hrd hc2 hjl (by rw [hlen]; omega))
      rw [hlen] at HJ
      have HE : Hid (textC l = joinC (l.map toldC)) := rfl
      clear hrd hc2 hjl hown
      go_wp2_with (go_at_call 44; (with_reducible refine HJ.out.mono ?_); rintro e w' ⟨rfl, X1, rfl⟩)
      go_ret2
      exact Ret.of (by rw [← HZ.out, ← HD.out, HK.out, if_pos rfl, HE.out]; rfl) (by repeat (first | with_reducible exact Below.refl _ _ | (with_reducible refine Below.alloc ?_ (by first | omega | (simp [go_sem] <;> omega)) _) | (with_reducible refine Below.drew ?_) | (with_reducible refine Below.drewN ?_ _) | (with_reducible refine Below.grow ?_ (by first | omega | (simp [go_sem] <;> omega)) _) | (with_reducible refine Below.setCell ?_ (by first | omega | (simp [go_sem] <;> omega)) _)))
end Go.Proofs.YtgcccpdadponiaaGreatDoor
