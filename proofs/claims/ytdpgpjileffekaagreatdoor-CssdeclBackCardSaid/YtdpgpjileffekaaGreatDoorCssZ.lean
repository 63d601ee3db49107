/- The walks of styles by the reference: pieces as text. -/
import Derived.Test.YtdpgpjileffekaaGreatDoorCssY
namespace Go.Proofs.YtdpgpjileffekaaGreatDoor
open Go.RowKit Go.Shelf
attribute [local go_sem] Oper.semAt_some
theorem joinC_snoc (us : List Bs) (u : Bs) : joinC (us ++ [u]) = if us = [] then u else joinC us ++ 32 :: u := by
  induction us with
  | nil => rfl
  | cons v us ih =>
    cases us with
    | nil => rfl
    | cons v2 us =>
      rw [if_neg (by simp)] at ih ⊢
      rw [List.cons_append, List.cons_append, joinC, ← List.cons_append, ih, joinC]
      simp
theorem textC_snoc (l : List Css) (x : Css) : textC (l ++ [x]) = if l = [] then toldC x else textC l ++ 32 :: toldC x := by
  unfold textC
  rw [List.map_append, List.map_singleton, joinC_snoc]
  cases l <;> simp
theorem text_len {l : List Css} (hs : Short l) (hl : l.length ≤ 1000000) : (textC l).length ≤ 2000041000000 := by
  have h1 := join_len 2000040 (l.map toldC) (fun u hu => by
    rw [List.mem_map] at hu
    obtain ⟨x, hx, rfl⟩ := hu
    obtain ⟨o1, o2, o3⟩ := hs x hx
    have := told_len x o1
    omega)
  rw [List.length_map] at h1
  unfold textC; omega
theorem nil_cat (V : ByteArray) : (⟨#[]⟩ : ByteArray) ++ V = V := by
  apply ba_ext
  rw [ByteArray.data_append]; simp
set_option maxRecDepth 100000 in
set_option maxHeartbeats 8000000 in
theorem rtext_any (A : Option Addr) (n c : Nat) (l : List Css) (w : World) (h : Rd w (.slice A n c) l.length 4 (cssCells l)) (hs : Short l) (hl : l.length ≤ 1000000) :
    Calls Tryz.prog 34 #[.slice A n c] w (Ret (.tuple #[.string ⟨(if l.all rightC then textC l else []).toArray⟩, .bool (l.all rightC)]) w) := by
  have HR := Lib.hid h
  have HS := Lib.hid hs
  obtain ⟨_, hm, A', c', heq, _⟩ := h
  cases heq
  obtain ⟨Z, hZ⟩ : ∃ Z : ByteArray, ⟨(if l.all rightC then textC l else []).toArray⟩ = Z := ⟨_, rfl⟩
  have HZ := Lib.hid hZ
  obtain ⟨D, hD⟩ : ∃ D, l.all rightC = D := ⟨_, rfl⟩
  have HD := Lib.hid hD
  rw [hZ, hD]
  clear hs hZ hD
  go_enter Tryz.func34, Tryz.ntmps34
  go_wp2_with fail
  go_loopw [4, 5] (fun o i wr => ∃ (k : Nat) (X : Gr), k ≤ l.length ∧ i = .int .i64 k ∧ wr = w.grow X ∧ o = .string ⟨(textC (l.take k)).toArray⟩ ∧ Hid ((l.take k).all rightC = true)) (fun _ i _ => l.length - (intOf i).toNat)
  case atStart => exact ⟨0, _, by omega, rfl, (grow_refl w).symm, rfl, rfl⟩
  case round =>
    obtain ⟨k, X, hk, rfl, rfl, rfl, HK⟩ := hrel
    by_cases hlt : k < l.length
    · obtain ⟨b, off, rfl, hb, c0, c1, c2, c3⟩ := HR.out.css k hlt
      have HTk := Lib.hid (show textC (l.take (k + 1)) = if l.take k = [] then toldC l[k] else textC (l.take k) ++ 32 :: toldC l[k] by rw [List.take_succ_eq_append_getElem hlt, textC_snoc])
      have HAl := Lib.hid (show (l.take (k + 1)).all rightC = ((l.take k).all rightC && rightC l[k]) by rw [List.take_succ_eq_append_getElem hlt, List.all_append]; simp)
      have HNo := Lib.hid (show rightC l[k] = false → l.all rightC = false from fun h => by
        rw [← Bool.not_eq_true, List.all_eq_true]; intro h2; rw [h2 _ (List.getElem_mem hlt)] at h; cases h)
      obtain ⟨o1, o2, o3⟩ := HS.out _ (List.getElem_mem hlt)
      have hZk := text_len (l := l.take k) (fun y hy => HS.out y (List.mem_of_mem_take hy)) (by rw [List.length_take]; omega)
      generalize l[k] = x at *
      have HRt := Lib.hid (fun W => rright_any x W o1 o2 o3)
      have HTo := Lib.hid (fun W => rtold_any x W o1 o2 o3)
      simp only [Css.agg, sv] at HRt HTo c1 c3
      have hTs := told_len x o1
      obtain ⟨T, hT⟩ : ∃ S : ByteArray, ⟨(toldC x).toArray⟩ = S := ⟨_, rfl⟩
      have hTm : T.size ≤ 2000040 := by rw [← hT]; show (toldC x).length ≤ _; omega
      have HTd : Hid (T.data.toList = toldC x) := by show _ = _; rw [← hT]
      rw [hT] at HTo
      obtain ⟨Y, hY⟩ : ∃ S : ByteArray, ⟨(textC (l.take k)).toArray⟩ = S := ⟨_, rfl⟩
      have hYm : Y.size ≤ 2000041000000 := by rw [← hY]; exact hZk
      have HYd : Hid (Y.data.toList = textC (l.take k)) := by show _ = _; rw [← hY]
      rw [hY]
      clear hT hY o1 o2 o3 hTs hZk
      generalize (⟨x.text.toArray⟩ : ByteArray) = a1 at *
      generalize (⟨x.unit.toArray⟩ : ByteArray) = a2 at *
      cases hr : rightC x
      · have HN := Lib.hid (HNo.out hr)
        rw [hr] at HRt
        have HRt2 := Lib.hid HRt.out
        clear HRt hr
        go_wp2_with (go_at_call 31; (with_reducible refine (HRt2.out _).mono ?_); rintro e w' ⟨rfl, X1, rfl⟩)
        go_ret2
        exact Ret.of (by rw [← HZ.out, ← HD.out, HN.out]; rfl) (by repeat (first | with_reducible exact Below.refl _ _ | (with_reducible refine Below.alloc ?_ (by first | omega | (simp [go_sem] <;> omega)) _) | (with_reducible refine Below.drew ?_) | (with_reducible refine Below.drewN ?_ _) | (with_reducible refine Below.grow ?_ (by first | omega | (simp [go_sem] <;> omega)) _) | (with_reducible refine Below.setCell ?_ (by first | omega | (simp [go_sem] <;> omega)) _)))
      · rw [hr] at HRt HAl
        have HRt2 := Lib.hid HRt.out
        have HK2 : Hid ((l.take (k + 1)).all rightC = true) := by show _ = _; rw [HAl.out, HK.out]; rfl
        clear HRt hr
        by_cases hk0 : k = 0
        · have hz : ¬ (0 < k) := by omega
          have HN : Hid (textC (l.take (k + 1)) = T.data.toList) := by show _ = _; rw [HTk.out, hk0, HTd.out]; rfl
          have HY0 : Hid (Y = ⟨#[]⟩) := by show _ = _; apply ba_ext; rw [HYd.out, hk0]; rfl
          clear hk0
          go_wp2_with (first | (go_at_call 31; (with_reducible refine (HRt2.out _).mono ?_); rintro e w' ⟨rfl, X1, rfl⟩) | (go_at_call 48; (with_reducible refine (HTo.out _).mono ?_); rintro e w' ⟨rfl, X2, rfl⟩))
          go_roundw
          case rel => exact ⟨k + 1, _, by omega, by go_num, by rw [grow_grow, grow_grow], str_eq (by rw [HN.out, HY0.out, nil_cat]), HK2⟩
          case measure => simp [intOf]; omega
        · have hz : 0 < k := by omega
          have HN : Hid (textC (l.take (k + 1)) = Y.data.toList ++ 32 :: T.data.toList) := by
            show _ = _
            rw [HTk.out, if_neg (by intro h; have := congrArg List.length h; rw [List.length_take, List.length_nil] at this; omega), HTd.out, HYd.out]
          clear hk0
          go_wp2_with (first | (go_at_call 31; (with_reducible refine (HRt2.out _).mono ?_); rintro e w' ⟨rfl, X1, rfl⟩) | (go_at_call 48; (with_reducible refine (HTo.out _).mono ?_); rintro e w' ⟨rfl, X2, rfl⟩))
          go_roundw
          case rel => exact ⟨k + 1, _, by omega, by go_num, by rw [grow_grow, grow_grow], str_eq (by simp only [ByteArray.data_append, Array.toList_append, HN.out]; simp), HK2⟩
          case measure => simp [intOf]; omega
    · have hk2 : k = l.length := by omega
      subst hk2
      rw [List.take_length] at HK
      rw [List.take_length]
      have HN : Hid ((⟨(textC l).toArray⟩ : ByteArray) = Z) := by show _ = _; rw [← HZ.out, HK.out, if_pos rfl]
      rw [HN.out]
      go_wp2_with fail
      go_ret2
      exact Ret.of (by rw [← HD.out, HK.out]; rfl) (by repeat (first | with_reducible exact Below.refl _ _ | (with_reducible refine Below.alloc ?_ (by first | omega | (simp [go_sem] <;> omega)) _) | (with_reducible refine Below.drew ?_) | (with_reducible refine Below.drewN ?_ _) | (with_reducible refine Below.grow ?_ (by first | omega | (simp [go_sem] <;> omega)) _) | (with_reducible refine Below.setCell ?_ (by first | omega | (simp [go_sem] <;> omega)) _)))
end Go.Proofs.YtdpgpjileffekaaGreatDoor
