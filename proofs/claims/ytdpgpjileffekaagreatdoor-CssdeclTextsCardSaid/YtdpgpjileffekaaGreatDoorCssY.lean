/- The walks of styles by the reference: whether a piece may be told; pieces as text. -/
import Derived.Test.YtdpgpjileffekaaGreatDoorCssN
import Derived.Test.YtdpgpjileffekaaGreatDoorCssP
import Derived.Test.YtdpgpjileffekaaGreatDoorCssW
import Derived.Test.YtdpgpjileffekaaGreatDoorCssX
namespace Go.Proofs.YtdpgpjileffekaaGreatDoor
open Go.RowKit Go.Shelf
attribute [local go_sem] Oper.semAt_some
set_option maxRecDepth 100000 in
set_option maxHeartbeats 8000000 in
theorem rright_any (x : Css) (w : World) (ho : CssOk x) (h1 : x.text.length ≤ 1000000) (h2 : x.unit.length ≤ 1000000) : Calls Tryz.prog 31 #[Css.agg x] w (Ret (.bool (rightC x)) w) := by
  have hmx : Tryz.prog.follows .mixedOrders = true := by kernel_rfl
  have htl := told_len x ho
  obtain ⟨L, hL⟩ : ∃ L, cssL (toldC x) = L := ⟨_, rfl⟩
  obtain ⟨n, hLn⟩ : ∃ n, L.length = n := ⟨_, rfl⟩
  have hLm : n ≤ 3000000 := by
    have := scan_few _ (toldC x) (Nat.lt_succ_self _)
    change (cssL (toldC x)).length ≤ _ at this
    rw [hL, hLn] at this; omega
  have HTo := Lib.hid (fun W => rtold_any x W ho h1 h2)
  have HSc := Lib.hid (fun W => show Calls Tryz.prog 25 #[.string ⟨(toldC x).toArray⟩] W (RetS W n 4 (cssCells L)) from by
    have := rscan_any (toldC x) W (by omega)
    rwa [hL, hLn] at this)
  obtain ⟨D, hD⟩ : ∃ D, rightC x = D := ⟨_, rfl⟩
  have HR : Hid (D = (decide (x.kind ≠ 7) && decide (L = [x]))) := by show _ = _; rw [← hL, ← hD]; rfl
  rw [hD]
  obtain ⟨T, hT⟩ : ∃ S : ByteArray, ⟨(toldC x).toArray⟩ = S := ⟨_, rfl⟩
  rw [hT] at HTo HSc
  have HP := Lib.hid (fun y => css_eq y x)
  clear hT hL hD htl ho h1 h2
  obtain ⟨k, t, m, u⟩ := x
  have HX : Hid ((⟨k, t, m, u⟩ : Css) = ⟨k, t, m, u⟩) := rfl
  simp only [Css.agg, sv] at HTo ⊢
  simp only at HR HP
  have HL1 : Hid (n ≠ 1 → D = false) := fun h => by
    rw [HR.out, decide_eq_false (p := L = [_]) (by intro h2; rw [h2] at hLn; exact h hLn.symm), Bool.and_false]
  have HL2 : Hid (n = 1 → ∃ y, L = [y] ∧ (k ≠ 7 → D = decide (y = ⟨k, t, m, u⟩))) := fun h => by
    rw [h] at hLn
    obtain ⟨y, rfl⟩ := List.length_eq_one_iff.1 hLn
    refine ⟨y, rfl, fun h7 => ?_⟩
    rw [HR.out, decide_eq_true h7, Bool.true_and]
    rw [Bool.eq_iff_iff]; simp
  have HL7 : Hid (k = 7 → D = false) := fun h => by rw [HR.out, h]; simp
  clear HR hLn HX
  generalize (⟨t.toArray⟩ : ByteArray) = a1 at *
  generalize (⟨u.toArray⟩ : ByteArray) = a2 at *
  go_enter Tryz.func31, Tryz.ntmps31
  go_upto_region 2 with (first
    | (go_at_call 48; (with_reducible refine (HTo.out _).mono ?_); rintro e w' ⟨rfl, X1, rfl⟩)
    | (go_at_call 25; (with_reducible refine (HSc.out _).mono ?_); rintro e w' ⟨A1, c1, X2, rfl, rfl, hc1, hr1⟩; have HS := Lib.hid hr1; clear hr1))
  obtain ⟨W0, hW0⟩ : ∃ W0, ((w.alloc (.cells #[.int .i64 k, .string a1, .int .i64 m, .string a2] 36)).grow X1).grow X2 = W0 := ⟨_, rfl⟩
  have HBW : Hid (Below w.heap.size w W0) := by show Below _ _ _; rw [← hW0]; exact (by repeat (first | with_reducible exact Below.refl _ _ | (with_reducible refine Below.alloc ?_ (by first | omega | (simp [go_sem] <;> omega)) _) | (with_reducible refine Below.drew ?_) | (with_reducible refine Below.drewN ?_ _) | (with_reducible refine Below.grow ?_ (by first | omega | (simp [go_sem] <;> omega)) _) | (with_reducible refine Below.setCell ?_ (by first | omega | (simp [go_sem] <;> omega)) _)))
  have hlt0 : w.heap.size < W0.heap.size := by rw [← hW0]; simp [size_grow]; omega
  have c0 : W0.cell? ⟨w.heap.size, 0, none⟩ = some (.int .i64 k) := by rw [← hW0]; simp [go_sem]
  have c1' : W0.cell? ⟨w.heap.size, 1, none⟩ = some (.string a1) := by rw [← hW0]; simp [go_sem]
  have c2 : W0.cell? ⟨w.heap.size, 2, none⟩ = some (.int .i64 m) := by rw [← hW0]; simp [go_sem]
  have c3 : W0.cell? ⟨w.heap.size, 3, none⟩ = some (.string a2) := by rw [← hW0]; simp [go_sem]
  rw [hW0] at HS ⊢
  clear hW0 HTo HSc
  by_cases k7 : k = 7
  · have HN := Lib.hid (HL7.out k7)
    subst k7
    refine wp_region_grow (by kernel_rfl) (by kernel_rfl) ?_
    repeat (go_big_quiet_step (fail))
    refine wpQuiet_nil ?_
    intro _ hw'; obtain ⟨nq, hw''⟩ := hw'; subst hw''
    go_wp2
    go_ret
    exact Ret.of (by rw [HN.out]; rfl) (below_next HBW.out (by (repeat (first | with_reducible exact Below.refl _ _ | (with_reducible refine Below.alloc ?_ (by first | omega | (simp [go_sem] <;> omega)) _) | (with_reducible refine Below.drew ?_) | (with_reducible refine Below.drewN ?_ _) | (with_reducible refine Below.grow ?_ (by first | omega | (simp [go_sem] <;> omega)) _) | (with_reducible refine Below.setCell ?_ (by first | omega | (simp [go_sem] <;> omega)) _))); done))
  have b7 : (k != 7) = true := by simp [k7]
  by_cases n1 : n = 1
  · obtain ⟨y, rfl, HY⟩ := HL2.out n1
    have HY2 := Lib.hid ((HY k7).trans (HP.out y))
    subst n1
    obtain ⟨b, off, rfl, hb, d0, d1, d2, d3⟩ := Rd.css (l := [y]) HS.out 0 (by simp)
    simp only [List.getElem_cons_zero, Nat.zero_mul, Nat.add_zero, sv] at d0 d1 d2 d3
    clear HS HY HL1 HL2 HL7 HP k7
    obtain ⟨y1, y2, y3, y4⟩ := y
    simp only at HY2 d0 d1 d2 d3
    generalize (⟨y2.toArray⟩ : ByteArray) = e1 at *
    generalize (⟨y4.toArray⟩ : ByteArray) = e2 at *
    refine wp_region_grow (by kernel_rfl) (by kernel_rfl) ?_
    repeat (go_big_quiet_step (fail))
    refine wpQuiet_nil ?_
    intro _ hw'; obtain ⟨nq, hw''⟩ := hw'; subst hw''
    go_wp2
    go_ret
    exact Ret.of (by rw [HY2.out]; first | rfl | simp) (below_next HBW.out (by (repeat (first | with_reducible exact Below.refl _ _ | (with_reducible refine Below.alloc ?_ (by first | omega | (simp [go_sem] <;> omega)) _) | (with_reducible refine Below.drew ?_) | (with_reducible refine Below.drewN ?_ _) | (with_reducible refine Below.grow ?_ (by first | omega | (simp [go_sem] <;> omega)) _) | (with_reducible refine Below.setCell ?_ (by first | omega | (simp [go_sem] <;> omega)) _))); done))
  · have HN := Lib.hid (HL1.out n1)
    have bl : ((n : Int) == 1) = false := by simp; omega
    refine wp_region_grow (by kernel_rfl) (by kernel_rfl) ?_
    repeat (go_big_quiet_step (fail))
    refine wpQuiet_nil ?_
    intro _ hw'; obtain ⟨nq, hw''⟩ := hw'; subst hw''
    go_wp2
    go_ret
    exact Ret.of (by rw [HN.out]; rfl) (below_next HBW.out (by (repeat (first | with_reducible exact Below.refl _ _ | (with_reducible refine Below.alloc ?_ (by first | omega | (simp [go_sem] <;> omega)) _) | (with_reducible refine Below.drew ?_) | (with_reducible refine Below.drewN ?_ _) | (with_reducible refine Below.grow ?_ (by first | omega | (simp [go_sem] <;> omega)) _) | (with_reducible refine Below.setCell ?_ (by first | omega | (simp [go_sem] <;> omega)) _))); done))
theorem joinC_snoc (us : List Bs) (u : Bs) : joinC (us ++ [u]) = if us = [] then u else joinC us ++ 32 :: u := by
  induction us with
  | nil => rfl
  | cons v us ih =>
    cases us with
    | nil => rfl
    | cons v2 us =>
      rw [if_neg (by simp)] at ih ⊢
      rw [List.cons_append, List.cons_append, joinC, ← List.cons_append, ih, joinC]
      simp
theorem textC_snoc (l : List Css) (x : Css) : textC (l ++ [x]) = if l = [] then toldC x else textC l ++ 32 :: toldC x := by
  unfold textC
  rw [List.map_append, List.map_singleton, joinC_snoc]
  cases l <;> simp
theorem text_len {l : List Css} (hs : Short l) (hl : l.length ≤ 1000000) : (textC l).length ≤ 2000041000000 := by
  have h1 := join_len 2000040 (l.map toldC) (fun u hu => by
    rw [List.mem_map] at hu
    obtain ⟨x, hx, rfl⟩ := hu
    obtain ⟨o1, o2, o3⟩ := hs x hx
    have := told_len x o1
    omega)
  rw [List.length_map] at h1
  unfold textC; omega
theorem nil_cat (V : ByteArray) : (⟨#[]⟩ : ByteArray) ++ V = V := by
  apply ba_ext
  rw [ByteArray.data_append]; simp
set_option maxRecDepth 100000 in
set_option maxHeartbeats 8000000 in
theorem rtext_any (A : Option Addr) (n c : Nat) (l : List Css) (w : World) (h : Rd w (.slice A n c) l.length 4 (cssCells l)) (hs : Short l) (hl : l.length ≤ 1000000) :
    Calls Tryz.prog 34 #[.slice A n c] w (Ret (.tuple #[.string ⟨(if l.all rightC then textC l else []).toArray⟩, .bool (l.all rightC)]) w) := by
  have HR := Lib.hid h
  have HS := Lib.hid hs
  obtain ⟨_, hm, A', c', heq, _⟩ := h
  cases heq
  obtain ⟨Z, hZ⟩ : ∃ Z : ByteArray, ⟨(if l.all rightC then textC l else []).toArray⟩ = Z := ⟨_, rfl⟩
  have HZ := Lib.hid hZ
  obtain ⟨D, hD⟩ : ∃ D, l.all rightC = D := ⟨_, rfl⟩
  have HD := Lib.hid hD
  rw [hZ, hD]
  clear hs hZ hD
  go_enter Tryz.func34, Tryz.ntmps34
  go_wp2_with fail
  go_loopw [4, 5] (fun o i wr => ∃ (k : Nat) (X : Gr), k ≤ l.length ∧ i = .int .i64 k ∧ wr = w.grow X ∧ o = .string ⟨(textC (l.take k)).toArray⟩ ∧ Hid ((l.take k).all rightC = true)) (fun _ i _ => l.length - (intOf i).toNat)
  case atStart => exact ⟨0, _, by omega, rfl, (grow_refl w).symm, rfl, rfl⟩
  case round =>
    obtain ⟨k, X, hk, rfl, rfl, rfl, HK⟩ := hrel
    by_cases hlt : k < l.length
    · obtain ⟨b, off, rfl, hb, c0, c1, c2, c3⟩ := HR.out.css k hlt
      have HTk := Lib.hid (show textC (l.take (k + 1)) = if l.take k = [] then toldC l[k] else textC (l.take k) ++ 32 :: toldC l[k] by rw [List.take_succ_eq_append_getElem hlt, textC_snoc])
      have HAl := Lib.hid (show (l.take (k + 1)).all rightC = ((l.take k).all rightC && rightC l[k]) by rw [List.take_succ_eq_append_getElem hlt, List.all_append]; simp)
      have HNo := Lib.hid (show rightC l[k] = false → l.all rightC = false from fun h => by
        rw [← Bool.not_eq_true, List.all_eq_true]; intro h2; rw [h2 _ (List.getElem_mem hlt)] at h; cases h)
      obtain ⟨o1, o2, o3⟩ := HS.out _ (List.getElem_mem hlt)
      have hZk := text_len (l := l.take k) (fun y hy => HS.out y (List.mem_of_mem_take hy)) (by rw [List.length_take]; omega)
      generalize l[k] = x at *
      have HRt := Lib.hid (fun W => rright_any x W o1 o2 o3)
      have HTo := Lib.hid (fun W => rtold_any x W o1 o2 o3)
      simp only [Css.agg, sv] at HRt HTo c1 c3
      have hTs := told_len x o1
      obtain ⟨T, hT⟩ : ∃ S : ByteArray, ⟨(toldC x).toArray⟩ = S := ⟨_, rfl⟩
      have hTm : T.size ≤ 2000040 := by rw [← hT]; show (toldC x).length ≤ _; omega
      have HTd : Hid (T.data.toList = toldC x) := by show _ = _; rw [← hT]
      rw [hT] at HTo
      obtain ⟨Y, hY⟩ : ∃ S : ByteArray, ⟨(textC (l.take k)).toArray⟩ = S := ⟨_, rfl⟩
      have hYm : Y.size ≤ 2000041000000 := by rw [← hY]; exact hZk
      have HYd : Hid (Y.data.toList = textC (l.take k)) := by show _ = _; rw [← hY]
      rw [hY]
      clear hT hY o1 o2 o3 hTs hZk
      generalize (⟨x.text.toArray⟩ : ByteArray) = a1 at *
      generalize (⟨x.unit.toArray⟩ : ByteArray) = a2 at *
      cases hr : rightC x
      · have HN := Lib.hid (HNo.out hr)
        rw [hr] at HRt
        have HRt2 := Lib.hid HRt.out
        clear HRt hr
        go_wp2_with (go_at_call 31; (with_reducible refine (HRt2.out _).mono ?_); rintro e w' ⟨rfl, X1, rfl⟩)
        go_ret2
        exact Ret.of (by rw [← HZ.out, ← HD.out, HN.out]; rfl) (by repeat (first | with_reducible exact Below.refl _ _ | (with_reducible refine Below.alloc ?_ (by first | omega | (simp [go_sem] <;> omega)) _) | (with_reducible refine Below.drew ?_) | (with_reducible refine Below.drewN ?_ _) | (with_reducible refine Below.grow ?_ (by first | omega | (simp [go_sem] <;> omega)) _) | (with_reducible refine Below.setCell ?_ (by first | omega | (simp [go_sem] <;> omega)) _)))
      · rw [hr] at HRt HAl
        have HRt2 := Lib.hid HRt.out
        have HK2 : Hid ((l.take (k + 1)).all rightC = true) := by show _ = _; rw [HAl.out, HK.out]; rfl
        clear HRt hr
        by_cases hk0 : k = 0
        · have hz : ¬ (0 < k) := by omega
          have HN : Hid (textC (l.take (k + 1)) = T.data.toList) := by show _ = _; rw [HTk.out, hk0, HTd.out]; rfl
          have HY0 : Hid (Y = ⟨#[]⟩) := by show _ = _; apply ba_ext; rw [HYd.out, hk0]; rfl
          clear hk0
          go_wp2_with (first | (go_at_call 31; (with_reducible refine (HRt2.out _).mono ?_); rintro e w' ⟨rfl, X1, rfl⟩) | (go_at_call 48; (with_reducible refine (HTo.out _).mono ?_); rintro e w' ⟨rfl, X2, rfl⟩))
          go_roundw
          case rel => exact ⟨k + 1, _, by omega, by go_num, by rw [grow_grow, grow_grow], str_eq (by rw [HN.out, HY0.out, nil_cat]), HK2⟩
          case measure => simp [intOf]; omega
        · have hz : 0 < k := by omega
          have HN : Hid (textC (l.take (k + 1)) = Y.data.toList ++ 32 :: T.data.toList) := by
            show _ = _
            rw [HTk.out, if_neg (by intro h; have := congrArg List.length h; rw [List.length_take, List.length_nil] at this; omega), HTd.out, HYd.out]
          clear hk0
          go_wp2_with (first | (go_at_call 31; (with_reducible refine (HRt2.out _).mono ?_); rintro e w' ⟨rfl, X1, rfl⟩) | (go_at_call 48; (with_reducible refine (HTo.out _).mono ?_); rintro e w' ⟨rfl, X2, rfl⟩))
          go_roundw
          case rel => exact ⟨k + 1, _, by omega, by go_num, by rw [grow_grow, grow_grow], str_eq (by simp only [ByteArray.data_append, Array.toList_append, HN.out]; simp), HK2⟩
          case measure => simp [intOf]; omega
    · have hk2 : k = l.length := by omega
      subst hk2
      rw [List.take_length] at HK
      rw [List.take_length]
      have HN : Hid ((⟨(textC l).toArray⟩ : ByteArray) = Z) := by show _ = _; rw [← HZ.out, HK.out, if_pos rfl]
      rw [HN.out]
      go_wp2_with fail
      go_ret2
      exact Ret.of (by rw [← HD.out, HK.out]; rfl) (by repeat (first | with_reducible exact Below.refl _ _ | (with_reducible refine Below.alloc ?_ (by first | omega | (simp [go_sem] <;> omega)) _) | (with_reducible refine Below.drew ?_) | (with_reducible refine Below.drewN ?_ _) | (with_reducible refine Below.grow ?_ (by first | omega | (simp [go_sem] <;> omega)) _) | (with_reducible refine Below.setCell ?_ (by first | omega | (simp [go_sem] <;> omega)) _)))
end Go.Proofs.YtdpgpjileffekaaGreatDoor
