/- The walks of declarations by the reference: whether lists are short, which may be told, and as what text. -/
import Derived.Test.YtdpgpjileffekaaGreatDoorCssZ
import Derived.Test.YtdpgpjileffekaaGreatDoorDecI
import Derived.Test.YtdpgpjileffekaaGreatDoorDecM
namespace Go.Proofs.YtdpgpjileffekaaGreatDoor
open Go.RowKit Go.Shelf
attribute [local go_sem] Oper.semAt_some
set_option maxRecDepth 100000 in
set_option maxHeartbeats 4000000 in
theorem rfewd_any (A : Option Addr) (n c : Nat) (l : List Dcl) (w : World) (h : RdD w (.slice A n c) l) :
    Calls Tryz.prog 12 #[.slice A n c] w (Ret (.bool (fewD l)) w) := by
  have hmx : Tryz.prog.follows .mixedOrders = true := by kernel_rfl
  have HR := Lib.hid h
  obtain ⟨vs0, _, _, hm, A', c', heq, _⟩ := h
  cases heq
  obtain ⟨D, hD⟩ : ∃ D, fewD l = D := ⟨_, rfl⟩
  have HD : Hid (D = (l.all few14 && decide (l.length ≤ 30))) := hD.symm
  rw [hD]
  clear hD
  go_enter Tryz.func12, Tryz.ntmps12
  go_wp2_with fail
  go_loopw [3] (fun i wr => ∃ (k : Nat) (X : Gr), k ≤ l.length ∧ i = .int .i64 k ∧ wr = w.grow X ∧ Hid ((l.take k).all few14 = true)) (fun i _ => l.length - (intOf i).toNat)
  case atStart => exact ⟨0, _, by omega, rfl, (grow_refl w).symm, rfl⟩
  case round =>
    obtain ⟨k, X, hk, rfl, rfl, HK⟩ := hrel
    by_cases hlt : k < l.length
    · obtain ⟨b, off, vd, rfl, hb, ⟨Av, cv, rfl, _, hcv, hrd⟩, c0, c1, c2⟩ := HR.out.at k hlt
      have HAl := Lib.hid (show (l.take (k + 1)).all few14 = ((l.take k).all few14 && few14 l[k]) by rw [List.take_succ_eq_append_getElem hlt, List.all_append]; simp)
      have HNo := Lib.hid (show few14 l[k] = false → l.all few14 = false from fun h => by
        rw [← Bool.not_eq_true, List.all_eq_true]; intro h2; rw [h2 _ (List.getElem_mem hlt)] at h; cases h)
      generalize l[k] = d at *
      have HF := Lib.hid (fun W (hB : Below w.heap.size w W) => show Calls Tryz.prog 28 #[.slice Av d.value.length cv] W (Ret (.bool (fewB d.value)) W) from by
        obtain ⟨X, rfl⟩ := grow_of_below hB
        exact few_any Av d.value.length cv d.value (w.grow X) (hrd.grow X))
      have H1 : Hid (few14 d = (fewB d.value && decide (d.name.length ≤ 200))) := rfl
      have z1 : (⟨d.name.toArray⟩ : ByteArray).size = d.name.length := rfl
      simp only [sv] at c0
      generalize d.name.length = nl at *
      generalize (⟨d.name.toArray⟩ : ByteArray) = nm at *
      generalize d.value.length = vl at *
      generalize fewB d.value = f at *
      generalize d.imp = im at *
      cases f
      · have HN : Hid (D = false) := by show _ = _; rw [HD.out, HNo.out (by rw [H1.out]; rfl)]; rfl
        have HF' := Lib.hid HF.out
        clear HF hrd
        go_wp2_with (go_at_call 28; (with_reducible refine (HF'.out _ (by repeat (first | with_reducible exact Below.refl _ _ | (with_reducible refine Below.alloc ?_ (by first | omega | (simp [go_sem] <;> omega)) _) | (with_reducible refine Below.drew ?_) | (with_reducible refine Below.drewN ?_ _) | (with_reducible refine Below.grow ?_ (by first | omega | (simp [go_sem] <;> omega)) _) | (with_reducible refine Below.setCell ?_ (by first | omega | (simp [go_sem] <;> omega)) _)))).mono ?_); rintro e w' ⟨rfl, X1, rfl⟩)
        go_ret
        exact Ret.of (by rw [HN.out]; rfl) (by repeat (first | with_reducible exact Below.refl _ _ | (with_reducible refine Below.alloc ?_ (by first | omega | (simp [go_sem] <;> omega)) _) | (with_reducible refine Below.drew ?_) | (with_reducible refine Below.drewN ?_ _) | (with_reducible refine Below.grow ?_ (by first | omega | (simp [go_sem] <;> omega)) _) | (with_reducible refine Below.setCell ?_ (by first | omega | (simp [go_sem] <;> omega)) _)))
      · have HF' := Lib.hid HF.out
        clear HF hrd
        by_cases h5 : 200 < nl
        · have b5 : decide ((200 : Int) < nm.size) = true := by rw [z1]; simp; omega
          have HN : Hid (D = false) := by show _ = _; rw [HD.out, HNo.out (by rw [H1.out, decide_eq_false (by omega)]; rfl)]; rfl
          go_wp2_with (go_at_call 28; (with_reducible refine (HF'.out _ (by repeat (first | with_reducible exact Below.refl _ _ | (with_reducible refine Below.alloc ?_ (by first | omega | (simp [go_sem] <;> omega)) _) | (with_reducible refine Below.drew ?_) | (with_reducible refine Below.drewN ?_ _) | (with_reducible refine Below.grow ?_ (by first | omega | (simp [go_sem] <;> omega)) _) | (with_reducible refine Below.setCell ?_ (by first | omega | (simp [go_sem] <;> omega)) _)))).mono ?_); rintro e w' ⟨rfl, X1, rfl⟩)
          go_ret
          exact Ret.of (by rw [HN.out]; rfl) (by repeat (first | with_reducible exact Below.refl _ _ | (with_reducible refine Below.alloc ?_ (by first | omega | (simp [go_sem] <;> omega)) _) | (with_reducible refine Below.drew ?_) | (with_reducible refine Below.drewN ?_ _) | (with_reducible refine Below.grow ?_ (by first | omega | (simp [go_sem] <;> omega)) _) | (with_reducible refine Below.setCell ?_ (by first | omega | (simp [go_sem] <;> omega)) _)))
        · have b5 : decide ((200 : Int) < nm.size) = false := by rw [z1]; simp; omega
          have HN : Hid ((l.take (k + 1)).all few14 = true) := by show _ = _; rw [HAl.out, HK.out, H1.out, decide_eq_true (by omega)]; rfl
          go_wp2_with (go_at_call 28; (with_reducible refine (HF'.out _ (by repeat (first | with_reducible exact Below.refl _ _ | (with_reducible refine Below.alloc ?_ (by first | omega | (simp [go_sem] <;> omega)) _) | (with_reducible refine Below.drew ?_) | (with_reducible refine Below.drewN ?_ _) | (with_reducible refine Below.grow ?_ (by first | omega | (simp [go_sem] <;> omega)) _) | (with_reducible refine Below.setCell ?_ (by first | omega | (simp [go_sem] <;> omega)) _)))).mono ?_); rintro e w' ⟨rfl, X1, rfl⟩)
          go_roundw
          case rel => exact ⟨k + 1, _, by omega, by go_num, by first | rfl | rw [grow_grow], HN⟩
          case measure => simp [intOf]; omega
    · have hk2 : k = l.length := by omega
      subst hk2
      rw [List.take_length] at HK
      have HN : Hid (D = decide (l.length ≤ 30)) := by show _ = _; rw [HD.out, HK.out]; rfl
      by_cases h1 : l.length ≤ 30
      · have b1 : decide ((l.length : Int) ≤ 30) = true := by simp; omega
        go_wp2
        go_ret
        exact Ret.of (by rw [HN.out, decide_eq_true h1]; simp; try omega) (by repeat (first | with_reducible exact Below.refl _ _ | (with_reducible refine Below.alloc ?_ (by first | omega | (simp [go_sem] <;> omega)) _) | (with_reducible refine Below.drew ?_) | (with_reducible refine Below.drewN ?_ _) | (with_reducible refine Below.grow ?_ (by first | omega | (simp [go_sem] <;> omega)) _) | (with_reducible refine Below.setCell ?_ (by first | omega | (simp [go_sem] <;> omega)) _)))
      · have b1 : decide ((l.length : Int) ≤ 30) = false := by simp; omega
        go_wp2
        go_ret
        exact Ret.of (by rw [HN.out, decide_eq_false h1]; simp; try omega) (by repeat (first | with_reducible exact Below.refl _ _ | (with_reducible refine Below.alloc ?_ (by first | omega | (simp [go_sem] <;> omega)) _) | (with_reducible refine Below.drew ?_) | (with_reducible refine Below.drewN ?_ _) | (with_reducible refine Below.grow ?_ (by first | omega | (simp [go_sem] <;> omega)) _) | (with_reducible refine Below.setCell ?_ (by first | omega | (simp [go_sem] <;> omega)) _)))
set_option maxRecDepth 100000 in
set_option maxHeartbeats 4000000 in
theorem rdright_any (d : Dcl) (A : Option Addr) (c : Nat) (w : World) (hv : Rd w (.slice A d.value.length c) d.value.length 4 (cssCells d.value)) (hs : ShortD d) :
    Calls Tryz.prog 14 #[.agg #[sv d.name, .slice A d.value.length c, .bool d.imp]] w (Ret (.bool (rightD d)) w) := by
  have hmx : Tryz.prog.follows .mixedOrders = true := by kernel_rfl
  obtain ⟨s1, s2, s3⟩ := hs
  have HS := Lib.hid s1
  obtain ⟨M, hM⟩ : ∃ D, mayC d.value = D := ⟨_, rfl⟩
  obtain ⟨R, hR⟩ : ∃ D, rightC (idC d) = D := ⟨_, rfl⟩
  obtain ⟨D, hD⟩ : ∃ D, rightD d = D := ⟨_, rfl⟩
  have HE : Hid (D = (d.value.all rightC && M && R)) := by show _ = _; rw [← hD, right_D, hM, hR]
  have HM := Lib.hid (fun W (hB : Below w.heap.size w W) => show Calls Tryz.prog 32 #[.slice A d.value.length c] W (Ret (.bool M) W) from by
    obtain ⟨X, rfl⟩ := grow_of_below hB
    have := rmay_any A d.value.length c d.value (w.grow X) (hv.grow X) (by omega)
    rwa [hM] at this)
  have HR := Lib.hid (fun W => show Calls Tryz.prog 31 #[.agg #[.int .i64 1, sv d.name, .int .i64 0, .string ⟨#[]⟩]] W (Ret (.bool R) W) from by
    have := rright_any (idC d) W ⟨by simp [idC], by simp [idC], by simp [idC], by simp [idC]⟩ s3 (by simp [idC])
    rwa [hR] at this)
  rw [hD]
  generalize hl : d.value = l at *
  have HV := Lib.hid hv
  simp only [sv] at HR ⊢
  generalize (⟨d.name.toArray⟩ : ByteArray) = nm at *
  generalize d.imp = im at *
  clear hD hM hR hv s1 s3 hl
  go_enter Tryz.func14, Tryz.ntmps14
  go_wp2_with fail
  obtain ⟨W0, hW0⟩ : ∃ W0, w.alloc (.cells #[.string nm, .slice A l.length c, .bool im] 31) = W0 := ⟨_, rfl⟩
  have HBW : Hid (Below w.heap.size w W0) := by show Below _ _ _; rw [← hW0]; exact (by repeat (first | with_reducible exact Below.refl _ _ | (with_reducible refine Below.alloc ?_ (by first | omega | (simp [go_sem] <;> omega)) _) | (with_reducible refine Below.drew ?_) | (with_reducible refine Below.drewN ?_ _) | (with_reducible refine Below.grow ?_ (by first | omega | (simp [go_sem] <;> omega)) _) | (with_reducible refine Below.setCell ?_ (by first | omega | (simp [go_sem] <;> omega)) _)))
  have hlt0 : w.heap.size < W0.heap.size := by rw [← hW0]; simp
  have c0 : W0.cell? ⟨w.heap.size, 0, none⟩ = some (.string nm) := by rw [← hW0]; simp [go_sem]
  have c1 : W0.cell? ⟨w.heap.size, 1, none⟩ = some (.slice A l.length c) := by rw [← hW0]; simp [go_sem]
  have c2 : W0.cell? ⟨w.heap.size, 2, none⟩ = some (.bool im) := by rw [← hW0]; simp [go_sem]
  have HV0 : Hid (Rd W0 (.slice A l.length c) l.length 4 (cssCells l)) := by show Rd _ _ _ _ _; rw [← hW0]; exact HV.out.alloc _
  rw [hW0]
  clear hW0
  go_loopw [3] (fun i wr => ∃ (k : Nat) (X : Gr), k ≤ l.length ∧ i = .int .i64 k ∧ wr = W0.grow X ∧ Hid ((l.take k).all rightC = true)) (fun i _ => l.length - (intOf i).toNat)
  case atStart => exact ⟨0, _, by omega, rfl, (grow_refl W0).symm, rfl⟩
  case round =>
    obtain ⟨k, X, hk, rfl, rfl, HK⟩ := hrel
    by_cases hlt : k < l.length
    · obtain ⟨b, off, rfl, hb, d0, d1, d2, d3⟩ := HV0.out.css k hlt
      have HAl := Lib.hid (show (l.take (k + 1)).all rightC = ((l.take k).all rightC && rightC l[k]) by rw [List.take_succ_eq_append_getElem hlt, List.all_append]; simp)
      have HNo := Lib.hid (show rightC l[k] = false → l.all rightC = false from fun h => by
        rw [← Bool.not_eq_true, List.all_eq_true]; intro h2; rw [h2 _ (List.getElem_mem hlt)] at h; cases h)
      obtain ⟨o1, o2, o3⟩ := HS.out _ (List.getElem_mem hlt)
      generalize l[k] = x at *
      have HRt := Lib.hid (fun W => rright_any x W o1 o2 o3)
      simp only [Css.agg, sv] at HRt d1 d3
      clear o1 o2 o3
      generalize (⟨x.text.toArray⟩ : ByteArray) = a1 at *
      generalize (⟨x.unit.toArray⟩ : ByteArray) = a2 at *
      cases hr : rightC x
      · have HN : Hid (D = false) := by show _ = _; rw [HE.out, HNo.out hr]; rfl
        rw [hr] at HRt
        have HRt2 := Lib.hid HRt.out
        clear HRt hr
        go_wp2_with (go_at_call 31; (with_reducible refine (HRt2.out _).mono ?_); rintro e w' ⟨rfl, X1, rfl⟩)
        go_ret
        exact Ret.of (by rw [HN.out]; rfl) (below_next HBW.out (by (repeat (first | with_reducible exact Below.refl _ _ | (with_reducible refine Below.alloc ?_ (by first | omega | (simp [go_sem] <;> omega)) _) | (with_reducible refine Below.drew ?_) | (with_reducible refine Below.drewN ?_ _) | (with_reducible refine Below.grow ?_ (by first | omega | (simp [go_sem] <;> omega)) _) | (with_reducible refine Below.setCell ?_ (by first | omega | (simp [go_sem] <;> omega)) _))); done))
      · have HN : Hid ((l.take (k + 1)).all rightC = true) := by show _ = _; rw [HAl.out, HK.out, hr]; rfl
        rw [hr] at HRt
        have HRt2 := Lib.hid HRt.out
        clear HRt hr
        go_wp2_with (go_at_call 31; (with_reducible refine (HRt2.out _).mono ?_); rintro e w' ⟨rfl, X1, rfl⟩)
        go_roundw
        case rel => exact ⟨k + 1, _, by omega, by go_num, by first | rfl | rw [grow_grow], HN⟩
        case measure => simp [intOf]; omega
    · have hk2 : k = l.length := by omega
      subst hk2
      rw [List.take_length] at HK
      have HN : Hid (D = (M && R)) := by show _ = _; rw [HE.out, HK.out]; rfl
      cases R
      · have HN2 : Hid (D = false) := by show _ = _; rw [HN.out]; simp
        have HR2 := Lib.hid HR.out
        clear HR
        go_wp2_with (go_at_call 31; (with_reducible refine (HR2.out _).mono ?_); rintro e w' ⟨rfl, X3, rfl⟩)
        go_ret
        exact Ret.of (by rw [HN2.out]; rfl) (below_next HBW.out (by (repeat (first | with_reducible exact Below.refl _ _ | (with_reducible refine Below.alloc ?_ (by first | omega | (simp [go_sem] <;> omega)) _) | (with_reducible refine Below.drew ?_) | (with_reducible refine Below.drewN ?_ _) | (with_reducible refine Below.grow ?_ (by first | omega | (simp [go_sem] <;> omega)) _) | (with_reducible refine Below.setCell ?_ (by first | omega | (simp [go_sem] <;> omega)) _))); done))
      · have HN2 : Hid (D = M) := by show _ = _; rw [HN.out]; simp
        have HR2 := Lib.hid HR.out
        clear HR
        go_wp2_with (first | (go_at_call 31; (with_reducible refine (HR2.out _).mono ?_); rintro e w' ⟨rfl, X3, rfl⟩) | (go_at_call 32; (with_reducible refine (HM.out _ (below_next HBW.out (by (repeat (first | with_reducible exact Below.refl _ _ | (with_reducible refine Below.alloc ?_ (by first | omega | (simp [go_sem] <;> omega)) _) | (with_reducible refine Below.drew ?_) | (with_reducible refine Below.drewN ?_ _) | (with_reducible refine Below.grow ?_ (by first | omega | (simp [go_sem] <;> omega)) _) | (with_reducible refine Below.setCell ?_ (by first | omega | (simp [go_sem] <;> omega)) _))); done))).mono ?_); rintro e w' ⟨rfl, X4, rfl⟩))
        go_ret
        exact Ret.of (by rw [HN2.out]; rfl) (below_next HBW.out (by (repeat (first | with_reducible exact Below.refl _ _ | (with_reducible refine Below.alloc ?_ (by first | omega | (simp [go_sem] <;> omega)) _) | (with_reducible refine Below.drew ?_) | (with_reducible refine Below.drewN ?_ _) | (with_reducible refine Below.grow ?_ (by first | omega | (simp [go_sem] <;> omega)) _) | (with_reducible refine Below.setCell ?_ (by first | omega | (simp [go_sem] <;> omega)) _))); done))
theorem joinS_snoc (us : List Bs) (u : Bs) : joinS (us ++ [u]) = if us = [] then u else joinS us ++ 59 :: 32 :: u := by
  induction us with
  | nil => rfl
  | cons v us ih =>
    cases us with
    | nil => rfl
    | cons v2 us =>
      rw [if_neg (by simp)] at ih ⊢
      rw [List.cons_append, List.cons_append, joinS, ← List.cons_append, ih, joinS]
      simp
theorem textD_snoc (l : List Dcl) (d : Dcl) : textD (l ++ [d]) = if l = [] then toldD d else textD l ++ 59 :: 32 :: toldD d := by
  unfold textD
  rw [List.map_append, List.map_singleton, joinS_snoc]
  cases l <;> simp
theorem textD_len {l : List Dcl} (hs : ∀ d ∈ l, ShortD d) (hl : l.length ≤ 2000) : (textD l).length ≤ 40004000004000 := by
  have h1 := joinS_len 20002000000 (l.map toldD) (fun u hu => by
    rw [List.mem_map] at hu
    obtain ⟨x, hx, rfl⟩ := hu
    exact toldD_len (hs x hx))
  rw [List.length_map] at h1
  unfold textD; omega
set_option maxRecDepth 100000 in
set_option maxHeartbeats 8000000 in
theorem rdtext_any (A : Option Addr) (n c : Nat) (l : List Dcl) (w : World) (h : RdD w (.slice A n c) l) (hs : ∀ d ∈ l, ShortD d) (hl : l.length ≤ 2000) :
    Calls Tryz.prog 16 #[.slice A n c] w (Ret (.tuple #[.string ⟨(if l.all rightD then textD l else []).toArray⟩, .bool (l.all rightD)]) w) := by
  have hmx : Tryz.prog.follows .mixedOrders = true := by kernel_rfl
  have HR := Lib.hid h
  have HS := Lib.hid hs
  obtain ⟨vs0, _, _, hm, A', c', heq, _⟩ := h
  cases heq
  obtain ⟨Z, hZ⟩ : ∃ Z : ByteArray, ⟨(if l.all rightD then textD l else []).toArray⟩ = Z := ⟨_, rfl⟩
  have HZ := Lib.hid hZ
  obtain ⟨D, hD⟩ : ∃ D, l.all rightD = D := ⟨_, rfl⟩
  have HD := Lib.hid hD
  rw [hZ, hD]
  clear hs hZ hD
  go_enter Tryz.func16, Tryz.ntmps16
  go_wp2_with fail
  go_loopw [4, 5] (fun o i wr => ∃ (k : Nat) (X : Gr), k ≤ l.length ∧ i = .int .i64 k ∧ wr = w.grow X ∧ o = .string ⟨(textD (l.take k)).toArray⟩ ∧ Hid ((l.take k).all rightD = true)) (fun _ i _ => l.length - (intOf i).toNat)
  case atStart => exact ⟨0, _, by omega, rfl, (grow_refl w).symm, rfl, rfl⟩
  case round =>
    obtain ⟨k, X, hk, rfl, rfl, rfl, HK⟩ := hrel
    by_cases hlt : k < l.length
    · obtain ⟨b, off, vd, rfl, hb, ⟨Av, cv, rfl, _, hcv, hrd⟩, c0, c1, c2⟩ := HR.out.at k hlt
      have HTk := Lib.hid (show textD (l.take (k + 1)) = if l.take k = [] then toldD l[k] else textD (l.take k) ++ 59 :: 32 :: toldD l[k] by rw [List.take_succ_eq_append_getElem hlt, textD_snoc])
      have HAl := Lib.hid (show (l.take (k + 1)).all rightD = ((l.take k).all rightD && rightD l[k]) by rw [List.take_succ_eq_append_getElem hlt, List.all_append]; simp)
      have HNo := Lib.hid (show rightD l[k] = false → l.all rightD = false from fun h => by
        rw [← Bool.not_eq_true, List.all_eq_true]; intro h2; rw [h2 _ (List.getElem_mem hlt)] at h; cases h)
      have hsd := HS.out _ (List.getElem_mem hlt)
      have hZk := textD_len (l := l.take k) (fun y hy => HS.out y (List.mem_of_mem_take hy)) (by rw [List.length_take]; omega)
      generalize l[k] = d at *
      have htl := textC_len hsd.1 hsd.2.1
      have hnl := hsd.2.2
      have HRt := Lib.hid (fun W (hB : Below w.heap.size w W) => show Calls Tryz.prog 14 #[.agg #[sv d.name, .slice Av d.value.length cv, .bool d.imp]] W (Ret (.bool (rightD d)) W) from by
        obtain ⟨X, rfl⟩ := grow_of_below hB
        exact rdright_any d Av cv (w.grow X) (hrd.grow X) hsd)
      have HTo := Lib.hid (fun (hr : rightD d = true) W (hB : Below w.heap.size w W) => show Calls Tryz.prog 34 #[.slice Av d.value.length cv] W (Ret (.tuple #[.string ⟨(textC d.value).toArray⟩, .bool true]) W) from by
        obtain ⟨X, rfl⟩ := grow_of_below hB
        have := rtext_any Av d.value.length cv d.value (w.grow X) (hrd.grow X) hsd.1 (by have := hsd.2.1; omega)
        have h2 : d.value.all rightC = true := by
          rw [right_D, Bool.and_eq_true, Bool.and_eq_true] at hr; exact hr.1.1
        rwa [h2, if_pos rfl] at this)
      have HTl : Hid (toldD d = d.name ++ [58, 32] ++ textC d.value ++ (if d.imp then impS else [])) := rfl
      generalize hdi : d.imp = im at *
      generalize hdt : textC d.value = T0 at *
      generalize hdn : d.name = N0 at *
      generalize d.value.length = m at *
      simp only [sv] at HRt c0
      obtain ⟨T, hT⟩ : ∃ S : ByteArray, ⟨T0.toArray⟩ = S := ⟨_, rfl⟩
      obtain ⟨N, hN⟩ : ∃ S : ByteArray, ⟨N0.toArray⟩ = S := ⟨_, rfl⟩
      have hTs : T.size ≤ 20000410000 := by rw [← hT]; exact htl
      have hNs : N.size ≤ 1000000 := by rw [← hN]; exact hnl
      have HTN : Hid (T0 = T.data.toList ∧ N0 = N.data.toList) := by rw [← hT, ← hN]; exact ⟨rfl, rfl⟩
      obtain ⟨Y, hY⟩ : ∃ S : ByteArray, ⟨(textD (l.take k)).toArray⟩ = S := ⟨_, rfl⟩
      have hYm : Y.size ≤ 40004000004000 := by rw [← hY]; exact hZk
      have HYd : Hid (Y.data.toList = textD (l.take k)) := by show _ = _; rw [← hY]
      rw [hY]
      rw [hT] at HTo
      rw [hN] at HRt c0
      clear hT hN hY hsd hrd htl hnl hdi hdt hdn hZk
      cases hr : rightD d
      · have HN := Lib.hid (HNo.out hr)
        rw [hr] at HRt
        have HRt2 := Lib.hid HRt.out
        clear HRt hr
        go_wp2_with (go_at_call 14; go_loud (with_reducible refine (HRt2.out _ (by repeat (first | with_reducible exact Below.refl _ _ | (with_reducible refine Below.alloc ?_ (by first | omega | (simp [go_sem] <;> omega)) _) | (with_reducible refine Below.drew ?_) | (with_reducible refine Below.drewN ?_ _) | (with_reducible refine Below.grow ?_ (by first | omega | (simp [go_sem] <;> omega)) _) | (with_reducible refine Below.setCell ?_ (by first | omega | (simp [go_sem] <;> omega)) _)))).mono ?_); rintro e w' ⟨rfl, X1, rfl⟩)
        go_ret2
        exact Ret.of (by rw [← HZ.out, ← HD.out, HN.out]; rfl) (by repeat (first | with_reducible exact Below.refl _ _ | (with_reducible refine Below.alloc ?_ (by first | omega | (simp [go_sem] <;> omega)) _) | (with_reducible refine Below.drew ?_) | (with_reducible refine Below.drewN ?_ _) | (with_reducible refine Below.grow ?_ (by first | omega | (simp [go_sem] <;> omega)) _) | (with_reducible refine Below.setCell ?_ (by first | omega | (simp [go_sem] <;> omega)) _)))
      · have HTo2 := Lib.hid (HTo.out hr)
        rw [hr] at HRt HAl
        have HRt2 := Lib.hid HRt.out
        have HK2 : Hid ((l.take (k + 1)).all rightD = true) := by show _ = _; rw [HAl.out, HK.out]; rfl
        clear HRt hr HTo
        have HIm : Hid (∀ b : Bool, ((if b then impS else []) : Bs) = if b then [32, 33, 32, 105, 109, 112, 111, 114, 116, 97, 110, 116] else []) := fun b => by cases b <;> rfl
        by_cases hk0 : k = 0
        · have hz : ¬ (0 < k) := by omega
          have HN : Hid (textD (l.take (k + 1)) = N.data.toList ++ [58, 32] ++ T.data.toList ++ (if im then [32, 33, 32, 105, 109, 112, 111, 114, 116, 97, 110, 116] else [])) := by show _ = _; rw [HTk.out, hk0, ← HIm.out, ← HTN.out.1, ← HTN.out.2, ← HTl.out]; rfl
          have HY0 : Hid (Y = ⟨#[]⟩) := by show _ = _; apply ba_ext; rw [HYd.out, hk0]; rfl
          clear hk0
          cases im
          · go_wp2_with (first | (go_at_call 14; go_loud (with_reducible refine (HRt2.out _ (by repeat (first | with_reducible exact Below.refl _ _ | (with_reducible refine Below.alloc ?_ (by first | omega | (simp [go_sem] <;> omega)) _) | (with_reducible refine Below.drew ?_) | (with_reducible refine Below.drewN ?_ _) | (with_reducible refine Below.grow ?_ (by first | omega | (simp [go_sem] <;> omega)) _) | (with_reducible refine Below.setCell ?_ (by first | omega | (simp [go_sem] <;> omega)) _)))).mono ?_); rintro e w' ⟨rfl, X1, rfl⟩) | (go_at_call 34; go_loud (with_reducible refine (HTo2.out _ (by repeat (first | with_reducible exact Below.refl _ _ | (with_reducible refine Below.alloc ?_ (by first | omega | (simp [go_sem] <;> omega)) _) | (with_reducible refine Below.drew ?_) | (with_reducible refine Below.drewN ?_ _) | (with_reducible refine Below.grow ?_ (by first | omega | (simp [go_sem] <;> omega)) _) | (with_reducible refine Below.setCell ?_ (by first | omega | (simp [go_sem] <;> omega)) _)))).mono ?_); rintro e w' ⟨rfl, X2, rfl⟩))
            go_roundw
            case rel => exact ⟨k + 1, _, by omega, by go_num, by first | rfl | rw [grow_grow, grow_grow], str_eq (by simp only [ByteArray.data_append, Array.toList_append, HN.out, HY0.out]; simp), HK2⟩
            case measure => simp [intOf]; omega
          · go_wp2_with (first | (go_at_call 14; go_loud (with_reducible refine (HRt2.out _ (by repeat (first | with_reducible exact Below.refl _ _ | (with_reducible refine Below.alloc ?_ (by first | omega | (simp [go_sem] <;> omega)) _) | (with_reducible refine Below.drew ?_) | (with_reducible refine Below.drewN ?_ _) | (with_reducible refine Below.grow ?_ (by first | omega | (simp [go_sem] <;> omega)) _) | (with_reducible refine Below.setCell ?_ (by first | omega | (simp [go_sem] <;> omega)) _)))).mono ?_); rintro e w' ⟨rfl, X1, rfl⟩) | (go_at_call 34; go_loud (with_reducible refine (HTo2.out _ (by repeat (first | with_reducible exact Below.refl _ _ | (with_reducible refine Below.alloc ?_ (by first | omega | (simp [go_sem] <;> omega)) _) | (with_reducible refine Below.drew ?_) | (with_reducible refine Below.drewN ?_ _) | (with_reducible refine Below.grow ?_ (by first | omega | (simp [go_sem] <;> omega)) _) | (with_reducible refine Below.setCell ?_ (by first | omega | (simp [go_sem] <;> omega)) _)))).mono ?_); rintro e w' ⟨rfl, X2, rfl⟩))
            go_roundw
            case rel => exact ⟨k + 1, _, by omega, by go_num, by first | rfl | rw [grow_grow, grow_grow], str_eq (by simp only [ByteArray.data_append, Array.toList_append, HN.out, HY0.out]; simp), HK2⟩
            case measure => simp [intOf]; omega
        · have hz : 0 < k := by omega
          have HN : Hid (textD (l.take (k + 1)) = Y.data.toList ++ 59 :: 32 :: (N.data.toList ++ [58, 32] ++ T.data.toList ++ (if im then [32, 33, 32, 105, 109, 112, 111, 114, 116, 97, 110, 116] else []))) := by
            show _ = _
            rw [HTk.out, if_neg (by intro h; have := congrArg List.length h; rw [List.length_take, List.length_nil] at this; omega), ← HIm.out, ← HTN.out.1, ← HTN.out.2, ← HTl.out, HYd.out]
          clear hk0
          cases im
          · go_wp2_with (first | (go_at_call 14; go_loud (with_reducible refine (HRt2.out _ (by repeat (first | with_reducible exact Below.refl _ _ | (with_reducible refine Below.alloc ?_ (by first | omega | (simp [go_sem] <;> omega)) _) | (with_reducible refine Below.drew ?_) | (with_reducible refine Below.drewN ?_ _) | (with_reducible refine Below.grow ?_ (by first | omega | (simp [go_sem] <;> omega)) _) | (with_reducible refine Below.setCell ?_ (by first | omega | (simp [go_sem] <;> omega)) _)))).mono ?_); rintro e w' ⟨rfl, X1, rfl⟩) | (go_at_call 34; go_loud (with_reducible refine (HTo2.out _ (by repeat (first | with_reducible exact Below.refl _ _ | (with_reducible refine Below.alloc ?_ (by first | omega | (simp [go_sem] <;> omega)) _) | (with_reducible refine Below.drew ?_) | (with_reducible refine Below.drewN ?_ _) | (with_reducible refine Below.grow ?_ (by first | omega | (simp [go_sem] <;> omega)) _) | (with_reducible refine Below.setCell ?_ (by first | omega | (simp [go_sem] <;> omega)) _)))).mono ?_); rintro e w' ⟨rfl, X2, rfl⟩))
            go_roundw
            case rel => exact ⟨k + 1, _, by omega, by go_num, by first | rfl | rw [grow_grow, grow_grow], str_eq (by simp only [ByteArray.data_append, Array.toList_append, HN.out]; simp), HK2⟩
            case measure => simp [intOf]; omega
          · go_wp2_with (first | (go_at_call 14; go_loud (with_reducible refine (HRt2.out _ (by repeat (first | with_reducible exact Below.refl _ _ | (with_reducible refine Below.alloc ?_ (by first | omega | (simp [go_sem] <;> omega)) _) | (with_reducible refine Below.drew ?_) | (with_reducible refine Below.drewN ?_ _) | (with_reducible refine Below.grow ?_ (by first | omega | (simp [go_sem] <;> omega)) _) | (with_reducible refine Below.setCell ?_ (by first | omega | (simp [go_sem] <;> omega)) _)))).mono ?_); rintro e w' ⟨rfl, X1, rfl⟩) | (go_at_call 34; go_loud (with_reducible refine (HTo2.out _ (by repeat (first | with_reducible exact Below.refl _ _ | (with_reducible refine Below.alloc ?_ (by first | omega | (simp [go_sem] <;> omega)) _) | (with_reducible refine Below.drew ?_) | (with_reducible refine Below.drewN ?_ _) | (with_reducible refine Below.grow ?_ (by first | omega | (simp [go_sem] <;> omega)) _) | (with_reducible refine Below.setCell ?_ (by first | omega | (simp [go_sem] <;> omega)) _)))).mono ?_); rintro e w' ⟨rfl, X2, rfl⟩))
            go_roundw
            case rel => exact ⟨k + 1, _, by omega, by go_num, by first | rfl | rw [grow_grow, grow_grow], str_eq (by simp only [ByteArray.data_append, Array.toList_append, HN.out]; simp), HK2⟩
            case measure => simp [intOf]; omega
    · have hk2 : k = l.length := by omega
      subst hk2
      rw [List.take_length] at HK
      rw [List.take_length]
      have HN : Hid ((⟨(textD l).toArray⟩ : ByteArray) = Z) := by show _ = _; rw [← HZ.out, HK.out, if_pos rfl]
      rw [HN.out]
      go_wp2_with fail
      go_ret2
      exact Ret.of (by rw [← HD.out, HK.out]; rfl) (by repeat (first | with_reducible exact Below.refl _ _ | (with_reducible refine Below.alloc ?_ (by first | omega | (simp [go_sem] <;> omega)) _) | (with_reducible refine Below.drew ?_) | (with_reducible refine Below.drewN ?_ _) | (with_reducible refine Below.grow ?_ (by first | omega | (simp [go_sem] <;> omega)) _) | (with_reducible refine Below.setCell ?_ (by first | omega | (simp [go_sem] <;> omega)) _)))
end Go.Proofs.YtdpgpjileffekaaGreatDoor
