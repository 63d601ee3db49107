/- The walks of styles by the reference: whether a piece may be told. -/
import Derived.Test.YtgcccpdadponiaaGreatDoorCssN
import Derived.Test.YtgcccpdadponiaaGreatDoorCssP
import Derived.Test.YtgcccpdadponiaaGreatDoorCssW
import Derived.Test.YtgcccpdadponiaaGreatDoorCssX
namespace Go.Proofs.YtgcccpdadponiaaGreatDoor
open Go.RowKit Go.Shelf
attribute [local go_sem] Oper.semAt_some
set_option maxRecDepth 100000 in
set_option maxHeartbeats 8000000 in
theorem rright_any (x : Css) (w : World) (ho : CssOk x) (h1 : x.text.length ≤ 1000000) (h2 : x.unit.length ≤ 1000000) : Calls Tryz.prog 53 #[Css.agg x] w (Ret (.bool (rightC x)) w) := by
  have hmx : Tryz.prog.follows .mixedOrders = true := by kernel_rfl
  have htl := told_len x ho
  obtain ⟨L, hL⟩ : ∃ L, cssL (toldC x) = L := ⟨_, rfl⟩
  obtain ⟨n, hLn⟩ : ∃ n, L.length = n := ⟨_, rfl⟩
  have hLm : n ≤ 3000000 := by
    have := scan_few _ (toldC x) (Nat.lt_succ_self _)
    change (cssL (toldC x)).length ≤ _ at this
    rw [hL, hLn] at this; omega
  have HTo := Lib.hid (fun W => rtold_any x W ho h1 h2)
  have HSc := Lib.hid (fun W => show Calls Tryz.prog 76 #[.string ⟨(toldC x).toArray⟩] W (RetS W n 4 (cssCells L)) from by
    have := rscan_any (toldC x) W (by omega)
    rwa [hL, hLn] at this)
  obtain ⟨D, hD⟩ : ∃ D, rightC x = D := ⟨_, rfl⟩
  have HR : Hid (D = (decide (x.kind ≠ 7) && decide (L = [x]))) := by show _ = _; rw [← hL, ← hD]; rfl
  rw [hD]
  obtain ⟨T, hT⟩ : ∃ S : ByteArray, ⟨(toldC x).toArray⟩ = S := ⟨_, rfl⟩
  rw [hT] at HTo HSc
  have HP := Lib.hid (fun y => css_eq y x)
  clear hT hL hD htl ho h1 h2
  obtain ⟨k, t, m, u⟩ := x
  have HX : Hid ((⟨k, t, m, u⟩ : Css) = ⟨k, t, m, u⟩) := rfl
  simp only [Css.agg, sv] at HTo ⊢
  simp only at HR HP
  have HL1 : Hid (n ≠ 1 → D = false) := fun h => by
    rw [HR.out, decide_eq_false (p := L = [_]) (by intro h2; rw [h2] at hLn; exact h hLn.symm), Bool.and_false]
  have HL2 : Hid (n = 1 → ∃ y, L = [y] ∧ (k ≠ 7 → D = decide (y = ⟨k, t, m, u⟩))) := fun h => by
    rw [h] at hLn
    obtain ⟨y, rfl⟩ := List.length_eq_one_iff.1 hLn
    refine ⟨y, rfl, fun h7 => ?_⟩
    rw [HR.out, decide_eq_true h7, Bool.true_and]
    rw [Bool.eq_iff_iff]; simp
  have HL7 : Hid (k = 7 → D = false) := fun h => by rw [HR.out, h]; simp
  clear HR hLn HX
  generalize (⟨t.toArray⟩ : ByteArray) = a1 at *
  generalize (⟨u.toArray⟩ : ByteArray) = a2 at *
  go_enter Tryz.func53, Tryz.ntmps53
  go_upto_region 2 with (first
    | (go_at_call 77; (with_reducible refine (HTo.out _).mono ?_); rintro e w' ⟨rfl, X1, rfl⟩)
    | (go_at_call 76; (with_reducible refine (HSc.out _).mono ?_); rintro e w' ⟨A1, c1, X2, rfl, rfl, hc1, hr1⟩; have HS := Lib.hid hr1; clear hr1))
  obtain ⟨W0, hW0⟩ : ∃ W0, ((w.alloc (.cells #[.int .i64 k, .string a1, .int .i64 m, .string a2] 37)).grow X1).grow X2 = W0 := ⟨_, rfl⟩
  have HBW : Hid (Below w.heap.size w W0) := by show Below _ _ _; rw [← hW0]; exact (by repeat (first | with_reducible exact Below.refl _ _ | (with_reducible refine Below.alloc ?_ (by first | omega | (simp [go_sem] <;> omega)) _) | (with_reducible refine Below.drew ?_) | (with_reducible refine Below.drewN ?_ _) | (with_reducible refine Below.grow ?_ (by first | omega | (simp [go_sem] <;> omega)) _) | (with_reducible refine Below.setCell ?_ (by first | omega | (simp [go_sem] <;> omega)) _)))
  have hlt0 : w.heap.size < W0.heap.size := by rw [← hW0]; simp [size_grow]; omega
  have c0 : W0.cell? ⟨w.heap.size, 0, none⟩ = some (.int .i64 k) := by rw [← hW0]; simp [go_sem]
  have c1' : W0.cell? ⟨w.heap.size, 1, none⟩ = some (.string a1) := by rw [← hW0]; simp [go_sem]
  have c2 : W0.cell? ⟨w.heap.size, 2, none⟩ = some (.int .i64 m) := by rw [← hW0]; simp [go_sem]
  have c3 : W0.cell? ⟨w.heap.size, 3, none⟩ = some (.string a2) := by rw [← hW0]; simp [go_sem]
  rw [hW0] at HS ⊢
  clear hW0 HTo HSc
  by_cases k7 : k = 7
  · have HN := Lib.hid (HL7.out k7)
    subst k7
    refine wp_region_grow (by kernel_rfl) (by kernel_rfl) ?_
    repeat (go_big_quiet_step (fail))
    refine wpQuiet_nil ?_
    intro _ hw'; obtain ⟨nq, hw''⟩ := hw'; subst hw''
    go_wp2
    go_ret
    exact Ret.of (by rw [HN.out]; rfl) (below_next HBW.out (by (repeat (first | with_reducible exact Below.refl _ _ | (with_reducible refine Below.alloc ?_ (by first | omega | (simp [go_sem] <;> omega)) _) | (with_reducible refine Below.drew ?_) | (with_reducible refine Below.drewN ?_ _) | (with_reducible refine Below.grow ?_ (by first | omega | (simp [go_sem] <;> omega)) _) | (with_reducible refine Below.setCell ?_ (by first | omega | (simp [go_sem] <;> omega)) _))); done))
  have b7 : (k != 7) = true := by simp [k7]
  by_cases n1 : n = 1
  · obtain ⟨y, rfl, HY⟩ := HL2.out n1
    have HY2 := Lib.hid ((HY k7).trans (HP.out y))
    subst n1
    obtain ⟨b, off, rfl, hb, d0, d1, d2, d3⟩ := Rd.css (l := [y]) HS.out 0 (by simp)
    simp only [List.getElem_cons_zero, Nat.zero_mul, Nat.add_zero, sv] at d0 d1 d2 d3
    clear HS HY HL1 HL2 HL7 HP k7
    obtain ⟨y1, y2, y3, y4⟩ := y
    simp only at HY2 d0 d1 d2 d3
    generalize (⟨y2.toArray⟩ : ByteArray) = e1 at *
    generalize (⟨y4.toArray⟩ : ByteArray) = e2 at *
    refine wp_region_grow (by kernel_rfl) (by kernel_rfl) ?_
    repeat (go_big_quiet_step (fail))
    refine wpQuiet_nil ?_
    intro _ hw'; obtain ⟨nq, hw''⟩ := hw'; subst hw''
    go_wp2
    go_ret
    exact Ret.of (by rw [HY2.out]; first | rfl | simp) (below_next HBW.out (by (repeat (first | with_reducible exact Below.refl _ _ | (with_reducible refine Below.alloc ?_ (by first | omega | (simp [go_sem] <;> omega)) _) | (with_reducible refine Below.drew ?_) | (with_reducible refine Below.drewN ?_ _) | (with_reducible refine Below.grow ?_ (by first | omega | (simp [go_sem] <;> omega)) _) | (with_reducible refine Below.setCell ?_ (by first | omega | (simp [go_sem] <;> omega)) _))); done))
  · have HN := Lib.hid (HL1.out n1)
    have bl : ((n : Int) == 1) = false := by simp; omega
    refine wp_region_grow (by kernel_rfl) (by kernel_rfl) ?_
    repeat (go_big_quiet_step (fail))
    refine wpQuiet_nil ?_
    intro _ hw'; obtain ⟨nq, hw''⟩ := hw'; subst hw''
    go_wp2
    go_ret
    exact Ret.of (by rw [HN.out]; rfl) (below_next HBW.out (by (repeat (first | with_reducible exact Below.refl _ _ | (with_reducible refine Below.alloc ?_ (by first | omega | (simp [go_sem] <;> omega)) _) | (with_reducible refine Below.drew ?_) | (with_reducible refine Below.drewN ?_ _) | (with_reducible refine Below.grow ?_ (by first | omega | (simp [go_sem] <;> omega)) _) | (with_reducible refine Below.setCell ?_ (by first | omega | (simp [go_sem] <;> omega)) _))); done))
end Go.Proofs.YtgcccpdadponiaaGreatDoor
