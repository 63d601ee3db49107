/- The walks of values of styles: the pieces of a step; a whole number at a place. -/
import Derived.Test.YtgcccpdadponiaaGreatDoorValA
namespace Go.Proofs.YtgcccpdadponiaaGreatDoor
open Go.RowKit Go.Shelf
attribute [local go_sem] Oper.semAt_some
/-- A step none of whose numbers is too great to be told. -/
structure StOk (s : St) : Prop where
  xlo : -9223372036854775 ≤ s.x
  xhi : s.x ≤ 9223372036854775
  ylo : -9223372036854775 ≤ s.y
  yhi : s.y ≤ 9223372036854775
  klo : -9223372036854775808 ≤ s.k
  khi : s.k ≤ 9223372036854775807
  deg : s.k = 2 → -9223372036854775 ≤ 90 * s.x ∧ 90 * s.x ≤ 9223372036854775
theorem lit_rd {W : World} {c : Array Value} {e : TypeId} {n size B : Nat} {cells : List Value} (hc : c.size = n * size) (hn : n ≤ maxLen) (hB : B = W.heap.size) (he : c.toList = cells) : Rd (W.alloc (.cells c e)) (.slice (some ⟨B, 0, none⟩) n n) n size cells := by
  subst hB he
  exact Rd.own (own_lit hc hn)
theorem call16_lit (nm : Bs) (b n : Nat) (l : List Css) (W : World) (h : Rd W (.slice (some ⟨b, 0, none⟩) n n) n 4 (cssCells l)) (hn : l.length = n) (hl : n ≤ 1000000000) :
    Calls Tryz.prog 50 #[.string ⟨nm.toArray⟩, .slice (some ⟨b, 0, none⟩) n n] W (RetO W (n + 2) 4 37 (cssCells (fnC nm :: l ++ [mark1 41]))) := by
  subst hn
  exact call16_any nm _ _ _ l W h (fun h => by cases h) hl
set_option maxRecDepth 100000 in
set_option maxHeartbeats 4000000 in
theorem told16_any (s : St) (w : World) (hs : StOk s) : Calls Tryz.prog 36 #[s.val] w (RetO w (toldT s).length 4 37 (cssCells (toldT s))) := by
  have hmx : Tryz.prog.follows .mixedOrders = true := by kernel_rfl
  obtain ⟨xlo, xhi, ylo, yhi, klo, khi, deg⟩ := hs
  obtain ⟨k, x, y⟩ := s
  simp only at xlo xhi ylo yhi klo khi deg
  unfold St.val
  simp only
  by_cases k1 : k = 1
  · subst k1
    have HN1 := Lib.hid (fun W => number16_any x pxT W xlo xhi)
    have HN2 := Lib.hid (fun W => number16_any y pxT W ylo yhi)
    have HMk := Lib.hid (fun W => mark16_any [44] W)
    have HC := Lib.hid (fun b W (h : Rd W (.slice (some ⟨b, 0, none⟩) 3 3) 3 4 (cssCells [nuC x pxT, mark1 44, nuC y pxT])) => call16_lit moveT b 3 [nuC x pxT, mark1 44, nuC y pxT] W h rfl (by omega))
    simp only [Css.agg, sv, nuC] at HN1 HN2 HMk
    simp only [pxT, moveT] at HN1 HN2 HC
    go_enter Tryz.func36, Tryz.ntmps36
    go_wp2_with fail
    obtain ⟨W0, hW0⟩ : ∃ W0, w.alloc (.cells #[.int .i64 1, .int .i64 x, .int .i64 y] 58) = W0 := ⟨_, rfl⟩
    have HBW : Hid (Below w.heap.size w W0) := by show Below _ _ _; rw [← hW0]; exact (by repeat (first | with_reducible exact Below.refl _ _ | (with_reducible refine Below.alloc ?_ (by first | omega | (simp [go_sem] <;> omega)) _) | (with_reducible refine Below.drew ?_) | (with_reducible refine Below.drewN ?_ _) | (with_reducible refine Below.grow ?_ (by first | omega | (simp [go_sem] <;> omega)) _) | (with_reducible refine Below.setCell ?_ (by first | omega | (simp [go_sem] <;> omega)) _)))
    have hlt0 : w.heap.size < W0.heap.size := by rw [← hW0]; simp
    have c1 : W0.cell? ⟨w.heap.size, 1, none⟩ = some (.int .i64 x) := by rw [← hW0]; simp [go_sem]
    have c2 : W0.cell? ⟨w.heap.size, 2, none⟩ = some (.int .i64 y) := by rw [← hW0]; simp [go_sem]
    have HK2 : Hid (∀ W, Below W0.heap.size W0 W → W.cell? ⟨w.heap.size, 1, none⟩ = some (.int .i64 x) ∧ W.cell? ⟨w.heap.size, 2, none⟩ = some (.int .i64 y)) := fun W hW => ⟨(hW.cell hlt0).trans c1, (hW.cell hlt0).trans c2⟩
    rw [hW0]
    clear hW0 c1 c2
    go_region_held3 (fun W => W.cell? ⟨w.heap.size, 1, none⟩ = some (.int .i64 x) ∧ W.cell? ⟨w.heap.size, 2, none⟩ = some (.int .i64 y))
      (exact HK2.out _ (by (repeat (first | with_reducible exact Below.refl _ _ | (with_reducible refine Below.alloc ?_ (by first | omega | (simp [go_sem] <;> omega)) _) | (with_reducible refine Below.drew ?_) | (with_reducible refine Below.drewN ?_ _) | (with_reducible refine Below.grow ?_ (by first | omega | (simp [go_sem] <;> omega)) _) | (with_reducible refine Below.setCell ?_ (by first | omega | (simp [go_sem] <;> omega)) _))); done))
      (first
        | (go_at_call 60; (with_reducible refine (HN1.out _).mono ?_); rintro e w' ⟨rfl, X1, rfl⟩)
        | (go_at_call 60; (with_reducible refine (HN2.out _).mono ?_); rintro e w' ⟨rfl, X3, rfl⟩)
        | (go_at_call 27; (with_reducible refine (HMk.out _).mono ?_); rintro e w' ⟨rfl, X2, rfl⟩)
        | (go_at_call 50; (refine (HC.out _ _ (by first | exact lit_rd (n := 3) (size := 4) rfl (by decide) rfl rfl | exact lit_rd (n := 3) (size := 4) rfl (by decide) (by simp [go_sem]) rfl)).mono ?_); rintro e w' ⟨v4, X4, rfl, rfl, ho4⟩))
    all_goals (go_wp2; go_ret; exact RetO.own (below_next HBW.out (by (repeat (first | with_reducible exact Below.refl _ _ | (with_reducible refine Below.alloc ?_ (by first | omega | (simp [go_sem] <;> omega)) _) | (with_reducible refine Below.drew ?_) | (with_reducible refine Below.drewN ?_ _) | (with_reducible refine Below.grow ?_ (by first | omega | (simp [go_sem] <;> omega)) _) | (with_reducible refine Below.setCell ?_ (by first | omega | (simp [go_sem] <;> omega)) _))); done)) ho4 (by have := HBW.out.size; simp [size_grow] <;> omega))
  have b1 : (k == 1) = false := by simpa using k1
  by_cases k2 : k = 2
  · subst k2
    have HN1 := Lib.hid (fun W => number16_any (90 * x) degT W (deg rfl).1 (deg rfl).2)
    have HC := Lib.hid (fun b W (h : Rd W (.slice (some ⟨b, 0, none⟩) 1 1) 1 4 (cssCells [nuC (90 * x) degT])) => call16_lit turnT b 1 [nuC (90 * x) degT] W h rfl (by omega))
    have hd1 := (deg rfl).1
    have hd2 := (deg rfl).2
    simp only [Css.agg, sv, nuC] at HN1
    simp only [degT, turnT] at HN1 HC
    go_enter Tryz.func36, Tryz.ntmps36
    go_wp2_with (first
      | (go_at_call 60; (with_reducible refine (HN1.out _).mono ?_); rintro e w' ⟨rfl, X1, rfl⟩)
      | (go_at_call 50; (refine (HC.out _ _ (by first | exact lit_rd (n := 1) (size := 4) rfl (by decide) rfl rfl | exact lit_rd (n := 1) (size := 4) rfl (by decide) (by simp [go_sem]) rfl)).mono ?_); rintro e w' ⟨v4, X4, rfl, rfl, ho4⟩))
    go_ret
    exact RetO.own (by repeat (first | with_reducible exact Below.refl _ _ | (with_reducible refine Below.alloc ?_ (by first | omega | (simp [go_sem] <;> omega)) _) | (with_reducible refine Below.drew ?_) | (with_reducible refine Below.drewN ?_ _) | (with_reducible refine Below.grow ?_ (by first | omega | (simp [go_sem] <;> omega)) _) | (with_reducible refine Below.setCell ?_ (by first | omega | (simp [go_sem] <;> omega)) _))) ho4 (by simp [size_grow] <;> omega)
  have b2 : (k == 2) = false := by simpa using k2
  by_cases k3 : k = 3
  · subst k3
    have HN1 := Lib.hid (fun W => number16_any x [] W xlo xhi)
    have HC := Lib.hid (fun b W (h : Rd W (.slice (some ⟨b, 0, none⟩) 1 1) 1 4 (cssCells [nuC x []])) => call16_lit scaleT b 1 [nuC x []] W h rfl (by omega))
    simp only [Css.agg, sv, nuC] at HN1
    simp only [scaleT] at HN1 HC
    go_enter Tryz.func36, Tryz.ntmps36
    go_wp2_with (first
      | (go_at_call 60; (with_reducible refine (HN1.out _).mono ?_); rintro e w' ⟨rfl, X1, rfl⟩)
      | (go_at_call 50; (refine (HC.out _ _ (by first | exact lit_rd (n := 1) (size := 4) rfl (by decide) rfl rfl | exact lit_rd (n := 1) (size := 4) rfl (by decide) (by simp [go_sem]) rfl)).mono ?_); rintro e w' ⟨v4, X4, rfl, rfl, ho4⟩))
    go_ret
    exact RetO.own (by repeat (first | with_reducible exact Below.refl _ _ | (with_reducible refine Below.alloc ?_ (by first | omega | (simp [go_sem] <;> omega)) _) | (with_reducible refine Below.drew ?_) | (with_reducible refine Below.drewN ?_ _) | (with_reducible refine Below.grow ?_ (by first | omega | (simp [go_sem] <;> omega)) _) | (with_reducible refine Below.setCell ?_ (by first | omega | (simp [go_sem] <;> omega)) _))) ho4 (by simp [size_grow] <;> omega)
  have b3 : (k == 3) = false := by simpa using k3
  have HT : Hid (toldT ⟨k, x, y⟩ = fnC flipT :: [nuC (-1) []] ++ [mark1 41]) := by
    show _ = _; unfold toldT; rw [if_neg k1, if_neg k2, if_neg k3]; rfl
  rw [HT.out]
  have HN1 := Lib.hid (fun W => number16_any (-1) [] W (by omega) (by omega))
  have HC := Lib.hid (fun b W (h : Rd W (.slice (some ⟨b, 0, none⟩) 1 1) 1 4 (cssCells [nuC (-1) []])) => call16_lit flipT b 1 [nuC (-1) []] W h rfl (by omega))
  simp only [Css.agg, sv, nuC] at HN1
  simp only [flipT] at HN1 HC
  go_enter Tryz.func36, Tryz.ntmps36
  go_wp2_with (first
    | (go_at_call 60; (with_reducible refine (HN1.out _).mono ?_); rintro e w' ⟨rfl, X1, rfl⟩)
    | (go_at_call 50; (refine (HC.out _ _ (by first | exact lit_rd (n := 1) (size := 4) rfl (by decide) rfl rfl | exact lit_rd (n := 1) (size := 4) rfl (by decide) (by simp [go_sem]) rfl)).mono ?_); rintro e w' ⟨v4, X4, rfl, rfl, ho4⟩))
  go_ret
  exact RetO.own (by repeat (first | with_reducible exact Below.refl _ _ | (with_reducible refine Below.alloc ?_ (by first | omega | (simp [go_sem] <;> omega)) _) | (with_reducible refine Below.drew ?_) | (with_reducible refine Below.drewN ?_ _) | (with_reducible refine Below.grow ?_ (by first | omega | (simp [go_sem] <;> omega)) _) | (with_reducible refine Below.setCell ?_ (by first | omega | (simp [go_sem] <;> omega)) _))) ho4 (by simp [size_grow] <;> omega)
theorem tdiv_abs (n : Int) : (n.tdiv 1000).natAbs = n.natAbs / 1000 := by rw [Int.natAbs_tdiv]; rfl
set_option maxHeartbeats 1600000 in
theorem at16_any (A : Option Addr) (n c : Nat) (l : List Css) (i : Nat) (w : World) (h : Rd w (.slice A n c) l.length 4 (cssCells l)) (_ : l.length ≤ 1000000000) (hok : ∀ x ∈ l, CssOk x) :
    Calls Tryz.prog 56 #[.slice A n c, .int .i64 i] w (Ret (.int .i64 (atI l i)) w) := by
  have HR := Lib.hid h
  obtain ⟨_, hm, A', c', heq, _⟩ := h
  cases heq
  by_cases hlt : i < l.length
  · obtain ⟨b, off, rfl, hb, c0, c1, c2, c3⟩ := HR.out.css i hlt
    have HN : Hid (atI l i = l[i].num.tdiv 1000) := by show _ = _; unfold atI; rw [List.getElem?_eq_getElem hlt]
    have bi : ¬ ((l.length : Int) ≤ i) := by omega
    have hbd := hok _ (List.getElem_mem hlt)
    have q1 := hbd.nlo
    have q2 := hbd.nhi
    have hq : wrap64 (l[i].num.tdiv 1000) = l[i].num.tdiv 1000 := IntWalk.wrap64_in _ (by have e := tdiv_abs l[i].num; omega)
    clear hbd hok
    generalize l[i] = x at *
    simp only [sv] at c1 c3
    generalize x.num = nn at *
    generalize x.kind = kk at *
    generalize (⟨x.text.toArray⟩ : ByteArray) = a1 at *
    generalize (⟨x.unit.toArray⟩ : ByteArray) = a2 at *
    go_enter Tryz.func56, Tryz.ntmps56
    go_wp2_with fail
    go_ret
    exact Ret.of (by rw [HN.out]; first | rfl | simp) (by repeat (first | with_reducible exact Below.refl _ _ | (with_reducible refine Below.alloc ?_ (by first | omega | (simp [go_sem] <;> omega)) _) | (with_reducible refine Below.drew ?_) | (with_reducible refine Below.drewN ?_ _) | (with_reducible refine Below.grow ?_ (by first | omega | (simp [go_sem] <;> omega)) _) | (with_reducible refine Below.setCell ?_ (by first | omega | (simp [go_sem] <;> omega)) _)))
  · have HN : Hid (atI l i = 0) := by show _ = _; unfold atI; rw [List.getElem?_eq_none (by omega)]
    have bi : (l.length : Int) ≤ i := by omega
    go_enter Tryz.func56, Tryz.ntmps56
    go_wp2_with fail
    go_ret
    exact Ret.of (by rw [HN.out]; rfl) (by repeat (first | with_reducible exact Below.refl _ _ | (with_reducible refine Below.alloc ?_ (by first | omega | (simp [go_sem] <;> omega)) _) | (with_reducible refine Below.drew ?_) | (with_reducible refine Below.drewN ?_ _) | (with_reducible refine Below.grow ?_ (by first | omega | (simp [go_sem] <;> omega)) _) | (with_reducible refine Below.setCell ?_ (by first | omega | (simp [go_sem] <;> omega)) _)))
end Go.Proofs.YtgcccpdadponiaaGreatDoor
