/- The walks of styles: whether a piece may be told. -/
import Derived.Test.YtgcccpdadponiaaGreatDoorKB
import Derived.Test.YtgcccpdadponiaaGreatDoorCssN
namespace Go.Proofs.YtgcccpdadponiaaGreatDoor
open Go.RowKit Go.Shelf
attribute [local go_sem] Oper.semAt_some
theorem lit4_rd {W : World} {a b c d : Value} {e : TypeId} {B : Nat} (hB : B = W.heap.size) : Rd (W.alloc (.cells #[a, b, c, d] e)) (.slice (some ⟨B, 0, none⟩) 1 1) 1 4 [a, b, c, d] := by
  subst hB
  exact Rd.own (own_lit (c := #[a, b, c, d]) (n := 1) (size := 4) rfl (by decide))
theorem Mx.below {w W : World} (h : Mx w) (hb : Below w.heap.size w W) : Mx W := by
  obtain ⟨X, rfl⟩ := grow_of_below hb
  exact h.grow X
theorem Tb.below {w W : World} (h : Tb w) (hb : Below w.heap.size w W) : Tb W := by
  obtain ⟨X, rfl⟩ := grow_of_below hb
  exact h.grow X
set_option maxRecDepth 100000 in
set_option maxHeartbeats 8000000 in
theorem right_any (x : Css) (w : World) (hw : Tb w) (hx : Mx w) (ho : CssOk x) (h1 : x.text.length ≤ 1000000) (h2 : x.unit.length ≤ 1000000) : Calls Tryz.prog 42 #[Css.agg x] w (Ret (.bool (rightC x)) w) := by
  have hmx : Tryz.prog.follows .mixedOrders = true := by kernel_rfl
  have htl := told_len x ho
  obtain ⟨L, hL⟩ : ∃ L, cssL (toldC x) = L := ⟨_, rfl⟩
  have HTo := Lib.hid (fun W (hW : Tb W) => told_any x W hW ho h1 h2)
  have HSc := Lib.hid (fun W (hW : Mx W) => hL ▸ scan_any (toldC x) W hW (by omega))
  have HR : Hid (rightC x = (decide (x.kind ≠ 7) && decide (L = [x]))) := by show _ = _; rw [← hL]; rfl
  obtain ⟨T, hT⟩ : ∃ S : ByteArray, ⟨(toldC x).toArray⟩ = S := ⟨_, rfl⟩
  rw [hT] at HTo HSc
  have HCx : Hid (cssCells [x] = [.int .i64 x.kind, .string ⟨x.text.toArray⟩, .int .i64 x.num, .string ⟨x.unit.toArray⟩]) := rfl
  have HEq := Lib.hid (fun W A n c A2 n2 c2 (ha : Rd W (.slice A n c) L.length 4 (cssCells L)) (hb : Rd W (.slice A2 n2 c2) 1 4 (cssCells [x])) => equal_any A A2 n n2 c c2 L [x] W ha hb)
  simp only [Css.agg, sv] at HTo ⊢
  rw [HCx.out] at HEq
  generalize (⟨x.text.toArray⟩ : ByteArray) = a1 at *
  generalize (⟨x.unit.toArray⟩ : ByteArray) = a2 at *
  by_cases k7 : x.kind = 7
  · have b7 : (x.kind != 7) = false := by simp [k7]
    have HN : Hid (rightC x = false) := by show _ = _; rw [HR.out, k7]; simp
    generalize x.kind = k at *
    subst k7
    go_enter Tryz.func42, Tryz.ntmps42
    go_wp2_with fail
    refine wp_region_grow (by kernel_rfl) (by kernel_rfl) ?_
    repeat (go_big_quiet_step (fail))
    refine wpQuiet_nil ?_
    intro _ hw'; obtain ⟨nq, hw''⟩ := hw'; subst hw''
    go_wp2
    go_ret
    exact Ret.of (by rw [HN.out]; rfl) (by repeat (first | with_reducible exact Below.refl _ _ | (with_reducible refine Below.alloc ?_ (by first | omega | (simp [go_sem] <;> omega)) _) | (with_reducible refine Below.drew ?_) | (with_reducible refine Below.drewN ?_ _) | (with_reducible refine Below.grow ?_ (by first | omega | (simp [go_sem] <;> omega)) _) | (with_reducible refine Below.setCell ?_ (by first | omega | (simp [go_sem] <;> omega)) _)))
  · have b7 : (x.kind != 7) = true := by simp [k7]
    have HN : Hid (rightC x = decide (L = [x])) := by show _ = _; rw [HR.out, show decide (x.kind ≠ 7) = true by simp [k7]]; simp
    generalize x.kind = k at *
    generalize x.num = m at *
    clear hL hT htl HR HCx
    go_enter Tryz.func42, Tryz.ntmps42
    go_wp2_with fail
    obtain ⟨W0, hW0⟩ : ∃ W0, w.alloc (.cells #[.int .i64 k, .string a1, .int .i64 m, .string a2] 37) = W0 := ⟨_, rfl⟩
    have HBW : Hid (Below w.heap.size w W0) := by show Below _ _ _; rw [← hW0]; exact (by repeat (first | with_reducible exact Below.refl _ _ | (with_reducible refine Below.alloc ?_ (by first | omega | (simp [go_sem] <;> omega)) _) | (with_reducible refine Below.drew ?_) | (with_reducible refine Below.drewN ?_ _) | (with_reducible refine Below.grow ?_ (by first | omega | (simp [go_sem] <;> omega)) _) | (with_reducible refine Below.setCell ?_ (by first | omega | (simp [go_sem] <;> omega)) _)))
    have hlt0 : w.heap.size < W0.heap.size := by rw [← hW0]; simp
    have c0 : W0.cell? ⟨w.heap.size, 0, none⟩ = some (.int .i64 k) := by rw [← hW0]; simp [go_sem]
    have c1 : W0.cell? ⟨w.heap.size, 1, none⟩ = some (.string a1) := by rw [← hW0]; simp [go_sem]
    have c2 : W0.cell? ⟨w.heap.size, 2, none⟩ = some (.int .i64 m) := by rw [← hW0]; simp [go_sem]
    have c3 : W0.cell? ⟨w.heap.size, 3, none⟩ = some (.string a2) := by rw [← hW0]; simp [go_sem]
    have HK2 : Hid (∀ W, Below W0.heap.size W0 W → W.cell? ⟨w.heap.size, 0, none⟩ = some (.int .i64 k) ∧ W.cell? ⟨w.heap.size, 1, none⟩ = some (.string a1) ∧ W.cell? ⟨w.heap.size, 2, none⟩ = some (.int .i64 m) ∧ W.cell? ⟨w.heap.size, 3, none⟩ = some (.string a2)) :=
      fun W hW => ⟨(hW.cell hlt0).trans c0, (hW.cell hlt0).trans c1, (hW.cell hlt0).trans c2, (hW.cell hlt0).trans c3⟩
    have HTb : Hid (∀ W, Below W0.heap.size W0 W → Tb W) := fun W hW => Tb.below (Tb.below hw HBW.out) hW
    have HMx : Hid (∀ W, Below W0.heap.size W0 W → Mx W) := fun W hW => Mx.below (Mx.below hx HBW.out) hW
    rw [hW0]
    clear hW0 c0 c1 c2 c3 hw hx
    go_region_held3 (fun W => W.cell? ⟨w.heap.size, 0, none⟩ = some (.int .i64 k) ∧ W.cell? ⟨w.heap.size, 1, none⟩ = some (.string a1) ∧ W.cell? ⟨w.heap.size, 2, none⟩ = some (.int .i64 m) ∧ W.cell? ⟨w.heap.size, 3, none⟩ = some (.string a2))
      (exact HK2.out _ (by (repeat (first | with_reducible exact Below.refl _ _ | (with_reducible refine Below.alloc ?_ (by first | omega | (simp [go_sem] <;> omega)) _) | (with_reducible refine Below.drew ?_) | (with_reducible refine Below.drewN ?_ _) | (with_reducible refine Below.grow ?_ (by first | omega | (simp [go_sem] <;> omega)) _) | (with_reducible refine Below.setCell ?_ (by first | omega | (simp [go_sem] <;> omega)) _))); done))
      (first
        | (go_at_call 43; (with_reducible refine (HTo.out _ (HTb.out _ (by (repeat (first | with_reducible exact Below.refl _ _ | (with_reducible refine Below.alloc ?_ (by first | omega | (simp [go_sem] <;> omega)) _) | (with_reducible refine Below.drew ?_) | (with_reducible refine Below.drewN ?_ _) | (with_reducible refine Below.grow ?_ (by first | omega | (simp [go_sem] <;> omega)) _) | (with_reducible refine Below.setCell ?_ (by first | omega | (simp [go_sem] <;> omega)) _))); done))).mono ?_); rintro e w' ⟨rfl, X1, rfl⟩)
        | (go_at_call 22; (with_reducible refine (HSc.out _ (HMx.out _ (by (repeat (first | with_reducible exact Below.refl _ _ | (with_reducible refine Below.alloc ?_ (by first | omega | (simp [go_sem] <;> omega)) _) | (with_reducible refine Below.drew ?_) | (with_reducible refine Below.drewN ?_ _) | (with_reducible refine Below.grow ?_ (by first | omega | (simp [go_sem] <;> omega)) _) | (with_reducible refine Below.setCell ?_ (by first | omega | (simp [go_sem] <;> omega)) _))); done))).mono ?_); rintro e w' ⟨A1, c1, X2, rfl, rfl, hc1, hr1⟩; have HS := Lib.hid hr1; clear hr1)
        | (go_at_call 46; (refine (HEq.out _ _ _ _ _ _ _ (by first | exact HS.out | exact HS.out.alloc _) (by first | exact lit4_rd (by simp [go_sem]) | exact (lit4_rd (by simp [go_sem])).grow _ | exact ((lit4_rd (by simp [go_sem])).grow _).grow _)).mono ?_); rintro e w' ⟨rfl, X3, rfl⟩))
    all_goals (go_wp2; go_ret; exact Ret.of (by rw [HN.out]; rfl) (below_next HBW.out (by (repeat (first | with_reducible exact Below.refl _ _ | (with_reducible refine Below.alloc ?_ (by first | omega | (simp [go_sem] <;> omega)) _) | (with_reducible refine Below.drew ?_) | (with_reducible refine Below.drewN ?_ _) | (with_reducible refine Below.grow ?_ (by first | omega | (simp [go_sem] <;> omega)) _) | (with_reducible refine Below.setCell ?_ (by first | omega | (simp [go_sem] <;> omega)) _))); done)))
end Go.Proofs.YtgcccpdadponiaaGreatDoor
