/- The walks of values of styles: a value of movements, made neat. -/
import Derived.Lib.SliceRun
import Derived.Test.YtgcccpdadponiaaGreatDoorCssSl
import Derived.Test.YtgcccpdadponiaaGreatDoorValH
namespace Go.Proofs.YtgcccpdadponiaaGreatDoor
open Go.RowKit Go.Shelf
attribute [local go_sem] Oper.semAt_some
theorem cloneF_any (A : Option Addr) (n c : Nat) (l : List Css) (w : World) (h : Rd w (.slice A n c) l.length 4 (cssCells l)) (hA : A = none → c = 0) (hl : l.length ≤ 1000000000) :
    Calls Tryz.prog 23 #[.slice A n c] w fun e w' => ∃ A' c', e = .returned (.slice A' l.length c') ∧ Below w.heap.size w w' ∧ (A' = none → c' = 0) ∧ l.length ≤ c' ∧ Rd w' (.slice A' l.length c') l.length 4 (cssCells l) := by
  cases A with
  | some ad =>
    refine (cloneO_any ad n c l w h hl).mono ?_
    rintro e w' ⟨v, X, rfl, rfl, ho⟩
    obtain ⟨A', c', rfl, hc⟩ := own_cap ho
    exact ⟨A', c', rfl, below_grow w X, own_nil ho, hc, Rd.own ho⟩
  | none =>
    have hn : l.length = n := by obtain ⟨_, _, _, _, he, _⟩ := h; cases he; rfl
    have h0 : n = 0 := by
      rcases Nat.eq_zero_or_pos n with h0 | h0
      · exact h0
      · obtain ⟨_, _, _, _, he, h4⟩ := h
        cases he
        obtain ⟨_, _, h5, _⟩ := h4 (by omega)
        cases h5
    obtain rfl : l = [] := List.eq_nil_of_length_eq_zero (by omega)
    subst h0
    obtain rfl := hA rfl
    clear h hA hn
    have hnil : ∀ W : World, (binOp .eql 22 (.slice none 0 0) (.slice none 0 0)).run Tryz.prog W = .ok (.bool true) W := fun W => Lib.run_eql_slice_nil W _ _ none 0 0 0 0 Tryz.underlying22
    go_enter Tryz.func23, Tryz.ntmps23
    go_wp2_with fail
    go_ret
    exact ⟨none, 0, rfl, (by repeat (first | with_reducible exact Below.refl _ _ | (with_reducible refine Below.alloc ?_ (by first | omega | (simp [go_sem] <;> omega)) _) | (with_reducible refine Below.drew ?_) | (with_reducible refine Below.drewN ?_ _) | (with_reducible refine Below.grow ?_ (by first | omega | (simp [go_sem] <;> omega)) _) | (with_reducible refine Below.setCell ?_ (by first | omega | (simp [go_sem] <;> omega)) _))), fun _ => rfl, Nat.le_refl _, Rd.nil _ _⟩
theorem nil_neat : neatOf [] = [] ∧ neatE [] = 0 := by constructor <;> rfl
set_option maxRecDepth 100000 in
set_option maxHeartbeats 2000000 in
theorem moves16_any (A : Option Addr) (n c : Nat) (l : List Css) (w : World) (h : Rd w (.slice A n c) l.length 4 (cssCells l)) (hA : A = none → c = 0) (hc : l.length ≤ c) (hp : ∀ x ∈ l, CssOk x) (hl : l.length ≤ 100000000) : Calls Tryz.prog 24 #[.slice A n c] w (RetV w (movesT l)) := by
  have hmx : Tryz.prog.follows .mixedOrders = true := by kernel_rfl
  have hn0 : n = l.length := by obtain ⟨_, _, _, _, he, _⟩ := h; cases he; rfl
  subst hn0
  have HRd := Lib.hid (fun W (hB : Below w.heap.size w W) => show Rd W (.slice A l.length c) l.length 4 (cssCells l) from by obtain ⟨X, rfl⟩ := grow_of_below hB; exact h.grow X)
  have HA := Lib.hid hA
  have HSt := Lib.hid (fun W (hB : Below w.heap.size w W) => steps_any A l.length c l W (HRd.out W hB) hc hp hl)
  have HCx : Hid (cssCells [noneC] = [.int .i64 1, .string ⟨#[110, 111, 110, 101]⟩, .int .i64 0, .string ⟨#[]⟩]) := rfl
  have HEq := Lib.hid (fun W (hB : Below w.heap.size w W) A2 n2 c2 (hb : Rd W (.slice A2 n2 c2) 1 4 (cssCells [noneC])) => equal_any A A2 l.length n2 c c2 l [noneC] W (HRd.out W hB) hb)
  rw [HCx.out] at HEq
  clear h hp
  have EQ : ∀ d : Bool, d = d := fun _ => rfl
  clear EQ
  by_cases hd : l = [noneC]
  · rw [decide_eq_true hd] at HEq
    have HEq2 := Lib.hid HEq.out
    have HN : Hid (movesT l = some l) := by show _ = _; unfold movesT; rw [if_pos hd, hd]
    clear hd HEq
    go_enter Tryz.func24, Tryz.ntmps24
    go_wp2_with (go_at_call 46; (refine (HEq2.out _ (by (repeat (first | with_reducible exact Below.refl _ _ | (with_reducible refine Below.alloc ?_ (by first | omega | (simp [go_sem] <;> omega)) _) | (with_reducible refine Below.drew ?_) | (with_reducible refine Below.drewN ?_ _) | (with_reducible refine Below.grow ?_ (by first | omega | (simp [go_sem] <;> omega)) _) | (with_reducible refine Below.setCell ?_ (by first | omega | (simp [go_sem] <;> omega)) _))); done) _ _ _ (lit4_rd (by simp [go_sem]))).mono ?_); rintro e w' ⟨rfl, X3, rfl⟩)
    go_ret2
    rw [HN.out]
    exact RetV.rd (by repeat (first | with_reducible exact Below.refl _ _ | (with_reducible refine Below.alloc ?_ (by first | omega | (simp [go_sem] <;> omega)) _) | (with_reducible refine Below.drew ?_) | (with_reducible refine Below.drewN ?_ _) | (with_reducible refine Below.grow ?_ (by first | omega | (simp [go_sem] <;> omega)) _) | (with_reducible refine Below.setCell ?_ (by first | omega | (simp [go_sem] <;> omega)) _))) rfl rfl HA.out hc (HRd.out _ (by repeat (first | with_reducible exact Below.refl _ _ | (with_reducible refine Below.alloc ?_ (by first | omega | (simp [go_sem] <;> omega)) _) | (with_reducible refine Below.drew ?_) | (with_reducible refine Below.drewN ?_ _) | (with_reducible refine Below.grow ?_ (by first | omega | (simp [go_sem] <;> omega)) _) | (with_reducible refine Below.setCell ?_ (by first | omega | (simp [go_sem] <;> omega)) _))))
  rw [decide_eq_false hd] at HEq
  have HEq2 := Lib.hid HEq.out
  clear HEq
  have HM : Hid (movesT l = match stepsT l with
    | none => none
    | some ss => if neatE ss = 0 then (if neatOf ss = [] then some [noneC] else some (piecesT (neatOf ss))) else none) := by show _ = _; unfold movesT; rw [if_neg hd]; rfl
  clear hd
  cases hs : stepsT l with
  | none =>
    rw [hs] at HM
    have HSt2 := Lib.hid (fun W (hB : Below w.heap.size w W) => show Calls Tryz.prog 14 #[.slice A l.length c] W (fun e w' => ∃ v, e = .returned (.tuple #[v, .bool false]) ∧ Below W.heap.size W w' ∧ Sl w' v []) from by
      have h9 := HSt.out W hB
      rw [hs] at h9
      exact h9.mono fun e w' ⟨v, X, h1, h2, h3⟩ => ⟨v, h1, by rw [h2]; exact below_grow _ _, by rw [h2]; exact h3⟩)
    have HNe := Lib.hid (fun v W (hv : Sl W v []) => (neat_any v [] W hv).mono fun e w' h => RetL.abs h)
    rw [nil_neat.1, nil_neat.2] at HNe
    have HN : Hid (movesT l = none) := HM.out
    clear hs HSt HM HRd
    go_enter Tryz.func24, Tryz.ntmps24
    go_wp2_with (first
      | (go_at_call 46; (refine (HEq2.out _ (by (repeat (first | with_reducible exact Below.refl _ _ | (with_reducible refine Below.alloc ?_ (by first | omega | (simp [go_sem] <;> omega)) _) | (with_reducible refine Below.drew ?_) | (with_reducible refine Below.drewN ?_ _) | (with_reducible refine Below.grow ?_ (by first | omega | (simp [go_sem] <;> omega)) _) | (with_reducible refine Below.setCell ?_ (by first | omega | (simp [go_sem] <;> omega)) _))); done) _ _ _ (lit4_rd (by simp [go_sem]))).mono ?_); rintro e w' ⟨rfl, X3, rfl⟩)
      | (go_at_call 14; (refine (HSt2.out _ (by (repeat (first | with_reducible exact Below.refl _ _ | (with_reducible refine Below.alloc ?_ (by first | omega | (simp [go_sem] <;> omega)) _) | (with_reducible refine Below.drew ?_) | (with_reducible refine Below.drewN ?_ _) | (with_reducible refine Below.grow ?_ (by first | omega | (simp [go_sem] <;> omega)) _) | (with_reducible refine Below.setCell ?_ (by first | omega | (simp [go_sem] <;> omega)) _))); done)).mono ?_); rintro e W2 ⟨v2, rfl, hb2, hsl2⟩; have HS2 := Lib.hid hsl2; have HB2 := Lib.hid (below_next (show Below w.heap.size w _ from (by (repeat (first | with_reducible exact Below.refl _ _ | (with_reducible refine Below.alloc ?_ (by first | omega | (simp [go_sem] <;> omega)) _) | (with_reducible refine Below.drew ?_) | (with_reducible refine Below.drewN ?_ _) | (with_reducible refine Below.grow ?_ (by first | omega | (simp [go_sem] <;> omega)) _) | (with_reducible refine Below.setCell ?_ (by first | omega | (simp [go_sem] <;> omega)) _))); done)) hb2); clear hb2 hsl2)
      | (go_at_call 47; (refine (HNe.out _ _ HS2.out).mono ?_); rintro e W3 ⟨v3, rfl, hb3, hsl3⟩; have HB3 := Lib.hid (below_next HB2.out hb3); clear hb3 hsl3))
    go_ret2
    rw [HN.out]
    exact RetV.no HB3.out rfl
  | some ss =>
    rw [hs] at HM
    have HSt2 := Lib.hid (fun W (hB : Below w.heap.size w W) => show Calls Tryz.prog 14 #[.slice A l.length c] W (fun e w' => ∃ v, e = .returned (.tuple #[v, .bool true]) ∧ Below W.heap.size W w' ∧ Sl w' v ss) from by
      have h9 := HSt.out W hB
      rw [hs] at h9
      exact h9.mono fun e w' ⟨v, X, h1, h2, h3⟩ => ⟨v, h1, by rw [h2]; exact below_grow _ _, by rw [h2]; exact h3⟩)
    have HNe := Lib.hid (fun v W (hv : Sl W v ss) => (neat_any v ss W hv).mono fun e w' h => RetL.abs h)
    have HM2 : Hid (movesT l = if neatE ss = 0 then (if neatOf ss = [] then some [noneC] else some (piecesT (neatOf ss))) else none) := HM.out
    clear hs HSt HM HRd
    by_cases he : neatE ss = 0
    · have hnl := (neat_law ss he).1
      rw [if_pos he] at HM2
      rw [he] at HNe
      by_cases hn0 : neatOf ss = []
      · have HN : Hid (movesT l = some [noneC]) := by show _ = _; rw [HM2.out, if_pos hn0]
        rw [hn0] at HNe
        clear HM2 hn0 hnl he
        go_enter Tryz.func24, Tryz.ntmps24
        go_upto_region 2 with fail
        refine name_world fun W0 hW0 => ?_
        have HB0 : Hid (Below w.heap.size w W0) := by show Below _ _ _; rw [hW0]; exact (by repeat (first | with_reducible exact Below.refl _ _ | (with_reducible refine Below.alloc ?_ (by first | omega | (simp [go_sem] <;> omega)) _) | (with_reducible refine Below.drew ?_) | (with_reducible refine Below.drewN ?_ _) | (with_reducible refine Below.grow ?_ (by first | omega | (simp [go_sem] <;> omega)) _) | (with_reducible refine Below.setCell ?_ (by first | omega | (simp [go_sem] <;> omega)) _)))
        have hlt0 : w.heap.size < W0.heap.size := by rw [hW0]; simp
        have k0 : W0.cell? ⟨w.heap.size, 0, none⟩ = some (.int .i64 1) := by rw [hW0]; simp [go_sem]
        have k1 : W0.cell? ⟨w.heap.size, 1, none⟩ = some (.string ⟨#[110, 111, 110, 101]⟩) := by rw [hW0]; simp [go_sem]
        have k2 : W0.cell? ⟨w.heap.size, 2, none⟩ = some (.int .i64 0) := by rw [hW0]; simp [go_sem]
        have k3 : W0.cell? ⟨w.heap.size, 3, none⟩ = some (.string ⟨#[]⟩) := by rw [hW0]; simp [go_sem]
        clear hW0
        go_wp2_with (first
          | (go_at_call 46; (refine (HEq2.out _ (below_next HB0.out (by (repeat (first | with_reducible exact Below.refl _ _ | (with_reducible refine Below.alloc ?_ (by first | omega | (simp [go_sem] <;> omega)) _) | (with_reducible refine Below.drew ?_) | (with_reducible refine Below.drewN ?_ _) | (with_reducible refine Below.grow ?_ (by first | omega | (simp [go_sem] <;> omega)) _) | (with_reducible refine Below.setCell ?_ (by first | omega | (simp [go_sem] <;> omega)) _))); done)) _ _ _ (lit4_rd (by simp [go_sem]))).mono ?_); rintro e w' ⟨rfl, X3, rfl⟩)
          | (go_at_call 14; (refine (HSt2.out _ (below_next HB0.out (by (repeat (first | with_reducible exact Below.refl _ _ | (with_reducible refine Below.alloc ?_ (by first | omega | (simp [go_sem] <;> omega)) _) | (with_reducible refine Below.drew ?_) | (with_reducible refine Below.drewN ?_ _) | (with_reducible refine Below.grow ?_ (by first | omega | (simp [go_sem] <;> omega)) _) | (with_reducible refine Below.setCell ?_ (by first | omega | (simp [go_sem] <;> omega)) _))); done))).mono ?_); rintro e W2 ⟨v2, rfl, hb2, hsl2⟩; have HS2 := Lib.hid hsl2; have HB2 := Lib.hid (below_next (show Below W0.heap.size W0 _ from (by (repeat (first | with_reducible exact Below.refl _ _ | (with_reducible refine Below.alloc ?_ (by first | omega | (simp [go_sem] <;> omega)) _) | (with_reducible refine Below.drew ?_) | (with_reducible refine Below.drewN ?_ _) | (with_reducible refine Below.grow ?_ (by first | omega | (simp [go_sem] <;> omega)) _) | (with_reducible refine Below.setCell ?_ (by first | omega | (simp [go_sem] <;> omega)) _))); done)) hb2); clear hb2 hsl2)
          | (go_at_call 47; (refine (HNe.out _ _ HS2.out).mono ?_); rintro e W3 ⟨v3, rfl, hb3, hsl3⟩; have HB3 := Lib.hid (below_next HB2.out hb3); obtain ⟨a3, cap3, rfl, _, _⟩ := hsl3; have r0 := (HB3.out.cell hlt0).trans k0; have r1 := (HB3.out.cell hlt0).trans k1; have r2 := (HB3.out.cell hlt0).trans k2; have r3 := (HB3.out.cell hlt0).trans k3; clear hb3))
        go_ret2
        rw [HN.out]
        exact RetV.own (e := 37) (n := 1) (below_next HB0.out (below_next HB3.out (by repeat (first | with_reducible exact Below.refl _ _ | (with_reducible refine Below.alloc ?_ (by first | omega | (simp [go_sem] <;> omega)) _) | (with_reducible refine Below.drew ?_) | (with_reducible refine Below.drewN ?_ _) | (with_reducible refine Below.grow ?_ (by first | omega | (simp [go_sem] <;> omega)) _) | (with_reducible refine Below.setCell ?_ (by first | omega | (simp [go_sem] <;> omega)) _))))) rfl rfl (own_lit (c := #[.int .i64 1, .string ⟨#[110, 111, 110, 101]⟩, .int .i64 0, .string ⟨#[]⟩]) (n := 1) (size := 4) rfl (by decide))
      · have HN : Hid (movesT l = some (piecesT (neatOf ss))) := by show _ = _; rw [HM2.out, if_neg hn0]
        have HPi := Lib.hid (fun v W (hv : Sl W v (neatOf ss)) => show Calls Tryz.prog 16 #[v] W (RetV W (some (piecesT (neatOf ss)))) from by
          have h9 := pieces16_any v (neatOf ss) W hv
          rw [hnl, if_pos rfl] at h9; exact h9)
        have hpos : 0 < (neatOf ss).length := List.length_pos_iff.2 hn0
        have bz : (((neatOf ss).length : Int) == 0) = false := by rw [beq_eq_false_iff_ne]; omega
        clear HM2 hn0 hnl he
        generalize neatOf ss = ns at *
        go_enter Tryz.func24, Tryz.ntmps24
        go_wp2_with (first
          | (go_at_call 46; (refine (HEq2.out _ (by (repeat (first | with_reducible exact Below.refl _ _ | (with_reducible refine Below.alloc ?_ (by first | omega | (simp [go_sem] <;> omega)) _) | (with_reducible refine Below.drew ?_) | (with_reducible refine Below.drewN ?_ _) | (with_reducible refine Below.grow ?_ (by first | omega | (simp [go_sem] <;> omega)) _) | (with_reducible refine Below.setCell ?_ (by first | omega | (simp [go_sem] <;> omega)) _))); done) _ _ _ (lit4_rd (by simp [go_sem]))).mono ?_); rintro e w' ⟨rfl, X3, rfl⟩)
          | (go_at_call 14; (refine (HSt2.out _ (by (repeat (first | with_reducible exact Below.refl _ _ | (with_reducible refine Below.alloc ?_ (by first | omega | (simp [go_sem] <;> omega)) _) | (with_reducible refine Below.drew ?_) | (with_reducible refine Below.drewN ?_ _) | (with_reducible refine Below.grow ?_ (by first | omega | (simp [go_sem] <;> omega)) _) | (with_reducible refine Below.setCell ?_ (by first | omega | (simp [go_sem] <;> omega)) _))); done)).mono ?_); rintro e W2 ⟨v2, rfl, hb2, hsl2⟩; have HS2 := Lib.hid hsl2; have HB2 := Lib.hid (below_next (show Below w.heap.size w _ from (by (repeat (first | with_reducible exact Below.refl _ _ | (with_reducible refine Below.alloc ?_ (by first | omega | (simp [go_sem] <;> omega)) _) | (with_reducible refine Below.drew ?_) | (with_reducible refine Below.drewN ?_ _) | (with_reducible refine Below.grow ?_ (by first | omega | (simp [go_sem] <;> omega)) _) | (with_reducible refine Below.setCell ?_ (by first | omega | (simp [go_sem] <;> omega)) _))); done)) hb2); clear hb2 hsl2)
          | (go_at_call 47; (refine (HNe.out _ _ HS2.out).mono ?_); rintro e W3 ⟨v3, rfl, hb3, hsl3⟩; have HB3 := Lib.hid (below_next HB2.out hb3); have HS3 := Lib.hid hsl3; obtain ⟨a3, cap3, rfl, _, _⟩ := hsl3; clear hb3)
          | (go_at_call 16; (refine (HPi.out _ _ HS3.out).mono ?_); rintro e w' ⟨A4, c4, X4, rfl, rfl, hA4, hc4, hr4⟩; have HA4 := Lib.hid hA4; have HR4 := Lib.hid hr4; clear hA4 hr4))
        go_ret2
        rw [HN.out]
        exact RetV.rd (below_next HB3.out (below_grow _ _)) rfl rfl HA4.out hc4 HR4.out
    · have HN : Hid (movesT l = none) := by show _ = _; rw [HM2.out, if_neg he]
      have bz : (neatE ss != 0) = true := by simpa using he
      clear HM2 he
      generalize neatE ss = er at *
      generalize neatOf ss = ns at *
      go_enter Tryz.func24, Tryz.ntmps24
      go_wp2_with (first
        | (go_at_call 46; (refine (HEq2.out _ (by (repeat (first | with_reducible exact Below.refl _ _ | (with_reducible refine Below.alloc ?_ (by first | omega | (simp [go_sem] <;> omega)) _) | (with_reducible refine Below.drew ?_) | (with_reducible refine Below.drewN ?_ _) | (with_reducible refine Below.grow ?_ (by first | omega | (simp [go_sem] <;> omega)) _) | (with_reducible refine Below.setCell ?_ (by first | omega | (simp [go_sem] <;> omega)) _))); done) _ _ _ (lit4_rd (by simp [go_sem]))).mono ?_); rintro e w' ⟨rfl, X3, rfl⟩)
        | (go_at_call 14; (refine (HSt2.out _ (by (repeat (first | with_reducible exact Below.refl _ _ | (with_reducible refine Below.alloc ?_ (by first | omega | (simp [go_sem] <;> omega)) _) | (with_reducible refine Below.drew ?_) | (with_reducible refine Below.drewN ?_ _) | (with_reducible refine Below.grow ?_ (by first | omega | (simp [go_sem] <;> omega)) _) | (with_reducible refine Below.setCell ?_ (by first | omega | (simp [go_sem] <;> omega)) _))); done)).mono ?_); rintro e W2 ⟨v2, rfl, hb2, hsl2⟩; have HS2 := Lib.hid hsl2; have HB2 := Lib.hid (below_next (show Below w.heap.size w _ from (by (repeat (first | with_reducible exact Below.refl _ _ | (with_reducible refine Below.alloc ?_ (by first | omega | (simp [go_sem] <;> omega)) _) | (with_reducible refine Below.drew ?_) | (with_reducible refine Below.drewN ?_ _) | (with_reducible refine Below.grow ?_ (by first | omega | (simp [go_sem] <;> omega)) _) | (with_reducible refine Below.setCell ?_ (by first | omega | (simp [go_sem] <;> omega)) _))); done)) hb2); clear hb2 hsl2)
        | (go_at_call 47; (refine (HNe.out _ _ HS2.out).mono ?_); rintro e W3 ⟨v3, rfl, hb3, hsl3⟩; have HB3 := Lib.hid (below_next HB2.out hb3); have HS3 := Lib.hid hsl3; obtain ⟨a3, cap3, rfl, _, _⟩ := hsl3; clear hb3))
      go_ret2
      rw [HN.out]
      exact RetV.no HB3.out rfl
end Go.Proofs.YtgcccpdadponiaaGreatDoor
