/- The walks of styles: slices of pieces: their parts, their clones. -/
import Derived.Test.YtgcccpdadponiaaGreatDoorCssN
namespace Go.Proofs.YtgcccpdadponiaaGreatDoor
open Go.RowKit Go.Shelf
attribute [local go_sem] Oper.semAt_some
theorem css_one (l : List Css) : ∀ u ∈ cssCells l, u.oneCell' = true := by
  intro u hu
  rw [cssCells, List.mem_flatMap] at hu
  obtain ⟨p, _, hp⟩ := hu
  simp [Css.cells, sv] at hp
  rcases hp with rfl | rfl | rfl | rfl <;> rfl
set_option maxRecDepth 100000 in
set_option maxHeartbeats 1600000 in
theorem clone_any (A : Option Addr) (n c : Nat) (l : List Css) (w : World) (h : Rd w (.slice A n c) l.length 4 (cssCells l)) (hA : A = none → c = 0) (hl : l.length ≤ 1000000000) :
    Calls Tryz.prog 23 #[.slice A n c] w (RetS w l.length 4 (cssCells l)) := by
  have HR := Lib.hid h
  have hn : l.length = n := by obtain ⟨_, _, _, _, he, _⟩ := h; cases he; rfl
  have HN := Lib.hid hn
  have HA := Lib.hid hA
  have hn9 : n ≤ 1000000000 := by omega
  cases A with
  | none =>
    have h0 : n = 0 := by
      rcases Nat.eq_zero_or_pos n with h0 | h0
      · exact h0
      · obtain ⟨_, _, _, _, he, h4⟩ := h
        cases he
        obtain ⟨_, _, h5, _⟩ := h4 (by omega)
        cases h5
    obtain rfl : l = [] := List.eq_nil_of_length_eq_zero (by omega)
    subst h0
    obtain rfl := hA rfl
    clear HR h hA HA
    have hnil : ∀ W : World, (binOp .eql 22 (.slice none 0 0) (.slice none 0 0)).run Tryz.prog W = .ok (.bool true) W := fun W => Lib.run_eql_slice_nil W _ _ none 0 0 0 0 Tryz.underlying22
    go_enter Tryz.func23, Tryz.ntmps23
    go_wp2_with fail
    go_ret
    exact RetS.of (by repeat (first | with_reducible exact Below.refl _ _ | (with_reducible refine Below.alloc ?_ (by first | omega | (simp [go_sem] <;> omega)) _) | (with_reducible refine Below.drew ?_) | (with_reducible refine Below.drewN ?_ _) | (with_reducible refine Below.grow ?_ (by first | omega | (simp [go_sem] <;> omega)) _) | (with_reducible refine Below.setCell ?_ (by first | omega | (simp [go_sem] <;> omega)) _))) (Nat.le_refl _) (Rd.nil _ _)
  | some ad =>
    clear h hA
    have hnil : ∀ W : World, (binOp .eql 22 (.slice (some ad) n c) (.slice none 0 0)).run Tryz.prog W = .ok (.bool false) W := fun W => Lib.run_eql_slice_nil W _ _ (some ad) n c 0 0 Tryz.underlying22
    go_enter Tryz.func23, Tryz.ntmps23
    go_wp2_with (at_builtin; go_loud (refine append_src rfl _ _ 22 rfl css_row w rfl (own_emp (by simp [go_sem]) (by simp [go_sem] <;> omega)) (by repeat (first | with_reducible exact Below.refl _ _ | (with_reducible refine Below.alloc ?_ (by first | omega | (simp [go_sem] <;> omega)) _) | (with_reducible refine Below.drew ?_) | (with_reducible refine Below.drewN ?_ _) | (with_reducible refine Below.grow ?_ (by first | omega | (simp [go_sem] <;> omega)) _) | (with_reducible refine Below.setCell ?_ (by first | omega | (simp [go_sem] <;> omega)) _))) n (cssCells l) (news_rd (HN.out ▸ HR.out) HA.out (by repeat (first | with_reducible exact Below.refl _ _ | (with_reducible refine Below.alloc ?_ (by first | omega | (simp [go_sem] <;> omega)) _) | (with_reducible refine Below.drew ?_) | (with_reducible refine Below.drewN ?_ _) | (with_reducible refine Below.grow ?_ (by first | omega | (simp [go_sem] <;> omega)) _) | (with_reducible refine Below.setCell ?_ (by first | omega | (simp [go_sem] <;> omega)) _)))) (by have := HR.out.1; rw [HN.out] at this; exact this) (css_one l) (by unfold maxLen; omega) (by omega) ?_); intro v3 X3 hown3)
    go_ret
    rw [HN.out]
    rw [Nat.zero_add, List.nil_append] at hown3
    exact RetS.own (by repeat (first | with_reducible exact Below.refl _ _ | (with_reducible refine Below.alloc ?_ (by first | omega | (simp [go_sem] <;> omega)) _) | (with_reducible refine Below.drew ?_) | (with_reducible refine Below.drewN ?_ _) | (with_reducible refine Below.grow ?_ (by first | omega | (simp [go_sem] <;> omega)) _) | (with_reducible refine Below.setCell ?_ (by first | omega | (simp [go_sem] <;> omega)) _))) hown3
theorem Rd.turned {pv : Nat → Prop} {W W' : World} {A : Option Addr} {n c size : Nat} {xs : List Value} (h : Rd W (.slice A n c) n size xs) (ht : Turned pv W W') (hA : ∀ b off s, A = some ⟨b, off, s⟩ → ¬ pv b) : Rd W' (.slice A n c) n size xs := by
  obtain ⟨h1, h2, A', c', he, h4⟩ := h
  cases he
  refine ⟨h1, h2, A, c, rfl, fun hn => ?_⟩
  obtain ⟨b, off, rfl, hb, hc⟩ := h4 hn
  refine ⟨b, off, rfl, Nat.lt_of_lt_of_le hb ht.size, fun j u hu => ?_⟩
  have := hc j u hu
  unfold World.cell? at this ⊢
  rw [ht.block b hb (hA _ _ _ rfl)]; exact this
def adv (A : Option Addr) (c k : Nat) : Option Addr := if c = k then A else A.map fun a => ⟨a.block, a.off + k * 4, none⟩
/-- How long the slice is that a cell holds. -/
def lenSl (w : World) (b : Nat) : Nat := match w.cell? ⟨b, 0, none⟩ with
  | some (.slice _ n _) => n
  | _ => 0
theorem lenSl_boxed {w : World} {b : Nat} {t : TypeId} {A : Option Addr} {n c : Nat} (h : Boxed w b t (.slice A n c)) : lenSl w b = n := by
  unfold lenSl; rw [h.cell]
theorem Rd.drop4 {w : World} {b off n c : Nat} {l : List Css} (h : Rd w (.slice (some ⟨b, off, none⟩) n c) l.length 4 (cssCells l)) (k : Nat) (hk : k ≤ l.length) : Rd w (.slice (some ⟨b, off + k * 4, none⟩) (l.drop k).length (c - k)) (l.drop k).length 4 (cssCells (l.drop k)) := by
  have hm := h.2.1
  refine ⟨flat_len Css.cells 4 (fun _ => rfl) _, by rw [List.length_drop]; omega, _, _, rfl, fun hn => ?_⟩
  rw [List.length_drop] at hn
  obtain ⟨b', off', he, hb, _⟩ := h.css k (by omega)
  cases he
  refine ⟨b, _, rfl, hb, fun j u hu => ?_⟩
  have hj : j < (l.drop k).length * 4 := by rw [← flat_len Css.cells 4 (fun _ => rfl) (l.drop k)]; exact (List.getElem?_eq_some_iff.1 hu).1
  obtain ⟨i, r, hr, rfl⟩ : ∃ i r, r < 4 ∧ j = i * 4 + r := ⟨j / 4, j % 4, by omega, by omega⟩
  have hi : i < (l.drop k).length := by omega
  rw [cssCells, flat_at Css.cells 4 (fun _ => rfl) (l.drop k) i hi r hr] at hu
  obtain ⟨_, _, _, _, he, h4⟩ := h
  cases he
  rw [List.length_drop] at hi
  obtain ⟨b2, off2, he2, _, hc⟩ := h4 (by omega)
  cases he2
  have := hc ((k + i) * 4 + r) u (by rw [cssCells, flat_at Css.cells 4 (fun _ => rfl) l (k + i) (by omega) r hr]; simpa using hu)
  rw [show off + ((k + i) * 4 + r) = off + k * 4 + (i * 4 + r) by omega] at this
  exact this
theorem Rd.take4 {w : World} {A : Option Addr} {n c : Nat} {l : List Css} (h : Rd w (.slice A n c) l.length 4 (cssCells l)) (k : Nat) (hk : k ≤ l.length) : Rd w (.slice A (l.take k).length c) (l.take k).length 4 (cssCells (l.take k)) := by
  obtain ⟨h1, h2, A', c', he, h4⟩ := h
  cases he
  have hlen : (l.take k).length = k := by rw [List.length_take]; omega
  refine ⟨flat_len Css.cells 4 (fun _ => rfl) _, by omega, _, _, rfl, fun hn => ?_⟩
  obtain ⟨b, off, h5, h6, h7⟩ := h4 (by omega)
  refine ⟨b, off, h5, h6, fun j u hu => ?_⟩
  have hj : j < (l.take k).length * 4 := by rw [← flat_len Css.cells 4 (fun _ => rfl) (l.take k)]; exact (List.getElem?_eq_some_iff.1 hu).1
  obtain ⟨i, r, hr, rfl⟩ : ∃ i r, r < 4 ∧ j = i * 4 + r := ⟨j / 4, j % 4, by omega, by omega⟩
  have hi : i < (l.take k).length := by omega
  rw [cssCells, flat_at Css.cells 4 (fun _ => rfl) (l.take k) i hi r hr] at hu
  exact h7 _ u (by rw [cssCells, flat_at Css.cells 4 (fun _ => rfl) l i (by omega) r hr]; simpa using hu)
set_option maxRecDepth 100000 in
set_option maxHeartbeats 1600000 in
theorem cloneO_any (ad : Addr) (n c : Nat) (l : List Css) (w : World) (h : Rd w (.slice (some ad) n c) l.length 4 (cssCells l)) (hl : l.length ≤ 1000000000) :
    Calls Tryz.prog 23 #[.slice (some ad) n c] w (RetO w l.length 4 37 (cssCells l)) := by
  have HR := Lib.hid h
  have hn : l.length = n := by obtain ⟨_, _, _, _, he, _⟩ := h; cases he; rfl
  have HN := Lib.hid hn
  have hn9 : n ≤ 1000000000 := by omega
  clear h
  have hnil : ∀ W : World, (binOp .eql 22 (.slice (some ad) n c) (.slice none 0 0)).run Tryz.prog W = .ok (.bool false) W := fun W => Lib.run_eql_slice_nil W _ _ (some ad) n c 0 0 Tryz.underlying22
  go_enter Tryz.func23, Tryz.ntmps23
  go_wp2_with (at_builtin; go_loud (refine append_src rfl _ _ 22 rfl css_row w rfl (own_emp (by simp [go_sem]) (by simp [go_sem] <;> omega)) (by repeat (first | with_reducible exact Below.refl _ _ | (with_reducible refine Below.alloc ?_ (by first | omega | (simp [go_sem] <;> omega)) _) | (with_reducible refine Below.drew ?_) | (with_reducible refine Below.drewN ?_ _) | (with_reducible refine Below.grow ?_ (by first | omega | (simp [go_sem] <;> omega)) _) | (with_reducible refine Below.setCell ?_ (by first | omega | (simp [go_sem] <;> omega)) _))) n (cssCells l) (news_rd (HN.out ▸ HR.out) (fun h => by cases h) (by repeat (first | with_reducible exact Below.refl _ _ | (with_reducible refine Below.alloc ?_ (by first | omega | (simp [go_sem] <;> omega)) _) | (with_reducible refine Below.drew ?_) | (with_reducible refine Below.drewN ?_ _) | (with_reducible refine Below.grow ?_ (by first | omega | (simp [go_sem] <;> omega)) _) | (with_reducible refine Below.setCell ?_ (by first | omega | (simp [go_sem] <;> omega)) _)))) (by have := HR.out.1; rw [HN.out] at this; exact this) (css_one l) (by unfold maxLen; omega) (by omega) ?_); intro v3 X3 hown3)
  go_ret
  rw [HN.out]
  rw [Nat.zero_add, List.nil_append] at hown3
  exact ⟨v3, X3, rfl, rfl, hown3⟩
end Go.Proofs.YtgcccpdadponiaaGreatDoor
