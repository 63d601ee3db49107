/- The walks of values of styles: numbers, marks, functions; the pieces of a step. -/
import Derived.Test.YtgcccpdadponiaaGreatDoorCssN
import Derived.Test.YtgcccpdadponiaaGreatDoorCssO
import Derived.Test.YtgcccpdadponiaaGreatDoorKB
import Derived.Test.YtgcccpdadponiaaGreatDoorTB
import Derived.Test.YtgcccpdadponiaaGreatDoorValPlainB
namespace Go.Proofs.YtgcccpdadponiaaGreatDoor
open Go.RowKit Go.Shelf
attribute [local go_sem] Oper.semAt_some
theorem cssc_one (l : List Css) : ∀ u ∈ cssCells l, u.oneCell' = true := by
  intro u hu
  rw [cssCells, List.mem_flatMap] at hu
  obtain ⟨p, _, hp⟩ := hu
  simp [Css.cells, sv] at hp
  rcases hp with rfl | rfl | rfl | rfl <;> rfl
theorem css_app (l m : List Css) : cssCells (l ++ m) = cssCells l ++ cssCells m := by rw [cssCells, cssCells, cssCells, List.flatMap_append]
theorem number16_any (n : Int) (u : Bs) (w : World) (h0 : -9223372036854775 ≤ n) (h1 : n ≤ 9223372036854775) : Calls Tryz.prog 60 #[.int .i64 n, .string ⟨u.toArray⟩] w (Ret (Css.agg (nuC n u)) w) := by
  simp only [Css.agg, nuC, sv]
  generalize (⟨u.toArray⟩ : ByteArray) = U at *
  go_enter Tryz.func60, Tryz.ntmps60
  go_wp2_with fail
  ((try simp only [Exit.inBlock, Exit.then]); refine bodyPost_ret (v := .agg #[.int .i64 3, .string ⟨#[]⟩, .int .i64 (n * 1000), .string U]) (by (first | rw [results_cell_tmp rfl] | rw [results_cell1 rfl]); go_simp) rfl ?_)
  exact Ret.of rfl (by repeat (first | with_reducible exact Below.refl _ _ | (with_reducible refine Below.alloc ?_ (by first | omega | (simp [go_sem] <;> omega)) _) | (with_reducible refine Below.drew ?_) | (with_reducible refine Below.drewN ?_ _) | (with_reducible refine Below.grow ?_ (by first | omega | (simp [go_sem] <;> omega)) _) | (with_reducible refine Below.setCell ?_ (by first | omega | (simp [go_sem] <;> omega)) _)))
theorem mark16_any (t : Bs) (w : World) : Calls Tryz.prog 27 #[.string ⟨t.toArray⟩] w (Ret (Css.agg ⟨6, t, 0, []⟩) w) := by
  simp only [Css.agg, sv]
  generalize (⟨t.toArray⟩ : ByteArray) = U at *
  go_enter Tryz.func27, Tryz.ntmps27
  go_wp2_with fail
  ((try simp only [Exit.inBlock, Exit.then]); refine bodyPost_ret (v := .agg #[.int .i64 6, .string U, .int .i64 0, .string ⟨#[]⟩]) (by (first | rw [results_cell_tmp rfl] | rw [results_cell1 rfl]); go_simp) rfl ?_)
  exact Ret.of rfl (by repeat (first | with_reducible exact Below.refl _ _ | (with_reducible refine Below.alloc ?_ (by first | omega | (simp [go_sem] <;> omega)) _) | (with_reducible refine Below.drew ?_) | (with_reducible refine Below.drewN ?_ _) | (with_reducible refine Below.grow ?_ (by first | omega | (simp [go_sem] <;> omega)) _) | (with_reducible refine Below.setCell ?_ (by first | omega | (simp [go_sem] <;> omega)) _)))
set_option maxHeartbeats 1600000 in
theorem call16_any (nm : Bs) (A : Option Addr) (n c : Nat) (l : List Css) (w : World) (h : Rd w (.slice A n c) l.length 4 (cssCells l)) (hn : A = none → c = 0) (hl : l.length ≤ 1000000000) :
    Calls Tryz.prog 50 #[.string ⟨nm.toArray⟩, .slice A n c] w (RetO w (l.length + 2) 4 37 (cssCells (fnC nm :: l ++ [mark1 41]))) := by
  have HR := Lib.hid h
  have HN := Lib.hid hn
  obtain ⟨_, hm, A', c', heq, _⟩ := h
  cases heq
  have HM := Lib.hid (fun W => mark16_any [41] W)
  have HC : Hid (cssCells (fnC nm :: (l ++ [mark1 41])) = [.int .i64 2, .string ⟨nm.toArray⟩, .int .i64 0, .string ⟨#[]⟩] ++ cssCells l ++ [.int .i64 6, .string ⟨#[41]⟩, .int .i64 0, .string ⟨#[]⟩]) := by
    show _ = _
    rw [← List.cons_append, css_app, cssCells, List.flatMap_cons]; rfl
  simp only [Css.agg, sv] at HM
  generalize (⟨nm.toArray⟩ : ByteArray) = U at *
  clear hn
  have HNw : Hid (∀ W, Below w.heap.size w W → _) := fun W hB => news_rd HR.out HN.out hB
  obtain ⟨x0, hx0⟩ : ∃ x, Value.slice A l.length c = x := ⟨_, rfl⟩
  rw [hx0] at HNw ⊢
  have HR1 := Lib.hid HR.out.1
  clear HR HN hx0
  go_enter Tryz.func50, Tryz.ntmps50
  go_wp2_with (first
    | (go_at_call 27; (with_reducible refine (HM.out _).mono ?_); rintro e w' ⟨rfl, Y1, rfl⟩)
    | (at_builtin; (refine append_abs rfl _ _ 22 rfl css_row w.heap.size rfl ((own_grow HO3.out _).alloc _) (by have := HB3.out.size; simp [size_grow]; omega) ⟨_, 0, none⟩ 1 1 [.int .i64 6, .string ⟨#[41]⟩, .int .i64 0, .string ⟨#[]⟩] rfl rfl (new_cells (c := #[.int .i64 6, .string ⟨#[41]⟩, .int .i64 0, .string ⟨#[]⟩]) (by simp [go_sem])) (by simp [Value.oneCell']) (by unfold maxLen; omega) (by omega) ?_); intro v4 W4 ho4 hg4; (have HB4 := own_step hg4 ((own_grow HO3.out _).alloc _) (Below.alloc (Below.grow HB3.out HB3.out.size _) (by have := HB3.out.size; simp [size_grow]; omega) _)); have HO4 := Lib.hid ho4; clear ho4 hg4)
    | (at_builtin; (refine append_any rfl _ _ 22 rfl css_row w.heap.size rfl (own_lit (c := #[.int .i64 2, .string U, .int .i64 0, .string ⟨#[]⟩]) (n := 1) rfl (by decide)) (by simp) l.length (cssCells l) (HNw.out _ (by repeat (first | with_reducible exact Below.refl _ _ | (with_reducible refine Below.alloc ?_ (by first | omega | (simp [go_sem] <;> omega)) _) | (with_reducible refine Below.drew ?_) | (with_reducible refine Below.drewN ?_ _) | (with_reducible refine Below.grow ?_ (by first | omega | (simp [go_sem] <;> omega)) _) | (with_reducible refine Below.setCell ?_ (by first | omega | (simp [go_sem] <;> omega)) _)))) HR1.out (cssc_one l) (by unfold maxLen; omega) (by omega) ?_); intro v3 W3 ho3 hg3; (have HB3 := own_step hg3 (own_lit (c := #[.int .i64 2, .string U, .int .i64 0, .string ⟨#[]⟩]) (n := 1) (size := 4) rfl (by decide)) (show Below w.heap.size w _ from (by repeat (first | with_reducible exact Below.refl _ _ | (with_reducible refine Below.alloc ?_ (by first | omega | (simp [go_sem] <;> omega)) _) | (with_reducible refine Below.drew ?_) | (with_reducible refine Below.drewN ?_ _) | (with_reducible refine Below.grow ?_ (by first | omega | (simp [go_sem] <;> omega)) _) | (with_reducible refine Below.setCell ?_ (by first | omega | (simp [go_sem] <;> omega)) _))))); have HO3 := Lib.hid ho3; clear ho3 hg3))
  go_ret
  rw [HC.out]
  have ho := HO4.out
  rw [show 1 + l.length + 1 = l.length + 2 by omega] at ho
  exact RetO.own HB4.out ho (Nat.le_refl _)
end Go.Proofs.YtgcccpdadponiaaGreatDoor
