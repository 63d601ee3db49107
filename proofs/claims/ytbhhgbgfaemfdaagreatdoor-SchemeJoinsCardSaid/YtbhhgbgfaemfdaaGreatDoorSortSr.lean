/- Sorting in place: the row that is sorted. -/
import Derived.Test.YtbhhgbgfaemfdaaGreatDoorPA
namespace Go.Proofs.YtbhhgbgfaemfdaaGreatDoor
open Go.RowKit
def RowS (W : World) (B g cap : Nat) (d : List Bs) : Prop := W.ownsRow B 9 1 (.slice (some ⟨g, 0, none⟩) d.length cap) d.length (d.map sv)
theorem RowS.cell {W : World} {B g cap : Nat} {d : List Bs} (h : RowS W B g cap d) {i : Nat} {x : Bs} (hi : d[i]? = some x) : W.cell? ⟨g, i, none⟩ = some (sv x) := by
 have hl := (List.getElem?_eq_some_iff.1 hi).1
 have := World.ownsRow.cellAt h i (by omega)
 rw [this, List.getElem?_map, hi]; rfl
theorem RowS.frozen {W : World} {B g cap : Nat} {d : List Bs} (h : RowS W B g cap d) (i : Nat) : W.frozen? ⟨g, i, none⟩ = false := World.ownsRow.frozenAt h i
theorem RowS.set {W : World} {B g cap : Nat} {d : List Bs} (h : RowS W B g cap d) (i : Nat) (_hi : i < d.length) (x : Bs) : RowS (W.setCell ⟨g, i, none⟩ (sv x)) B g cap (d.set i x) := by
 have := (World.ownsRow.stored h i (sv x)).1
 unfold RowS
 rw [List.length_set, List.map_set]; exact this
theorem RowS.turned {W W' : World} {B g cap : Nat} {d : List Bs} {pv : Nat → Prop} (h : RowS W B g cap d) (ht : Turned pv W W') (hp : ¬ pv g) : RowS W' B g cap d := row_turned h ht hp
def InsS (w : World) (B g cap : Nat) (P S Q : List Bs) (w' : World) : Prop := Turned (fun k => k = g) w w' ∧ ∃ S', RowS w' B g cap (P ++ S' ++ Q) ∧ Up ltB S' ∧ Alike ltB S' S
def MrgS (w : World) (B g cap : Nat) (P S Q : List Bs) (w' : World) : Prop := Turned (fun k => k = g) w w' ∧ ∃ S', RowS w' B g cap (P ++ S' ++ Q) ∧ Up ltB S' ∧ Alike ltB S' S
end Go.Proofs.YtbhhgbgfaemfdaaGreatDoor

