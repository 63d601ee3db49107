/- Sorting in place: the row that is sorted. -/
import Derived.Test.YtbhhgbgfaemfdaaGreatDoorPA
namespace Go.Proofs.YtbhhgbgfaemfdaaGreatDoor
open Go.RowKit
def RowF (W : World) (B g cap : Nat) (d : List Frc) : Prop := W.ownsRow B 72 3 (.slice (some ⟨g, 0, none⟩) d.length cap) d.length (d.flatMap Frc.cells)
theorem RowF.cell {W : World} {B g cap : Nat} {d : List Frc} (h : RowF W B g cap d) {i : Nat} {x : Frc} (hi : d[i]? = some x) : W.cell? ⟨g, i * 3, none⟩ = some (sv x.tag) ∧ W.cell? ⟨g, i * 3 + 1, none⟩ = some (sv x.name) ∧ W.cell? ⟨g, i * 3 + 2, none⟩ = some (sv x.value) := by
 obtain ⟨hl, hx⟩ := List.getElem?_eq_some_iff.1 hi
 have key : ∀ j, j < 3 → W.cell? ⟨g, i * 3 + j, none⟩ = (Frc.cells x)[j]? := fun j hj => by
  rw [World.ownsRow.cellAt h (i * 3 + j) (by omega), flat_at Frc.cells 3 (fun _ => rfl) d i hl j hj, hx]
 exact ⟨key 0 (by omega), key 1 (by omega), key 2 (by omega)⟩
theorem RowF.frozen {W : World} {B g cap : Nat} {d : List Frc} (h : RowF W B g cap d) (i : Nat) : W.frozen? ⟨g, i, none⟩ = false := World.ownsRow.frozenAt h i
theorem RowF.set {W : World} {B g cap : Nat} {d : List Frc} (h : RowF W B g cap d) (i : Nat) (hi : i < d.length) (x : Frc) : RowF (((W.setCell ⟨g, i * 3, none⟩ (sv x.tag)).setCell ⟨g, i * 3 + 1, none⟩ (sv x.name)).setCell ⟨g, i * 3 + 2, none⟩ (sv x.value)) B g cap (d.set i x) := by
 have h0 := (World.ownsRow.stored h (i * 3) (sv x.tag)).1
 have h1 := (World.ownsRow.stored h0 (i * 3 + 1) (sv x.name)).1
 have h2 := (World.ownsRow.stored h1 (i * 3 + 2) (sv x.value)).1
 unfold RowF
 rw [List.length_set, ← flat_set3 Frc.cells (fun _ => rfl) d i hi x rfl]; exact h2
theorem RowF.turned {W W' : World} {B g cap : Nat} {d : List Frc} {pv : Nat → Prop} (h : RowF W B g cap d) (ht : Turned pv W W') (hp : ¬ pv g) : RowF W' B g cap d := row_turned h ht hp
def InsF (w : World) (B g cap : Nat) (P S Q : List Frc) (w' : World) : Prop := Turned (fun k => k = g) w w' ∧ ∃ S', RowF w' B g cap (P ++ S' ++ Q) ∧ Up ltF S' ∧ Alike ltF S' S
def MrgF (w : World) (B g cap : Nat) (P S Q : List Frc) (w' : World) : Prop := Turned (fun k => k = g) w w' ∧ ∃ S', RowF w' B g cap (P ++ S' ++ Q) ∧ Up ltF S' ∧ Alike ltF S' S
end Go.Proofs.YtbhhgbgfaemfdaaGreatDoor

