/- Sorting in place: the row that is sorted. -/
import Derived.Test.YtbhhgbgfaemfdaaGreatDoorPA
namespace Go.Proofs.YtbhhgbgfaemfdaaGreatDoor
open Go.RowKit
def RowA (W : World) (B g cap : Nat) (d : List Alw) : Prop := W.ownsRow B 80 2 (.slice (some ⟨g, 0, none⟩) d.length cap) d.length (d.flatMap Alw.cells)
theorem RowA.cell {W : World} {B g cap : Nat} {d : List Alw} (h : RowA W B g cap d) {i : Nat} {x : Alw} (hi : d[i]? = some x) : W.cell? ⟨g, i * 2, none⟩ = some (sv x.tag) ∧ W.cell? ⟨g, i * 2 + 1, none⟩ = some (sv x.name) := by
 obtain ⟨hl, hx⟩ := List.getElem?_eq_some_iff.1 hi
 have key : ∀ j, j < 2 → W.cell? ⟨g, i * 2 + j, none⟩ = (Alw.cells x)[j]? := fun j hj => by
  rw [World.ownsRow.cellAt h (i * 2 + j) (by omega), flat_at Alw.cells 2 (fun _ => rfl) d i hl j hj, hx]
 exact ⟨key 0 (by omega), key 1 (by omega)⟩
theorem RowA.frozen {W : World} {B g cap : Nat} {d : List Alw} (h : RowA W B g cap d) (i : Nat) : W.frozen? ⟨g, i, none⟩ = false := World.ownsRow.frozenAt h i
theorem RowA.set {W : World} {B g cap : Nat} {d : List Alw} (h : RowA W B g cap d) (i : Nat) (hi : i < d.length) (x : Alw) : RowA ((W.setCell ⟨g, i * 2, none⟩ (sv x.tag)).setCell ⟨g, i * 2 + 1, none⟩ (sv x.name)) B g cap (d.set i x) := by
 have h0 := (World.ownsRow.stored h (i * 2) (sv x.tag)).1
 have h1 := (World.ownsRow.stored h0 (i * 2 + 1) (sv x.name)).1
 unfold RowA
 rw [List.length_set, ← flat_set2 Alw.cells (fun _ => rfl) d i hi x rfl]; exact h1
theorem RowA.turned {W W' : World} {B g cap : Nat} {d : List Alw} {pv : Nat → Prop} (h : RowA W B g cap d) (ht : Turned pv W W') (hp : ¬ pv g) : RowA W' B g cap d := row_turned h ht hp
def InsA (w : World) (B g cap : Nat) (P S Q : List Alw) (w' : World) : Prop := Turned (fun k => k = g) w w' ∧ ∃ S', RowA w' B g cap (P ++ S' ++ Q) ∧ Up ltA S' ∧ Alike ltA S' S
def MrgA (w : World) (B g cap : Nat) (P S Q : List Alw) (w' : World) : Prop := Turned (fun k => k = g) w w' ∧ ∃ S', RowA w' B g cap (P ++ S' ++ Q) ∧ Up ltA S' ∧ Alike ltA S' S
end Go.Proofs.YtbhhgbgfaemfdaaGreatDoor

