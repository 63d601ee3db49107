/- Small laws over any program, more: elements of several cells; texts one behind the other; a row beside a block that is written. -/
import Derived.Test.YtdpgpjileffekaaGreatDoorKitE
import Derived.Test.YtdpgpjileffekaaGreatDoorKitG
namespace Go.Proofs.YtdpgpjileffekaaGreatDoor
open Go.RowKit Go.Shelf
theorem flat_len {α : Type} (cells : α → List Value) (n : Nat) (hn : ∀ x, (cells x).length = n) (l : List α) : (l.flatMap cells).length = l.length * n := by
  induction l with
  | nil => simp
  | cons x l ih => rw [List.flatMap_cons, List.length_append, ih, hn, List.length_cons, Nat.add_mul]; omega
theorem flat_at {α : Type} (cells : α → List Value) (n : Nat) (hn : ∀ x, (cells x).length = n) (l : List α) (k : Nat) (h : k < l.length) (j : Nat) (hj : j < n) : (l.flatMap cells)[k * n + j]? = (cells l[k])[j]? := by
  induction l generalizing k with
  | nil => simp at h
  | cons x l ih =>
    rw [List.flatMap_cons]
    cases k with
    | zero => rw [Nat.zero_mul, Nat.zero_add, List.getElem?_append_left (by rw [hn]; exact hj)]; rfl
    | succ k =>
      rw [List.getElem?_append_right (by rw [hn, Nat.add_mul]; omega), hn, show (k + 1) * n + j - n = k * n + j by rw [Nat.add_mul]; omega]
      exact ih k (by simpa using h)
theorem Rd.flat {α : Type} {w : World} {A : Option Addr} {m c n : Nat} {l : List α} {cells : α → List Value} (hn : ∀ x, (cells x).length = n) (h : Rd w (.slice A m c) l.length n (l.flatMap cells)) (k : Nat) (hk : k < l.length) :
    ∃ b off, A = some ⟨b, off, none⟩ ∧ b < w.heap.size ∧ ∀ j u, j < n → (cells l[k])[j]? = some u → w.cell? ⟨b, off + k * n + j, none⟩ = some u := by
  obtain ⟨_, _, A', c', e, h4⟩ := h
  cases e
  obtain ⟨b, off, rfl, hb, hc⟩ := h4 (by omega)
  refine ⟨b, off, rfl, hb, fun j u hj hu => ?_⟩
  rw [Nat.add_assoc]
  exact hc _ _ (by rw [flat_at cells n hn l k hk j hj]; exact hu)
theorem cat_bs (a b : Bs) : (⟨a.toArray⟩ : ByteArray) ++ ⟨b.toArray⟩ = ⟨(a ++ b).toArray⟩ := by
  apply ba_ext
  rw [ByteArray.data_append]; simp
/-- A row stays when another block is written. -/
theorem own_oth {W : World} {B : Nat} {e : TypeId} {size : Nat} {v : Value} {n : Nat} {xs : List Value} (h : W.ownsRow B e size v n xs) {b : Nat} (hb : ∀ k, v.ownBlock = some k → k ≠ b) (i : Nat) (u : Value) : (W.setCell ⟨b, i, none⟩ u).ownsRow B e size v n xs := by
  refine ⟨h.1, ?_⟩
  rcases h.2 with ⟨h1, h2⟩ | ⟨g, cap, cur, h1, h2, h3, h4⟩
  · exact Or.inl ⟨h1, h2⟩
  · refine Or.inr ⟨g, cap, cur, h1, h2, ?_, h4⟩
    exact (Below.heap_setCell W ⟨b, i, none⟩ u g (hb g (by rw [h1]; rfl))).trans h3
/-- So it stays when a block that was made behind it is written. -/
theorem own_new {W : World} {B : Nat} {e : TypeId} {size : Nat} {v : Value} {n : Nat} {xs : List Value} (h : W.ownsRow B e size v n xs) (o : Obj) {b : Nat} (hb : b = W.heap.size) (i : Nat) (u : Value) : ((W.alloc o).setCell ⟨b, i, none⟩ u).ownsRow B e size v n xs :=
  own_oth (h.alloc o) (fun k hk => by have := (h.lt k hk).2; omega) i u
end Go.Proofs.YtdpgpjileffekaaGreatDoor
