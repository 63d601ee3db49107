/- Small laws over any program, more: slices that are read; bytes and strings. -/
import Derived.Laws.IdiomStrings
import Derived.Lib.ConvBytes
import Derived.Test.YtdpgpjileffekaaGreatDoorKitB
namespace Go.Proofs.YtdpgpjileffekaaGreatDoor
open Go.RowKit

/-- A slice of n elements, of size cells each, reads as xs. -/
def Rd (w : World) (v : Value) (n size : Nat) (xs : List Value) : Prop :=
  xs.length = n * size ∧ n ≤ 9223372036854775807 ∧ ∃ A c, v = .slice A n c ∧ (0 < n → ∃ b off, A = some ⟨b, off, none⟩ ∧ b < w.heap.size ∧ ∀ j u, xs[j]? = some u → w.cell? ⟨b, off + j, none⟩ = some u)
theorem Rd.grow {w : World} {v : Value} {n size : Nat} {xs : List Value} (h : Rd w v n size xs) (X : Gr) : Rd (w.grow X) v n size xs := by
  obtain ⟨h1, h2, A, c, h3, h4⟩ := h
  refine ⟨h1, h2, A, c, h3, fun hn => ?_⟩
  obtain ⟨b, off, h5, h6, h7⟩ := h4 hn
  exact ⟨b, off, h5, by simp [World.grow]; omega, fun j u hu => cell_grow (h7 j u hu)⟩
theorem Rd.below {w w' : World} {v : Value} {n size : Nat} {xs : List Value} (h : Rd w v n size xs) {B : Nat} (hb : Below w.heap.size w w') (_hB : B = w.heap.size) : Rd w' v n size xs := by
  obtain ⟨X, rfl⟩ := grow_of_below hb
  exact h.grow X
theorem Rd.alloc {w : World} {v : Value} {n size : Nat} {xs : List Value} (h : Rd w v n size xs) (o : Obj) : Rd (w.alloc o) v n size xs := by
  rw [alloc_grow]; exact h.grow _
theorem Rd.drew {w : World} {v : Value} {n size : Nat} {xs : List Value} (h : Rd w v n size xs) : Rd w.drew v n size xs := by
  rw [drew_grow]; exact h.grow _
theorem Rd.nil (w : World) (size : Nat) : Rd w (.slice none 0 0) 0 size [] := ⟨by simp, by omega, none, 0, rfl, fun h => by omega⟩
theorem Rd.own {w : World} {B : Nat} {e : TypeId} {size : Nat} {v : Value} {n : Nat} {xs : List Value} (h : w.ownsRow B e size v n xs) : Rd w v n size xs := by
  obtain ⟨h1, a, cap, rfl, hm, hc⟩ := own_cells h
  refine ⟨h1, by unfold maxLen at hm; omega, a, cap, rfl, fun hn => ?_⟩
  rcases hc with hc | ⟨b, rfl, _, hb, hc⟩
  · omega
  · exact ⟨b, 0, rfl, hb, fun j u hu => by rw [Nat.zero_add]; exact hc j u hu⟩

/-- Bytes as values. -/
def bv (c : UInt8) : Value := .int .u8 c.toNat
theorem bv_one (l : List UInt8) : ∀ u ∈ l.map bv, u.oneCell' = true := by
  intro u hu
  obtain ⟨c, _, rfl⟩ := List.mem_map.1 hu
  rfl
theorem Rd.str {P : Program} {w : World} {v : Value} {l : List UInt8} (h : Rd w v l.length 1 (l.map bv)) (src dst e : TypeId) (hs : P.underlying src = some (.slice e)) (he : P.underlying e = some (.int .u8)) (hd : P.underlying dst = some .string) :
    (convert src dst v).run P w = .ok (.string ⟨l.toArray⟩) w := by
  obtain ⟨h1, h2, A, c, rfl, h4⟩ := h
  by_cases hn : 0 < l.length
  · obtain ⟨b, off, rfl, _, h5⟩ := h4 hn
    refine run_convert_bytes_back w src dst e ⟨b, off, none⟩ c l hs he hd fun j hj => ?_
    have := h5 j (bv l[j]) (by simp [hj])
    have e : (⟨b, off, none⟩ : Addr).add j = ⟨b, off + j, none⟩ := by unfold Addr.add; split <;> simp_all
    rw [e]; exact this
  · obtain rfl : l = [] := List.eq_nil_of_length_eq_zero (by omega)
    cases A with
    | none =>
      rw [List.length_nil, run_convert_bytes_string w src dst e none 0 c hs he hd]
      rfl
    | some a =>
      have := run_convert_bytes_back (P := P) w src dst e a c [] hs he hd fun j hj => by simp at hj
      simpa using this

/-- What '[]byte(s)' adds to the world. -/
def bytesGr (w : World) (e : TypeId) (s : ByteArray) : Gr := ⟨#[.cells (Lib.bytesCells w e s) e ((Lib.bytesCells w e s).size, (Lib.bytesCells w e s).size + 1)], w.drawn + 1⟩
theorem bytes_run {P : Program} (w : World) (src dst e : TypeId) (s : ByteArray) {u : TypeDesc} (hs : P.underlying src = some u) (hd : P.underlying dst = some (.slice e)) (he : P.underlying e = some (.int .u8)) :
    (convert src dst (.string s)).run P w = .ok (.slice (some ⟨w.heap.size, 0, none⟩) s.size (grownCap w s.size 0 e)) (w.grow (bytesGr w e s)) := by
  rw [Lib.run_convert_string_bytes w src dst e s hs hd he]
  have h1 : Below w.heap.size w (Lib.bytesWorld w e s) := ⟨rfl, rfl, rfl, by rw [Lib.bytesWorld_size]; omega, fun k hk => Lib.bytesWorld_at_old w e s k hk⟩
  obtain ⟨X, hX⟩ := grow_of_below h1
  have hb : X = bytesGr w e s := by
    have h2 := Lib.bytesWorld_at_new w e s
    have h3 := Lib.bytesWorld_size w e s
    have h4 : (Lib.bytesWorld w e s).drawn = w.drawn + 1 := rfl
    rw [hX] at h2 h3 h4
    obtain ⟨bl, dr⟩ := X
    simp only [World.grow, Array.size_append] at h2 h3 h4
    have h5 : bl.size = 1 := by omega
    rw [Array.getElem?_append_right (Nat.le_refl _), Nat.sub_self] at h2
    unfold bytesGr
    congr 1
    apply Array.ext_getElem?
    intro i
    cases i with
    | zero => rw [h2]; rfl
    | succ i => rw [Array.getElem?_eq_none (by omega), Array.getElem?_eq_none (by simp)]
  rw [hX, hb]
theorem bytes_cells (w : World) (e : TypeId) (s : ByteArray) (k : Nat) (h : k < s.size) : (w.grow (bytesGr w e s)).cell? ⟨w.heap.size, k, none⟩ = some (.int .u8 (s[k].toNat : Int)) := by
  have hb : (w.grow (bytesGr w e s)).heap[w.heap.size]? = some (.cells (Lib.bytesCells w e s) e ((Lib.bytesCells w e s).size, (Lib.bytesCells w e s).size + 1)) := by
    simp only [World.grow]
    rw [Array.getElem?_append_right (Nat.le_refl _), Nat.sub_self]; rfl
  unfold World.cell?
  simp only [hb]
  have h1 : k < (s.data.map fun b => Value.int .u8 b.toNat).size := by simpa using h
  simp only [Lib.bytesCells, Array.getElem?_append, if_pos h1, Option.isSome_none]
  simp [Array.getElem?_map, Array.getElem?_eq_getElem (show k < s.data.size from h)]
  rfl
theorem bytes_rd (w : World) (e : TypeId) (s : ByteArray) (c : Nat) (hm : s.size ≤ 9223372036854775807) : Rd (w.grow (bytesGr w e s)) (.slice (some ⟨w.heap.size, 0, none⟩) s.size c) s.size 1 (s.data.toList.map bv) := by
  refine ⟨by rw [List.length_map, Array.length_toList]; show s.size = _; omega, hm, _, c, rfl, fun hn => ⟨w.heap.size, 0, rfl, by simp [World.grow, bytesGr], fun j u hu => ?_⟩⟩
  have hj : j < s.size := by have := (List.getElem?_eq_some_iff.1 hu).1; rw [List.length_map, Array.length_toList] at this; exact this
  rw [Nat.zero_add, bytes_cells w e s j hj]
  rw [List.getElem?_map, List.getElem?_eq_getElem (by simpa using hj)] at hu
  simp at hu
  rw [← hu]; rfl
end Go.Proofs.YtdpgpjileffekaaGreatDoor
