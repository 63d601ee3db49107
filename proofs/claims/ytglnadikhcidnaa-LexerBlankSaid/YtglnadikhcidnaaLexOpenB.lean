/- More on arguments: how long a slice is beside its room, lists of whole numbers; what is passed over between pieces. -/
import Derived.Test.YtglnadikhcidnaaLexOpen
import Derived.Test.YtglnadikhcidnaaLexPlainE
namespace Go.Proofs.Ytglnadikhcidnaa
open Go.ChangeShapes Go.WideShapes Go.Deep
section
variable {P : Program} {H : Type} {enc : TypeId × Value → H} {w : World} {base : Nat} {spare : Nat → Bool} {held : Bool}
theorem slice_room {t e : TypeId} (ht : P.underlying t = some (.slice e)) {fuel : Nat} {a : Option Addr} {len cap : Nat} {x : DataW H × List MemPlace} (h : DataW.trod enc P w base spare held fuel t [.slice a len cap] = some x) : len ≤ cap := by
  rcases open_slice ht h with ⟨hcs, _⟩ | ⟨ad, len', cap', m, n', D, Pl, hcs, hb, hl, hm, hmm, hx, hi⟩
  · simp at hcs; omega
  · simp at hcs; omega
theorem ints_open {t e : TypeId} (ht : P.underlying t = some (.slice e)) (he : P.underlying e = some (.int .i64)) (hc : P.cellsOf e = 1) {fuel : Nat} {a : Option Addr} {len cap : Nat} {x : DataW H × List MemPlace}
    (h : DataW.trod enc P w base spare held fuel t [.slice a len cap] = some x) : ∃ l : List Int, l.length = len ∧ Rd w (.slice a len cap) l.length 1 (l.map (Value.int .i64)) := by
  rcases open_ints ht he hc h with ⟨hcs, _⟩ | ⟨ad, len', cap', zs, hcs, _, hl, hm, hz, _, hcell, _⟩
  · simp at hcs
    obtain ⟨rfl, rfl, rfl⟩ := hcs
    exact ⟨[], rfl, Rd.nil w 1⟩
  · simp at hcs
    obtain ⟨rfl, rfl, rfl⟩ := hcs
    have hzl : len ≤ zs.length := by rw [hz]; split <;> omega
    have hlen : (zs.take len).length = len := by rw [List.length_take]; omega
    refine ⟨zs.take len, hlen, ⟨by simp, by rw [hlen]; unfold maxLen at hm; omega, some ad, cap, by rw [hlen], fun h0 => ?_⟩⟩
    rw [hlen] at h0
    obtain ⟨b, off, spot⟩ := ad
    have hspot : spot = none := by
      have := hcell 0 (by omega)
      simpa [Addr.add] using World.cell?_spot this
    subst hspot
    refine ⟨b, off, rfl, World.block_lt_of_cell? w _ (hcell 0 (by omega)), fun j u hu => ?_⟩
    have hj : j < len := by have := (List.getElem?_eq_some_iff.1 hu).1; rw [List.length_map, hlen] at this; exact this
    have e1 : (⟨b, off, none⟩ : Addr).add j = ⟨b, off + j, none⟩ := by unfold Addr.add; split <;> simp_all
    rw [← e1, hcell j (by omega)]
    rw [List.getElem?_map, List.getElem?_take] at hu
    rw [if_pos hj, List.getElem?_eq_getElem (by omega)] at hu
    simp at hu
    rw [← hu, List.getD_eq_getElem?_getD, List.getElem?_eq_getElem (by omega)]; rfl
end
theorem Rd.int {w : World} {A : Option Addr} {n c : Nat} {l : List Int} (h : Rd w (.slice A n c) l.length 1 (l.map (Value.int .i64))) (k : Nat) (hk : k < l.length) : ∃ b off, A = some ⟨b, off, none⟩ ∧ b < w.heap.size ∧ w.cell? ⟨b, off + k, none⟩ = some (.int .i64 l[k]) := by
  obtain ⟨_, _, A', c', e, h4⟩ := h
  cases e
  obtain ⟨b, off, rfl, hb, hc⟩ := h4 (by omega)
  exact ⟨b, off, rfl, hb, hc k _ (by simp [hk])⟩
theorem bits_and3 (n : Int) : ∃ k : Nat, k < 4 ∧ bits .and .i64 n 3 = (k : Int) := by
  refine ⟨(BitVec.ofInt 64 n &&& 3#64).toNat, ?_, ?_⟩
  · rw [BitVec.toNat_and]
    exact Nat.lt_of_le_of_lt Nat.and_le_right (by decide)
  · have h : (BitVec.ofInt 64 n &&& 3#64).toNat < 4 := by
      rw [BitVec.toNat_and]
      exact Nat.lt_of_le_of_lt Nat.and_le_right (by decide)
    have e : BitVec.ofInt 64 3 = 3#64 := by decide
    show IntKind.i64.wrap ((BitVec.ofInt 64 n &&& BitVec.ofInt 64 3).toNat : Int) = _
    rw [e]
    generalize (BitVec.ofInt 64 n &&& 3#64).toNat = m at *
    rw [IntKind.wrap_i64]; omega
/-- What the law puts between two pieces. -/
def blankOf : Nat → Bs
  | 0 => [32]
  | 1 => [9, 10]
  | 2 => [32, 35, 32, 97, 32, 34, 98, 10]
  | _ => [12, 13, 35, 10, 32]
theorem blank_of (k : Nat) : Blank (blankOf k) := by
  match k with
  | 0 => exact blank_one
  | 1 => exact ⟨fun c r h => by cases h; rfl, by simp [blankOf], fun r => by simp [blankOf, blk, spB]; omega⟩
  | 2 => exact ⟨fun c r h => by cases h; rfl, by simp [blankOf], fun r => by simp [blankOf, blk, spB]; omega⟩
  | k + 3 => exact ⟨fun c r h => by cases h; rfl, by simp [blankOf], fun r => by simp [blankOf, blk, spB]; omega⟩
theorem blank_len (k : Nat) : (blankOf k).length ≤ 8 := by
  match k with
  | 0 => simp [blankOf]
  | 1 => simp [blankOf]
  | 2 => simp [blankOf]
  | k + 3 => simp [blankOf]
/-- The text so far, behind which whatever pieces may come. -/
def Pre (xs : List (Nat × Bs)) (acc : Bs) : Prop := ∀ r ys, stops r → Woven ys r → Woven (xs ++ ys) (acc ++ r)
theorem Pre.nil : Pre [] [] := fun _ _ _ h => h
theorem Pre.step {xs : List (Nat × Bs)} {acc b u : Bs} {x : Nat × Bs} (h : Pre xs acc) (hb : Blank b) (hu : toldL x.1 x.2 = some u) : Pre (xs ++ [x]) (acc ++ b ++ u) := by
  intro r ys hs hw
  have h1 := Woven.blank hb (Woven.piece hu hs hw)
  have hst : stops (b ++ (u ++ r)) := by
    intro c r' he
    cases b with
    | nil => exact absurd rfl hb.2.1
    | cons d b => cases he; exact hb.1 _ _ rfl
  have := h (b ++ (u ++ r)) _ hst h1
  simpa using this
theorem Pre.last {xs : List (Nat × Bs)} {acc b : Bs} (h : Pre xs acc) (hb : Blank b) : Woven xs (acc ++ b) := by
  have := h b [] (hb.1) (by have := Woven.blank hb .nil; simpa using this)
  simpa using this
theorem woven_kinds {xs : List (Nat × Bs)} {l : Bs} (h : Woven xs l) : ∀ x ∈ xs, ∃ u, toldL x.1 x.2 = some u := by
  induction h with
  | nil => intro x hx; cases hx
  | blank h hr ih => exact ih
  | piece h hs hr ih =>
    intro x hx
    rcases List.mem_cons.1 hx with rfl | hx
    · exact ⟨_, h⟩
    · exact ih x hx
theorem app_data (a b : ByteArray) : (a ++ b).data.toList = a.data.toList ++ b.data.toList := by
  rw [ByteArray.data_append, Array.toList_append]
theorem app_size (a b : ByteArray) : (a ++ b).size = a.size + b.size := by
  rw [ByteArray.size_append]
/-- One element of a list that came in. -/
theorem Rd.one {w : World} {b off c : Nat} {n c' : Nat} {l : List Lz} (h : Rd w (.slice (some ⟨b, off, none⟩) n c) l.length 3 (lzCells l)) (k : Nat) (hk : k < l.length) : Rd w (.slice (some ⟨b, off + k * 3, none⟩) 1 c') [l[k]].length 3 (lzCells [l[k]]) := by
  obtain ⟨b2, off2, e, hb, c0, c1, c2⟩ := h.lz k hk
  cases e
  refine ⟨rfl, by simp, _, c', rfl, fun _ => ⟨b, off + k * 3, rfl, hb, fun j u hu => ?_⟩⟩
  have e : lzCells [l[k]] = [.int .i64 l[k].kind, .int .i64 l[k].at_, .string ⟨l[k].text.toArray⟩] := rfl
  rw [e] at hu
  match j with
  | 0 => cases hu; exact c0
  | 1 => cases hu; exact c1
  | 2 => cases hu; exact c2
  | j + 3 => simp at hu
theorem few_one {l : List Lz} (h : fewB l = true) (k : Nat) (hk : k < l.length) : fewB [l[k]] = true := by
  have := few_text h k hk
  simp [fewB, this]
theorem join_one (x : Lz) : joinL ([x].map Lz.kt) = toldL x.kind.toNat x.text := by
  simp only [joinL, List.map_cons, List.map_nil, tellAll, Lz.kt]
  cases toldL x.kind.toNat x.text <;> rfl
end Go.Proofs.Ytglnadikhcidnaa
