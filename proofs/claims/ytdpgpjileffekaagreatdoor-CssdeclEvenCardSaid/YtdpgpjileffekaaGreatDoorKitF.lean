/- How an argument that is a list of structs is opened: its cells. Over any program. -/
import Derived.ProofKit
import Derived.Deep.Slices
import Derived.Deep.Fields
import Derived.ChangeSame
import Derived.SizedLaws
import Derived.OpenShut
import Derived.Test.YtdpgpjileffekaaGreatDoorKitE
namespace Go.Proofs.YtdpgpjileffekaaGreatDoor
open Go.ChangeShapes Go.WideShapes Go.Deep

section
variable {P : Program} {H : Type} {enc : TypeId × Value → H} {w : World} {base : Nat} {spare : Nat → Bool} {held : Bool}
theorem open_cells {t e : TypeId} {fs : Array Field} {n : Nat} (ht : P.underlying t = some (.slice e)) (hs : P.underlying e = some (.struct fs)) (hone : oneCellFields P fs = true) (hC : P.cellsOf e = n) (hn : fs.size = n) (hp : 0 < n)
    {fuel : Nat} {a : Option Addr} {len cap : Nat} {x : DataW H × List MemPlace} (h : DataW.trod enc P w base spare held fuel t [.slice a len cap] = some x) :
    len ≤ 9223372036854775807 ∧ (0 < len → ∃ b off, a = some ⟨b, off, none⟩ ∧ ∀ i, i < len → ∀ j f, fs[j]? = some f → ∃ v, w.cell? ⟨b, off + (i * n + j), none⟩ = some v ∧ ∃ fu y, DataW.trod enc P w base spare held fu f.type [v] = some y) := by
  rcases open_slice ht h with ⟨hcs, _⟩ | ⟨ad, len', cap', m, n', D, Pl, hcs, hb, hl, hm, hmm, hx, hi⟩
  · simp at hcs
    obtain ⟨rfl, rfl, rfl⟩ := hcs
    exact ⟨by omega, fun h => by omega⟩
  · simp at hcs
    obtain ⟨rfl, rfl, rfl⟩ := hcs
    have hlen : len ≤ 9223372036854775807 := by unfold maxLen at hm; omega
    have hml : len ≤ m := by rw [hmm]; split <;> omega
    have key : ∀ i, i < m → ∀ j f, fs[j]? = some f → ∃ v, w.cell? (ad.add (i * n + j)) = some v ∧ ∃ fu y, DataW.trod enc P w base spare held fu f.type [v] = some y := by
      intro i him j f hj
      obtain ⟨cs', hc, ht'⟩ := hi i him
      rw [hC] at hc
      obtain ⟨ys, n2, hn2, hy, hlen', hyl, hf⟩ := DataW.trod_struct hs ht'
      obtain ⟨_, hcl, hat⟩ := World.cells?_some hc
      obtain ⟨ho, hk⟩ := hone_of hone j f hj
      have hjl : j < n := by rw [← hn]; exact (Array.getElem?_eq_some_iff.1 hj).1
      have hcell := hat j hjl
      have hv : cs'[j]? = some (cs'[j]'(by omega)) := List.getElem?_eq_getElem (by omega)
      have h1 := hf j f hj
      rw [ho, hk] at h1
      have hone' : (cs'.drop j).take 1 = [cs'[j]'(by omega)] := by
        rw [List.drop_eq_getElem_cons (by omega)]
        rfl
      rw [hone'] at h1
      have hys : ys[j]? = some (ys[j]'(by rw [hyl, hn]; exact hjl)) := List.getElem?_eq_getElem (by rw [hyl, hn]; exact hjl)
      rw [hys] at h1
      refine ⟨cs'[j]'(by omega), ?_, _, _, h1⟩
      rw [← Go.Deep.add_add, hcell, hv]
    refine ⟨hlen, fun h0 => ?_⟩
    obtain ⟨b, off, spot⟩ := ad
    have h0m : 0 < m := by omega
    have hj0 : 0 < fs.size := by omega
    obtain ⟨v0, hv0, _⟩ := key 0 h0m 0 _ (Array.getElem?_eq_getElem hj0)
    have hspot : spot = none := by simpa [Addr.add] using World.cell?_spot hv0
    subst hspot
    refine ⟨b, off, rfl, fun i hi j f hj => ?_⟩
    obtain ⟨v, hv, hr⟩ := key i (by omega) j f hj
    refine ⟨v, ?_, hr⟩
    have e : (⟨b, off, none⟩ : Addr).add (i * n + j) = ⟨b, off + (i * n + j), none⟩ := by unfold Addr.add; split <;> simp_all
    rw [← e]; exact hv
theorem choose_list {α : Type} [Inhabited α] {n : Nat} {p : Nat → α → Prop} (h : ∀ i, i < n → ∃ x, p i x) : ∃ l : List α, l.length = n ∧ ∀ i (hi : i < l.length), p i l[i] := by
  classical
  refine ⟨(List.range n).map fun i => if h : ∃ x, p i x then Classical.choose h else default, by simp, fun i hi => ?_⟩
  simp only [List.length_map, List.length_range] at hi
  simp only [List.getElem_map, List.getElem_range]
  rw [dif_pos (h i hi)]
  exact Classical.choose_spec (h i hi)
end
end Go.Proofs.YtdpgpjileffekaaGreatDoor
