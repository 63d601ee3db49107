/- How an argument that is a list of steps is opened: its cells. -/
import Derived.ProofKit
import Derived.Deep.Slices
import Derived.Deep.Fields
import Derived.ChangeSame
import Derived.Test.YtendepongefklaaWalkI
namespace Go.Proofs.Ytendepongefklaa
open Go.ChangeShapes Go.WideShapes Go.Deep
instance : Inhabited St := ⟨⟨0, 0, 0⟩⟩

section
variable {H : Type} {enc : TypeId × Value → H} {w : World} {base : Nat} {spare : Nat → Bool} {held : Bool}

theorem step_fields : ∃ f0 f1 f2 : Field, Try.prog.underlying 35 = some (.struct #[f0, f1, f2]) ∧ f0.type = 3 ∧ f1.type = 3 ∧ f2.type = 3 ∧ oneCellFields Try.prog #[f0, f1, f2] = true :=
  ⟨_, _, _, Try.underlying35, rfl, rfl, rfl, by kernel_rfl⟩

theorem sl_open {fuel : Nat} {a : Option Addr} {len cap : Nat} {x : DataW H × List MemPlace}
    (h : DataW.trod enc Try.prog w base spare held fuel 22 [.slice a len cap] = some x) : ∃ l : List St, l.length = len ∧ Sl w (.slice a len cap) l := by
  rcases open_slice Try.underlying22 h with ⟨hcs, _⟩ | ⟨ad, len', cap', m, n, D, Pl, hcs, hb, hl, hm, hmm, hx, hi⟩
  · simp at hcs
    obtain ⟨rfl, rfl, rfl⟩ := hcs
    exact ⟨[], rfl, none, 0, rfl, by simp, Or.inl rfl⟩
  · simp at hcs
    obtain ⟨rfl, rfl, rfl⟩ := hcs
    obtain ⟨f0, f1, f2, hs, t0, t1, t2, hone⟩ := step_fields
    have hlen : len ≤ 9223372036854775807 := by unfold maxLen at hm; omega
    have hC : Try.prog.cellsOf 35 = 3 := by kernel_rfl
    have hml : len ≤ m := by rw [hmm]; split <;> omega
    have key : ∀ i, i < m → ∃ s : St, w.cell? (ad.add (i * 3)) = some (.int .i64 s.k) ∧ w.cell? (ad.add (i * 3 + 1)) = some (.int .i64 s.x) ∧ w.cell? (ad.add (i * 3 + 2)) = some (.int .i64 s.y) := by
      intro i him
      obtain ⟨cs', hc, ht'⟩ := hi i him
      rw [hC] at hc
      obtain ⟨ys, n', hn', hy, hlen', hyl, hf⟩ := DataW.trod_struct hs ht'
      obtain ⟨_, hcl, hat⟩ := World.cells?_some hc
      have cell : ∀ (j : Nat) (f : Field), #[f0, f1, f2][j]? = some f → f.type = 3 → ∃ k : Int, w.cell? (ad.add (i * 3 + j)) = some (.int .i64 k) := by
        intro j f hj ht
        obtain ⟨ho, hk⟩ := hone_of hone j f hj
        have hjl : j < 3 := (Array.getElem?_eq_some_iff.1 hj).1
        have hcell := hat j hjl
        have hv : cs'[j]? = some (cs'[j]'(by omega)) := List.getElem?_eq_getElem (by omega)
        have h1 := hf j f hj
        rw [ho, hk] at h1
        have hone' : (cs'.drop j).take 1 = [cs'[j]'(by omega)] := by
          rw [List.drop_eq_getElem_cons (by omega)]
          rfl
        rw [hone', ht] at h1
        have hys : ys[j]? = some (ys[j]'(by rw [hyl]; exact hjl)) := List.getElem?_eq_getElem (by rw [hyl]; exact hjl)
        rw [hys] at h1
        obtain ⟨q, e1, _⟩ := DataW.trod_int Try.underlying3 h1
        simp at e1
        refine ⟨q, ?_⟩
        rw [← Go.Deep.add_add, hcell, hv, e1]
      obtain ⟨k, hk⟩ := cell 0 f0 rfl t0
      obtain ⟨x, hx⟩ := cell 1 f1 rfl t1
      obtain ⟨y, hy⟩ := cell 2 f2 rfl t2
      exact ⟨⟨k, x, y⟩, hk, hx, hy⟩
    by_cases h0 : len = 0
    · subst h0
      exact ⟨[], rfl, some ad, cap, rfl, by simp, Or.inl rfl⟩
    · obtain ⟨g, hg⟩ := choose_lt (n := m) (p := fun i (s : St) => w.cell? (ad.add (i * 3)) = some (.int .i64 s.k) ∧ w.cell? (ad.add (i * 3 + 1)) = some (.int .i64 s.x) ∧ w.cell? (ad.add (i * 3 + 2)) = some (.int .i64 s.y)) key
      obtain ⟨b, off, spot⟩ := ad
      have hspot : spot = none := by simpa [Addr.add] using World.cell?_spot (hg 0 (by omega)).1
      subst hspot
      have hadd : ∀ j, (⟨b, off, none⟩ : Addr).add j = ⟨b, off + j, none⟩ := fun j => by unfold Addr.add; split <;> simp_all
      refine ⟨(List.range len).map g, by simp, some ⟨b, off, none⟩, cap, by simp, by simpa using hlen, Or.inr ⟨b, off, rfl, ?_, fun i s hs => ?_⟩⟩
      · exact World.block_lt_of_cell? w _ (hg 0 (by omega)).1
      · have hlt : i < len := by
          have := (List.getElem?_eq_some_iff.1 hs).1
          simpa using this
        have e : ((List.range len).map g)[i]? = some (g i) := by rw [List.getElem?_map, List.getElem?_range hlt]; rfl
        rw [e] at hs
        cases hs
        have := hg i (by omega)
        rw [hadd, hadd, hadd] at this
        exact this
end
end Go.Proofs.Ytendepongefklaa
