/- How an argument that is a list of pieces is opened. -/
import Derived.Test.YtglnadikhcidnaaKitF
import Derived.Test.YtglnadikhcidnaaLexO
namespace Go.Proofs.Ytglnadikhcidnaa
open Go.ChangeShapes Go.WideShapes Go.Deep
instance : Inhabited Lz := ⟨⟨0, 0, []⟩⟩
section
variable {H : Type} {enc : TypeId × Value → H} {w : World} {base : Nat} {spare : Nat → Bool} {held : Bool}
theorem lex_fields : ∃ f0 f1 f2 : Field, Try.prog.underlying 30 = some (.struct #[f0, f1, f2]) ∧ f0.type = 3 ∧ f1.type = 3 ∧ f2.type = 9 ∧ oneCellFields Try.prog #[f0, f1, f2] = true :=
  ⟨_, _, _, Try.underlying30, rfl, rfl, rfl, by kernel_rfl⟩
theorem lz_open {fuel : Nat} {a : Option Addr} {len cap : Nat} {x : DataW H × List MemPlace}
    (h : DataW.trod enc Try.prog w base spare held fuel 23 [.slice a len cap] = some x) : ∃ l : List Lz, l.length = len ∧ Rd w (.slice a len cap) l.length 3 (lzCells l) := by
  obtain ⟨f0, f1, f2, hs, t0, t1, t2, hone⟩ := lex_fields
  obtain ⟨hlen, hc⟩ := open_cells (n := 3) Try.underlying23 hs hone (by kernel_rfl) rfl (by omega) h
  by_cases h0 : 0 < len
  · obtain ⟨b, off, rfl, hcc⟩ := hc h0
    obtain ⟨l, hl, hl2⟩ := choose_list (n := len) (p := fun i (y : Lz) => w.cell? ⟨b, off + (i * 3 + 0), none⟩ = some (.int .i64 y.kind) ∧ w.cell? ⟨b, off + (i * 3 + 1), none⟩ = some (.int .i64 y.at_) ∧ w.cell? ⟨b, off + (i * 3 + 2), none⟩ = some (.string ⟨y.text.toArray⟩)) (fun i hi => by
      obtain ⟨v0, c0, fu0, y0, r0⟩ := hcc i hi 0 f0 rfl
      obtain ⟨v1, c1, fu1, y1, r1⟩ := hcc i hi 1 f1 rfl
      obtain ⟨v2, c2, fu2, y2, r2⟩ := hcc i hi 2 f2 rfl
      rw [t0] at r0
      rw [t1] at r1
      rw [t2] at r2
      obtain ⟨k, e0, _⟩ := DataW.trod_int Try.underlying3 r0
      obtain ⟨a', e1, _⟩ := DataW.trod_int Try.underlying3 r1
      obtain ⟨s, e2, _⟩ := DataW.trod_string Try.underlying9 r2
      simp at e0 e1 e2
      subst e0 e1 e2
      exact ⟨⟨k, a', s.data.toList⟩, c0, c1, c2⟩)
    refine ⟨l, hl, ⟨lzCells_len l, by omega, some ⟨b, off, none⟩, cap, by rw [hl], fun _ => ⟨b, off, rfl, World.block_lt_of_cell? w _ (hl2 0 (by omega)).1, fun j u hu => ?_⟩⟩⟩
    have hj : j < l.length * 3 := by rw [← lzCells_len]; exact (List.getElem?_eq_some_iff.1 hu).1
    obtain ⟨i, r, hr, rfl⟩ : ∃ i r, r < 3 ∧ j = i * 3 + r := ⟨j / 3, j % 3, by omega, by omega⟩
    have hi : i < l.length := by omega
    obtain ⟨g0, g1, g2⟩ := lzCells_at l i hi
    obtain ⟨k0, k1, k2⟩ := hl2 i hi
    match r, hr with
    | 0, _ => rw [Nat.add_zero] at hu; rw [g0] at hu; cases hu; exact k0
    | 1, _ => rw [g1] at hu; cases hu; exact k1
    | 2, _ => rw [g2] at hu; cases hu; exact k2
  · obtain rfl : len = 0 := by omega
    exact ⟨[], rfl, by simp [lzCells], by omega, a, cap, rfl, fun h => by simp at h⟩
end
end Go.Proofs.Ytglnadikhcidnaa
