/- How arguments are opened, more: a list of steps with its reach, two numbers. -/
import Derived.SizedLaws
import Derived.OpenShut
import Derived.Test.YtendepongefklaaOpen
import Derived.Test.YtendepongefklaaPlainC
import Derived.Test.YtendepongefklaaKitB
namespace Go.Proofs.Ytendepongefklaa
open Go.ChangeShapes Go.WideShapes Go.Deep

theorem step_bytes : Try.prog.bytesOf 35 = 24 := by kernel_rfl

section
variable {H : Type} {enc : TypeId × Value → H} {w : World} {base : Nat} {spare : Nat → Bool} {held : Bool}
/-- The datum of a slice that came in: as long as the slice is. -/
theorem sl_datum {fuel : Nat} {a : Option Addr} {len cap : Nat} {x : DataW H × List MemPlace}
    (h : DataW.trod enc Try.prog w base spare held fuel 22 [.slice a len cap] = some x) : (a = none ∧ len = 0 ∧ cap = 0) ∨ ((∃ ad, a = some ad) ∧ ∃ es sp, x.1 = .slice es sp ∧ es.length = len) := by
  rcases open_slice Try.underlying22 h with ⟨hcs, _⟩ | ⟨ad, len', cap', m, n, D, Pl, hcs, hb, hl, hm, hmm, hx, hi⟩
  · simp at hcs; exact Or.inl hcs
  · simp at hcs
    obtain ⟨rfl, rfl, rfl⟩ := hcs
    exact Or.inr ⟨⟨ad, rfl⟩, _, _, by rw [hx], by simp⟩
/-- With its reach. -/
theorem sl_reach {ts : List TypeId} {ds : List (DataW H)} (hz : (DataW.weightsEach Try.prog ts ds).all (· ≤ reachBytes) = true) {j : Nat} {d : DataW H} (ht : ts[j]? = some 22) (hd : ds[j]? = some d)
    {a : Option Addr} {len cap : Nat} {p : List MemPlace} (h : DataW.Trod enc Try.prog w base spare held 22 (.slice a len cap) d p) : len ≤ 5864062014805 ∧ (a = none → len = 0 ∧ cap = 0) := by
  obtain ⟨fuel, hf⟩ := h
  rcases sl_datum (by simpa [Value.cells] using hf) with ⟨h1, h2, h3⟩ | ⟨⟨ad, h0⟩, es, sp, h1, h2⟩
  · subst h2; exact ⟨by omega, fun _ => ⟨rfl, h3⟩⟩
  · simp only at h1
    rw [h1] at hd
    have := sized_slice hz ht hd Try.underlying22
    rw [step_bytes] at this
    simp only [reachBytes] at this
    exact ⟨by omega, fun h => by rw [h] at h0; cases h0⟩

theorem open_two {v : Value} {d : DataW H} {p : List MemPlace} {r : Reach} {b0 : Nat} (hv : Value.okWide Try.prog w r b0 32 v)
    (h : DataW.Trod enc Try.prog w base spare held 32 v d p) : ∃ x y : Int, v = .agg #[.int .i64 x, .int .i64 y] ∧ (Lit.int .i64 x).wf = true ∧ (Lit.int .i64 y).wf = true := by
  have hC : Try.prog.cellsOf 32 = 2 := by kernel_rfl
  have hE : Try.prog.cellsOf 3 = 1 := by kernel_rfl
  obtain ⟨cs, rfl, hsz⟩ : ∃ cs, v = .agg cs ∧ cs.size = Try.prog.cellsOf 32 := by
    simp only [Value.okWide, Try.underlying32] at hv
    obtain ⟨cs, h1, h2, _⟩ := hv
    exact ⟨cs, h1, h2⟩
  rw [hC] at hsz
  obtain ⟨l⟩ := cs
  obtain ⟨c0, c1, rfl⟩ : ∃ c0 c1, l = [c0, c1] := by
    match l, hsz with
    | [c0, c1], _ => exact ⟨c0, c1, rfl⟩
  obtain ⟨fuel, hf⟩ := h
  obtain ⟨xs, m, _, _, _, hl, hi⟩ := DataW.trod_array Try.underlying32 hf
  have h0 := hi 0 (by omega)
  have h1 := hi 1 (by omega)
  rw [hE] at h0 h1
  simp only [Value.cells] at h0 h1
  have e0 : xs[0]? = some (xs[0]'(by omega)) := List.getElem?_eq_getElem (by omega)
  have e1 : xs[1]? = some (xs[1]'(by omega)) := List.getElem?_eq_getElem (by omega)
  rw [e0] at h0
  rw [e1] at h1
  obtain ⟨x, q0, _, w0⟩ := DataW.trod_int Try.underlying3 h0
  obtain ⟨y, q1, _, w1⟩ := DataW.trod_int Try.underlying3 h1
  simp at q0 q1
  exact ⟨x, y, by rw [q0, q1], w0, w1⟩
end
end Go.Proofs.Ytendepongefklaa
