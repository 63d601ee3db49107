/- How an argument that is a list of declarations is opened. -/
import Derived.Test.YtdpgpjileffekaaGreatDoorCssOpen
import Derived.Test.YtdpgpjileffekaaGreatDoorDecF
namespace Go.Proofs.YtdpgpjileffekaaGreatDoor
open Go.ChangeShapes Go.WideShapes Go.Deep
instance : Inhabited Dcl := ⟨⟨[], [], false⟩⟩
section
variable {H : Type} {enc : TypeId × Value → H} {w : World} {base : Nat} {spare : Nat → Bool} {held : Bool}
theorem decl_fields : ∃ f0 f1 f2 : Field, Tryz.prog.underlying 31 = some (.struct #[f0, f1, f2]) ∧ f0.type = 9 ∧ f1.type = 29 ∧ f2.type = 4 ∧ oneCellFields Tryz.prog #[f0, f1, f2] = true :=
  ⟨_, _, _, Tryz.underlying31, rfl, rfl, rfl, by kernel_rfl⟩
/-- A declaration as it came in, whole. -/
def DclIn (d : Dcl) : Prop := d.name.length ≤ maxLen ∧ ∀ p ∈ d.value, CssIn p
theorem css_form {fuel : Nat} {v : Value} {x : DataW H × List MemPlace}
    (h : DataW.trod enc Tryz.prog w base spare held fuel 29 [v] = some x) : ∃ a len cap, v = .slice a len cap ∧ (a = none → cap = 0) ∧ len ≤ cap := by
  rcases open_slice Tryz.underlying29 h with ⟨hcs, _⟩ | ⟨ad, len', cap', m, n, D, Pl, hcs, hb, hl, hm, hmm, hx, hi⟩
  · simp at hcs; exact ⟨_, _, _, hcs, fun _ => rfl, Nat.le_refl _⟩
  · simp at hcs; exact ⟨_, _, _, hcs, fun h => (by cases h), by omega⟩
theorem allV_map {α β γ : Type} {p : α → β → Prop} {f : γ → α} {g : γ → β} : ∀ {l : List γ}, (∀ x ∈ l, p (f x) (g x)) → AllV p (l.map f) (l.map g)
  | [], _ => trivial
  | x :: _, h => ⟨h x (List.mem_cons_self ..), allV_map fun y hy => h y (List.mem_cons_of_mem _ hy)⟩
theorem decl_open {fuel : Nat} {a : Option Addr} {len cap : Nat} {x : DataW H × List MemPlace}
    (h : DataW.trod enc Tryz.prog w base spare held fuel 24 [.slice a len cap] = some x) : ∃ l : List Dcl, l.length = len ∧ RdD w (.slice a len cap) l ∧ ∀ d ∈ l, DclIn d := by
  obtain ⟨f0, f1, f2, hs, t0, t1, t2, hone⟩ := decl_fields
  obtain ⟨hlen, hc⟩ := open_cells (n := 3) Tryz.underlying24 hs hone (by kernel_rfl) rfl (by omega) h
  by_cases h0 : 0 < len
  · obtain ⟨b, off, rfl, hcc⟩ := hc h0
    obtain ⟨l, hl, hl2⟩ := choose_list (n := len) (p := fun i (y : Dcl × Value) => w.cell? ⟨b, off + (i * 3 + 0), none⟩ = some (sv y.1.name) ∧ w.cell? ⟨b, off + (i * 3 + 1), none⟩ = some y.2 ∧ w.cell? ⟨b, off + (i * 3 + 2), none⟩ = some (.bool y.1.imp) ∧ VR w y.1 y.2 ∧ DclIn y.1) (fun i hi => by
      obtain ⟨v0, c0, fu0, y0, r0⟩ := hcc i hi 0 f0 rfl
      obtain ⟨v1, c1, fu1, y1, r1⟩ := hcc i hi 1 f1 rfl
      obtain ⟨v2, c2, fu2, y2, r2⟩ := hcc i hi 2 f2 rfl
      rw [t0] at r0
      rw [t1] at r1
      rw [t2] at r2
      obtain ⟨s0, e0, _, m0⟩ := DataW.trod_string Tryz.underlying9 r0
      obtain ⟨a1, n1, cap1, rfl, q1, q2⟩ := css_form r1
      obtain ⟨z1, g1, g2, g3⟩ := css_open r1
      obtain ⟨b2, e2, _⟩ := DataW.trod_bool Tryz.underlying4 r2
      simp at e0 e2
      subst e0 e2
      subst g1
      exact ⟨⟨⟨s0.data.toList, z1, b2⟩, .slice a1 z1.length cap1⟩, c0, c1, c2, ⟨a1, cap1, rfl, q1, q2, g2⟩, by show s0.data.toList.length ≤ _; rw [len_data]; exact m0, g3⟩)
    have hv : AllV (VR w) (l.map (·.1)) (l.map (·.2)) := allV_map fun y hy => by
      obtain ⟨i, hi, rfl⟩ := List.mem_iff_getElem.1 hy; exact (hl2 i hi).2.2.2.1
    have hfl : (dclFlat (l.map (·.1)) (l.map (·.2))).length = l.length * 3 := by rw [dflat_len _ _ (by simp)]; simp
    refine ⟨l.map (·.1), by simpa using hl, ⟨l.map (·.2), hv, by simpa using hfl, by simp; omega, some ⟨b, off, none⟩, cap, by simp [hl], fun _ => ⟨b, off, rfl, World.block_lt_of_cell? w _ (hl2 0 (by omega)).1, fun j u hu => ?_⟩⟩, fun d hd => ?_⟩
    rotate_left
    · obtain ⟨y, hy, rfl⟩ := List.mem_map.1 hd
      obtain ⟨i, hi, rfl⟩ := List.mem_iff_getElem.1 hy; exact (hl2 i hi).2.2.2.2
    have hj : j < l.length * 3 := by rw [← hfl]; exact (List.getElem?_eq_some_iff.1 hu).1
    obtain ⟨i, r, hr, rfl⟩ : ∃ i r, r < 3 ∧ j = i * 3 + r := ⟨j / 3, j % 3, by omega, by omega⟩
    have hi : i < l.length := by omega
    obtain ⟨k0, k1, k2, _⟩ := hl2 i hi
    rw [dflat_at _ _ i (by simpa using hi) (by simpa using hi) r hr] at hu
    simp only [List.getElem_map, dclCells] at hu
    match r, hr with
    | 0, _ => cases hu; exact k0
    | 1, _ => cases hu; exact k1
    | 2, _ => cases hu; exact k2
  · obtain rfl : len = 0 := by omega
    exact ⟨[], rfl, ⟨[], trivial, ⟨by simp [dclFlat], by omega, a, cap, rfl, fun h => by simp at h⟩⟩, by simp⟩
theorem decl_nil {fuel : Nat} {a : Option Addr} {len cap : Nat} {x : DataW H × List MemPlace}
    (h : DataW.trod enc Tryz.prog w base spare held fuel 24 [.slice a len cap] = some x) (ha : a = none) : cap = 0 := by
  rcases open_slice Tryz.underlying24 h with ⟨hcs, _⟩ | ⟨ad, len', cap', m, n, D, Pl, hcs, hb, hl, hm, hmm, hx, hi⟩
  · simp at hcs; exact hcs.2.2
  · simp at hcs; rw [ha] at hcs; cases hcs.1
end
end Go.Proofs.YtdpgpjileffekaaGreatDoor
