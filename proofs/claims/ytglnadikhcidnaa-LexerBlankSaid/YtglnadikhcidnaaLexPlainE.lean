/- Plain laws: what was joined is scanned as it was, over lists that came in. -/
import Derived.Test.YtglnadikhcidnaaLexO
namespace Go.Proofs.Ytglnadikhcidnaa
theorem tell_mem : ∀ {l : List (Nat × Bs)} {us : List Bs}, tellAll l = some us → ∀ x ∈ l, ∃ u, toldL x.1 x.2 = some u
  | y :: l, us, h, x, hx => by
    rw [tellAll] at h
    cases ht : toldL y.1 y.2 with
    | none => rw [ht] at h; cases h
    | some u =>
      rw [ht] at h
      simp only at h
      cases hr : tellAll l with
      | none => rw [hr] at h; cases h
      | some vs =>
        rcases List.mem_cons.1 hx with rfl | hx
        · exact ⟨u, ht⟩
        · exact tell_mem hr x hx
theorem told_kind {k : Int} {t u : Bs} (h : toldL k.toNat t = some u) : k = (k.toNat : Int) := by
  have : k.toNat ≠ 0 := by
    intro h0
    rw [h0] at h
    simp [toldL] at h
  omega
theorem join_kinds {l : List Lz} {s : Bs} (h : joinL (l.map Lz.kt) = some s) : ∀ x ∈ l, x.kind = (x.kind.toNat : Int) := by
  intro x hx
  unfold joinL at h
  cases ht : tellAll (l.map Lz.kt) with
  | none => rw [ht] at h; cases h
  | some us =>
    obtain ⟨u, hu⟩ := tell_mem ht x.kt (List.mem_map.2 ⟨x, hx, rfl⟩)
    exact told_kind hu
theorem kt_z (ys : List Lx) : (ys.map Lx.z).map Lz.kt = ys.map Lx.kt := by
  rw [List.map_map]
  apply List.map_congr_left
  intro y _
  simp [Lx.z, Lz.kt, Lx.kt]
theorem lzeq_of {l : List Lz} {ys : List Lx} (hk : ∀ x ∈ l, x.kind = (x.kind.toNat : Int)) (h : ys.map Lx.kt = l.map Lz.kt) : LzEq false l (ys.map Lx.z) := by
  have hlen : ys.length = l.length := by have := congrArg List.length h; simpa using this
  refine ⟨by simp [hlen], fun k h1 h2 => ?_⟩
  have h3 : (ys.map Lx.kt)[k]? = (l.map Lz.kt)[k]? := by rw [h]
  have hy : k < ys.length := by omega
  rw [List.getElem?_map, List.getElem?_map, List.getElem?_eq_getElem hy, List.getElem?_eq_getElem h1] at h3
  simp [Lx.kt, Lz.kt] at h3
  have h4 := hk l[k] (List.getElem_mem h1)
  refine ⟨?_, ?_, fun h => by cases h⟩
  · simp [Lx.z]; omega
  · simp [Lx.z, h3.2]
theorem few_of {l : List Lz} {ys : List Lx} (h : ys.map Lx.kt = l.map Lz.kt) (hf : fewB l = true) : fewB (ys.map Lx.z) = true := by
  have hlen : ys.length = l.length := by have := congrArg List.length h; simpa using this
  unfold fewB at hf ⊢
  rw [Bool.and_eq_true, List.all_eq_true] at hf
  rw [Bool.and_eq_true, List.all_eq_true]
  refine ⟨fun x hx => ?_, by have := hf.2; simp at this ⊢; omega⟩
  obtain ⟨y, hy, rfl⟩ := List.mem_map.1 hx
  have h3 : y.kt ∈ l.map Lz.kt := by rw [← h]; exact List.mem_map.2 ⟨y, hy, rfl⟩
  obtain ⟨z, hz, he⟩ := List.mem_map.1 h3
  have h5 := hf.1 z hz
  have h6 : z.text = y.text := by have := congrArg Prod.snd he; simpa [Lz.kt, Lx.kt] using this
  show decide (y.text.length ≤ 500) = true
  rw [← h6]; exact h5
theorem join_len {l : List Lz} {s : Bs} (h : joinL (l.map Lz.kt) = some s) (hf : fewB l = true) : s.length ≤ 100300 := by
  have hl := few_len hf
  unfold joinL at h
  cases ht : tellAll (l.map Lz.kt) with
  | none => rw [ht] at h; cases h
  | some us =>
    rw [ht] at h; cases h
    have key : ∀ (l : List Lz) (us : List Bs), (∀ x ∈ l, x.text.length ≤ 500) → tellAll (l.map Lz.kt) = some us → us.length = l.length ∧ ∀ u ∈ us, u.length ≤ 1002 := by
      intro l
      induction l with
      | nil => intro us _ h; cases h; exact ⟨rfl, fun u hu => by cases hu⟩
      | cons x l ih =>
        intro us hx h
        rw [List.map_cons, tellAll] at h
        cases ht : toldL (Lz.kt x).1 (Lz.kt x).2 with
        | none => rw [ht] at h; cases h
        | some u =>
          rw [ht] at h
          simp only at h
          cases hr : tellAll (l.map Lz.kt) with
          | none => rw [hr] at h; cases h
          | some vs =>
            rw [hr] at h; cases h
            obtain ⟨h1, h2⟩ := ih vs (fun y hy => hx y (List.mem_cons_of_mem _ hy)) hr
            refine ⟨by simp [h1], fun v hv => ?_⟩
            rcases List.mem_cons.1 hv with rfl | hv
            · have := told_len ht
              have := hx x (List.mem_cons_self ..)
              simp only [Lz.kt] at *; omega
            · exact h2 v hv
    have hx : ∀ x ∈ l, x.text.length ≤ 500 := by
      unfold fewB at hf
      rw [Bool.and_eq_true, List.all_eq_true] at hf
      exact fun x hx => of_decide_eq_true (hf.1 x hx)
    obtain ⟨h1, h2⟩ := key l us hx ht
    have h3 := joinSp_len 1002 us h2
    have : us.length * 1003 ≤ 100 * 1003 := Nat.mul_le_mul_right _ (by omega)
    omega
end Go.Proofs.Ytglnadikhcidnaa
