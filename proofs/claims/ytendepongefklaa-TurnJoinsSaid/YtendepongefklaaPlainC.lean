/- The plain law: how far points come from one another. No program. -/
import Derived.Test.YtendepongefklaaPlainB
namespace Go.Proofs.Ytendepongefklaa

def nrm (m : Mo) : Nat := m.bx.natAbs + m.bY.natAbs
def scaleOf (s : St) : Nat := if s.k = 3 then s.x.natAbs else 1
def prodOf (l : List St) : Nat := l.foldl (fun n s => n * scaleOf s) 1

theorem nrm_behind (m n : Mo) (hm : Ax m) (hn : Ax n) : nrm (behind m n) = nrm m * nrm n := by
  obtain ⟨f, a, b, c, d⟩ := m
  obtain ⟨g, a', b', c', d'⟩ := n
  obtain ⟨h1, _⟩ := hm
  obtain ⟨h3, _⟩ := hn
  simp only at h1 h3
  unfold nrm behind
  dsimp only
  have hb : (if f = true then -b' else b').natAbs = b'.natAbs := by split <;> omega
  have hb0 : a' = 0 ∨ (if f = true then -b' else b') = 0 := by rcases h3 with h | h <;> simp [h]
  rw [← hb]
  generalize (if f = true then -b' else b') = e at *
  rcases h1 with rfl | rfl <;> rcases hb0 with rfl | rfl <;> simp [Int.natAbs_mul]

theorem nrm_step (s : St) (_h : mayB s = true) : nrm (stepM s) = scaleOf s := by
  unfold stepM scaleOf nrm
  by_cases h1 : s.k = 1
  · rw [if_pos h1, if_neg (by omega)]; simp [Mo.one]
  · rw [if_neg h1]
    by_cases h2 : s.k = 2
    · rw [if_pos h2, if_neg (by omega)]
      rcases rot_unit (quart s.x) (1, 0) (by simp) with e | e | e | e <;> simp [e]
    · rw [if_neg h2]
      by_cases h3 : s.k = 3
      · rw [if_pos h3, if_pos h3]; simp [Mo.one]
      · rw [if_neg h3, if_neg h3]
        split <;> simp [Mo.one]

theorem nrm_fold (l : List St) (h : ∀ s ∈ l, mayB s = true) (m : Mo) (hm : Ax m) (n : Nat) (hn : nrm m = n) : nrm (l.foldl (fun m s => behind m (stepM s)) m) = l.foldl (fun n s => n * scaleOf s) n := by
  induction l generalizing m n with
  | nil => exact hn
  | cons s l ih =>
    have hs := h s (by simp)
    have hx := (step_ax s hs).1
    simp only [List.foldl_cons]
    exact ih (fun t ht => h t (by simp [ht])) _ (behind_ax m _ hm hx) _ (by rw [nrm_behind m _ hm hx, hn, nrm_step s hs])

theorem nrm_all (l : List St) (h : rightB l = true) : nrm (allM l) = prodOf l := by
  unfold rightB at h
  simp only [Bool.and_eq_true, List.all_eq_true] at h
  exact nrm_fold l h.1 Mo.one ax_one 1 (by simp [nrm, Mo.one])

theorem prod_more (l : List St) (k : Nat) (hk : k < l.length) : prodOf (l.take (k + 1)) = prodOf (l.take k) * scaleOf l[k] := by
  rw [List.take_succ_eq_append_getElem hk]
  unfold prodOf
  rw [List.foldl_append]; rfl

theorem prod_lim (l : List St) (h : rightB l = true) (k : Nat) : prodOf (l.take k) ≤ 16777216 := by
  have hr : rightB (l.take k) = true := by
    unfold rightB at h ⊢
    simp only [Bool.and_eq_true, List.all_eq_true, decide_eq_true_eq] at h ⊢
    exact ⟨fun s hs => h.1 s (List.mem_of_mem_take hs), by rw [List.length_take]; omega⟩
  rw [← nrm_all _ hr]
  obtain ⟨hb, hx⟩ := all_bd l h k
  have h1 := hb.1
  have h2 := hb.2.1
  unfold nrm
  rcases hx.1 with e | e <;> rw [e] <;> simp <;> omega

theorem far_law (l : List St) (h : rightB l = true) (x y : Int) :
    ((allR l (x, y)).1 - (allR l (0, 0)).1).natAbs + ((allR l (x, y)).2 - (allR l (0, 0)).2).natAbs = prodOf l * (x.natAbs + y.natAbs) := by
  rw [← nrm_all l h, ← all_to l h, ← all_to l h]
  have hx := (allM_ax h).1
  generalize allM l = m at *
  obtain ⟨f, a, b, c, d⟩ := m
  unfold nrm Mo.to
  simp only at hx ⊢
  have hy : (if f = true then -y else y).natAbs = y.natAbs := by split <;> omega
  rw [← hy]
  generalize (if f = true then -y else y) = z at *
  have e1 : a * x - b * z + c - (a * 0 - b * (if f = true then -0 else 0) + c) = a * x - b * z := by split <;> simp <;> omega
  have e2 : a * z + b * x + d - (a * (if f = true then -0 else 0) + b * 0 + d) = a * z + b * x := by split <;> simp <;> omega
  rw [e1, e2]
  rcases hx with rfl | rfl
  · simp [Int.natAbs_mul, Nat.mul_add]; omega
  · simp [Int.natAbs_mul, Nat.mul_add]

theorem joins_law (l m : List St) (z : Int × Int) : allR (l ++ m) z = allR l (allR m z) := by unfold allR; rw [List.foldr_append]
theorem right_app (l m : List St) (h1 : rightB l = true) (h2 : rightB m = true) (h : l.length + m.length ≤ 8) : rightB (l ++ m) = true := by
  unfold rightB at *
  simp only [Bool.and_eq_true, decide_eq_true_eq, List.all_append, List.length_append] at *
  exact ⟨⟨h1.1, h2.1⟩, h⟩
theorem cells3_at {w : World} {b off : Nat} {l : List St} (h : Cells3 w b off l) (j : Nat) (u : Value) (hu : (cells3 l)[j]? = some u) : w.cell? ⟨b, off + j, none⟩ = some u := by
  have hj : j < l.length * 3 := by have := (List.getElem?_eq_some_iff.1 hu).1; rwa [cells3_len] at this
  obtain ⟨i, r, hr, rfl⟩ : ∃ i r, r < 3 ∧ j = i * 3 + r := ⟨j / 3, j % 3, by omega, by omega⟩
  have hi : i < l.length := by omega
  obtain ⟨c0, c1, c2⟩ := h.2 i _ (List.getElem?_eq_getElem hi)
  obtain ⟨d0, d1, d2⟩ := cells3_get l i _ (List.getElem?_eq_getElem hi)
  rcases (show r = 0 ∨ r = 1 ∨ r = 2 by omega) with rfl | rfl | rfl
  · rw [Nat.add_zero] at hu ⊢; rw [d0] at hu; cases hu; exact c0
  · rw [d1] at hu; cases hu; rw [← Nat.add_assoc]; exact c1
  · rw [d2] at hu; cases hu; rw [← Nat.add_assoc]; exact c2
theorem cells3_one (l : List St) : ∀ u ∈ cells3 l, u.oneCell' = true := by
  intro u hu
  unfold cells3 at hu
  obtain ⟨s, _, hs⟩ := List.mem_flatMap.1 hu
  simp at hs
  rcases hs with rfl | rfl | rfl <;> rfl
theorem cells3_app (l m : List St) : cells3 (l ++ m) = cells3 l ++ cells3 m := by unfold cells3; rw [List.flatMap_append]
end Go.Proofs.Ytendepongefklaa
