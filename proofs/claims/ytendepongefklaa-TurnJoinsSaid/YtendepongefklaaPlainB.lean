/- The plain law: what is neat does the same, stays as it is, and tells what is done. No program. -/
import Derived.Test.YtendepongefklaaWalkG
namespace Go.Proofs.Ytendepongefklaa

theorem sl_alloc {w : World} {v : Value} {l : List St} (h : Sl w v l) (o : Obj) : Sl (w.alloc o) v l := by
  rw [alloc_grow]; exact h.grow _

theorem fold_app (A B : List St) (m : Mo) : (A ++ B).foldl (fun m s => behind m (stepM s)) m = B.foldl (fun m s => behind m (stepM s)) (A.foldl (fun m s => behind m (stepM s)) m) := List.foldl_append

theorem quart_nat (k : Nat) (h : k ≤ 3) : quart (k : Int) = k := by unfold quart; omega

theorem kq_rot (bx bY : Int) (h : (bx = 0 ∨ bY = 0) ∧ (bx ≠ 0 ∨ bY ≠ 0)) : (rot (kq bx bY) (1, 0)).1 * ((bx.natAbs + bY.natAbs : Nat) : Int) = bx ∧ (rot (kq bx bY) (1, 0)).2 * ((bx.natAbs + bY.natAbs : Nat) : Int) = bY := by
  unfold kq
  by_cases h0 : bY = 0
  · rw [if_pos h0]
    by_cases h1 : 0 ≤ bx
    · rw [if_pos h1]; simp [rot]; omega
    · rw [if_neg h1]; simp [rot]; omega
  · rw [if_neg h0]
    by_cases h1 : 0 < bY
    · rw [if_pos h1]; simp [rot]; omega
    · rw [if_neg h1]; simp [rot]; omega

theorem neat_same (m : Mo) (hax : Ax m) (hk : kq m.bx m.bY ≤ 3) : allM (neatL m) = m := by
  obtain ⟨f, bx, bY, x, y⟩ := m
  obtain ⟨r1, r2⟩ := kq_rot bx bY hax
  unfold neatL allM
  dsimp only at *
  have hn : 1 ≤ bx.natAbs + bY.natAbs := by rcases hax.2 with h | h <;> (simp only at h; omega)
  generalize kq bx bY = k at *
  generalize bx.natAbs + bY.natAbs = n at *
  rw [fold_app, fold_app, fold_app]
  have e1 : (L1 x y).foldl (fun m s => behind m (stepM s)) Mo.one = ⟨false, 1, 0, x, y⟩ := by
    unfold L1
    split
    · simp [behind, stepM, Mo.one, Mo.to]
    · rename_i h
      have h1 : x = 0 := by omega
      have h2 : y = 0 := by omega
      subst h1; subst h2; rfl
  have e2 : (L2 k).foldl (fun m s => behind m (stepM s)) ⟨false, 1, 0, x, y⟩ = ⟨false, (rot k (1, 0)).1, (rot k (1, 0)).2, x, y⟩ := by
    unfold L2
    split
    · simp [behind, stepM, Mo.one, Mo.to, quart_nat k hk]
    · have : k = 0 := by omega
      subst this; rfl
  have e3 : (L3 n).foldl (fun m s => behind m (stepM s)) ⟨false, (rot k (1, 0)).1, (rot k (1, 0)).2, x, y⟩ = ⟨false, bx, bY, x, y⟩ := by
    unfold L3
    split
    · simp [behind, stepM, Mo.one, Mo.to, r1, r2]
    · have : n = 1 := by omega
      subst this
      simp at r1 r2
      rw [r1, r2]; rfl
  rw [e1, e2, e3]
  unfold L4
  cases f
  · simp
  · simp [behind, stepM, Mo.one, Mo.to]

theorem neatE_zero {l : List St} (h : neatE l = 0) : rightB l = true ∧ nearB (allM l).mx 4096 = true ∧ nearB (allM l).my 4096 = true ∧ (allM l).bx.natAbs + (allM l).bY.natAbs ≤ 8 := by
  unfold neatE at h
  cases h1 : rightB l
  · simp [h1] at h
  · rw [if_neg (by simp [h1])] at h
    split at h
    · rename_i h2
      simp only [Bool.and_eq_true, decide_eq_true_eq] at h2
      exact ⟨rfl, h2.1.1, h2.1.2, h2.2⟩
    · omega

theorem kq_le (x y : Int) : kq x y ≤ 3 := by unfold kq; split <;> split <;> omega

theorem allM_ax {l : List St} (h : rightB l = true) : Ax (allM l) := by
  have := (all_bd l h l.length).2
  rwa [List.take_length] at this

theorem neat_right (m : Mo) (hx : nearB m.mx 4096 = true) (hy : nearB m.my 4096 = true) (hn : m.bx.natAbs + m.bY.natAbs ≤ 8) : rightB (neatL m) = true ∧ (neatL m).length ≤ 4 := by
  have hk := kq_le m.bx m.bY
  unfold neatL
  generalize kq m.bx m.bY = k at *
  generalize m.bx.natAbs + m.bY.natAbs = n at *
  have a1 : (L1 m.mx m.my).all mayB = true ∧ (L1 m.mx m.my).length ≤ 1 := by unfold L1; split <;> simp [mayB, hx, hy]
  have a2 : (L2 k).all mayB = true ∧ (L2 k).length ≤ 1 := by
    unfold L2; split
    · simp [mayB, nearB]; omega
    · simp
  have a3 : (L3 n).all mayB = true ∧ (L3 n).length ≤ 1 := by
    unfold L3; split
    · simp [mayB]; omega
    · simp
  have a4 : (L4 m.flip).all mayB = true ∧ (L4 m.flip).length ≤ 1 := by unfold L4; split <;> simp [mayB]
  constructor
  · unfold rightB
    simp only [List.all_append, a1.1, a2.1, a3.1, a4.1, Bool.and_true, Bool.true_and, List.length_append, decide_eq_true_eq]
    omega
  · simp only [List.length_append]; omega

theorem neat_law (l : List St) (h : neatE l = 0) : rightB (neatOf l) = true ∧ allM (neatOf l) = allM l ∧ neatE (neatOf l) = 0 ∧ neatOf (neatOf l) = neatOf l ∧ (neatOf l).length ≤ 4 := by
  obtain ⟨h1, h2, h3, h4⟩ := neatE_zero h
  have e : neatOf l = neatL (allM l) := by unfold neatOf; rw [if_pos h]
  have hs := neat_same (allM l) (allM_ax h1) (kq_le _ _)
  obtain ⟨r1, r2⟩ := neat_right (allM l) h2 h3 h4
  rw [e]
  have z : neatE (neatL (allM l)) = 0 := by
    unfold neatE
    rw [if_neg (by rw [r1]; simp), hs, h2, h3, decide_eq_true h4]; rfl
  refine ⟨r1, hs, z, ?_, r2⟩
  unfold neatOf; rw [if_pos z, hs]

theorem runV_neat (l : List St) (h : neatE l = 0) (x y : Int) : runV (neatOf l) x y = runV l x y := by
  obtain ⟨r1, hs, _⟩ := neat_law l h
  obtain ⟨h1, _⟩ := neatE_zero h
  unfold runV
  rw [r1, h1, ← all_to _ r1, ← all_to _ h1, hs]

theorem neat_alike (l m : List St) (hl : neatE l = 0) (hm : neatE m = 0) : neatOf l = neatOf m ↔ (allR l (0, 0) = allR m (0, 0) ∧ allR l (1, 0) = allR m (1, 0) ∧ allR l (0, 1) = allR m (0, 1)) := by
  obtain ⟨h1, _⟩ := neatE_zero hl
  obtain ⟨h2, _⟩ := neatE_zero hm
  obtain ⟨_, s1, _⟩ := neat_law l hl
  obtain ⟨_, s2, _⟩ := neat_law m hm
  constructor
  · intro h
    have : allM l = allM m := by rw [← s1, ← s2, h]
    rw [← all_to l h1, ← all_to l h1, ← all_to l h1, ← all_to m h2, ← all_to m h2, ← all_to m h2, this]
    exact ⟨rfl, rfl, rfl⟩
  · rintro ⟨e0, e1, e2⟩
    obtain ⟨a0, a1, a2⟩ := three l h1
    obtain ⟨b0, b1, b2⟩ := three m h2
    have ax := (allM_ax h1).2
    rw [a0, b0] at e0
    rw [a1, b1] at e1
    rw [a2, b2] at e2
    have : allM l = allM m := by
      generalize allM l = p at *
      generalize allM m = q at *
      obtain ⟨f, a, b, c, d⟩ := p
      obtain ⟨f', a', b', c', d'⟩ := q
      simp only [Prod.mk.injEq] at e0 e1 e2 ax
      obtain ⟨rfl, rfl⟩ := e0
      have ea : a = a' := by omega
      have eb : b = b' := by omega
      subst ea; subst eb
      cases f <;> cases f' <;> simp at e2 ⊢ <;> omega
    unfold neatOf
    rw [if_pos hl, if_pos hm, this]
end Go.Proofs.Ytendepongefklaa
