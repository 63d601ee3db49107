/- Plain laws: pieces of steps are short; values under other names. -/
import Derived.Test.YtgcccpdadponiaaGreatDoorValK
namespace Go.Proofs.YtgcccpdadponiaaGreatDoor
open Go.RowKit
theorem told_short {s : St} (h : mayB s = true) : ∀ x ∈ toldT s, CssOk x ∧ x.text.length ≤ 1000000 ∧ x.unit.length ≤ 1000000 := by
  have f : ∀ t : Bs, t.length ≤ 20 → CssOk (fnC t) ∧ (fnC t).text.length ≤ 1000000 ∧ (fnC t).unit.length ≤ 1000000 := fun t ht => ⟨⟨by simp [fnC], by simp [fnC], by simp [fnC], by simp [fnC]⟩, by simp [fnC]; omega, by simp [fnC]⟩
  have n : ∀ (a : Int) (u : Bs), a.natAbs ≤ 999999 → u.length ≤ 20 → CssOk (nuC a u) ∧ (nuC a u).text.length ≤ 1000000 ∧ (nuC a u).unit.length ≤ 1000000 := fun a u ha hu => ⟨⟨by simp [nuC], by simp [nuC], by simp [nuC]; omega, by simp [nuC]; omega⟩, by simp [nuC], by simp [nuC]; omega⟩
  have m : ∀ k, CssOk (mark1 k) ∧ (mark1 k).text.length ≤ 1000000 ∧ (mark1 k).unit.length ≤ 1000000 := fun k => ⟨⟨by simp [mark1], by simp [mark1], by simp [mark1], by simp [mark1]⟩, by simp [mark1], by simp [mark1]⟩
  obtain ⟨k, a, b⟩ := s
  unfold mayB at h
  simp only at h
  intro x hx
  unfold toldT at hx
  simp only at hx
  split at h
  · rename_i h1
    rw [if_pos h1] at hx
    simp only [Bool.and_eq_true] at h
    have ha := near_abs h.1
    have hb := near_abs h.2
    simp only [List.mem_cons, List.not_mem_nil, or_false] at hx
    rcases hx with rfl | rfl | rfl | rfl | rfl
    · exact f _ (by decide)
    · exact n _ _ (by omega) (by decide)
    · exact m _
    · exact n _ _ (by omega) (by decide)
    · exact m _
  · rename_i h1
    rw [if_neg h1] at hx
    split at h
    · rename_i h2
      rw [if_pos h2] at hx
      simp only [Bool.and_eq_true] at h
      have ha := near_abs h.1
      simp only [List.mem_cons, List.not_mem_nil, or_false] at hx
      rcases hx with rfl | rfl | rfl
      · exact f _ (by decide)
      · exact n _ _ (by omega) (by decide)
      · exact m _
    · rename_i h2
      rw [if_neg h2] at hx
      split at h
      · rename_i h3
        rw [if_pos h3] at hx
        simp only [Bool.and_eq_true, decide_eq_true_eq] at h
        simp only [List.mem_cons, List.not_mem_nil, or_false] at hx
        rcases hx with rfl | rfl | rfl
        · exact f _ (by decide)
        · exact n _ _ (by omega) (by decide)
        · exact m _
      · rename_i h3
        rw [if_neg h3] at hx
        simp only [List.mem_cons, List.not_mem_nil, or_false] at hx
        rcases hx with rfl | rfl | rfl
        · exact f _ (by decide)
        · exact n _ _ (by omega) (by decide)
        · exact m _
theorem pieces_short {ss : List St} (h : rightB ss = true) : Short (piecesT ss) ∧ (piecesT ss).length ≤ 40 := by
  obtain ⟨h1, h2⟩ := right_may h
  refine ⟨fun x hx => ?_, by have := pieces_len ss; omega⟩
  obtain ⟨s, hs, hx⟩ := List.mem_flatMap.1 hx
  exact told_short (h1 s hs) x hx
theorem none_short : Short [noneC] := fun x hx => by
  rw [List.mem_singleton] at hx
  subst hx
  exact ⟨⟨by decide, by decide, by decide, by decide⟩, by decide, by decide⟩
theorem moves_short {l a : List Css} (h : movesT l = some a) : Short a ∧ a.length ≤ 40 := by
  unfold movesT at h
  split at h
  · cases h; exact ⟨none_short, by decide⟩
  · split at h
    · cases h
    · rename_i ss hss
      split at h
      · rename_i he
        split at h
        · cases h; exact ⟨none_short, by decide⟩
        · cases h; exact pieces_short (neat_law ss he).1
      · cases h
theorem value_short {nm : Bs} {l a : List Css} (hs : Short l) (hl : l.length ≤ 100) (h : valueT nm l = some a) : Short a ∧ a.length ≤ 100 := by
  unfold valueT at h
  split at h
  · cases h
  · split at h
    · obtain ⟨h1, h2⟩ := moves_short h; exact ⟨h1, by omega⟩
    · split at h
      · cases h; exact ⟨hs, hl⟩
      · cases h
theorem value_other {nm : Bs} (h : nm ≠ transT) (l : List Css) : valueT nm l = if l = [] then none else if valF false l then some l else none := by
  unfold valueT
  rw [if_neg h]
theorem value_less {nm : Bs} (h : nm ≠ transT) {l : List Css} {n : Nat} (hn : l.length = n + 1) (h1 : 1 ≤ n) (hv : valF false l = true) {x : Css} (hx : l[n]? = some x) (hm : x ≠ mark1 41) (h2 : x.kind ≠ 2) : valueT nm (l.take n) = some (l.take n) := by
  obtain ⟨hlt, rfl⟩ := List.getElem?_eq_some_iff.1 hx
  have e : l = l.take n ++ [l[n]] := by
    rw [← List.take_succ_eq_append_getElem hlt, List.take_of_length_le (by omega)]
  rw [e] at hv
  rw [value_other h, if_neg (by intro h0; have := congrArg List.length h0; simp only [List.length_take, List.length_nil] at this; omega), if_pos (val_less _ _ _ hv hm h2)]
theorem runV_tuple (l : List St) (x y : Int) : ∃ p q r : Int, runV l x y = .tuple #[.int .i64 p, .int .i64 q, .int .i64 r] := by
  unfold runV
  split
  · exact ⟨_, _, _, rfl⟩
  · exact ⟨_, _, _, rfl⟩
end Go.Proofs.YtgcccpdadponiaaGreatDoor
