/- Plain laws: values of styles: what is told may be, and is told as it is. No program in sight. -/
import Derived.Test.YtgcccpdadponiaaGreatDoorValPlain
import Derived.Test.YtgcccpdadponiaaGreatDoorTB
namespace Go.Proofs.YtgcccpdadponiaaGreatDoor
def movesT (l : List Css) : Option (List Css) := if l = [noneC] then some [noneC] else match stepsT l with
  | none => none
  | some ss => if neatE ss = 0 then (if neatOf ss = [] then some [noneC] else some (piecesT (neatOf ss))) else none
def valueT (name : Bs) (l : List Css) : Option (List Css) := if l = [] then none else if name = transT then movesT l else if valF false l then some l else none
/-! Which pieces may be told as text. -/
theorem none_right : rightC noneC = true := by decide +kernel
theorem fn_right (t : Bs) (h : t = moveT ∨ t = turnT ∨ t = scaleT ∨ t = flipT ∨ t = rgbT ∨ t = rgbaT ∨ t = hslT ∨ t = hslaT) : rightC (fnC t) = true := by
  rcases h with rfl | rfl | rfl | rfl | rfl | rfl | rfl | rfl <;> decide +kernel
theorem mk_right (k : UInt8) (h : k = 44 ∨ k = 41) : rightC (mark1 k) = true := by
  rcases h with rfl | rfl <;> decide +kernel
theorem nu_right (n : Int) (u : Bs) (hn : n.natAbs ≤ 999999) (hu : u = pxT ∨ u = degT ∨ u = []) : rightC (nuC n u) = true := by
  have hU : UnitOk u := by
    rcases hu with rfl | rfl | rfl
    · exact .inr (.inr ⟨112, [120], rfl, by decide, by decide, by decide, by decide⟩)
    · exact .inr (.inr ⟨100, [101, 103], rfl, by decide, by decide, by decide, by decide⟩)
    · exact .inl rfl
  have h9 : (n * 1000).natAbs ≤ 999999999 := by omega
  have e : toldC (nuC n u) = figuresL (n * 1000) ++ u := rfl
  refine right_of ?_ ?_ (by simp [nuC])
  · rw [e]; exact (fig_head (n * 1000) u).2.2.2.1
  · rw [e]; exact num_scan (n * 1000) u h9 hU
theorem near_abs {n : Int} {k : Int} (h : nearB n k = true) : n.natAbs ≤ k.toNat := by
  have := nearB_iff.1 h; omega
theorem told_right {s : St} (h : mayB s = true) : ∀ x ∈ toldT s, rightC x = true := by
  obtain ⟨k, a, b⟩ := s
  unfold mayB at h
  simp only at h
  intro x hx
  unfold toldT at hx
  simp only at hx
  split at h
  · rename_i h1
    rw [if_pos h1] at hx
    simp only [Bool.and_eq_true] at h
    have ha := near_abs h.1
    have hb := near_abs h.2
    simp only [List.mem_cons, List.not_mem_nil, or_false] at hx
    rcases hx with rfl | rfl | rfl | rfl | rfl
    · exact fn_right _ (.inl rfl)
    · exact nu_right _ _ (by omega) (.inl rfl)
    · exact mk_right _ (.inl rfl)
    · exact nu_right _ _ (by omega) (.inl rfl)
    · exact mk_right _ (.inr rfl)
  · rename_i h1
    rw [if_neg h1] at hx
    split at h
    · rename_i h2
      rw [if_pos h2] at hx
      simp only [Bool.and_eq_true] at h
      have ha := near_abs h.1
      simp only [List.mem_cons, List.not_mem_nil, or_false] at hx
      rcases hx with rfl | rfl | rfl
      · exact fn_right _ (.inr (.inl rfl))
      · exact nu_right _ _ (by omega) (.inr (.inl rfl))
      · exact mk_right _ (.inr rfl)
    · rename_i h2
      rw [if_neg h2] at hx
      split at h
      · rename_i h3
        rw [if_pos h3] at hx
        simp only [Bool.and_eq_true, decide_eq_true_eq] at h
        simp only [List.mem_cons, List.not_mem_nil, or_false] at hx
        rcases hx with rfl | rfl | rfl
        · exact fn_right _ (.inr (.inr (.inl rfl)))
        · exact nu_right _ _ (by omega) (.inr (.inr rfl))
        · exact mk_right _ (.inr rfl)
      · rename_i h3
        rw [if_neg h3] at hx
        simp only [List.mem_cons, List.not_mem_nil, or_false] at hx
        rcases hx with rfl | rfl | rfl
        · exact fn_right _ (.inr (.inr (.inr (.inl rfl))))
        · exact nu_right _ _ (by omega) (.inr (.inr rfl))
        · exact mk_right _ (.inr rfl)
/-- Neither bad, nor a function that may not be. -/
def saneC (x : Css) : Prop := x.kind ≠ 7 ∧ (x.kind = 2 → x.text ≠ [117, 114, 108] ∧ x.text ≠ [101, 120, 112, 114, 101, 115, 115, 105, 111, 110])
theorem told_sane (s : St) : ∀ x ∈ toldT s, saneC x := by
  intro x hx
  unfold toldT at hx
  have f : ∀ t, t = moveT ∨ t = turnT ∨ t = scaleT ∨ t = flipT → saneC (fnC t) := by
    intro t h
    refine ⟨by simp [fnC], fun _ => ?_⟩
    rcases h with rfl | rfl | rfl | rfl <;> exact ⟨by decide, by decide⟩
  have n : ∀ a u, saneC (nuC a u) := fun a u => ⟨by simp [nuC], by simp [nuC]⟩
  have m : ∀ k, saneC (mark1 k) := fun k => ⟨by simp [mark1], by simp [mark1]⟩
  split at hx
  · simp only [List.mem_cons, List.not_mem_nil, or_false] at hx
    rcases hx with rfl | rfl | rfl | rfl | rfl
    · exact f _ (.inl rfl)
    · exact n _ _
    · exact m _
    · exact n _ _
    · exact m _
  · split at hx
    · simp only [List.mem_cons, List.not_mem_nil, or_false] at hx
      rcases hx with rfl | rfl | rfl
      · exact f _ (.inr (.inl rfl))
      · exact n _ _
      · exact m _
    · split at hx
      · simp only [List.mem_cons, List.not_mem_nil, or_false] at hx
        rcases hx with rfl | rfl | rfl
        · exact f _ (.inr (.inr (.inl rfl)))
        · exact n _ _
        · exact m _
      · simp only [List.mem_cons, List.not_mem_nil, or_false] at hx
        rcases hx with rfl | rfl | rfl
        · exact f _ (.inr (.inr (.inr rfl)))
        · exact n _ _
        · exact m _
theorem plain_sane {x : Css} (h : plainC x = true) : saneC x ∧ rightC x = true ∧ x.kind ≠ 2 := by
  simp only [plainC, Bool.and_eq_true] at h
  obtain ⟨h1, h2⟩ := h
  unfold plain0 at h1
  have h3 : x.kind ≠ 7 ∧ x.kind ≠ 2 := by
    split at h1
    · omega
    · split at h1
      · omega
      · split at h1
        · omega
        · split at h1
          · omega
          · cases h1
  exact ⟨⟨h3.1, fun h => absurd h h3.2⟩, h2, h3.2⟩
theorem colour_sane {x : Css} (h : colourC x = true) : saneC x ∧ rightC x = true := by
  simp only [colourC, decide_eq_true_eq] at h
  rcases h with rfl | rfl | rfl | rfl
  · exact ⟨⟨by decide, fun _ => ⟨by decide, by decide⟩⟩, fn_right _ (by simp)⟩
  · exact ⟨⟨by decide, fun _ => ⟨by decide, by decide⟩⟩, fn_right _ (by simp)⟩
  · exact ⟨⟨by decide, fun _ => ⟨by decide, by decide⟩⟩, fn_right _ (by simp)⟩
  · exact ⟨⟨by decide, fun _ => ⟨by decide, by decide⟩⟩, fn_right _ (by simp)⟩
theorem val_sane : ∀ (l : List Css) (o : Bool), valF o l = true → ∀ x ∈ l, saneC x ∧ rightC x = true
  | [], _, _, x, hx => by cases hx
  | y :: l, o, h, x, hx => by
    simp only [valF] at h
    rcases List.mem_cons.1 hx with rfl | hx
    · split at h
      · rename_i h1; exact ⟨(plain_sane h1).1, (plain_sane h1).2.1⟩
      · split at h
        · rename_i h2; simp only [Bool.and_eq_true] at h2; exact colour_sane h2.2
        · split at h
          · rename_i h3
            simp only [Bool.and_eq_true, decide_eq_true_eq] at h3
            rw [h3.2]
            exact ⟨⟨by decide, fun h => absurd h (by decide)⟩, mk_right _ (.inr rfl)⟩
          · cases h
    · split at h
      · exact val_sane l _ h x hx
      · split at h
        · exact val_sane l _ h x hx
        · split at h
          · exact val_sane l _ h x hx
          · cases h
theorem pieces_first {ss : List St} (h : ss ≠ []) : ∃ t r, piecesT ss = fnC t :: r := by
  cases ss with
  | nil => exact absurd rfl h
  | cons s ss =>
    show ∃ t r, toldT s ++ piecesT ss = fnC t :: r
    unfold toldT
    split
    · exact ⟨_, _, rfl⟩
    · split
      · exact ⟨_, _, rfl⟩
      · split
        · exact ⟨_, _, rfl⟩
        · exact ⟨_, _, rfl⟩
theorem pieces_none {ss : List St} : piecesT ss ≠ [noneC] := by
  intro h
  cases ss with
  | nil => cases h
  | cons s ss =>
    obtain ⟨t, r, hr⟩ := pieces_first (ss := s :: ss) (by simp)
    rw [hr] at h
    have := (List.cons.inj h).1
    have := congrArg Css.kind this
    simp [fnC, noneC] at this
theorem moves_again {l a : List Css} (h : movesT l = some a) : movesT a = some a ∧ a ≠ [] ∧ (∀ x ∈ a, saneC x ∧ rightC x = true) := by
  have hn : movesT [noneC] = some [noneC] ∧ [noneC] ≠ [] ∧ (∀ x ∈ [noneC], saneC x ∧ rightC x = true) := by
    refine ⟨by simp [movesT], by simp, fun x hx => ?_⟩
    rw [List.mem_singleton] at hx
    subst hx
    exact ⟨⟨by decide, fun h => absurd h (by decide)⟩, none_right⟩
  unfold movesT at h
  split at h
  · cases h; exact hn
  · split at h
    · cases h
    · rename_i ss hss
      split at h
      · rename_i he
        split at h
        · cases h; exact hn
        · rename_i hne
          cases h
          obtain ⟨n1, n2, n3, n4, n5⟩ := neat_law ss he
          refine ⟨?_, ?_, fun x hx => ?_⟩
          · unfold movesT
            rw [if_neg pieces_none, steps_pieces n1]
            simp only [n3, n4, if_true, if_neg hne]
          · obtain ⟨t, r, hr⟩ := pieces_first hne
            rw [hr]; simp
          · obtain ⟨s, hs, hx⟩ := List.mem_flatMap.1 hx
            exact ⟨told_sane s x hx, told_right ((right_may n1).1 s hs) x hx⟩
      · cases h
/-- What is told may be, and is told as it is. -/
theorem value_stays {name : Bs} {l a : List Css} (h : valueT name l = some a) : valueT name a = some a ∧ a ≠ [] ∧ (∀ x ∈ a, saneC x ∧ rightC x = true) := by
  unfold valueT at h
  split at h
  · cases h
  · rename_i h0
    split at h
    · rename_i h1
      obtain ⟨m1, m2, m3⟩ := moves_again h
      exact ⟨by unfold valueT; rw [if_neg m2, if_pos h1]; exact m1, m2, m3⟩
    · rename_i h1
      split at h
      · rename_i h2
        cases h
        exact ⟨by unfold valueT; rw [if_neg h0, if_neg h1, if_pos h2], h0, val_sane _ _ h2⟩
      · cases h
/-- A transform that is told moves each point as what it was told for. -/
theorem value_moves {m : List St} (hr : rightB m = true) {a : List Css} (h : valueT transT (piecesT m) = some a) : ∃ n, (a = [noneC] ∧ n = [] ∨ 1 < a.length ∧ stepsT a = some n) ∧ ∀ x y, runV m x y = runV n x y := by
  unfold valueT at h
  split at h
  · cases h
  · rw [if_pos rfl] at h
    unfold movesT at h
    rw [if_neg pieces_none, steps_pieces hr] at h
    simp only at h
    split at h
    · rename_i he
      obtain ⟨n1, n2, n3, n4, n5⟩ := neat_law m he
      split at h
      · rename_i h0
        cases h
        exact ⟨[], .inl ⟨rfl, rfl⟩, fun x y => by rw [← runV_neat m he, h0]⟩
      · rename_i h0
        cases h
        refine ⟨neatOf m, .inr ⟨?_, steps_pieces n1⟩, fun x y => (runV_neat m he x y).symm⟩
        cases hm : neatOf m with
        | nil => exact absurd hm h0
        | cons s ss =>
          show 1 < (toldT s ++ piecesT ss).length
          have := (told_len3 s).1
          rw [List.length_append]; omega
    · cases h
/-- Without its last piece, if that is neither a function nor a bracket. -/
theorem val_less : ∀ (l : List Css) (o : Bool) (x : Css), valF o (l ++ [x]) = true → x ≠ mark1 41 → x.kind ≠ 2 → valF o l = true
  | [], o, x, h, h1, h2 => by
    simp only [List.nil_append, valF] at h
    split at h
    · exact h
    · split at h
      · rename_i h3
        simp only [Bool.and_eq_true, colourC, decide_eq_true_eq] at h3
        exfalso
        rcases h3.2 with rfl | rfl | rfl | rfl <;> exact h2 rfl
      · split at h
        · rename_i h3
          simp only [Bool.and_eq_true, decide_eq_true_eq] at h3
          exact absurd h3.2 h1
        · cases h
  | y :: l, o, x, h, h1, h2 => by
    simp only [List.cons_append, valF] at h ⊢
    split
    · rename_i hp
      rw [if_pos hp] at h
      exact val_less l _ x h h1 h2
    · rename_i hp
      rw [if_neg hp] at h
      split
      · rename_i hc
        rw [if_pos hc] at h
        exact val_less l _ x h h1 h2
      · rename_i hc
        rw [if_neg hc] at h
        split
        · rename_i hm
          rw [if_pos hm] at h
          exact val_less l _ x h h1 h2
        · rename_i hm
          rw [if_neg hm] at h
          cases h
end Go.Proofs.YtgcccpdadponiaaGreatDoor
