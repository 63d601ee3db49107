/- Plain laws: the pieces of a style, more: what is told as text is scanned as it was. No program in sight. -/
import Derived.Test.YtgcccpdadponiaaGreatDoorCssPlain
namespace Go.Proofs.YtgcccpdadponiaaGreatDoor
theorem num_le (s : Bs) : (numP s).to + (numP s).unit.length ≤ s.length := by
  have h1 := sgN_le s
  have h2 : (s.drop (sgN s)).length = s.length - sgN s := List.length_drop ..
  unfold numP
  simp only
  generalize s.drop (sgN s) = u at *
  have h3 := twc_le digB u
  have h4 : (u.drop (twc digB u)).length = u.length - twc digB u := List.length_drop ..
  generalize u.drop (twc digB u) = v at *
  rw [List.length_take]
  rcases dotN_le v with h5 | h5
  · rw [if_pos h5, if_pos h5]
    have := unitN_le v
    omega
  · by_cases h6 : dotN v = 0
    · rw [if_pos h6, if_pos h6]
      have := unitN_le v
      omega
    · rw [if_neg h6, if_neg h6]
      have := unitN_le (v.drop (dotN v + 1))
      rw [List.length_drop] at this ⊢
      omega
theorem num_pos (s : Bs) (h : ¬ ((numP s).whole = [] ∧ (numP s).part = [])) : 1 ≤ (numP s).to := by
  revert h
  unfold numP
  simp only
  generalize s.drop (sgN s) = u
  generalize u.drop (twc digB u) = v
  intro h
  by_cases h6 : dotN v = 0
  · rw [if_pos h6]
    cases hd0 : twc digB u with
    | zero => exact absurd ⟨by rw [hd0]; rfl, by rw [h6]; rfl⟩ h
    | succ n => omega
  · rw [if_neg h6]; omega
theorem numC_some {s : Bs} {x : Css} {n : Nat} (h : numC s = some (x, n)) : n = (numP s).to + (numP s).unit.length ∧ 1 ≤ (numP s).to ∧ (x = badC ∨ ((numP s).whole.length ≤ 6 ∧ (numP s).part.length ≤ 3 ∧ (numP s).unit.length ≤ 64 ∧
    x = ⟨3, [], if (numP s).neg then -(valL ((numP s).whole ++ (numP s).part ++ List.replicate (3 - (numP s).part.length) 48) : Int) else valL ((numP s).whole ++ (numP s).part ++ List.replicate (3 - (numP s).part.length) 48), lowL (numP s).unit⟩)) := by
  have hp := num_pos s
  unfold numC numOf at h
  split at h
  · cases h
  · rename_i h0
    split at h
    · simp only [Option.some.injEq, Prod.mk.injEq] at h
      exact ⟨h.2.symm, hp h0, .inl h.1.symm⟩
    · rename_i h1
      simp only [Option.some.injEq, Prod.mk.injEq] at h
      exact ⟨h.2.symm, hp h0, .inr ⟨by omega, by omega, by omega, h.1.symm⟩⟩
theorem quotC_some {s : Bs} {x : Css} {n : Nat} (h : quotC s = some (x, n)) : ∃ c r, s = c :: r ∧ n = twc plB r + 2 ∧ n ≤ s.length ∧ x = ⟨5, r.take (twc plB r), 0, []⟩ := by
  cases s with
  | nil => simp [quotC] at h
  | cons c r =>
    simp only [quotC] at h
    split at h
    · rename_i h1
      rw [Bool.and_eq_true] at h1
      simp only [Option.some.injEq, Prod.mk.injEq] at h
      refine ⟨c, r, rfl, h.2.symm, ?_, h.1.symm⟩
      rw [← h.2]
      have h2 : r.drop (twc plB r) ≠ [] := by intro h3; rw [h3] at h1; simp [hd] at h1
      have h3 : 0 < (r.drop (twc plB r)).length := List.length_pos_iff.2 h2
      rw [List.length_drop] at h3
      simp; omega
    · cases h
theorem lowL_len (s : Bs) : (lowL s).length = s.length := by simp [lowL]
/-- What a piece may be, and how long. -/
theorem piece_kinds {s : Bs} (hs : s ≠ []) {x : Css} {n : Nat} (h : pieceC s = (x, n)) : 1 ≤ n ∧ n ≤ s.length ∧
    (x.kind = 7 ∨ (x.kind = 1 ∧ x.text.length = n) ∨ (x.kind = 2 ∧ x.text.length + 1 = n) ∨ (x.kind = 3 ∧ nameB s = false ∧ numC s = some (x, n)) ∨ (x.kind = 4 ∧ x.text.length + 1 = n) ∨ (x.kind = 5 ∧ x.text.length + 2 = n) ∨ (x.kind = 6 ∧ x.text.length = n)) := by
  unfold pieceC at h
  cases hn : nameB s
  · rw [hn] at h
    simp only [Bool.false_eq_true, if_false] at h
    cases hm : numC s with
    | some y =>
      rw [hm] at h
      simp only at h
      subst h
      obtain ⟨h1, h2, h3⟩ := numC_some hm
      refine ⟨by omega, by have := num_le s; omega, ?_⟩
      rcases h3 with rfl | ⟨_, _, _, h3⟩
      · exact .inl rfl
      · exact .inr (.inr (.inr (.inl ⟨by rw [h3], rfl, rfl⟩)))
    | none =>
      rw [hm] at h
      simp only at h
      cases hq : quotC s with
      | some y =>
        rw [hq] at h
        simp only at h
        subst h
        obtain ⟨c, r, rfl, h1, h2, rfl⟩ := quotC_some hq
        refine ⟨by omega, h2, .inr (.inr (.inr (.inr (.inr (.inl ⟨rfl, ?_⟩)))))⟩
        have := twc_le plB r
        simp; omega
      | none =>
        rw [hq] at h
        simp only at h
        cases s with
        | nil => exact absurd rfl hs
        | cons c r =>
          simp only at h
          split at h
          · rename_i h1
            have hle := twc_le goB r
            simp only [Prod.mk.injEq] at h
            obtain ⟨rfl, rfl⟩ := h
            refine ⟨by omega, by simp; omega, ?_⟩
            unfold namedC
            split
            · exact .inl rfl
            · exact .inr (.inr (.inr (.inr (.inl ⟨rfl, by simp [lowL_len]; omega⟩))))
          · split at h
            · simp only [Prod.mk.injEq] at h
              obtain ⟨rfl, rfl⟩ := h
              exact ⟨by omega, by simp, .inr (.inr (.inr (.inr (.inr (.inr ⟨rfl, rfl⟩)))))⟩
            · simp only [Prod.mk.injEq] at h
              obtain ⟨rfl, rfl⟩ := h
              exact ⟨by omega, by simp, .inl rfl⟩
  · rw [hn] at h
    simp only [if_true] at h
    have hp := nameB_pos hn
    have hle := twc_le goB s
    unfold nameC at h
    split at h
    · simp only [Prod.mk.injEq] at h
      obtain ⟨rfl, rfl⟩ := h
      exact ⟨hp, hle, .inl rfl⟩
    · split at h
      · rename_i h1
        simp only [Prod.mk.injEq] at h
        obtain ⟨rfl, rfl⟩ := h
        have h2 : s.drop (twc goB s) ≠ [] := by intro h3; rw [h3] at h1; simp [hd] at h1
        have h3 : 0 < (s.drop (twc goB s)).length := List.length_pos_iff.2 h2
        rw [List.length_drop] at h3
        exact ⟨by omega, by omega, .inr (.inr (.inl ⟨rfl, by simp [lowL_len]; omega⟩))⟩
      · simp only [Prod.mk.injEq] at h
        obtain ⟨rfl, rfl⟩ := h
        exact ⟨hp, hle, .inr (.inl ⟨rfl, by simp [lowL_len]; omega⟩)⟩
/-! What is passed over. -/
theorem blk_suffix : ∀ (s : Bs) (m : Nat), ∃ pre, s = pre ++ blkM m s := by
  intro s
  induction s with
  | nil => intro m; exact ⟨[], by cases m <;> rfl⟩
  | cons c r ih =>
    intro m
    match m with
    | 0 =>
      simp only [blkM]
      split
      · obtain ⟨p, hp⟩ := ih 0; exact ⟨c :: p, by rw [List.cons_append, ← hp]⟩
      · split
        · obtain ⟨p, hp⟩ := ih 1; exact ⟨c :: p, by rw [List.cons_append, ← hp]⟩
        · exact ⟨[], rfl⟩
    | 1 => obtain ⟨p, hp⟩ := ih 2; exact ⟨c :: p, by rw [List.cons_append]; simp only [blkM]; rw [← hp]⟩
    | 2 =>
      simp only [blkM]
      split
      · obtain ⟨p, hp⟩ := ih 3; exact ⟨c :: p, by rw [List.cons_append, ← hp]⟩
      · obtain ⟨p, hp⟩ := ih 2; exact ⟨c :: p, by rw [List.cons_append, ← hp]⟩
    | n + 3 => obtain ⟨p, hp⟩ := ih 0; exact ⟨c :: p, by rw [List.cons_append]; simp only [blkM]; rw [← hp]⟩
theorem blk_len (s : Bs) (m : Nat) : (blkM m s).length ≤ s.length := by
  obtain ⟨p, hp⟩ := blk_suffix s m
  conv => rhs; rw [hp]
  simp
/-- A piece begins here. -/
def Solid : Bs → Prop
  | [] => False
  | c :: r => spB c = false ∧ ¬ (c.toNat = 47 ∧ hd (fun d => decide (d.toNat = 42)) r = true)
theorem blk_solid : ∀ (s : Bs) (m : Nat) {c : UInt8} {r : Bs}, blkM m s = c :: r → Solid (c :: r) := by
  intro s
  induction s with
  | nil => intro m c r h; cases m <;> simp [blkM] at h
  | cons d t ih =>
    intro m c r h
    match m with
    | 0 =>
      simp only [blkM] at h
      split at h
      · exact ih 0 h
      · rename_i h1
        split at h
        · exact ih 1 h
        · rename_i h2
          cases h
          exact ⟨by simpa using h1, h2⟩
    | 1 => exact ih 2 (by simpa only [blkM] using h)
    | 2 =>
      simp only [blkM] at h
      split at h
      · exact ih 3 h
      · exact ih 2 h
    | n + 3 => exact ih 0 (by simpa only [blkM] using h)
theorem solid_blk {s : Bs} (h : Solid s) : blkM 0 s = s := by
  cases s with
  | nil => exact h.elim
  | cons c r => simp only [blkM, h.1, Bool.false_eq_true, if_false, if_neg h.2]
theorem solid_app {s r : Bs} (h : Solid s) (hr : Ends r) : Solid (s ++ r) := by
  cases s with
  | nil => exact h.elim
  | cons c t =>
    refine ⟨h.1, fun ⟨h1, h2⟩ => ?_⟩
    change hd _ (t ++ r) = true at h2
    rw [hd_app] at h2
    split at h2
    · rw [hr.hd _ fun c hc => by simp [(sp_no hc).2.2.2.2.2.2.2.2.1]] at h2; cases h2
    · exact h.2 ⟨h1, h2⟩
theorem scan_fuel : ∀ (f g : Nat) (s : Bs), s.length < f → s.length < g → cssF f s = cssF g s := by
  intro f
  induction f with
  | zero => intro g s h; omega
  | succ f ih =>
    intro g s h1 h2
    cases g with
    | zero => omega
    | succ g =>
      simp only [cssF]
      have hl := blk_len s 0
      cases hb : blkM 0 s with
      | nil => rfl
      | cons c r =>
        have hk := (piece_kinds (s := c :: r) (by simp) (x := (pieceC (c :: r)).1) (n := (pieceC (c :: r)).2) rfl).1
        rw [hb] at hl
        have he : (c :: r).length = r.length + 1 := rfl
        simp only
        congr 1
        exact ih _ _ (by rw [List.length_drop]; omega) (by rw [List.length_drop]; omega)
theorem scan_nil {s : Bs} (h : blkM 0 s = []) : cssL s = [] := by
  unfold cssL; simp only [cssF, h]
theorem scan_cons {s : Bs} {c : UInt8} {r : Bs} (h : blkM 0 s = c :: r) : cssL s = (pieceC (c :: r)).1 :: cssL ((c :: r).drop (pieceC (c :: r)).2) := by
  have hl := blk_len s 0
  rw [h] at hl
  have hk := (piece_kinds (s := c :: r) (by simp) (x := (pieceC (c :: r)).1) (n := (pieceC (c :: r)).2) rfl).1
  have he : (c :: r).length = r.length + 1 := rfl
  conv => lhs; unfold cssL
  simp only [cssF, h]
  congr 1
  exact scan_fuel _ _ _ (by rw [List.length_drop]; omega) (by omega)
theorem scan_blk {s t : Bs} (h : blkM 0 s = blkM 0 t) : cssL s = cssL t := by
  cases hb : blkM 0 t with
  | nil => rw [scan_nil (h.trans hb), scan_nil hb]
  | cons c r => rw [scan_cons (h.trans hb), scan_cons hb]
theorem scan_sp {c : UInt8} {r : Bs} (h : spB c = true) : cssL (c :: r) = cssL r := scan_blk (by simp only [blkM, h, if_true])
theorem scan_solid {s : Bs} (h : Solid s) : cssL s = (pieceC s).1 :: cssL (s.drop (pieceC s).2) := by
  cases s with
  | nil => exact h.elim
  | cons c r => exact scan_cons (solid_blk h)
/-! Figures. -/
theorem digB_of (d : Nat) (h : d < 10) : digB (fgB d) = true := by
  simp only [digB, fgB, decide_eq_true_eq, UInt8.toNat_ofNat']; omega
theorem val_of (d : Nat) (h : d < 10) : (fgB d).toNat - 48 = d := by
  simp only [fgB, UInt8.toNat_ofNat']; omega
theorem figF_dig : ∀ (f n : Nat), (figF f n).all digB = true ∧ figF f n ≠ [] := by
  have h1 := digB_of
  intro f
  induction f with
  | zero => intro n; exact ⟨by simp [figF, h1 _ (Nat.mod_lt n (by omega))], by simp [figF]⟩
  | succ f ih =>
    intro n
    simp only [figF]
    split
    · rename_i h; exact ⟨by simp [h1 _ h], by simp⟩
    · exact ⟨by simp [(ih (n / 10)).1, h1 _ (Nat.mod_lt n (by omega))], by simp⟩
theorem figF_len : ∀ (f n k : Nat), 1 ≤ k → n < 10 ^ k → (figF f n).length ≤ k := by
  intro f
  induction f with
  | zero => intro n k h1 _; simpa [figF] using h1
  | succ f ih =>
    intro n k h1 h2
    simp only [figF]
    split
    · simpa using h1
    · rename_i h
      obtain ⟨j, rfl⟩ : ∃ j, k = j + 1 := ⟨k - 1, by omega⟩
      have hj : 1 ≤ j := by
        rcases Nat.eq_zero_or_pos j with rfl | h3
        · simp at h2; omega
        · exact h3
      have := ih (n / 10) j hj (by rw [Nat.pow_succ] at h2; omega)
      simp; exact this
theorem valL_app (a b : Bs) : ∀ k, (a ++ b).foldl (fun n (c : UInt8) => n * 10 + (c.toNat - 48)) k = b.foldl (fun n (c : UInt8) => n * 10 + (c.toNat - 48)) (a.foldl (fun n (c : UInt8) => n * 10 + (c.toNat - 48)) k) := fun _ => List.foldl_append ..
theorem figF_val : ∀ (f n : Nat), n < 10 ^ (f + 1) → valL (figF f n) = n := by
  have h1 := val_of
  intro f
  induction f with
  | zero => intro n h; simp only [figF, valL, List.foldl_cons, List.foldl_nil]; rw [h1 _ (Nat.mod_lt n (by omega))]; simp at h; omega
  | succ f ih =>
    intro n h
    simp only [figF]
    split
    · rename_i h2; simp only [valL, List.foldl_cons, List.foldl_nil]; rw [h1 _ h2]; omega
    · have := ih (n / 10) (by rw [Nat.pow_succ] at h; omega)
      unfold valL at this ⊢
      rw [valL_app, this]
      simp only [List.foldl_cons, List.foldl_nil]
      rw [h1 _ (Nat.mod_lt n (by omega))]; omega
def fracD (p : Nat) : Bs := (fracL p).drop 1
theorem frac_is (p : Nat) : fracL p = if p = 0 then [] else 46 :: fracD p := by
  unfold fracD fracL
  split <;> rfl
theorem frac_dig (p : Nat) (h : p < 1000) : (fracD p).all digB = true ∧ (fracD p).length ≤ 3 ∧ (p ≠ 0 → fracD p ≠ []) := by
  have h1 : p / 100 < 10 := by omega
  have h2 : p / 10 % 10 < 10 := by omega
  have h3 : p % 10 < 10 := by omega
  unfold fracD fracL
  split
  · exact ⟨rfl, by simp, fun h => absurd (by assumption) h⟩
  · refine ⟨?_, ?_, fun _ => by simp⟩ <;> split <;> try split
    all_goals simp [digB_of, h1, h2, h3]
theorem frac_val (p k : Nat) (h : p < 1000) : (fracD p ++ List.replicate (3 - (fracD p).length) 48).foldl (fun n (c : UInt8) => n * 10 + (c.toNat - 48)) k = k * 1000 + p := by
  have h1 := val_of (p / 100) (by omega)
  have h2 := val_of (p / 10 % 10) (by omega)
  have h3 := val_of (p % 10) (by omega)
  unfold fracD fracL
  split
  · rename_i h0; subst h0; simp [List.replicate]; omega
  · split
    · simp [List.replicate, h1] ; omega
    · split
      · simp [h1, h2]; omega
      · simp [h1, h2, h3]; omega
end Go.Proofs.YtgcccpdadponiaaGreatDoor
