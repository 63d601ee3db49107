/- Plain laws: what is told as text is scanned as it was told. No program in sight. -/
import Derived.Test.YtglnadikhcidnaaLexPlain
namespace Go.Proofs.Ytglnadikhcidnaa
theorem scanL_skip {a : Nat} {l : Bs} (j : Nat) (h : blk false l = j + blk false (l.drop j)) : scanL a l = scanL (a + j) (l.drop j) := by
  rw [scanL_eq a l, scanL_eq (a + j), h, List.drop_drop, Nat.add_assoc]
theorem scanL_ok {a : Nat} {l : Bs} {k : Nat} {t : Bs} {n : Nat} (hl : l ≠ []) (h0 : blk false l = 0) (h : pieceL l = .ok k t n) : scanL a l = (scanL (a + n) (l.drop n)).cons ⟨k, a, t⟩ := by
  rw [scanL_eq, h0, List.drop_zero, Nat.add_zero]
  cases l with
  | nil => exact absurd rfl hl
  | cons c r => simp only [h]
theorem scanL_bad {a : Nat} {l : Bs} {n : Nat} (hl : l ≠ []) (h0 : blk false l = 0) (h : pieceL l = .bad n) : scanL a l = .bad (a + n) := by
  rw [scanL_eq, h0, List.drop_zero, Nat.add_zero]
  cases l with
  | nil => exact absurd rfl hl
  | cons c r => simp only [h]
def TR.pr : TR → PR
  | .ok t n => .ok 3 t (n + 1)
  | .bad n => .bad (n + 1)
  | .op => .bad 0
theorem pieceL_str {c : UInt8} (r : Bs) (h : c.toNat = 34) : pieceL (c :: r) = (strL r).pr := by
  rw [pieceL, if_pos h]; cases strL r <;> rfl

/-- Nothing goes on here. -/
def stops (r : Bs) : Prop := ∀ c r', r = c :: r' → wchB c = false
theorem dig_wch {c : UInt8} (h : digB c = true) : wchB c = true := by simp [wchB, h]
theorem low_wch {c : UInt8} (h : lowB c = true) : wchB c = true := by simp [wchB, h]
theorem tw_stop (p : UInt8 → Bool) (hp : ∀ c, p c = true → wchB c = true) (t r : Bs) (ht : t.all p = true) (hr : stops r) : (t ++ r).takeWhile p = t := by
  induction t with
  | nil =>
    cases r with
    | nil => rfl
    | cons c r' =>
      have h1 := hr c r' rfl
      have h2 : p c = false := by
        cases h : p c
        · rfl
        · rw [hp c h] at h1; cases h1
      simp [h2]
  | cons c t ih =>
    simp only [List.all_cons, Bool.and_eq_true] at ht
    rw [List.cons_append, List.takeWhile_cons, if_pos ht.1, ih ht.2]
theorem strL_esc_all (t r : Bs) (h : t.any oddB = false) : strL (esc t ++ 34 :: r) = .ok t ((esc t).length + 1) := by
  induction t with
  | nil => exact strL_quote r (by decide)
  | cons c t ih =>
    simp only [List.any_cons, Bool.or_eq_false_iff] at h
    simp only [esc]
    split
    · rename_i hc
      rw [List.cons_append, List.cons_append, strL_esc _ (by decide) (by omega), ih h.2]
      simp [TR.app]
    · rename_i hc
      rw [List.cons_append, strL_plain _ (by omega) (by omega) (by rw [h.1]; simp), ih h.2]
      simp [TR.app]
theorem told_piece {k : Nat} {t u r : Bs} (h : toldL k t = some u) (hr : stops r) : pieceL (u ++ r) = .ok k t u.length ∧ u ≠ [] ∧ blk false (u ++ r) = 0 := by
  unfold toldL at h
  split at h
  · rename_i hk; subst hk
    unfold quoteL at h
    split at h
    · cases h
    · rename_i ho
      cases h
      have e : (34 :: esc t ++ [34]) ++ r = 34 :: (esc t ++ 34 :: r) := by simp
      rw [e]
      refine ⟨?_, by simp, by simp [blk, spB]⟩
      rw [pieceL_str _ (by decide), strL_esc_all t r (by simpa using ho)]
      simp [TR.pr]
  · split at h
    · rename_i hk; subst hk
      split at h
      · rename_i hw
        cases h
        cases t with
        | nil => cases hw
        | cons c t =>
          simp only [wordB, Bool.and_eq_true, decide_eq_true_eq] at hw
          obtain ⟨⟨h1, h2⟩, h3⟩ := hw
          have h34 : ¬ c.toNat = 34 := by unfold lowB at h2; simp at h2; omega
          have e := tw_stop wchB (fun _ h => h) t r h3 hr
          refine ⟨?_, by simp, ?_⟩
          · rw [List.cons_append, pieceL, if_neg h34, if_pos h2, e, if_pos (by simp [wordB, h1, h2, h3])]
            simp; omega
          · simp only [List.cons_append, blk]
            unfold lowB at h2; simp at h2
            rw [if_neg (by simp [spB]; omega), if_neg (by omega)]
      · cases h
    · split at h
      · rename_i hk; subst hk
        split at h
        · rename_i hw
          cases h
          obtain ⟨h1, h2, h3⟩ := hw
          cases t with
          | nil => simp at h1
          | cons c t =>
            simp only [List.all_cons, Bool.and_eq_true] at h3
            have h34 : ¬ c.toNat = 34 := by have := h3.1; unfold digB at this; simp at this; omega
            have hl : lowB c = false := by have := h3.1; unfold digB at this; simp at this; simp [lowB]; omega
            have e := tw_stop digB (fun _ h => dig_wch h) t r h3.2 hr
            refine ⟨?_, by simp, ?_⟩
            · rw [List.cons_append, pieceL, if_neg h34, if_neg (by rw [hl]; simp), if_pos h3.1, e, if_pos (by simp at h2; omega)]
              simp; omega
            · simp only [List.cons_append, blk]
              have := h3.1; unfold digB at this; simp at this
              rw [if_neg (by simp [spB]; omega), if_neg (by omega)]
        · cases h
      · split at h
        · rename_i hk; subst hk
          split at h
          · rename_i c
            split at h
            · rename_i hm
              cases h
              unfold mrkB at hm; simp at hm
              have h34 : ¬ c.toNat = 34 := by omega
              have hl : lowB c = false := by simp [lowB]; omega
              have hd : digB c = false := by simp [digB]; omega
              refine ⟨?_, by simp, ?_⟩
              · rw [List.singleton_append, pieceL, if_neg h34, if_neg (by rw [hl]; simp), if_neg (by rw [hd]; simp), if_pos (by simp [mrkB]; omega)]
                rfl
              · simp only [List.singleton_append, blk]
                rw [if_neg (by simp [spB]; omega), if_neg (by omega)]
            · cases h
          · cases h
        · cases h

/-- Bytes that are passed over, whatever follows. -/
def Blank (b : Bs) : Prop := stops b ∧ b ≠ [] ∧ ∀ r, blk false (b ++ r) = b.length + blk false r
/-- Pieces' texts with what is passed over between them. -/
inductive Woven : List (Nat × Bs) → Bs → Prop where
  | nil : Woven [] []
  | blank {b r : Bs} {xs : List (Nat × Bs)} (h : Blank b) (hr : Woven xs r) : Woven xs (b ++ r)
  | piece {k : Nat} {t u r : Bs} {xs : List (Nat × Bs)} (h : toldL k t = some u) (hs : stops r) (hr : Woven xs r) : Woven ((k, t) :: xs) (u ++ r)
def Lx.kt (x : Lx) : Nat × Bs := (x.kind, x.text)
theorem woven_scans {xs : List (Nat × Bs)} {l : Bs} (h : Woven xs l) : ∀ a, ∃ ys, scanL a l = .ok ys ∧ ys.map Lx.kt = xs := by
  induction h with
  | nil => intro a; exact ⟨[], by rw [scanL_eq]; rfl, rfl⟩
  | @blank b r xs h hr ih =>
    intro a
    obtain ⟨ys, h1, h2⟩ := ih (a + b.length)
    refine ⟨ys, ?_, h2⟩
    rw [scanL_skip b.length (by rw [h.2.2 r]; simp)]
    simpa using h1
  | @piece k t u r xs h hs hr ih =>
    intro a
    obtain ⟨h1, h2, h3⟩ := told_piece h hs
    obtain ⟨ys, h4, h5⟩ := ih (a + u.length)
    refine ⟨⟨k, a, t⟩ :: ys, ?_, by simp [h5, Lx.kt]⟩
    rw [scanL_ok (by simp [h2]) h3 h1]
    have e : (u ++ r).drop u.length = r := by simp
    rw [e, h4]; rfl
end Go.Proofs.Ytglnadikhcidnaa
