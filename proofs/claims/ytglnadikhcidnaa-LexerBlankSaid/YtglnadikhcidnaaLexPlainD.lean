/- Plain laws: pieces begin where they are said; joined texts; what a kind is. No program in sight. -/
import Derived.Test.YtglnadikhcidnaaLexPlainC
namespace Go.Proofs.Ytglnadikhcidnaa
theorem takeWhile_take (p : UInt8 → Bool) (r : Bs) : r.takeWhile p = r.take (r.takeWhile p).length := by
  induction r with
  | nil => rfl
  | cons d r ih =>
    rw [List.takeWhile_cons]
    split
    · rw [List.length_cons, List.take_succ_cons, ← ih]
    · rfl
theorem pieceL_kind {l : Bs} {k : Nat} {t : Bs} {n : Nat} (h : pieceL l = .ok k t n) : (k = 3 ∧ ∃ c r, l = c :: r ∧ c.toNat = 34) ∨ ((k = 1 ∨ k = 2 ∨ k = 4) ∧ t = l.take n ∧ t.length = n) := by
  cases l with
  | nil => cases h
  | cons c r =>
    have tk := fun p => takeWhile_take p r
    simp only [pieceL] at h
    split at h
    · rename_i h34
      left
      refine ⟨?_, c, r, rfl, h34⟩
      cases hs : strL r <;> rw [hs] at h <;> cases h <;> rfl
    · split at h
      · split at h
        · cases h
          right
          refine ⟨Or.inl rfl, ?_, by simp; omega⟩
          rw [Nat.add_comm, List.take_succ_cons, ← tk]
        · cases h
      · split at h
        · split at h
          · cases h
            right
            refine ⟨Or.inr (Or.inl rfl), ?_, by simp; omega⟩
            rw [Nat.add_comm, List.take_succ_cons, ← tk]
          · cases h
        · split at h
          · cases h
            exact Or.inr ⟨Or.inr (Or.inr rfl), rfl, rfl⟩
          · cases h
/-- A piece is where it is said. -/
def PlAt (s : Bs) (x : Lx) : Prop := x.at_ < s.length ∧ ((x.kind = 3 ∧ ∃ c r, s.drop x.at_ = c :: r ∧ c.toNat = 34) ∨ (x.kind ≠ 3 ∧ x.text = (s.drop x.at_).take x.text.length ∧ x.at_ + x.text.length ≤ s.length))
def Places (s : Bs) : Nat → List Lx → Prop
  | _, [] => True
  | a, x :: r => a ≤ x.at_ ∧ PlAt s x ∧ Places s (x.at_ + 1) r
theorem Places.mono {s : Bs} {a b : Nat} {l : List Lx} (h : Places s a l) (hb : b ≤ a) : Places s b l := by
  cases l with
  | nil => exact trivial
  | cons x r => exact ⟨by have := h.1; omega, h.2⟩
theorem scanF_places (s : Bs) (f : Nat) : ∀ a, a ≤ s.length → (∀ l, scanF f a (s.drop a) = .ok l → Places s a l) ∧ (∀ n, scanF f a (s.drop a) = .bad n → n ≤ s.length) := by
  induction f with
  | zero => intro a ha; exact ⟨fun l h => by cases h; exact trivial, fun n h => by cases h⟩
  | succ f ih =>
    intro a ha
    have hb := blk_le false (s.drop a)
    rw [List.length_drop] at hb
    rw [scanF, List.drop_drop]
    generalize hB : blk false (s.drop a) = b at hb ⊢
    cases hr : s.drop (a + b) with
    | nil => exact ⟨fun l h => by cases h; exact trivial, fun n h => by cases h⟩
    | cons c r =>
      have hl : (c :: r).length = s.length - (a + b) := by rw [← hr, List.length_drop]
      have hlt : a + b < s.length := by simp at hl; omega
      simp only
      cases hp : pieceL (c :: r) with
      | bad n =>
        have := (pieceL_le _).2 n hp
        refine ⟨(fun l h => by cases h), fun m h => ?_⟩
        simp only at h; cases h; omega
      | ok k t n =>
        have hn := (pieceL_le _).1 k t n hp
        have e : (c :: r).drop n = s.drop (a + b + n) := by rw [← hr, List.drop_drop]
        have h2 := ih (a + b + n) (by omega)
        simp only [e]
        cases hs : scanF f (a + b + n) (s.drop (a + b + n)) with
        | bad m =>
          refine ⟨fun l h => by simp [SR.cons] at h, fun m' h => ?_⟩
          simp only [SR.cons] at h; cases h
          exact h2.2 _ hs
        | ok ys =>
          refine ⟨fun l h => ?_, fun m h => by simp [SR.cons] at h⟩
          simp only [SR.cons] at h; cases h
          refine ⟨by simp, ⟨hlt, ?_⟩, (h2.1 ys hs).mono (by simp; omega)⟩
          rcases pieceL_kind hp with ⟨h3, c', r', h4, h5⟩ | ⟨h3, h4, h5⟩
          · cases h4
            exact Or.inl ⟨h3, c, r, hr, h5⟩
          · refine Or.inr ⟨?_, ?_, ?_⟩
            · show k ≠ 3
              omega
            · show t = _
              simp only [h5]
              rw [hr]; exact h4
            · show a + b + t.length ≤ _
              omega
theorem scanL_places (s : Bs) : (∀ l, scanL 0 s = .ok l → Places s 0 l) ∧ (∀ n, scanL 0 s = .bad n → n ≤ s.length) := by
  have := scanF_places s (s.length + 1) 0 (by omega)
  rw [List.drop_zero] at this
  exact this
theorem scanL_len (a : Nat) (l : Bs) (ys : List Lx) (h : scanL a l = .ok ys) : ys.length ≤ l.length := by
  have key : ∀ f a l ys, scanF f a l = .ok ys → ys.length ≤ l.length := by
    intro f
    induction f with
    | zero => intro a l ys h; cases h; simp
    | succ f ih =>
      intro a l ys h
      rw [scanF] at h
      cases hr : l.drop (blk false l) with
      | nil => rw [hr] at h; cases h; simp
      | cons c r =>
        rw [hr] at h
        simp only at h
        have hl : (c :: r).length ≤ l.length := by rw [← hr, List.length_drop]; omega
        cases hp : pieceL (c :: r) with
        | bad n => rw [hp] at h; cases h
        | ok k t n =>
          rw [hp] at h
          simp only at h
          have hn := (pieceL_le _).1 k t n hp
          cases hs : scanF f (a + blk false l + n) ((c :: r).drop n) with
          | bad m => rw [hs] at h; cases h
          | ok zs =>
            rw [hs] at h
            simp only [SR.cons] at h
            cases h
            have := ih _ _ _ hs
            rw [List.length_drop] at this
            simp only [List.length_cons] at *; omega
  exact key _ _ _ _ h

/-- Texts with a space between two. -/
def joinSp : List Bs → Bs
  | [] => []
  | [u] => u
  | u :: v :: r => u ++ 32 :: joinSp (v :: r)
/-- All texts, if all may be told. -/
def tellAll : List (Nat × Bs) → Option (List Bs)
  | [] => some []
  | x :: r => match toldL x.1 x.2 with
    | none => none
    | some u => (tellAll r).map (u :: ·)
def joinL (l : List (Nat × Bs)) : Option Bs := (tellAll l).map joinSp
theorem blank_one : Blank [32] := ⟨fun c r h => by cases h; rfl, by simp, fun r => by simp [blk, spB]; omega⟩
theorem stops_32 (r : Bs) : stops (32 :: r) := fun c r' h => by cases h; rfl
theorem stops_nil : stops [] := fun c r h => by cases h
theorem tell_woven : ∀ (l : List (Nat × Bs)) (us : List Bs), tellAll l = some us → Woven l (joinSp us)
  | [], us, h => by cases h; exact .nil
  | [x], us, h => by
    obtain ⟨k, t⟩ := x
    simp only [tellAll] at h
    cases ht : toldL k t with
    | none => rw [ht] at h; cases h
    | some u =>
      rw [ht] at h; cases h
      have := Woven.piece ht stops_nil .nil
      simpa [joinSp] using this
  | x :: y :: l, us, h => by
    obtain ⟨k, t⟩ := x
    rw [tellAll] at h
    cases ht : toldL k t with
    | none => rw [ht] at h; cases h
    | some u =>
      rw [ht] at h
      simp only at h
      cases hr : tellAll (y :: l) with
      | none => rw [hr] at h; cases h
      | some vs =>
        rw [hr] at h; cases h
        have ih := tell_woven (y :: l) vs hr
        cases vs with
        | nil =>
          exfalso
          rw [tellAll] at hr
          cases hy : toldL y.1 y.2 <;> rw [hy] at hr <;> simp at hr
        | cons v vs =>
          have := Woven.piece ht (stops_32 _) (Woven.blank blank_one ih)
          simpa [joinSp] using this
/-- What was joined is scanned as it was. -/
theorem join_scans {l : List (Nat × Bs)} {s : Bs} (h : joinL l = some s) : ∃ ys, scanL 0 s = .ok ys ∧ ys.map Lx.kt = l := by
  unfold joinL at h
  cases ht : tellAll l with
  | none => rw [ht] at h; cases h
  | some us => rw [ht] at h; cases h; exact woven_scans (tell_woven l us ht) 0
theorem quote_scans {s q : Bs} (h : quoteL s = some q) : scanL 0 q = .ok [⟨3, 0, s⟩] := by
  have ht : toldL 3 s = some q := by simp [toldL, h]
  obtain ⟨h1, h2, h3⟩ := told_piece ht stops_nil
  rw [List.append_nil] at h1 h3
  rw [scanL_ok h2 h3 h1]
  simp [scanL_eq, blk, SR.cons]

/-- A word, a number or a mark may be told just where it is one piece of its kind. -/
theorem told_iff {k : Nat} {t : Bs} (hk : k = 1 ∨ k = 2 ∨ k = 4) (ht : t ≠ []) : (toldL k t = some t ∧ pieceL t = .ok k t t.length) ∨ (toldL k t = none ∧ ∀ t' n, pieceL t = .ok k t' n → n ≠ t.length) := by
  cases hu : toldL k t with
  | some u =>
    left
    have he : u = t := by
      unfold toldL at hu
      rcases hk with rfl | rfl | rfl
      · simp only [show ¬ ((1 : Nat) = 3) by omega, if_false, if_true] at hu; split at hu <;> cases hu; rfl
      · simp only [show ¬ ((2 : Nat) = 3) by omega, show ¬ ((2 : Nat) = 1) by omega, if_false, if_true] at hu; split at hu <;> cases hu; rfl
      · simp only [show ¬ ((4 : Nat) = 3) by omega, show ¬ ((4 : Nat) = 1) by omega, show ¬ ((4 : Nat) = 2) by omega, if_false, if_true] at hu
        split at hu
        · split at hu <;> cases hu; rfl
        · cases hu
    subst he
    have := (told_piece hu stops_nil).1
    rw [List.append_nil] at this
    exact ⟨rfl, this⟩
  | none =>
    right
    refine ⟨rfl, fun t' n hp hn => ?_⟩
    rcases pieceL_kind hp with ⟨h3, _⟩ | ⟨_, h4, h5⟩
    · omega
    · subst hn
      rw [List.take_length] at h4
      subst h4
      cases t' with
      | nil => exact ht rfl
      | cons c r =>
        simp only [pieceL] at hp
        split at hp
        · rename_i h34
          cases hs : strL r <;> rw [hs] at hp <;> simp at hp; omega
        · split at hp
          · split at hp
            · rename_i hw
              simp only [PR.ok.injEq, List.cons.injEq, true_and] at hp
              obtain ⟨rfl, h1, _⟩ := hp
              rw [h1] at hw
              simp [toldL, hw] at hu
            · cases hp
          · split at hp
            · split at hp
              · rename_i hd hl
                simp only [PR.ok.injEq, List.cons.injEq, true_and] at hp
                obtain ⟨rfl, h1, _⟩ := hp
                rw [h1] at hl
                have ha : r.all digB = true := by
                  rw [← h1]; exact List.all_takeWhile
                simp [toldL, ha, hd] at hu
                omega
              · cases hp
            · split at hp
              · rename_i hm
                simp only [PR.ok.injEq, List.cons.injEq, true_and] at hp
                obtain ⟨rfl, h1, _⟩ := hp
                subst h1
                simp [toldL, hm] at hu
              · cases hp
end Go.Proofs.Ytglnadikhcidnaa
