/- Plain laws: what is scanned is short. No program in sight. -/
import Derived.Test.YtgcccpdadponiaaGreatDoorCssOpen
namespace Go.Proofs.YtgcccpdadponiaaGreatDoor
open Go.RowKit in
theorem RetS.flat {P : Program} {f : FuncId} {args : Array Value} {w1 : World} {X : Gr} {n size : Nat} {cells : List Value} (h : Calls P f args (w1.grow X) (RetS (w1.grow X) n size cells)) : Calls P f args (w1.grow X) (RetS w1 n size cells) :=
  h.mono fun _ _ hh => by
    obtain ⟨A, c, Y, h1, rfl, h2, h3⟩ := hh
    rw [grow_grow] at h3
    exact ⟨A, c, _, h1, grow_grow w1 X Y, h2, h3⟩
theorem num_digs (s : Bs) : ((numP s).whole ++ (numP s).part ++ List.replicate (3 - (numP s).part.length) 48).all digB = true := by
  simp only [List.all_append, Bool.and_eq_true]
  refine ⟨⟨all_take digB _, ?_⟩, ?_⟩
  · unfold numP
    simp only
    generalize ((s.drop (sgN s)).drop (twc digB (s.drop (sgN s)))) = v
    cases v with
    | nil => rfl
    | cons c v =>
      simp only [dotN, List.drop_succ_cons, List.drop_zero]
      split
      · exact all_take digB _
      · rfl
  · rw [List.all_eq_true]
    intro c hc
    rw [List.eq_of_mem_replicate hc]; decide
/-- As short as what it was scanned of. -/
def Small (m : Nat) (x : Css) : Prop := CssOk x ∧ x.text.length ≤ m ∧ x.unit.length ≤ 64
theorem bad_small (m : Nat) : Small m badC := ⟨⟨by decide, by decide, by decide, by decide⟩, Nat.zero_le _, Nat.zero_le _⟩
theorem name_small {m k : Nat} {t : Bs} (hk : k ≤ 7) (h : t.length ≤ m) : Small m ⟨k, t, 0, []⟩ := ⟨⟨by show -9223372036854775808 ≤ (k : Int); omega, by show (k : Int) ≤ 9223372036854775807; omega, by simp, by simp⟩, h, Nat.zero_le _⟩
theorem piece_small {s : Bs} {x : Css} {n : Nat} (h : pieceC s = (x, n)) : Small s.length x := by
  unfold pieceC at h
  cases hn : nameB s
  · rw [hn] at h
    simp only [Bool.false_eq_true, if_false] at h
    cases hm : numC s with
    | some y =>
      rw [hm] at h
      simp only at h
      subst h
      obtain ⟨_, _, h3⟩ := numC_some hm
      rcases h3 with rfl | ⟨l1, l2, l3, rfl⟩
      · exact bad_small _
      · have hv := valL_small _ (num_digs s) (by simp only [List.length_append, List.length_replicate]; omega)
        refine ⟨⟨by simp, by simp, ?_, ?_⟩, Nat.zero_le _, by rw [lowL_len]; exact l3⟩ <;> (simp only; split <;> omega)
    | none =>
      rw [hm] at h
      simp only at h
      cases hq : quotC s with
      | some y =>
        rw [hq] at h
        simp only at h
        subst h
        obtain ⟨c, r, rfl, h1, h2, rfl⟩ := quotC_some hq
        exact name_small (k := 5) (by omega) (by rw [List.length_take]; simp; omega)
      | none =>
        rw [hq] at h
        simp only at h
        cases s with
        | nil =>
          simp only [Prod.mk.injEq] at h
          obtain ⟨rfl, _⟩ := h
          exact bad_small _
        | cons c r =>
          simp only at h
          split at h
          · simp only [Prod.mk.injEq] at h
            obtain ⟨rfl, _⟩ := h
            unfold namedC
            split
            · exact bad_small _
            · exact name_small (k := 4) (by omega) (by rw [lowL_len, List.length_take]; simp; omega)
          · split at h
            · simp only [Prod.mk.injEq] at h
              obtain ⟨rfl, _⟩ := h
              exact name_small (k := 6) (by omega) (by simp)
            · simp only [Prod.mk.injEq] at h
              obtain ⟨rfl, _⟩ := h
              exact bad_small _
  · rw [hn] at h
    simp only [if_true] at h
    unfold nameC at h
    split at h
    · simp only [Prod.mk.injEq] at h
      obtain ⟨rfl, _⟩ := h
      exact bad_small _
    · split at h
      · simp only [Prod.mk.injEq] at h
        obtain ⟨rfl, _⟩ := h
        exact name_small (k := 2) (by omega) (by rw [lowL_len, List.length_take]; omega)
      · simp only [Prod.mk.injEq] at h
        obtain ⟨rfl, _⟩ := h
        exact name_small (k := 1) (by omega) (by rw [lowL_len, List.length_take]; omega)
theorem scan_small : ∀ (f : Nat) (s : Bs), ∀ x ∈ cssF f s, Small s.length x := by
  intro f
  induction f with
  | zero => intro s x hx; simp [cssF] at hx
  | succ f ih =>
    intro s x hx
    simp only [cssF] at hx
    have hl := blk_len s 0
    cases hb : blkM 0 s with
    | nil => rw [hb] at hx; simp at hx
    | cons c r =>
      rw [hb] at hx hl
      have up : ∀ {m : Nat} {y : Css}, m ≤ s.length → Small m y → Small s.length y := fun hm h => ⟨h.1, Nat.le_trans h.2.1 hm, h.2.2⟩
      simp only [List.mem_cons] at hx
      rcases hx with rfl | hx
      · exact up hl (piece_small (s := c :: r) (n := (pieceC (c :: r)).2) rfl)
      · exact up (by rw [List.length_drop]; omega) (ih _ x hx)
theorem few_short {l : List Css} (h : fewB l = true) (hz : ∀ p ∈ l, CssIn p) : Short l ∧ l.length ≤ 100 ∧ ∀ p ∈ l, p.text.length ≤ 3000 ∧ p.unit.length ≤ 3000 := by
  simp only [fewB, Bool.and_eq_true, List.all_eq_true, decide_eq_true_eq, few1] at h
  refine ⟨fun x hx => ⟨(hz x hx).1, ?_, ?_⟩, h.2, fun x hx => ?_⟩
  · have := (h.1 x hx).1; omega
  · have := (h.1 x hx).2; omega
  · have := h.1 x hx; omega
theorem scan_text {l : List Css} (h : l.all rightC = true) : cssL (textC l) = l := by
  have := text_scan l (List.all_eq_true.1 h) [] (.inl rfl)
  rw [List.append_nil, scan_nil (s := []) rfl, List.append_nil] at this
  exact this
theorem text_short {l : List Css} (h : Short l) (hl : l.length ≤ 1100) (hs : ∀ p ∈ l, p.text.length ≤ 3000 ∧ p.unit.length ≤ 3000) : (textC l).length ≤ 10000000 := by
  have h1 := join_len 6040 (l.map toldC) (fun u hu => by
    rw [List.mem_map] at hu
    obtain ⟨x, hx, rfl⟩ := hu
    have := told_len x (h x hx).1
    have := hs x hx
    omega)
  rw [List.length_map] at h1
  unfold textC
  have := Nat.mul_le_mul_right 6041 hl
  omega
theorem scan_short {s : Bs} (h : s.length ≤ 1000) : Short (cssL s) ∧ (cssL s).length ≤ 1000 ∧ ∀ p ∈ cssL s, p.text.length ≤ 3000 ∧ p.unit.length ≤ 3000 := by
  have h1 := scan_few _ s (Nat.lt_succ_self _)
  refine ⟨fun x hx => ?_, Nat.le_trans h1 h, fun x hx => ?_⟩
  · have := scan_small _ s x hx
    exact ⟨this.1, by have := this.2.1; omega, by have := this.2.2; omega⟩
  · have := scan_small _ s x hx
    exact ⟨by have := this.2.1; omega, by have := this.2.2; omega⟩
end Go.Proofs.YtgcccpdadponiaaGreatDoor
