/- The walk of the lexer: pieces joined. -/
import Derived.Lib.Join
import Derived.Test.YtglnadikhcidnaaLexN
namespace Go.Proofs.Ytglnadikhcidnaa
open Go.RowKit Go.Shelf
def sv (t : Bs) : Value := .string ⟨t.toArray⟩
theorem join_sp (us : List Bs) : Lib.join us [32] = joinSp us := by
  induction us with
  | nil => rfl
  | cons u us ih =>
    cases us with
    | nil => simp [Lib.join, List.intercalate, joinSp]
    | cons v vs =>
      rw [joinSp, ← ih]
      simp [Lib.join, List.intercalate]
theorem joinSp_len (m : Nat) (us : List Bs) (h : ∀ u ∈ us, u.length ≤ m) : (joinSp us).length ≤ us.length * (m + 1) := by
  induction us with
  | nil => simp [joinSp]
  | cons u us ih =>
    have h1 := h u (List.mem_cons_self ..)
    have h2 := ih fun x hx => h x (List.mem_cons_of_mem _ hx)
    cases us with
    | nil => simp [joinSp]; omega
    | cons v vs =>
      rw [joinSp, List.length_append, List.length_cons, List.length_cons, Nat.add_mul]
      omega
theorem told_len {k : Nat} {t u : Bs} (h : toldL k t = some u) : u.length ≤ 2 * t.length + 2 := by
  unfold toldL at h
  split at h
  · unfold quoteL at h
    split at h
    · cases h
    · cases h
      have := esc_len t
      simp; omega
  · split at h
    · split at h <;> cases h; omega
    · split at h
      · split at h <;> cases h; omega
      · split at h
        · split at h
          · split at h <;> cases h; simp
          · cases h
        · cases h
theorem strs_row : SlT Try.prog 47 9 (.string ⟨#[]⟩) 1 16 := ⟨by kernel_rfl, by kernel_rfl, by kernel_rfl, by decide⟩
theorem strjoin_any {W : World} {B : Nat} {v : Value} (us : List Bs) (h : W.ownsRow B 9 1 v us.length (us.map sv)) (hl : (joinSp us).length ≤ 140737488355328) (hn : us.length ≤ 140737488355328) :
    Calls Try.prog 23 #[v, .string ⟨#[32]⟩] W (Ret (.string ⟨(joinSp us).toArray⟩) W) := by
  rcases h.2 with ⟨rfl, h0⟩ | ⟨g, cap, cur, rfl, hb, hg, hc, hm, hs, ht⟩
  · obtain rfl : us = [] := List.eq_nil_of_length_eq_zero h0
    refine (Try.strings_Join_none none 0 _ W).mono ?_
    rintro e w' ⟨rfl, rfl⟩
    exact Ret.same rfl
  · have e1 : (us.map fun u => (⟨u.toArray⟩ : ByteArray)).length = us.length := by simp
    have e2 : (us.map fun u => (⟨u.toArray⟩ : ByteArray)).map (·.data.toList) = us := by
      rw [List.map_map]
      conv => rhs; rw [← List.map_id us]
      apply List.map_congr_left
      intro u _
      rfl
    have key := Try.strings_Join g 0 cap (us.map fun u => (⟨u.toArray⟩ : ByteArray)) ⟨#[32]⟩ W (fun j x hx => by
      have hx2 : (us.map sv)[j]? = some (.string x) := by
        rw [List.getElem?_map] at hx ⊢
        cases hj : us[j]? with
        | none => rw [hj] at hx; cases hx
        | some u => rw [hj] at hx; cases hx; rfl
      have := h.cells (g := g) rfl j _ hx2
      have e : (⟨g, 0, none⟩ : Addr).add j = ⟨g, j, none⟩ := by unfold Addr.add; split <;> simp_all
      rw [Nat.zero_add]
      rwa [e] at this) (Array.getElem?_eq_some_iff.1 hg).1 (by rw [e1]; exact hn) (by rw [e1]; exact hc) (by rw [e2]; exact (join_sp us).symm ▸ hl)
    rw [e1, e2] at key
    refine key.mono ?_
    rintro e w' ⟨rfl, hB⟩
    refine ⟨?_, grow_of_below hB⟩
    show Ending.returned (.string ⟨(Lib.join us [32]).toArray⟩) = _
    rw [join_sp]
theorem rd_keep {W W1 : World} {B : Nat} {e : TypeId} {size : Nat} {v : Value} {n : Nat} {xs : List Value} (h : W.ownsRow B e size v n xs) (hb : Below W.heap.size W W1) : W1.ownsRow B e size v n xs := by
  obtain ⟨X, rfl⟩ := grow_of_below hb
  exact own_grow h X
def joinV : Option Bs → Value
  | some s => .tuple #[.string ⟨s.toArray⟩, .int .i64 0]
  | none => .tuple #[.string ⟨#[]⟩, .int .i64 1]
theorem tell_step (us : List Bs) (x : Nat × Bs) (l : List (Nat × Bs)) (u : Bs) (h : toldL x.1 x.2 = some u) : (tellAll (x :: l)).map (us ++ ·) = (tellAll l).map ((us ++ [u]) ++ ·) := by
  simp only [tellAll, h]
  cases tellAll l <;> simp
theorem few_text {l : List Lz} (h : fewB l = true) (k : Nat) (hk : k < l.length) : l[k].text.length ≤ 500 := by
  unfold fewB at h
  rw [Bool.and_eq_true, List.all_eq_true] at h
  exact of_decide_eq_true (h.1 _ (List.getElem_mem hk))
theorem few_len {l : List Lz} (h : fewB l = true) : l.length ≤ 100 := by
  unfold fewB at h
  rw [Bool.and_eq_true] at h
  exact of_decide_eq_true h.2
set_option maxRecDepth 100000 in
set_option maxHeartbeats 4000000 in
theorem join_any (v : Value) (l : List Lz) (w : World) (h : Rd w v l.length 3 (lzCells l)) (hf : fewB l = true) : Calls Try.prog 15 #[v] w (Ret (joinV (joinL (l.map Lz.kt))) w) := by
  have HR := Lib.hid h
  obtain ⟨_, hm, A, c, rfl, _⟩ := h
  have HF := Lib.hid hf
  have hl := few_len hf
  obtain ⟨T, hT⟩ : ∃ T, tellAll (l.map Lz.kt) = T := ⟨_, rfl⟩
  have HT := Lib.hid hT
  rw [joinL, hT]
  clear hT hf
  go_enter Try.func15, Try.ntmps15
  go_wp2_with fail
  go_loopw [4, 11] (fun s i wr => ∃ (k : Nat) (us : List Bs), k ≤ l.length ∧ us.length ≤ k ∧ i = .int .i64 k ∧ Below w.heap.size w wr ∧ wr.ownsRow w.heap.size 9 1 s us.length (us.map sv) ∧ Hid (∀ u ∈ us, u.length ≤ 1002) ∧ Hid ((tellAll ((l.drop k).map Lz.kt)).map (us ++ ·) = T)) (fun _ i _ => l.length - (intOf i).toNat)
  case atStart => exact ⟨0, [], by omega, by simp, rfl, Below.refl _ _, World.ownsRow_nil _ _ _ _, (by show ∀ _, _; intro u hu; cases hu), by show _ = _; rw [List.drop_zero, HT.out]; cases T <;> rfl⟩
  case round =>
    obtain ⟨k, us, hk, hus, rfl, hB, hown, HU, HK⟩ := hrel
    have HB := Lib.hid hB
    have hsz := hB.size
    clear hB
    by_cases hlt : k < l.length
    · obtain ⟨b, off, rfl, hb, c0, c1, c2⟩ := (HR.out.below HB.out rfl).lz k hlt
      have HD : Hid (l.drop k = l[k] :: l.drop (k + 1)) := List.drop_eq_getElem_cons hlt
      have HP := Lib.hid (fun W => told_any l[k] W (few_text HF.out k hlt))
      unfold toldP at HP
      cases ht : toldL l[k].kind.toNat l[k].text with
      | none =>
        rw [ht] at HP
        have HX : Hid (T = none) := by
          show _ = _
          rw [← HK.out, HD.out, List.map_cons, tellAll, show toldL (Lz.kt l[k]).1 (Lz.kt l[k]).2 = none from ht]; rfl
        clear ht
        go_wp2_with (go_at_call 22; (with_reducible refine (HP.out _).mono ?_); rintro e w' ⟨hb1, s1, rfl⟩; have hb1 := Lib.hid hb1)
        go_ret2
        rw [HX.out]
        exact ⟨rfl, grow_of_below (HB.out.trans ((Below.alloc (Below.refl _ _) (by omega) _).trans (hb1.out.mono (by simp; omega))))⟩
      | some u =>
        rw [ht] at HP
        have HX : Hid ((tellAll ((l.drop (k + 1)).map Lz.kt)).map ((us ++ [u]) ++ ·) = T) := by
          show _ = _
          rw [← HK.out, HD.out, List.map_cons, tell_step us _ _ u ht]
        have HU2 : Hid (∀ x ∈ us ++ [u], x.length ≤ 1002) := by
          show ∀ _, _
          intro x hx
          rcases List.mem_append.1 hx with hx | hx
          · exact HU.out x hx
          · rw [List.mem_singleton] at hx; subst hx
            have := told_len ht
            have := few_text HF.out k hlt
            omega
        have HL : Hid ((us ++ [u]).map sv = us.map sv ++ [.string ⟨u.toArray⟩]) := by show _ = _; simp [sv]
        have HL2 : Hid ((us ++ [u]).length = us.length + 1) := by show _ = _; simp
        clear ht
        go_wp2_with (first | (go_at_call 22; (with_reducible refine (HP.out _).mono ?_); rintro e w1 ⟨hb1, rfl⟩; have hown0 := rd_keep (hown.alloc _) hb1; have hbb := Lib.hid (HB.out.trans ((Below.alloc (Below.refl _ _) hsz _).trans (hb1.mono (by simp; omega)))); have hsz1 := hbb.out.size; clear hb1) | (at_builtin; refine append_abs rfl _ _ 47 rfl strs_row w.heap.size rfl (hown0.alloc _) (by simp [go_sem] <;> omega) ⟨_, 0, none⟩ 1 1 [.string ⟨u.toArray⟩] rfl rfl (new_cells (c := #[.string ⟨u.toArray⟩]) (by simp [go_sem])) (by simp [Value.oneCell']) (by unfold maxLen; omega) (by omega) ?_; intro v2 W2 hown2 hg2; have hB2 := own_step hg2 (hown0.alloc _) (Below.alloc hbb.out hsz1 _); clear hg2))
        go_roundw
        case rel => exact ⟨k + 1, us ++ [u], by omega, by rw [HL2.out]; omega, by go_num, hB2.out, by rw [HL.out, HL2.out]; exact hown2, HU2, HX⟩
        case measure => simp [intOf]; omega
    · have HX : Hid (T = some us) := by
        show _ = _
        rw [← HK.out, List.drop_eq_nil_of_le (by omega)]; simp [tellAll]
      have hj := joinSp_len 1002 us HU.out
      have HJ := Lib.hid (strjoin_any us hown (by omega) (by omega))
      clear hown hj
      go_wp2_with (go_at_call 23; (with_reducible refine HJ.out.mono ?_); rintro e w' ⟨rfl, X, rfl⟩)
      go_ret2
      rw [HX.out]
      exact ⟨rfl, grow_of_below (HB.out.trans ((below_grow _ X).mono hsz))⟩
end Go.Proofs.Ytglnadikhcidnaa
