/- The walks of declarations: where a piece of a kind is; what a value may be. -/
import Derived.Shelf.Abstract
import Derived.Test.YtdpgpjileffekaaGreatDoorKA
import Derived.Test.YtdpgpjileffekaaGreatDoorDecA
namespace Go.Proofs.YtdpgpjileffekaaGreatDoor
open Go.RowKit Go.Shelf
attribute [local go_sem] Oper.semAt_some
set_option maxRecDepth 100000 in
set_option maxHeartbeats 1600000 in
theorem indexF0_any (A : Option Addr) (n c : Nat) (l : List Css) (g : Nat) (P : Nat → Bool) (J : Nat → World → Prop) (w : World) (hl : l.length = n) (hm : n ≤ 9223372036854775807)
    (hr : ∀ k W, J k W → Rd W (.slice A n c) l.length 4 (cssCells l)) (h0 : J 0 w) (eg : ∀ args W, (callFunc g args).run Tryz.prog W = .ok (.enter g args) W)
    (hc : ∀ k (hk : k < l.length) W, J k W → (∀ j, j < k → P j = false) → Calls Tryz.prog g #[Css.agg l[k]] W fun e W' => e = .returned (.bool (P k)) ∧ J (k + 1) W') :
    Calls Tryz.prog 38 #[.slice A n c, .func (.func g) #[] #[]] w fun e W' => ∃ i : Int, e = .returned (.int .i64 i) ∧
      ((∃ k : Nat, k < n ∧ i = k ∧ P k = true ∧ (∀ j, j < k → P j = false) ∧ J (k + 1) W') ∨ (i = -1 ∧ (∀ j, j < n → P j = false) ∧ J n W')) := by
  have HR := Lib.hid hr
  have HC := Lib.hid hc
  have HL := Lib.hid hl
  clear hr hc hl
  go_enter Tryz.func38, Tryz.ntmps38
  go_wp2_with fail
  go_loopw [8] (fun i wr => ∃ k : Nat, k ≤ n ∧ i = .int .i64 k ∧ Hid (∀ j, j < k → P j = false) ∧ Hid (J k wr)) (fun i _ => n - (intOf i).toNat)
  case atStart => exact ⟨0, by omega, rfl, fun j hj => absurd hj (by omega), h0⟩
  case round =>
    obtain ⟨k, hk, rfl, HK, HJ⟩ := hrel
    clear h0
    by_cases hlt : k < n
    · have hlt2 : k < l.length := by rw [HL.out]; exact hlt
      obtain ⟨b, off, rfl, hb, c0, c1, c2, c3⟩ := (HR.out k wr HJ.out).css k hlt2
      have HC2 := Lib.hid (HC.out k hlt2 wr HJ.out HK.out)
      simp only [Css.agg, sv] at HC2 c1 c3
      generalize l[k].kind = x1 at *
      generalize l[k].num = x3 at *
      generalize (⟨l[k].text.toArray⟩ : ByteArray) = a1 at *
      generalize (⟨l[k].unit.toArray⟩ : ByteArray) = a2 at *
      cases hp : P k
      · have HK2 : Hid (∀ j, j < k + 1 → P j = false) := fun j hj => by
          rcases Nat.lt_or_ge j k with h | h
          · exact HK.out j h
          · rw [show j = k by omega]; exact hp
        rw [hp] at HC2
        have HC3 := Lib.hid HC2.out
        clear HC2
        go_wp2_with ((with_reducible refine HC3.out.mono ?_); rintro e W2 ⟨rfl, hj2⟩; have HJ2 := Lib.hid hj2; clear hj2)
        go_roundw
        case rel => exact ⟨k + 1, by omega, by go_num, HK2, HJ2⟩
        case measure => simp [intOf]; omega
      · rw [hp] at HC2
        have HC3 := Lib.hid HC2.out
        have HP := Lib.hid hp
        clear HC2 hp
        go_wp2_with ((with_reducible refine HC3.out.mono ?_); rintro e W2 ⟨rfl, hj2⟩; have HJ2 := Lib.hid hj2; clear hj2)
        go_ret
        exact ⟨_, rfl, .inl ⟨k, hlt, rfl, HP.out, HK.out, HJ2.out⟩⟩
    · obtain rfl : k = n := by omega
      go_wp2_with fail
      go_ret
      exact ⟨_, rfl, .inr ⟨rfl, HK.out, HJ.out⟩⟩
set_option maxRecDepth 100000 in
set_option maxHeartbeats 1600000 in
theorem indexF1_any (A : Option Addr) (n c : Nat) (l : List Css) (g : Nat) (db : Nat) (P : Nat → Bool) (J : Nat → World → Prop) (w : World) (hl : l.length = n) (hm : n ≤ 9223372036854775807)
    (hr : ∀ k W, J k W → Rd W (.slice A n c) l.length 4 (cssCells l)) (h0 : J 0 w) (eg : ∀ args W, (callFunc g args).run Tryz.prog W = .ok (.enter g args) W)
    (hc : ∀ k (hk : k < l.length) W, J k W → (∀ j, j < k → P j = false) → Calls Tryz.prog g #[Css.agg l[k], .pointer (some ⟨db, 0, none⟩)] W fun e W' => e = .returned (.bool (P k)) ∧ J (k + 1) W') :
    Calls Tryz.prog 38 #[.slice A n c, .func (.func g) #[] #[.pointer (some ⟨db, 0, none⟩)]] w fun e W' => ∃ i : Int, e = .returned (.int .i64 i) ∧
      ((∃ k : Nat, k < n ∧ i = k ∧ P k = true ∧ (∀ j, j < k → P j = false) ∧ J (k + 1) W') ∨ (i = -1 ∧ (∀ j, j < n → P j = false) ∧ J n W')) := by
  have HR := Lib.hid hr
  have HC := Lib.hid hc
  have HL := Lib.hid hl
  clear hr hc hl
  go_enter Tryz.func38, Tryz.ntmps38
  go_wp2_with fail
  go_loopw [8] (fun i wr => ∃ k : Nat, k ≤ n ∧ i = .int .i64 k ∧ Hid (∀ j, j < k → P j = false) ∧ Hid (J k wr)) (fun i _ => n - (intOf i).toNat)
  case atStart => exact ⟨0, by omega, rfl, fun j hj => absurd hj (by omega), h0⟩
  case round =>
    obtain ⟨k, hk, rfl, HK, HJ⟩ := hrel
    clear h0
    by_cases hlt : k < n
    · have hlt2 : k < l.length := by rw [HL.out]; exact hlt
      obtain ⟨b, off, rfl, hb, c0, c1, c2, c3⟩ := (HR.out k wr HJ.out).css k hlt2
      have HC2 := Lib.hid (HC.out k hlt2 wr HJ.out HK.out)
      simp only [Css.agg, sv] at HC2 c1 c3
      generalize l[k].kind = x1 at *
      generalize l[k].num = x3 at *
      generalize (⟨l[k].text.toArray⟩ : ByteArray) = a1 at *
      generalize (⟨l[k].unit.toArray⟩ : ByteArray) = a2 at *
      cases hp : P k
      · have HK2 : Hid (∀ j, j < k + 1 → P j = false) := fun j hj => by
          rcases Nat.lt_or_ge j k with h | h
          · exact HK.out j h
          · rw [show j = k by omega]; exact hp
        rw [hp] at HC2
        have HC3 := Lib.hid HC2.out
        clear HC2
        go_wp2_with ((with_reducible refine HC3.out.mono ?_); rintro e W2 ⟨rfl, hj2⟩; have HJ2 := Lib.hid hj2; clear hj2)
        go_roundw
        case rel => exact ⟨k + 1, by omega, by go_num, HK2, HJ2⟩
        case measure => simp [intOf]; omega
      · rw [hp] at HC2
        have HC3 := Lib.hid HC2.out
        have HP := Lib.hid hp
        clear HC2 hp
        go_wp2_with ((with_reducible refine HC3.out.mono ?_); rintro e W2 ⟨rfl, hj2⟩; have HJ2 := Lib.hid hj2; clear hj2)
        go_ret
        exact ⟨_, rfl, .inl ⟨k, hlt, rfl, HP.out, HK.out, HJ2.out⟩⟩
    · obtain rfl : k = n := by omega
      go_wp2_with fail
      go_ret
      exact ⟨_, rfl, .inr ⟨rfl, HK.out, HJ.out⟩⟩
set_option maxHeartbeats 800000 in
theorem contains_any (A : Option Addr) (n c : Nat) (l : List Css) (w : World) (h : Rd w (.slice A n c) l.length 4 (cssCells l)) (hp : ∀ x ∈ l, Proper x) :
    Calls Tryz.prog 43 #[.slice A n c, .func (.func 41) #[] #[]] w (Ret (.bool (l.any fun x => !okC x)) w) := by
  have hl : l.length = n := by obtain ⟨_, _, _, _, he, _⟩ := h; cases he; rfl
  have hm := h.2.1
  rw [hl] at hm
  have HI := Lib.hid (indexF0_any A n c l 41 (fun k => if h : k < l.length then !okC l[k] else false) (fun _ W => ∃ X, W = w.grow X) w hl hm (fun k W ⟨X, hX⟩ => by rw [hX]; exact h.grow X) ⟨_, (grow_refl w).symm⟩
    (enters_of Tryz.func41 (by kernel_rfl) rfl) (fun k hk W ⟨X, hX⟩ _ => by
      rw [hX, dif_pos hk]
      refine (modd_any l[k] (w.grow X) (hp _ (List.getElem_mem hk))).mono ?_
      rintro e W' ⟨h1, Y, rfl⟩
      exact ⟨h1, _, grow_grow w X Y⟩))
  obtain ⟨D, hD⟩ : ∃ D, (l.any fun x => !okC x) = D := ⟨_, rfl⟩
  have HT : Hid (∀ k, k < n → (if h : k < l.length then !okC l[k] else false) = true → D = true) := fun k hk h => by
    rw [dif_pos (by omega)] at h
    rw [← hD, List.any_eq_true]; exact ⟨_, List.getElem_mem (by omega), h⟩
  have HF : Hid ((∀ j, j < n → (if h : j < l.length then !okC l[j] else false) = false) → D = false) := fun h => by
    rw [← hD, List.any_eq_false]
    intro x hx
    obtain ⟨j, hj, rfl⟩ := List.mem_iff_getElem.1 hx
    have := h j (by omega)
    rw [dif_pos hj] at this; simpa using this
  rw [hD]
  clear hD hp h hl
  go_enter Tryz.func43, Tryz.ntmps43
  go_wp2_with (go_at_call 38; (with_reducible refine HI.out.mono ?_); rintro e W2 ⟨i, rfl, hi⟩; have HI2 := Lib.hid hi; clear hi)
  go_ret
  rcases HI2.out with ⟨k, h1, rfl, h3, _, X, rfl⟩ | ⟨rfl, h2, X, rfl⟩
  · exact Ret.of (by rw [HT.out k h1 h3]; simp) (by repeat (first | with_reducible exact Below.refl _ _ | (with_reducible refine Below.alloc ?_ (by first | omega | (simp [go_sem] <;> omega)) _) | (with_reducible refine Below.drew ?_) | (with_reducible refine Below.drewN ?_ _) | (with_reducible refine Below.grow ?_ (by first | omega | (simp [go_sem] <;> omega)) _) | (with_reducible refine Below.setCell ?_ (by first | omega | (simp [go_sem] <;> omega)) _)))
  · exact Ret.of (by rw [HF.out h2]; rfl) (by repeat (first | with_reducible exact Below.refl _ _ | (with_reducible refine Below.alloc ?_ (by first | omega | (simp [go_sem] <;> omega)) _) | (with_reducible refine Below.drew ?_) | (with_reducible refine Below.drewN ?_ _) | (with_reducible refine Below.grow ?_ (by first | omega | (simp [go_sem] <;> omega)) _) | (with_reducible refine Below.setCell ?_ (by first | omega | (simp [go_sem] <;> omega)) _)))
theorem may_eq (l : List Css) : mayC l = (decide (l ≠ []) && evenF 0 l && !(l.any fun x => !okC x)) := by
  unfold mayC
  congr 1
  · congr 1
    cases l <;> simp
  · rw [Bool.eq_iff_iff]; simp
set_option maxHeartbeats 1600000 in
theorem may_any (A : Option Addr) (n c : Nat) (l : List Css) (w : World) (h : Rd w (.slice A n c) l.length 4 (cssCells l)) (hp : ∀ x ∈ l, Proper x) (hl : l.length ≤ 1000000000) :
    Calls Tryz.prog 23 #[.slice A n c] w (Ret (.bool (mayC l)) w) := by
  have HE := Lib.hid (fun X => even_any A n c l (w.grow X) (h.grow X) hp hl)
  have HC := Lib.hid (fun X => contains_any A n c l (w.grow X) (h.grow X) hp)
  have HM := Lib.hid (may_eq l)
  have hn : l.length = n := by obtain ⟨_, _, _, _, he, _⟩ := h; cases he; rfl
  have HE0 := Lib.hid (even_any A n c l w h hp hl)
  obtain ⟨D, hD⟩ : ∃ D, mayC l = D := ⟨_, rfl⟩
  rw [hD] at HM ⊢
  by_cases h0 : l = []
  · subst h0
    obtain rfl : n = 0 := hn.symm
    have HN : Hid (D = false) := by show _ = _; rw [HM.out]; rfl
    clear HE HC HE0 h hp hD HM
    go_enter Tryz.func23, Tryz.ntmps23
    go_wp2_with fail
    go_ret
    exact Ret.of (by rw [HN.out]; rfl) (by repeat (first | with_reducible exact Below.refl _ _ | (with_reducible refine Below.alloc ?_ (by first | omega | (simp [go_sem] <;> omega)) _) | (with_reducible refine Below.drew ?_) | (with_reducible refine Below.drewN ?_ _) | (with_reducible refine Below.grow ?_ (by first | omega | (simp [go_sem] <;> omega)) _) | (with_reducible refine Below.setCell ?_ (by first | omega | (simp [go_sem] <;> omega)) _)))
  have hpos : 0 < n := by have := List.length_pos_iff.2 h0; omega
  have HM2 : Hid (D = (evenF 0 l && !(l.any fun x => !okC x))) := by show _ = _; rw [HM.out, decide_eq_true h0, Bool.true_and]
  clear hD HM h0 hn hp h HE
  generalize (l.any fun x => !okC x) = o at *
  generalize evenF 0 l = ev at *
  cases ev
  · have HE1 := Lib.hid HE0.out
    go_enter Tryz.func23, Tryz.ntmps23
    go_wp2_with (first | (go_at_call 42; (with_reducible refine HE1.out.mono ?_); rintro e w' ⟨rfl, X1, rfl⟩) | (go_at_call 43; (with_reducible refine (HC.out _).mono ?_); rintro e w' ⟨rfl, X2, rfl⟩))
    go_ret
    exact Ret.of (by rw [HM2.out]; rfl) (by repeat (first | with_reducible exact Below.refl _ _ | (with_reducible refine Below.alloc ?_ (by first | omega | (simp [go_sem] <;> omega)) _) | (with_reducible refine Below.drew ?_) | (with_reducible refine Below.drewN ?_ _) | (with_reducible refine Below.grow ?_ (by first | omega | (simp [go_sem] <;> omega)) _) | (with_reducible refine Below.setCell ?_ (by first | omega | (simp [go_sem] <;> omega)) _)))
  · have HE1 := Lib.hid HE0.out
    go_enter Tryz.func23, Tryz.ntmps23
    go_wp2_with (first | (go_at_call 42; (with_reducible refine HE1.out.mono ?_); rintro e w' ⟨rfl, X1, rfl⟩) | (go_at_call 43; (with_reducible refine (HC.out _).mono ?_); rintro e w' ⟨rfl, X2, rfl⟩))
    go_ret
    exact Ret.of (by rw [HM2.out]; rfl) (by repeat (first | with_reducible exact Below.refl _ _ | (with_reducible refine Below.alloc ?_ (by first | omega | (simp [go_sem] <;> omega)) _) | (with_reducible refine Below.drew ?_) | (with_reducible refine Below.drewN ?_ _) | (with_reducible refine Below.grow ?_ (by first | omega | (simp [go_sem] <;> omega)) _) | (with_reducible refine Below.setCell ?_ (by first | omega | (simp [go_sem] <;> omega)) _)))
end Go.Proofs.YtdpgpjileffekaaGreatDoor
