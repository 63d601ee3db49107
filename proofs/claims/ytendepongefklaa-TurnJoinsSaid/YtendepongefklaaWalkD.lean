/- The walks of the turns: what reads a list of steps. -/
import Derived.Test.YtendepongefklaaWalkC
namespace Go.Proofs.Ytendepongefklaa
open Go.RowKit

/-- The cells at b, off on hold the steps l. -/
def Cells3 (w : World) (b off : Nat) (l : List St) : Prop := b < w.heap.size ∧
    ∀ (i : Nat) (s : St), l[i]? = some s → w.cell? ⟨b, off + i * 3, none⟩ = some (.int .i64 s.k) ∧ w.cell? ⟨b, off + i * 3 + 1, none⟩ = some (.int .i64 s.x) ∧ w.cell? ⟨b, off + i * 3 + 2, none⟩ = some (.int .i64 s.y)
/-- The value v reads, in the world w, as the list of steps l. -/
def Sl (w : World) (v : Value) (l : List St) : Prop :=
  ∃ a cap, v = .slice a l.length cap ∧ l.length ≤ 9223372036854775807 ∧ (l = [] ∨ ∃ b off, a = some ⟨b, off, none⟩ ∧ Cells3 w b off l)

theorem Cells3.grow {w : World} {b off : Nat} {l : List St} (h : Cells3 w b off l) (X : Gr) : Cells3 (w.grow X) b off l :=
  ⟨by rw [size_grow]; have := h.1; omega, fun i s hs => by obtain ⟨a, b, c⟩ := h.2 i s hs; exact ⟨cell_grow a, cell_grow b, cell_grow c⟩⟩
theorem Sl.grow {w : World} {v : Value} {l : List St} (h : Sl w v l) (X : Gr) : Sl (w.grow X) v l := by
  obtain ⟨a, cap, h1, h2, h3⟩ := h
  exact ⟨a, cap, h1, h2, h3.imp id fun ⟨b, off, e, hc⟩ => ⟨b, off, e, hc.grow X⟩⟩
theorem grown_of {w w' : World} (h : Below w.heap.size w w') : ∃ X, w' = w.grow X := grow_of_below h

theorem may_all {l : List St} (h : ∀ j s, j < l.length → l[j]? = some s → mayB s = true) : l.all mayB = true := by
  rw [List.all_eq_true]
  intro s hs
  obtain ⟨j, hj, rfl⟩ := List.getElem_of_mem hs
  exact h j _ hj (List.getElem?_eq_getElem hj)
theorem may_more {l : List St} {k : Nat} (hk : k < l.length) (h : ∀ j s, j < k → l[j]? = some s → mayB s = true) (hm : mayB l[k] = true) : ∀ j s, j < k + 1 → l[j]? = some s → mayB s = true := by
  intro j s hj hs
  by_cases e : j = k
  · subst e; rw [List.getElem?_eq_getElem hk] at hs; simp at hs; rw [← hs]; exact hm
  · exact h j s (by omega) hs
theorem may_not {l : List St} {k : Nat} (hk : k < l.length) (hm : mayB l[k] = false) : rightB l = false := by
  unfold rightB
  rw [Bool.and_eq_false_iff]
  exact Or.inl (by rw [List.all_eq_false]; exact ⟨l[k], List.getElem_mem hk, by simp [hm]⟩)

set_option maxHeartbeats 1000000 in
theorem may_any (s : St) (w : World) : Calls Try.prog 25 #[s.val] w (Ret (.bool (mayB s)) w) := by
  obtain ⟨k, x, y⟩ := s
  unfold St.val
  dsimp only
  go_enter Try.func25, Try.ntmps25
  go_wp2_with (go_at_call 23; refine (rnear_any _ _).mono ?_; rintro e w' ⟨rfl, rfl⟩)
  all_goals
    go_ret
    refine Ret.of (congrArg Value.bool ?_) (by repeat (first | with_reducible exact Below.refl _ _ | (with_reducible refine Below.alloc ?_ (by first | omega | (simp [go_sem] <;> omega)) _) | (with_reducible refine Below.drew ?_) | (with_reducible refine Below.drewN ?_ _) | (with_reducible refine Below.grow ?_ (by first | omega | (simp [go_sem] <;> omega)) _) | (with_reducible refine Below.setCell ?_ (by first | omega | (simp [go_sem] <;> omega)) _)))
    simp_all [mayB, nearB]
  all_goals first | omega | rfl

set_option maxHeartbeats 1000000 in
theorem rright_any (v : Value) (l : List St) (w : World) (h : Sl w v l) : Calls Try.prog 14 #[v] w (Ret (.bool (rightB l)) w) := by
  obtain ⟨a, cap, rfl, hl, hc⟩ := h
  go_enter Try.func14, Try.ntmps14
  go_wp2_with fail
  go_loopw [3] (fun i wr => ∃ k : Nat, k ≤ l.length ∧ i = .int .i64 k ∧ (∃ X, wr = w.grow X) ∧ Hid (∀ j s, j < k → l[j]? = some s → mayB s = true)) (fun i _ => l.length - (intOf i).toNat)
  case atStart => exact ⟨0, by omega, rfl, ⟨_, (grow_refl w).symm⟩, fun j s hj => by omega⟩
  case round =>
    obtain ⟨k, hk, rfl, ⟨X, rfl⟩, HK⟩ := hrel
    by_cases hlt : k < l.length
    · rcases hc with rfl | ⟨b, off, rfl, hb, hc⟩
      · exact absurd hlt (by simp)
      obtain ⟨c0, c1, c2⟩ := hc k (l[k]) (List.getElem?_eq_getElem hlt)
      clear hc
      cases hm : mayB l[k]
      · have HM : Hid (mayB l[k] = false) := hm
        clear hm
        go_wp2_with (go_at_call 25; refine (may_any l[k] _).mono ?_; rintro e w' ⟨rfl, Y, rfl⟩; rw [HM.out])
        go_ret
        exact Ret.of (congrArg Value.bool (may_not hlt HM.out).symm) (by repeat (first | with_reducible exact Below.refl _ _ | (with_reducible refine Below.alloc ?_ (by first | omega | (simp [go_sem] <;> omega)) _) | (with_reducible refine Below.drew ?_) | (with_reducible refine Below.drewN ?_ _) | (with_reducible refine Below.grow ?_ (by first | omega | (simp [go_sem] <;> omega)) _) | (with_reducible refine Below.setCell ?_ (by first | omega | (simp [go_sem] <;> omega)) _)))
      · have HM : Hid (mayB l[k] = true) := hm
        clear hm
        go_wp2_with (go_at_call 25; refine (may_any l[k] _).mono ?_; rintro e w' ⟨rfl, Y, rfl⟩; rw [HM.out])
        go_roundw
        case rel => exact ⟨k + 1, by omega, by go_num, grown_of (by repeat (first | with_reducible exact Below.refl _ _ | (with_reducible refine Below.alloc ?_ (by first | omega | (simp [go_sem] <;> omega)) _) | (with_reducible refine Below.drew ?_) | (with_reducible refine Below.drewN ?_ _) | (with_reducible refine Below.grow ?_ (by first | omega | (simp [go_sem] <;> omega)) _) | (with_reducible refine Below.setCell ?_ (by first | omega | (simp [go_sem] <;> omega)) _))), may_more hlt HK.out HM.out⟩
        case measure => simp [intOf]; omega
    · have : k = l.length := by omega
      subst this
      go_wp2
      go_ret
      refine Ret.of (congrArg Value.bool ?_) (by repeat (first | with_reducible exact Below.refl _ _ | (with_reducible refine Below.alloc ?_ (by first | omega | (simp [go_sem] <;> omega)) _) | (with_reducible refine Below.drew ?_) | (with_reducible refine Below.drewN ?_ _) | (with_reducible refine Below.grow ?_ (by first | omega | (simp [go_sem] <;> omega)) _) | (with_reducible refine Below.setCell ?_ (by first | omega | (simp [go_sem] <;> omega)) _)))
      simp [rightB, may_all HK.out]
      omega

set_option maxHeartbeats 2000000 in
theorem right_any (v : Value) (l : List St) (w : World) (h : Sl w v l) : Calls Try.prog 13 #[v] w (Ret (.bool (rightB l)) w) := by
  obtain ⟨a, cap, rfl, hl, hc⟩ := h
  go_enter Try.func13, Try.ntmps13
  go_wp2_with fail
  go_loopw [8] (fun i wr => ∃ k : Nat, k ≤ l.length ∧ i = .int .i64 k ∧ (∃ X, wr = w.grow X) ∧ Hid (∀ j s, j < k → l[j]? = some s → mayB s = true)) (fun i _ => l.length - (intOf i).toNat)
  case atStart => exact ⟨0, by omega, rfl, ⟨_, (grow_refl w).symm⟩, fun j s hj => by omega⟩
  case round =>
    obtain ⟨k, hk, rfl, ⟨X, rfl⟩, HK⟩ := hrel
    by_cases hlt : k < l.length
    · rcases hc with rfl | ⟨b, off, rfl, hb, hc⟩
      · exact absurd hlt (by simp)
      obtain ⟨c0, c1, c2⟩ := hc k (l[k]) (List.getElem?_eq_getElem hlt)
      clear hc
      have HM : Hid (mayB l[k] = mayB ⟨l[k].k, l[k].x, l[k].y⟩) := rfl
      have HL : Hid (mayB l[k] = false → rightB l = false) := may_not hlt
      have HR : Hid (mayB l[k] = true → ∀ j s, j < k + 1 → l[j]? = some s → mayB s = true) := may_more hlt HK.out
      generalize l[k].k = sk at *
      generalize l[k].x = sx at *
      generalize l[k].y = sy at *
      go_wp2_with (go_at_call 18; refine (near_any _ _ _ (by omega) (by omega)).mono ?_; rintro e w' ⟨rfl, rfl⟩)
      all_goals first
        | (go_ret; refine Ret.of (congrArg Value.bool (HL.out (HM.out.trans ?_)).symm) (by repeat (first | with_reducible exact Below.refl _ _ | (with_reducible refine Below.alloc ?_ (by first | omega | (simp [go_sem] <;> omega)) _) | (with_reducible refine Below.drew ?_) | (with_reducible refine Below.drewN ?_ _) | (with_reducible refine Below.grow ?_ (by first | omega | (simp [go_sem] <;> omega)) _) | (with_reducible refine Below.setCell ?_ (by first | omega | (simp [go_sem] <;> omega)) _))); clear HM HL HR HK; simp_all [mayB, nearB]; done)
        | (go_ret; refine Ret.of (congrArg Value.bool (HL.out (HM.out.trans ?_)).symm) (by repeat (first | with_reducible exact Below.refl _ _ | (with_reducible refine Below.alloc ?_ (by first | omega | (simp [go_sem] <;> omega)) _) | (with_reducible refine Below.drew ?_) | (with_reducible refine Below.drewN ?_ _) | (with_reducible refine Below.grow ?_ (by first | omega | (simp [go_sem] <;> omega)) _) | (with_reducible refine Below.setCell ?_ (by first | omega | (simp [go_sem] <;> omega)) _))); clear HM HL HR HK; simp_all [mayB, nearB]; omega)
        | (go_roundw
           case rel => exact ⟨k + 1, by omega, by go_num, grown_of (by repeat (first | with_reducible exact Below.refl _ _ | (with_reducible refine Below.alloc ?_ (by first | omega | (simp [go_sem] <;> omega)) _) | (with_reducible refine Below.drew ?_) | (with_reducible refine Below.drewN ?_ _) | (with_reducible refine Below.grow ?_ (by first | omega | (simp [go_sem] <;> omega)) _) | (with_reducible refine Below.setCell ?_ (by first | omega | (simp [go_sem] <;> omega)) _))), HR.out (HM.out.trans (by clear HM HL HR HK; simp_all [mayB, nearB]))⟩
           case measure => simp [intOf]; omega)
    · have : k = l.length := by omega
      subst this
      go_wp2
      go_ret
      refine Ret.of (congrArg Value.bool ?_) (by repeat (first | with_reducible exact Below.refl _ _ | (with_reducible refine Below.alloc ?_ (by first | omega | (simp [go_sem] <;> omega)) _) | (with_reducible refine Below.drew ?_) | (with_reducible refine Below.drewN ?_ _) | (with_reducible refine Below.grow ?_ (by first | omega | (simp [go_sem] <;> omega)) _) | (with_reducible refine Below.setCell ?_ (by first | omega | (simp [go_sem] <;> omega)) _)))
      simp [rightB, may_all HK.out]
      omega
end Go.Proofs.Ytendepongefklaa
