/- The walks of the turns: where points come, by the reference. -/
import Derived.Test.YtendepongefklaaWalkD
namespace Go.Proofs.Ytendepongefklaa
open Go.RowKit

def pt (p : Int × Int) : Value := .tuple #[.int .i64 p.1, .int .i64 p.2]

set_option maxHeartbeats 2000000 in
theorem move_any (s : St) (x y : Int) (w : World) (h : mayB s = true) (hx : x.natAbs ≤ 1099511627776) (hy : y.natAbs ≤ 1099511627776) :
    Calls Try.prog 30 #[s.val, .int .i64 x, .int .i64 y] w (Ret (pt (moveR s (x, y))) w) := by
  have hx1 : -1099511627776 ≤ x := by omega
  have hx2 : x ≤ 1099511627776 := by omega
  have hy1 : -1099511627776 ≤ y := by omega
  have hy2 : y ≤ 1099511627776 := by omega
  obtain ⟨k, a, b⟩ := s
  unfold St.val pt
  unfold mayB nearB at h
  unfold moveR
  dsimp only at *
  by_cases e1 : k = 1
  · subst e1; simp at h
    obtain ⟨⟨a1, a2⟩, a3, a4⟩ := h
    clear hx hy
    simp only [if_pos]
    go_enter Try.func30, Try.ntmps30
    go_wp2
    go_quiet (fail)
    go_wp2
    go_ret2
    exact Ret.of rfl (by repeat (first | with_reducible exact Below.refl _ _ | (with_reducible refine Below.alloc ?_ (by first | omega | (simp [go_sem] <;> omega)) _) | (with_reducible refine Below.drew ?_) | (with_reducible refine Below.drewN ?_ _) | (with_reducible refine Below.grow ?_ (by first | omega | (simp [go_sem] <;> omega)) _) | (with_reducible refine Below.setCell ?_ (by first | omega | (simp [go_sem] <;> omega)) _)))
  · by_cases e2 : k = 2
    · subst e2; simp at h
      obtain ⟨⟨a1, a2⟩, rfl⟩ := h
      clear hx hy e1
      obtain ⟨t1, t2, t3⟩ := tmod4 a
      have hm := Int.tmod_eq_emod (a := a) (b := 4)
      obtain ⟨q, hq, hq1, hq2⟩ : ∃ q : Nat, quart a = q ∧ ((a.tmod 4 < 0 → a.tmod 4 + 4 = q) ∧ (0 ≤ a.tmod 4 → a.tmod 4 = q)) := ⟨_, rfl, by unfold quart; split at hm <;> simp at hm <;> omega⟩
      simp only [show ¬ ((2 : Int) = 1) by omega, show ¬ ((2 : Int) = 3) by omega, show ¬ ((2 : Int) = 4) by omega, if_false]
      rw [hq]
      have hq3 : q ≤ 3 := by rw [← hq]; unfold quart; omega
      have hq4 : (0 : Int) ≤ q := by omega
      have hq5 : (q : Int) ≤ 3 := by omega
      clear t3 hm hq
      by_cases ht : a.tmod 4 < 0
      · have hq1 := hq1 ht
        clear hq2
        go_enter Try.func30, Try.ntmps30
        go_wp2_with fail
        go_loop [1, 2, 9, 10] (fun vx vy i _ => ∃ (j : Nat) (p : Int × Int), j ≤ q ∧ i = .int .i64 j ∧ vx = .int .i64 p.1 ∧ vy = .int .i64 p.2 ∧ Hid (rot (q - j) p = rot q (x, y)) ∧ (-1099511627776 ≤ p.1 ∧ p.1 ≤ 1099511627776 ∧ -1099511627776 ≤ p.2 ∧ p.2 ≤ 1099511627776)) (fun _ _ i _ => q - (intOf i).toNat)
        case atStart => exact ⟨0, (x, y), by omega, rfl, rfl, rfl, rfl, hx1, hx2, hy1, hy2⟩
        case round =>
          obtain ⟨j, ⟨px, py⟩, hj, rfl, rfl, rfl, HR, r1, r2, r3, r4⟩ := hrel
          dsimp only at *
          by_cases hlt : j < q
          · go_wp2
            go_round
            case rel =>
              refine ⟨j + 1, (-py, px), by omega, by go_num, rfl, rfl, ?_, by dsimp only; omega, by dsimp only; omega, r1, r2⟩
              have := HR.out
              rw [show q - j = (q - (j + 1)) + 1 by omega] at this
              exact this
            case measure => simp [intOf]; omega
          · have : j = q := by omega
            subst this
            have := HR.out
            rw [Nat.sub_self] at this
            have HR' : Hid ((px, py) = rot j (x, y)) := this
            clear this HR
            go_wp2
            go_ret2
            rw [← HR'.out]
            exact Ret.of rfl (by repeat (first | with_reducible exact Below.refl _ _ | (with_reducible refine Below.alloc ?_ (by first | omega | (simp [go_sem] <;> omega)) _) | (with_reducible refine Below.drew ?_) | (with_reducible refine Below.drewN ?_ _) | (with_reducible refine Below.grow ?_ (by first | omega | (simp [go_sem] <;> omega)) _) | (with_reducible refine Below.setCell ?_ (by first | omega | (simp [go_sem] <;> omega)) _)))
      · have hq2 := hq2 (by omega)
        clear hq1
        rw [hq2] at ht t1 t2
        go_enter Try.func30, Try.ntmps30
        go_wp2_with fail
        go_loop [1, 2, 9, 10] (fun vx vy i _ => ∃ (j : Nat) (p : Int × Int), j ≤ q ∧ i = .int .i64 j ∧ vx = .int .i64 p.1 ∧ vy = .int .i64 p.2 ∧ Hid (rot (q - j) p = rot q (x, y)) ∧ (-1099511627776 ≤ p.1 ∧ p.1 ≤ 1099511627776 ∧ -1099511627776 ≤ p.2 ∧ p.2 ≤ 1099511627776)) (fun _ _ i _ => q - (intOf i).toNat)
        case atStart => exact ⟨0, (x, y), by omega, rfl, rfl, rfl, rfl, hx1, hx2, hy1, hy2⟩
        case round =>
          obtain ⟨j, ⟨px, py⟩, hj, rfl, rfl, rfl, HR, r1, r2, r3, r4⟩ := hrel
          dsimp only at *
          by_cases hlt : j < q
          · go_wp2
            go_round
            case rel =>
              refine ⟨j + 1, (-py, px), by omega, by go_num, rfl, rfl, ?_, by dsimp only; omega, by dsimp only; omega, r1, r2⟩
              have := HR.out
              rw [show q - j = (q - (j + 1)) + 1 by omega] at this
              exact this
            case measure => simp [intOf]; omega
          · have : j = q := by omega
            subst this
            have := HR.out
            rw [Nat.sub_self] at this
            have HR' : Hid ((px, py) = rot j (x, y)) := this
            clear this HR
            go_wp2
            go_ret2
            rw [← HR'.out]
            exact Ret.of rfl (by repeat (first | with_reducible exact Below.refl _ _ | (with_reducible refine Below.alloc ?_ (by first | omega | (simp [go_sem] <;> omega)) _) | (with_reducible refine Below.drew ?_) | (with_reducible refine Below.drewN ?_ _) | (with_reducible refine Below.grow ?_ (by first | omega | (simp [go_sem] <;> omega)) _) | (with_reducible refine Below.setCell ?_ (by first | omega | (simp [go_sem] <;> omega)) _)))
    · by_cases e3 : k = 3
      · subst e3; simp at h
        obtain ⟨⟨a1, a2⟩, rfl⟩ := h
        have m1 := mul_abs hx (show a.natAbs ≤ 8 by omega)
        have m2 := mul_abs hy (show a.natAbs ≤ 8 by omega)
        have n1 : -8796093022208 ≤ x * a := by omega
        have n2 : x * a ≤ 8796093022208 := by omega
        have n3 : -8796093022208 ≤ y * a := by omega
        have n4 : y * a ≤ 8796093022208 := by omega
        clear hx hy e1 e2 m1 m2
        simp only [show ¬ ((3 : Int) = 1) by omega, if_false, if_true]
        go_enter Try.func30, Try.ntmps30
        go_wp2
        go_quiet (fail)
        go_wp2
        go_ret2
        exact Ret.of rfl (by repeat (first | with_reducible exact Below.refl _ _ | (with_reducible refine Below.alloc ?_ (by first | omega | (simp [go_sem] <;> omega)) _) | (with_reducible refine Below.drew ?_) | (with_reducible refine Below.drewN ?_ _) | (with_reducible refine Below.grow ?_ (by first | omega | (simp [go_sem] <;> omega)) _) | (with_reducible refine Below.setCell ?_ (by first | omega | (simp [go_sem] <;> omega)) _)))
      · simp only [if_neg e1, if_neg e2, if_neg e3] at h ⊢
        by_cases e4 : k = 4
        · subst e4; simp at h
          obtain ⟨rfl, rfl⟩ := h
          clear hx hy e1 e2 e3
          simp only [if_true]
          go_enter Try.func30, Try.ntmps30
          go_wp2
          go_ret2
          exact Ret.of rfl (by repeat (first | with_reducible exact Below.refl _ _ | (with_reducible refine Below.alloc ?_ (by first | omega | (simp [go_sem] <;> omega)) _) | (with_reducible refine Below.drew ?_) | (with_reducible refine Below.drewN ?_ _) | (with_reducible refine Below.grow ?_ (by first | omega | (simp [go_sem] <;> omega)) _) | (with_reducible refine Below.setCell ?_ (by first | omega | (simp [go_sem] <;> omega)) _)))
        · rw [if_neg e4] at h; cases h
end Go.Proofs.Ytendepongefklaa
