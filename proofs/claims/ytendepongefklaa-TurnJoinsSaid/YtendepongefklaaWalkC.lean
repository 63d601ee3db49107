/- The walks of the turns: a step's motion, quarters, what may be. -/
import Derived.Test.YtendepongefklaaWalkB
namespace Go.Proofs.Ytendepongefklaa
open Go.RowKit

def St.val (s : St) : Value := .agg #[.int .i64 s.k, .int .i64 s.x, .int .i64 s.y]
def one64 : Nat := 4607182418800017408
def rotB : Nat → Nat × Nat
  | 0 => (one64, 0)
  | j + 1 => cmul (rotB j).1 (rotB j).2 0 one64

theorem rotB_F (j : Nat) : F (rotB j).1 (rot j (1, 0)).1 ∧ F (rotB j).2 (rot j (1, 0)).2 ∧ (cMulBits (rotB j).1 (rotB j).2 0 one64).isSome = true := by
  have key : ∀ (p : Nat × Nat) (q : Int × Int), (q = (1, 0) ∨ q = (0, 1) ∨ q = (-1, 0) ∨ q = (0, -1)) → F p.1 q.1 → F p.2 q.2 → (cMulBits p.1 p.2 0 one64).isSome = true ∧ F (cmul p.1 p.2 0 one64).1 (-q.2) ∧ F (cmul p.1 p.2 0 one64).2 q.1 := by
    intro p q hq h1 h2
    have hs : ∀ z : Int, z.natAbs ≤ 2 → Sm z := fun z hz => sm_of 2 hz (by omega)
    have := cmul_F h1 h2 F_zero F_one (by rcases hq with rfl | rfl | rfl | rfl <;> exact hs _ (by decide)) (by rcases hq with rfl | rfl | rfl | rfl <;> exact hs _ (by decide)) (by rcases hq with rfl | rfl | rfl | rfl <;> exact hs _ (by decide)) (by rcases hq with rfl | rfl | rfl | rfl <;> exact hs _ (by decide)) (by rcases hq with rfl | rfl | rfl | rfl <;> exact hs _ (by decide)) (by rcases hq with rfl | rfl | rfl | rfl <;> exact hs _ (by decide))
    simpa [one64] using this
  have hu : ∀ j, rot j (1, 0) = (1, 0) ∨ rot j (1, 0) = (0, 1) ∨ rot j (1, 0) = (-1, 0) ∨ rot j (1, 0) = (0, -1) := fun j => rot_unit j (1, 0) (by simp)
  induction j with
  | zero =>
    have := key (one64, 0) (1, 0) (by simp) F_one F_zero
    exact ⟨F_one, F_zero, this.1⟩
  | succ j ih =>
    have k1 := key (rotB j) (rot j (1, 0)) (hu j) ih.1 ih.2.1
    have e : rot (j + 1) (1, 0) = (-(rot j (1, 0)).2, (rot j (1, 0)).1) := by simp only [rot]; exact rot_rot j (1, 0)
    have f1 : F (rotB (j + 1)).1 (rot (j + 1) (1, 0)).1 := by rw [e]; exact k1.2.1
    have f2 : F (rotB (j + 1)).2 (rot (j + 1) (1, 0)).2 := by rw [e]; exact k1.2.2
    exact ⟨f1, f2, (key (rotB (j + 1)) _ (hu (j + 1)) f1 f2).1⟩

def stepB (s : St) : MB :=
  if s.k = 1 then ⟨false, one64, 0, floatOfInt .f64 s.x, floatOfInt .f64 s.y⟩
  else if s.k = 2 then ⟨false, (rotB (quart s.x)).1, (rotB (quart s.x)).2, 0, 0⟩
  else if s.k = 3 then ⟨false, floatOfInt .f64 s.x, floatOfInt .f64 0, 0, 0⟩
  else if s.k = 4 then ⟨true, one64, 0, 0, 0⟩
  else ⟨false, one64, 0, 0, 0⟩

theorem stepB_is (s : St) (h : mayB s = true) : (stepB s).is (stepM s) := by
  unfold mayB nearB at h
  unfold stepB stepM MB.is
  split
  · rename_i h1; simp [h1] at h
    exact ⟨rfl, F_one, F_zero, F_int (sm_of 4096 (by omega) (by omega)), F_int (sm_of 4096 (by omega) (by omega))⟩
  · split
    · exact ⟨rfl, (rotB_F _).1, (rotB_F _).2.1, F_zero, F_zero⟩
    · split
      · rename_i h1 h2 h3; simp [h3] at h
        exact ⟨rfl, F_int (sm_of 8 (by omega) (by omega)), F_int (sm_of (n := 0) 8 (by decide) (by omega)), F_zero, F_zero⟩
      · split
        · exact ⟨rfl, F_one, F_zero, F_zero, F_zero⟩
        · exact ⟨rfl, F_one, F_zero, F_zero, F_zero⟩

theorem tmod4 (x : Int) : -3 ≤ x.tmod 4 ∧ x.tmod 4 ≤ 3 ∧ (x.tmod 4 + 4) % 4 = ((quart x : Nat) : Int) := by
  have h := Int.tmod_eq_emod (a := x) (b := 4)
  unfold quart
  split at h <;> simp at h <;> omega

set_option maxHeartbeats 1000000 in
theorem step_any (s : St) (w : World) (h : mayB s = true) :
    Calls Try.prog 28 #[s.val] w (Ret (stepB s).val w) := by
  have hx : -4096 ≤ s.x ∧ s.x ≤ 4096 := by
    unfold mayB nearB at h
    split at h
    · simp at h; omega
    · split at h
      · simp at h; omega
      · split at h
        · simp at h; omega
        · split at h
          · simp at h; omega
          · simp at h
  clear h
  obtain ⟨k, x, y⟩ := s
  unfold St.val
  dsimp only at *
  obtain ⟨hx1, hx2⟩ := hx
  by_cases e1 : k = 1
  · have : stepB ⟨k, x, y⟩ = ⟨false, one64, 0, floatOfInt .f64 x, floatOfInt .f64 y⟩ := by simp [stepB, e1]
    rw [this]; clear this
    have b1 : (k == 1) = true := by simp [e1]
    clear e1
    go_enter Try.func28, Try.ntmps28
    go_wp2_with (go_at_call 22; refine (of_any _ _ _).mono ?_; rintro e w' ⟨rfl, rfl⟩)
    refine bodyPost_ret (v := (MB.mk false one64 0 (floatOfInt .f64 x) (floatOfInt .f64 y)).val) ?_ rfl (Ret.of rfl (by repeat (first | with_reducible exact Below.refl _ _ | (with_reducible refine Below.alloc ?_ (by first | omega | (simp [go_sem] <;> omega)) _) | (with_reducible refine Below.drew ?_) | (with_reducible refine Below.drewN ?_ _) | (with_reducible refine Below.grow ?_ (by first | omega | (simp [go_sem] <;> omega)) _) | (with_reducible refine Below.setCell ?_ (by first | omega | (simp [go_sem] <;> omega)) _))))
    simp [results, Try.results28, go_sem, MB.val, one64]
  · by_cases e2 : k = 2
    · have : stepB ⟨k, x, y⟩ = ⟨false, (rotB (quart x)).1, (rotB (quart x)).2, 0, 0⟩ := by simp [stepB, e2]
      rw [this]; clear this
      have b1 : (k == 1) = false := by simp [e2]
      have b2 : (k == 2) = true := by simp [e2]
      obtain ⟨t1, t2, hq⟩ := tmod4 x
      have hq2 : quart x ≤ 3 := by unfold quart; omega
      clear e1 e2
      generalize quart x = q at *
      go_enter Try.func28, Try.ntmps28
      go_wp2_with fail
      go_loopw [22] (fun i wr => ∃ j : Nat, j ≤ q ∧ i = .int .i64 j ∧ wr = ((w.alloc (.cells #[.int .i64 k, .int .i64 x, .int .i64 y] 35)).alloc (.cells #[.bool false, .complex .f64 0 0, .complex .f64 0 0] 43)).alloc (.cells #[.bool false, .complex .f64 (rotB j).1 (rotB j).2, .complex .f64 0 0] 43)) (fun i _ => q - (intOf i).toNat)
      case atStart => exact ⟨0, by omega, rfl, rfl⟩
      case round =>
        obtain ⟨j, hj, rfl, rfl⟩ := hrel
        by_cases hlt : j < q
        · have h1 := fun w => cmul_run (P := Try.prog) 41 (rotB_F j).2.2 w
          have h2 : cmul (rotB j).1 (rotB j).2 0 one64 = rotB (j + 1) := rfl
          rw [h2] at h1
          clear h2
          simp only [one64] at h1
          go_wp2
          go_roundw
          case rel => exact ⟨j + 1, by omega, by go_num, rfl⟩
          case measure => simp [intOf]; omega
        · have : j = q := by omega
          subst this
          go_wp2
          refine bodyPost_ret (v := (MB.mk false (rotB j).1 (rotB j).2 0 0).val) ?_ rfl (Ret.of rfl (by repeat (first | with_reducible exact Below.refl _ _ | (with_reducible refine Below.alloc ?_ (by first | omega | (simp [go_sem] <;> omega)) _) | (with_reducible refine Below.drew ?_) | (with_reducible refine Below.drewN ?_ _) | (with_reducible refine Below.grow ?_ (by first | omega | (simp [go_sem] <;> omega)) _) | (with_reducible refine Below.setCell ?_ (by first | omega | (simp [go_sem] <;> omega)) _))))
          simp [results, Try.results28, go_sem, MB.val]
    · by_cases e3 : k = 3
      · have : stepB ⟨k, x, y⟩ = ⟨false, floatOfInt .f64 x, floatOfInt .f64 0, 0, 0⟩ := by simp [stepB, e3]
        rw [this]; clear this
        have b1 : (k == 1) = false := by simp [e3]
        have b2 : (k == 2) = false := by simp [e3]
        have b3 : (k == 3) = true := by simp [e3]
        clear e1 e2 e3
        go_enter Try.func28, Try.ntmps28
        go_wp2_with (go_at_call 22; refine (of_any _ _ _).mono ?_; rintro e w' ⟨rfl, rfl⟩)
        refine bodyPost_ret (v := (MB.mk false (floatOfInt .f64 x) (floatOfInt .f64 0) 0 0).val) ?_ rfl (Ret.of rfl (by repeat (first | with_reducible exact Below.refl _ _ | (with_reducible refine Below.alloc ?_ (by first | omega | (simp [go_sem] <;> omega)) _) | (with_reducible refine Below.drew ?_) | (with_reducible refine Below.drewN ?_ _) | (with_reducible refine Below.grow ?_ (by first | omega | (simp [go_sem] <;> omega)) _) | (with_reducible refine Below.setCell ?_ (by first | omega | (simp [go_sem] <;> omega)) _))))
        simp [results, Try.results28, go_sem, MB.val]
      · have b1 : (k == 1) = false := by simp [e1]
        have b2 : (k == 2) = false := by simp [e2]
        have b3 : (k == 3) = false := by simp [e3]
        by_cases e4 : k = 4
        · have : stepB ⟨k, x, y⟩ = ⟨true, one64, 0, 0, 0⟩ := by simp [stepB, e4]
          rw [this]; clear this
          have b4 : (k == 4) = true := by simp [e4]
          clear e1 e2 e3 e4
          go_enter Try.func28, Try.ntmps28
          go_wp2
          refine bodyPost_ret (v := (MB.mk true one64 0 0 0).val) ?_ rfl (Ret.of rfl (by repeat (first | with_reducible exact Below.refl _ _ | (with_reducible refine Below.alloc ?_ (by first | omega | (simp [go_sem] <;> omega)) _) | (with_reducible refine Below.drew ?_) | (with_reducible refine Below.drewN ?_ _) | (with_reducible refine Below.grow ?_ (by first | omega | (simp [go_sem] <;> omega)) _) | (with_reducible refine Below.setCell ?_ (by first | omega | (simp [go_sem] <;> omega)) _))))
          simp [results, Try.results28, go_sem, MB.val, one64]
        · have : stepB ⟨k, x, y⟩ = ⟨false, one64, 0, 0, 0⟩ := by simp [stepB, e1, e2, e3, e4]
          rw [this]; clear this
          have b4 : (k == 4) = false := by simp [e4]
          clear e1 e2 e3 e4
          go_enter Try.func28, Try.ntmps28
          go_wp2
          refine bodyPost_ret (v := (MB.mk false one64 0 0 0).val) ?_ rfl (Ret.of rfl (by repeat (first | with_reducible exact Below.refl _ _ | (with_reducible refine Below.alloc ?_ (by first | omega | (simp [go_sem] <;> omega)) _) | (with_reducible refine Below.drew ?_) | (with_reducible refine Below.drewN ?_ _) | (with_reducible refine Below.grow ?_ (by first | omega | (simp [go_sem] <;> omega)) _) | (with_reducible refine Below.setCell ?_ (by first | omega | (simp [go_sem] <;> omega)) _))))
          simp [results, Try.results28, go_sem, MB.val, one64]

/-! ### Quarters. -/

/-- How often, and how great. -/
def kq (x y : Int) : Nat := if y = 0 then (if 0 ≤ x then 0 else 2) else if 0 < y then 1 else 3

set_option maxHeartbeats 1000000 in
theorem quarters_any (r s : Nat) (x y : Int) (w : World) (hr : F r x) (hs : F s y) (hax : x = 0 ∨ y = 0) (hx : x.natAbs ≤ 16777216) (hy : y.natAbs ≤ 16777216) :
    Calls Try.prog 26 #[.complex .f64 r s] w fun e w' => e = .returned (.tuple #[.int .i64 (kq x y : Nat), .int .i64 ((x.natAbs + y.natAbs : Nat) : Int)]) ∧ w = w' := by
  have HH : Hid (F r x ∧ F s y) := ⟨hr, hs⟩
  clear hr hs
  have HX : Hid ((x = 0 ∨ y = 0) ∧ x.natAbs ≤ 16777216 ∧ y.natAbs ≤ 16777216) := ⟨hax, hx, hy⟩
  clear hax hx hy
  go_enter Try.func26, Try.ntmps26
  go_wp2_with fail
  go_loop [0, 4] (fun z i => ∃ (r' s' : Nat) (x' y' : Int) (j : Nat), z = .complex .f64 r' s' ∧ i = .int .i64 j ∧ Hid (F r' x' ∧ F s' y' ∧ (x' = 0 ∨ y' = 0) ∧ j + kq x' y' = kq x y ∧ x'.natAbs + y'.natAbs = x.natAbs + y.natAbs)) (fun _ i => 4 - (intOf i).toNat)
  case atStart => exact ⟨r, s, x, y, 0, rfl, rfl, HH.out.1, HH.out.2, HX.out.1, by omega, rfl⟩
  case round =>
    obtain ⟨r', s', x', y', j, rfl, rfl, HR⟩ := hrel
    have hk3 : kq x y ≤ 3 := by unfold kq; split <;> split <;> omega
    have hj3 : (j : Int) ≤ 3 := by have := HR.out.2.2.2.1; omega
    clear hk3
    have oy := F_order HR.out.2.1 F_zero
    have ox := F_order HR.out.1 F_zero
    have q1 : x'.natAbs ≤ 33554432 := by have := HR.out.2.2.2.2; have := HX.out.2; omega
    have q2 : y'.natAbs ≤ 33554432 := by have := HR.out.2.2.2.2; have := HX.out.2; omega
    have mul : (cMulBits r' s' 0 13830554455654793216).isSome = true ∧ F (cmul r' s' 0 13830554455654793216).1 y' ∧ F (cmul r' s' 0 13830554455654793216).2 (-x') := by
      have hz : ∀ z : Int, z.natAbs ≤ 33554432 → Sm z := fun z hz => sm_of _ hz (by omega)
      have := cmul_F HR.out.1 HR.out.2.1 F_zero F_negone (hz _ (by simp)) (hz _ (by simp; exact q2)) (hz _ (by simp; exact q1)) (hz _ (by simp)) (hz _ (by simp; exact q2)) (hz _ (by simp; exact q1))
      simpa using this
    by_cases hy0 : y' = 0
    · have oy' : FloatKind.f64.format.order s' 0 = some .eq := by rw [oy, hy0]; rfl
      clear oy
      by_cases hx0 : 0 ≤ x'
      · have ox' : (FloatKind.f64.format.order r' 0 == some .lt) = false := by
          rw [ox]
          rcases Int.lt_or_eq_of_le hx0 with h | h
          · rw [Int.compare_eq_gt.2 h]; rfl
          · rw [Int.compare_eq_eq.2 h.symm]; rfl
        have HI := ints_any r' s' x' y' w HR.out.1 HR.out.2.1 (sm_of _ q1 (by omega)) (sm_of _ q2 (by omega))
        have HI' := Lib.hid HI
        have hfin : Hid (kq x' y' = 0 ∧ (x'.natAbs : Int) = x') := ⟨by unfold kq; rw [if_pos hy0, if_pos hx0], by omega⟩
        have HY : Hid (y' = 0) := hy0
        clear ox mul HI hy0 hx0 q1 q2
        go_wp2_with (go_at_call 19; refine HI'.out.mono ?_; rintro e w' ⟨rfl, rfl⟩)
        go_ret2
        have a1 := HR.out.2.2.2.1
        have a2 := HR.out.2.2.2.2
        rw [hfin.out.1] at a1
        rw [HY.out] at a2
        have e1 : kq x y = j := by omega
        have e2 : ((x.natAbs + y.natAbs : Nat) : Int) = x' := by have := hfin.out.2; omega
        rw [e1, e2]
        exact ⟨rfl, rfl⟩
      · have ox' : (FloatKind.f64.format.order r' 0 == some .lt) = true := by
          rw [ox, Int.compare_eq_lt.2 (by omega)]; rfl
        have h1 := fun w => cmul_run (P := Try.prog) 41 mul.1 w
        have HM := Lib.hid mul
        have hfin : Hid (kq x' y' = 2 ∧ kq y' (-x') = 1) := ⟨by unfold kq; rw [if_pos hy0, if_neg hx0], by unfold kq; rw [if_neg (by omega), if_pos (by omega)]⟩
        clear ox mul
        have HY : Hid (y' = 0 ∧ ¬ 0 ≤ x') := ⟨hy0, hx0⟩
        clear hy0 hx0 q1 q2
        go_wp2
        go_round
        case rel =>
          refine ⟨_, _, y', -x', j + 1, rfl, by go_num, HM.out.2.1, HM.out.2.2, Or.inl HY.out.1, ?_, ?_⟩
          · have := HR.out.2.2.2.1; have := hfin.out; omega
          · have := HR.out.2.2.2.2; omega
        case measure => simp [intOf]; omega
    · have oy' : FloatKind.f64.format.order s' 0 = some (if 0 < y' then .gt else .lt) := by
        rw [oy]
        split
        · rename_i h; rw [Int.compare_eq_gt.2 h]
        · rw [Int.compare_eq_lt.2 (by omega)]
      have oy2 : (FloatKind.f64.format.order s' 0 != some .eq) = true := by rw [oy']; split <;> rfl
      have hx0 : x' = 0 := by have := HR.out.2.2.1; omega
      have h1 := fun w => cmul_run (P := Try.prog) 41 mul.1 w
      have HM := Lib.hid mul
      have hfin : Hid (kq x' y' = kq y' (-x') + 1) := by
        show kq x' y' = kq y' (-x') + 1
        unfold kq
        rw [if_neg hy0, if_pos (show -x' = 0 by omega)]
        by_cases h : 0 < y'
        · rw [if_pos h, if_pos (show 0 ≤ y' by omega)]
        · rw [if_neg h, if_neg (show ¬ 0 ≤ y' by omega)]
      clear ox mul oy oy'
      have HY : Hid (x' = 0) := hx0
      clear hy0 hx0 q1 q2
      go_wp2
      go_round
      case rel =>
        refine ⟨_, _, y', -x', j + 1, rfl, by go_num, HM.out.2.1, HM.out.2.2, Or.inr (by rw [HY.out]; rfl), ?_, ?_⟩
        · have := HR.out.2.2.2.1; have := hfin.out; omega
        · have := HR.out.2.2.2.2; omega
      case measure => simp [intOf]; omega
end Go.Proofs.Ytendepongefklaa
