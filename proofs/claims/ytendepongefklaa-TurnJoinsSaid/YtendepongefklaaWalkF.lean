/- The walks of the turns: where points come, by all steps. -/
import Derived.Test.YtendepongefklaaWalkE
namespace Go.Proofs.Ytendepongefklaa
open Go.RowKit

theorem right_mem {l : List St} (h : rightB l = true) {k : Nat} (hk : k < l.length) : mayB l[k] = true := by
  unfold rightB at h
  simp only [Bool.and_eq_true, List.all_eq_true] at h
  exact h.1 _ (List.getElem_mem hk)

set_option maxHeartbeats 2000000 in
theorem rall_any (v : Value) (l : List St) (x y : Int) (w : World) (h : Sl w v l) (hr : rightB l = true) (hp : PB 4096 (x, y)) :
    Calls Try.prog 24 #[v, .int .i64 x, .int .i64 y] w (Ret (pt (allR l (x, y))) w) := by
  have HH : Hid (rightB l = true ∧ PB 4096 (x, y)) := ⟨hr, hp⟩
  clear hr hp
  unfold pt
  obtain ⟨a, cap, rfl, hl, hc⟩ := h
  go_enter Try.func24, Try.ntmps24
  go_wp2_with fail
  go_loopw [1, 2, 8] (fun vx vy i wr => ∃ (k : Nat) (p : Int × Int), k ≤ l.length ∧ i = .int .i64 ((k : Int) - 1) ∧ vx = .int .i64 p.1 ∧ vy = .int .i64 p.2 ∧ Hid (p = allR (l.drop k) (x, y)) ∧ ∃ X, wr = w.grow X) (fun _ _ i _ => (intOf i + 1).toNat)
  case atStart => exact ⟨l.length, (x, y), by omega, rfl, rfl, rfl, by show _ = _; rw [List.drop_length]; rfl, _, (grow_refl w).symm⟩
  case round =>
    obtain ⟨k, ⟨px, py⟩, hk, rfl, rfl, rfl, HR, X, rfl⟩ := hrel
    dsimp only
    by_cases h0 : k = 0
    · subst h0
      have HR' : Hid ((px, py) = allR l (x, y)) := by have := HR.out; rwa [List.drop_zero] at this
      go_wp2
      go_ret2
      rw [← HR'.out]
      exact Ret.of rfl (by repeat (first | with_reducible exact Below.refl _ _ | (with_reducible refine Below.alloc ?_ (by first | omega | (simp [go_sem] <;> omega)) _) | (with_reducible refine Below.drew ?_) | (with_reducible refine Below.drewN ?_ _) | (with_reducible refine Below.grow ?_ (by first | omega | (simp [go_sem] <;> omega)) _) | (with_reducible refine Below.setCell ?_ (by first | omega | (simp [go_sem] <;> omega)) _)))
    · obtain ⟨m, rfl⟩ : ∃ m, k = m + 1 := ⟨k - 1, by omega⟩
      rw [show (((m + 1 : Nat) : Int) - 1) = (m : Int) by omega]
      have hlt : m < l.length := by omega
      rcases hc with rfl | ⟨b, off, rfl, hb, hc⟩
      · exact absurd hlt (by simp)
      obtain ⟨c0, c1, c2⟩ := hc m (l[m]) (List.getElem?_eq_getElem hlt)
      clear hc
      have HB := Lib.hid (allR_lim l HH.out.1 (m + 1) (x, y) HH.out.2)
      have HM := Lib.hid (right_mem HH.out.1 hlt)
      have HS : Hid (moveR l[m] (px, py) = allR (l.drop m) (x, y)) := by
        show _ = _
        rw [allR_drop l m hlt, ← HR.out]
      have HC := fun w' => Lib.hid (move_any l[m] px py w' HM.out (by have := HB.out.1; rw [← HR.out] at this; dsimp only at this; omega) (by have := HB.out.2; rw [← HR.out] at this; dsimp only at this; omega))
      unfold St.val pt at HC
      have HC' := Lib.hid HC
      clear HC
      go_wp2_with (go_at_call 30; refine (HC'.out _).out.mono ?_; rintro e w' ⟨rfl, Y, rfl⟩)
      go_roundw
      case rel => exact ⟨m, moveR l[m] (px, py), by omega, by go_num, rfl, rfl, HS.out, grown_of (by repeat (first | with_reducible exact Below.refl _ _ | (with_reducible refine Below.alloc ?_ (by first | omega | (simp [go_sem] <;> omega)) _) | (with_reducible refine Below.drew ?_) | (with_reducible refine Below.drewN ?_ _) | (with_reducible refine Below.grow ?_ (by first | omega | (simp [go_sem] <;> omega)) _) | (with_reducible refine Below.setCell ?_ (by first | omega | (simp [go_sem] <;> omega)) _)))⟩
      case measure => simp [intOf]

/-- The bits of the motion of all steps. -/
def allB (l : List St) : MB := l.foldl (fun u s => u.behind (stepB s)) ⟨false, one64, 0, 0, 0⟩
theorem allB_is (l : List St) (h : rightB l = true) (k : Nat) (hk : k ≤ l.length) : (allB (l.take k)).is (allM (l.take k)) := by
  induction k with
  | zero => simp only [List.take_zero]; exact ⟨rfl, F_one, F_zero, F_zero, F_zero⟩
  | succ k ih =>
    have hlt : k < l.length := hk
    have e : l.take (k + 1) = l.take k ++ [l[k]] := by rw [List.take_succ_eq_append_getElem hlt]
    have hm := right_mem h hlt
    obtain ⟨_, s1, s2, s3, s4⟩ := step_ax l[k] hm
    rw [e]
    unfold allB allM
    rw [List.foldl_append, List.foldl_append]
    exact (behind_F _ _ _ _ (ih (by omega)) (stepB_is l[k] hm) (all_bd l h k).1 ⟨s1, s2⟩ s3 s4).2
theorem allB_snoc (l : List St) (k : Nat) (hk : k < l.length) : (allB (l.take k)).behind (stepB l[k]) = allB (l.take (k + 1)) := by
  rw [List.take_succ_eq_append_getElem hk]
  unfold allB
  rw [List.foldl_append]; rfl

set_option maxHeartbeats 4000000 in
theorem all_any (v : Value) (l : List St) (w : World) (h : Sl w v l) (hr : rightB l = true) :
    Calls Try.prog 20 #[v] w (Ret (allB l).val w) := by
  have HH : Hid (rightB l = true) := hr
  clear hr
  obtain ⟨a, cap, rfl, hl, hc⟩ := h
  go_enter Try.func20, Try.ntmps20
  go_wp2_with fail
  go_loopw [9] (fun i wr => ∃ (k : Nat) (u : MB), k ≤ l.length ∧ i = .int .i64 k ∧ Hid (u = allB (l.take k)) ∧ ∃ X, wr = ((w.alloc (.cells #[.bool false, .complex .f64 0 0, .complex .f64 0 0] 43)).alloc (.cells #[.bool u.f, .complex .f64 u.b1 u.b2, .complex .f64 u.m1 u.m2] 43)).grow X) (fun i _ => l.length - (intOf i).toNat)
  case atStart => exact ⟨0, ⟨false, one64, 0, 0, 0⟩, by omega, rfl, rfl, _, (grow_refl _).symm⟩
  case round =>
    obtain ⟨k, u, hk, rfl, HU, X, rfl⟩ := hrel
    by_cases hlt : k < l.length
    · rcases hc with rfl | ⟨b, off, rfl, hb, hc⟩
      · exact absurd hlt (by simp)
      obtain ⟨c0, c1, c2⟩ := hc k (l[k]) (List.getElem?_eq_getElem hlt)
      clear hc
      have HS := fun w' => Lib.hid (step_any l[k] w' (right_mem HH.out hlt))
      have HB : ∀ w', Hid (Calls Try.prog 27 #[u.val, (stepB l[k]).val] w' (Ret (u.behind (stepB l[k])).val w')) := by
        intro w'
        show Calls _ _ _ _ _
        have hm := right_mem HH.out hlt
        obtain ⟨_, s1, s2, s3, s4⟩ := step_ax l[k] hm
        rw [HU.out]
        exact behind_any _ _ _ _ w' (allB_is l HH.out k (by omega)) (stepB_is l[k] hm) (all_bd l HH.out k).1 ⟨s1, s2⟩ s3 s4
      have HN : Hid (u.behind (stepB l[k]) = allB (l.take (k + 1))) := by
        show _ = _
        rw [HU.out]; exact allB_snoc l k hlt
      generalize u.behind (stepB l[k]) = u' at *
      generalize stepB l[k] = sb at *
      have HS' := Lib.hid HS
      have HB' := Lib.hid HB
      clear HS HB
      unfold St.val MB.val at HS' HB'
      go_wp2_with fail
      refine wp_region_grow_tail 4 (by kernel_rfl) (by kernel_rfl) ?_
      dsimp only [List.take, List.drop]
      repeat (go_big_quiet_step (first | (go_at_call 28; with_reducible exact Calls.grow_of (HS'.out _).out) | (go_at_call 27; with_reducible exact Calls.grow_of (HB'.out _).out)))
      refine wpQuiet_nil ?_
      intro _ hw'; obtain ⟨nq, hw''⟩ := hw'; subst hw''
      go_wp2
      go_roundw
      case rel => exact ⟨k + 1, u', by omega, by go_num, HN.out, grow_of_below (by repeat (first | with_reducible exact Below.refl _ _ | (with_reducible refine Below.alloc ?_ (by first | omega | (simp [go_sem] <;> omega)) _) | (with_reducible refine Below.drew ?_) | (with_reducible refine Below.drewN ?_ _) | (with_reducible refine Below.grow ?_ (by first | omega | (simp [go_sem] <;> omega)) _) | (with_reducible refine Below.setCell ?_ (by first | omega | (simp [go_sem] <;> omega)) _)))⟩
      case measure => simp [intOf]; omega
    · have : k = l.length := by omega
      subst this
      have HU' : Hid (u = allB l) := by have := HU.out; rwa [List.take_length] at this
      clear HU
      go_wp2
      refine bodyPost_ret (v := u.val) ?_ rfl (Ret.of (by rw [HU'.out]) (by repeat (first | with_reducible exact Below.refl _ _ | (with_reducible refine Below.alloc ?_ (by first | omega | (simp [go_sem] <;> omega)) _) | (with_reducible refine Below.drew ?_) | (with_reducible refine Below.drewN ?_ _) | (with_reducible refine Below.grow ?_ (by first | omega | (simp [go_sem] <;> omega)) _) | (with_reducible refine Below.setCell ?_ (by first | omega | (simp [go_sem] <;> omega)) _))))
      simp [results, Try.results20, go_sem, MB.val]

/-! Run: the program's and the reference's. -/
def runV (l : List St) (x y : Int) : Value :=
  if rightB l && nearB x 4096 && nearB y 4096 then .tuple #[.int .i64 (allR l (x, y)).1, .int .i64 (allR l (x, y)).2, .int .i64 0]
  else .tuple #[.int .i64 0, .int .i64 0, .int .i64 1]

set_option maxHeartbeats 2000000 in
theorem rrun_any (v : Value) (l : List St) (x y : Int) (w : World) (h : Sl w v l) :
    Calls Try.prog 12 #[v, .int .i64 x, .int .i64 y] w (Ret (runV l x y) w) := by
  have H0 := Lib.hid (rright_any v l w h)
  have HA : rightB l = true → nearB x 4096 = true → nearB y 4096 = true → ∀ X, Hid (Calls Try.prog 24 #[v, .int .i64 x, .int .i64 y] (w.grow X) (Ret (pt (allR l (x, y))) (w.grow X))) :=
    fun hr hx hy X => rall_any v l x y (w.grow X) (h.grow X) hr ⟨by have := nearB_iff.1 hx; dsimp only; omega, by have := nearB_iff.1 hy; dsimp only; omega⟩
  have HA := Lib.hid HA
  clear h
  unfold runV
  cases h1 : rightB l
  · go_enter Try.func12, Try.ntmps12
    go_wp2_with (go_at_call 14; refine H0.out.mono ?_; rintro e w' ⟨rfl, X, rfl⟩)
    go_ret3
    exact Ret.of (by simp) (by repeat (first | with_reducible exact Below.refl _ _ | (with_reducible refine Below.alloc ?_ (by first | omega | (simp [go_sem] <;> omega)) _) | (with_reducible refine Below.drew ?_) | (with_reducible refine Below.drewN ?_ _) | (with_reducible refine Below.grow ?_ (by first | omega | (simp [go_sem] <;> omega)) _) | (with_reducible refine Below.setCell ?_ (by first | omega | (simp [go_sem] <;> omega)) _)))
  · cases h2 : nearB x 4096
    · go_enter Try.func12, Try.ntmps12
      go_wp2_with (first | (go_at_call 14; refine H0.out.mono ?_; rintro e w' ⟨rfl, X, rfl⟩) | (go_at_call 23; refine (rnear_any _ _).mono ?_; rintro e w' ⟨rfl, rfl⟩))
      go_ret3
      exact Ret.of (by simp) (by repeat (first | with_reducible exact Below.refl _ _ | (with_reducible refine Below.alloc ?_ (by first | omega | (simp [go_sem] <;> omega)) _) | (with_reducible refine Below.drew ?_) | (with_reducible refine Below.drewN ?_ _) | (with_reducible refine Below.grow ?_ (by first | omega | (simp [go_sem] <;> omega)) _) | (with_reducible refine Below.setCell ?_ (by first | omega | (simp [go_sem] <;> omega)) _)))
    · cases h3 : nearB y 4096
      · go_enter Try.func12, Try.ntmps12
        go_wp2_with (first | (go_at_call 14; refine H0.out.mono ?_; rintro e w' ⟨rfl, X, rfl⟩) | (go_at_call 23; refine (rnear_any _ _).mono ?_; rintro e w' ⟨rfl, rfl⟩))
        go_ret3
        exact Ret.of (by simp) (by repeat (first | with_reducible exact Below.refl _ _ | (with_reducible refine Below.alloc ?_ (by first | omega | (simp [go_sem] <;> omega)) _) | (with_reducible refine Below.drew ?_) | (with_reducible refine Below.drewN ?_ _) | (with_reducible refine Below.grow ?_ (by first | omega | (simp [go_sem] <;> omega)) _) | (with_reducible refine Below.setCell ?_ (by first | omega | (simp [go_sem] <;> omega)) _)))
      · have HA' := Lib.hid (HA.out h1 h2 h3)
        unfold pt at HA'
        clear HA
        go_enter Try.func12, Try.ntmps12
        go_wp2_with (first | (go_at_call 14; refine H0.out.mono ?_; rintro e w' ⟨rfl, X, rfl⟩) | (go_at_call 23; refine (rnear_any _ _).mono ?_; rintro e w' ⟨rfl, rfl⟩) | (go_at_call 24; refine (HA'.out _).out.mono ?_; rintro e w' ⟨rfl, Y, rfl⟩))
        go_ret3
        exact Ret.of (by simp) (by repeat (first | with_reducible exact Below.refl _ _ | (with_reducible refine Below.alloc ?_ (by first | omega | (simp [go_sem] <;> omega)) _) | (with_reducible refine Below.drew ?_) | (with_reducible refine Below.drewN ?_ _) | (with_reducible refine Below.grow ?_ (by first | omega | (simp [go_sem] <;> omega)) _) | (with_reducible refine Below.setCell ?_ (by first | omega | (simp [go_sem] <;> omega)) _)))

theorem sm_all {l : List St} {x y : Int} (hr : rightB l = true) (hx : nearB x 4096 = true) (hy : nearB y 4096 = true) : Sm (allR l (x, y)).1 ∧ Sm (allR l (x, y)).2 := by
  have := allR_lim l hr 0 (x, y) ⟨by have := nearB_iff.1 hx; dsimp only; omega, by have := nearB_iff.1 hy; dsimp only; omega⟩
  rw [List.drop_zero] at this
  exact ⟨sm_of _ this.1 (by omega), sm_of _ this.2 (by omega)⟩

set_option maxHeartbeats 2000000 in
theorem run_any (v : Value) (l : List St) (x y : Int) (w : World) (h : Sl w v l) :
    Calls Try.prog 11 #[v, .int .i64 x, .int .i64 y] w (Ret (runV l x y) w) := by
  have H0 := Lib.hid (right_any v l w h)
  have HA := Lib.hid (fun (hr : rightB l = true) X => Lib.hid (all_any v l (w.grow X) (h.grow X) hr))
  have HT : rightB l = true → nearB x 4096 = true → nearB y 4096 = true → ∃ r s, F r (allR l (x, y)).1 ∧ F s (allR l (x, y)).2 ∧ ∀ W, Calls Try.prog 21 #[(allB l).val, .complex .f64 (floatOfInt .f64 x) (floatOfInt .f64 y)] W (Ret (.complex .f64 r s) W) := by
    intro hr hx hy
    have bx := nearB_iff.1 hx
    have by' := nearB_iff.1 hy
    have hm := (all_bd l hr l.length).1
    have hi := allB_is l hr l.length (Nat.le_refl _)
    rw [List.take_length] at hm hi
    have f1 : F (floatOfInt .f64 x) x := F_int (sm_of 4096 (by omega) (by omega))
    have f2 : F (floatOfInt .f64 y) y := F_int (sm_of 4096 (by omega) (by omega))
    have ht := to_F (allB l) (allM l) _ _ x y hi (hm.mono (by omega)) f1 f2 (by omega) (by omega)
    rw [all_to l hr (x, y)] at ht
    exact ⟨_, _, ht.2.2.1, ht.2.2.2, fun W => to_any (allB l) (allM l) _ _ x y W hi (hm.mono (by omega)) f1 f2 (by omega) (by omega)⟩
  have HT := Lib.hid HT
  clear h
  unfold runV
  cases h1 : rightB l
  · go_enter Try.func11, Try.ntmps11
    go_wp2_with (go_at_call 13; refine H0.out.mono ?_; rintro e w' ⟨rfl, X, rfl⟩)
    go_ret3
    exact Ret.of (by simp) (by repeat (first | with_reducible exact Below.refl _ _ | (with_reducible refine Below.alloc ?_ (by first | omega | (simp [go_sem] <;> omega)) _) | (with_reducible refine Below.drew ?_) | (with_reducible refine Below.drewN ?_ _) | (with_reducible refine Below.grow ?_ (by first | omega | (simp [go_sem] <;> omega)) _) | (with_reducible refine Below.setCell ?_ (by first | omega | (simp [go_sem] <;> omega)) _)))
  · cases h2 : nearB x 4096
    · go_enter Try.func11, Try.ntmps11
      go_wp2_with (first | (go_at_call 13; refine H0.out.mono ?_; rintro e w' ⟨rfl, X, rfl⟩) | (go_at_call 18; refine (near_any _ _ _ (by omega) (by omega)).mono ?_; rintro e w' ⟨rfl, rfl⟩))
      go_ret3
      exact Ret.of (by simp) (by repeat (first | with_reducible exact Below.refl _ _ | (with_reducible refine Below.alloc ?_ (by first | omega | (simp [go_sem] <;> omega)) _) | (with_reducible refine Below.drew ?_) | (with_reducible refine Below.drewN ?_ _) | (with_reducible refine Below.grow ?_ (by first | omega | (simp [go_sem] <;> omega)) _) | (with_reducible refine Below.setCell ?_ (by first | omega | (simp [go_sem] <;> omega)) _)))
    · cases h3 : nearB y 4096
      · go_enter Try.func11, Try.ntmps11
        go_wp2_with (first | (go_at_call 13; refine H0.out.mono ?_; rintro e w' ⟨rfl, X, rfl⟩) | (go_at_call 18; refine (near_any _ _ _ (by omega) (by omega)).mono ?_; rintro e w' ⟨rfl, rfl⟩))
        go_ret3
        exact Ret.of (by simp) (by repeat (first | with_reducible exact Below.refl _ _ | (with_reducible refine Below.alloc ?_ (by first | omega | (simp [go_sem] <;> omega)) _) | (with_reducible refine Below.drew ?_) | (with_reducible refine Below.drewN ?_ _) | (with_reducible refine Below.grow ?_ (by first | omega | (simp [go_sem] <;> omega)) _) | (with_reducible refine Below.setCell ?_ (by first | omega | (simp [go_sem] <;> omega)) _)))
      · have HA' := Lib.hid (HA.out h1)
        have HI := Lib.hid (sm_all h1 h2 h3)
        obtain ⟨r, s, f1, f2, ht⟩ := HT.out h1 h2 h3
        have HI' := Lib.hid (fun W => ints_any r s _ _ W f1 f2 HI.out.1 HI.out.2)
        have HT' := Lib.hid ht
        clear HA HT f1 f2 ht HI
        unfold MB.val at HA' HT'
        generalize allR l (x, y) = p at *
        generalize allB l = u at *
        go_enter Try.func11, Try.ntmps11
        go_wp2_with (first | (go_at_call 13; refine H0.out.mono ?_; rintro e w' ⟨rfl, X, rfl⟩) | (go_at_call 18; refine (near_any _ _ _ (by omega) (by omega)).mono ?_; rintro e w' ⟨rfl, rfl⟩) | (go_at_call 20; refine (HA'.out _).out.mono ?_; rintro e w' ⟨rfl, Y, rfl⟩) | (go_at_call 22; refine (of_any _ _ _).mono ?_; rintro e w' ⟨rfl, rfl⟩) | (go_at_call 21; refine (HT'.out _).mono ?_; rintro e w' ⟨rfl, Z, rfl⟩) | (go_at_call 19; refine (HI'.out _).mono ?_; rintro e w' ⟨rfl, rfl⟩))
        go_ret3
        exact Ret.of (by simp) (by repeat (first | with_reducible exact Below.refl _ _ | (with_reducible refine Below.alloc ?_ (by first | omega | (simp [go_sem] <;> omega)) _) | (with_reducible refine Below.drew ?_) | (with_reducible refine Below.drewN ?_ _) | (with_reducible refine Below.grow ?_ (by first | omega | (simp [go_sem] <;> omega)) _) | (with_reducible refine Below.setCell ?_ (by first | omega | (simp [go_sem] <;> omega)) _)))
end Go.Proofs.Ytendepongefklaa
