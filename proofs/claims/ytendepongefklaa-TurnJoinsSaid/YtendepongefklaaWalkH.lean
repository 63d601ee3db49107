/- The walks of the turns: what is neat, by the reference; whether two lists are the same. -/
import Derived.Deep.CutBlock
import Derived.Test.YtendepongefklaaWalkG
namespace Go.Proofs.Ytendepongefklaa
open Go.RowKit

theorem pb_small (a b : Int) (ha : a.natAbs ≤ 1) (hb : b.natAbs ≤ 1) : PB 4096 (a, b) := ⟨by dsimp only; omega, by dsimp only; omega⟩

theorem sq_nonneg (a : Int) : 0 ≤ a * a := by
  rcases Int.lt_or_le a 0 with h | h
  · exact Int.le_of_lt (Int.mul_pos_of_neg_of_neg h h)
  · exact Int.mul_nonneg h h

set_option maxRecDepth 100000 in
set_option maxHeartbeats 4000000 in
theorem rneat_any (v : Value) (l : List St) (w : World) (h : Sl w v l) : Calls Try.prog 16 #[v] w (RetL (neatOf l) (neatE l) w) := by
  have H0 := Lib.hid (rright_any v l w h)
  have HA0 := Lib.hid (fun (hr : rightB l = true) X => Lib.hid (rall_any v l 0 0 (w.grow X) (h.grow X) hr (pb_small _ _ (by decide) (by decide))))
  have HA1 := Lib.hid (fun (hr : rightB l = true) X Y => Lib.hid (rall_any v l 1 0 ((w.grow X).grow Y) ((h.grow X).grow Y) hr (pb_small _ _ (by decide) (by decide))))
  have HA2 := Lib.hid (fun (hr : rightB l = true) X Y Z => Lib.hid (rall_any v l 0 1 (((w.grow X).grow Y).grow Z) (((h.grow X).grow Y).grow Z) hr (pb_small _ _ (by decide) (by decide))))
  clear h
  cases h1 : rightB l
  · have HN : Hid (neatE l = 1 ∧ neatOf l = []) := by
      have : neatE l = 1 := by simp [neatE, h1]
      exact ⟨this, by simp [neatOf, this]⟩
    rw [HN.out.1, HN.out.2]
    go_enter Try.func16, Try.ntmps16
    go_wp2_with (go_at_call 14; refine H0.out.mono ?_; rintro e w' ⟨rfl, X, rfl⟩)
    go_ret2
    exact ⟨_, _, rfl, rfl, none, 0, rfl, by simp, Or.inl rfl⟩
  · obtain ⟨T0, T1, T2⟩ := three l h1
    have HA0' := Lib.hid (HA0.out h1)
    have HA1' := Lib.hid (HA1.out h1)
    have HA2' := Lib.hid (HA2.out h1)
    clear HA0 HA1 HA2
    have hm := (all_bd l h1 l.length)
    rw [List.take_length] at hm
    have HN : Hid ((neatE l = if nearB (allM l).mx 4096 && nearB (allM l).my 4096 && decide ((allM l).bx.natAbs + (allM l).bY.natAbs ≤ 8) then 0 else 3) ∧ neatOf l = if neatE l = 0 then neatL (allM l) else []) := ⟨by simp [neatE, h1], rfl⟩
    generalize allM l = m at *
    generalize neatE l = er at *
    generalize neatOf l = L at *
    unfold pt at HA0' HA1' HA2'
    rw [T0] at HA0'
    rw [T1] at HA1'
    rw [T2] at HA2'
    clear T0 T1 T2
    dsimp only at HA0' HA1' HA2'
    have hx1 : -137438953472 ≤ m.mx := by have := hm.1.2.2.1; omega
    have hx2 : m.mx ≤ 137438953472 := by have := hm.1.2.2.1; omega
    have hy1 : -137438953472 ≤ m.my := by have := hm.1.2.2.2; omega
    have hy2 : m.my ≤ 137438953472 := by have := hm.1.2.2.2; omega
    have hbx1 : -16777216 ≤ m.bx := by have := hm.1.1; omega
    have hbx2 : m.bx ≤ 16777216 := by have := hm.1.1; omega
    have hby1 : -16777216 ≤ m.bY := by have := hm.1.2.1; omega
    have hby2 : m.bY ≤ 16777216 := by have := hm.1.2.1; omega
    have HAx : Hid (Ax m) := hm.2
    clear hm
    obtain ⟨f, bx, bY, x, y⟩ := m
    dsimp only at *
    have hs : ∃ c1 c2 : Int, -(bY * (if f = true then -1 else 1)) = c1 ∧ bx * (if f = true then -1 else 1) = c2 ∧ (-16777216 ≤ c1 ∧ c1 ≤ 16777216) ∧ (-16777216 ≤ c2 ∧ c2 ≤ 16777216) ∧ Hid (decide (bx * c2 - bY * c1 < 0) = f) ∧ (-281474976710656 ≤ bx * c2 ∧ bx * c2 ≤ 281474976710656) ∧ (-281474976710656 ≤ bY * c1 ∧ bY * c1 ≤ 281474976710656) := by
      have q1 := mul_abs (show bx.natAbs ≤ 16777216 by omega) (show bx.natAbs ≤ 16777216 by omega)
      have q2 := mul_abs (show bY.natAbs ≤ 16777216 by omega) (show bY.natAbs ≤ 16777216 by omega)
      have sq1 := sq_nonneg bx
      have sq2 := sq_nonneg bY
      have sq : bx * bx + bY * bY ≠ 0 := by
        rcases HAx.out.2 with h | h
        · have : bx * bx ≠ 0 := by simp [h]
          omega
        · have : bY * bY ≠ 0 := by simp [h]
          omega
      cases f
      · refine ⟨-bY, bx, by simp, by simp, by omega, by omega, ?_, by omega, ?_⟩
        · show decide _ = _; rw [Int.mul_neg]; simp; omega
        · rw [Int.mul_neg]; omega
      · refine ⟨bY, -bx, by simp, by simp, by omega, by omega, ?_, ?_, by omega⟩
        · show decide _ = _; rw [Int.mul_neg]; simp; omega
        · rw [Int.mul_neg]; omega
    obtain ⟨c1, c2, e1, e2, ⟨hc1, hc2⟩, ⟨hd1, hd2⟩, HFl, ⟨p1, p2⟩, ⟨p3, p4⟩⟩ := hs
    rw [e1, e2] at HA2'
    clear e1 e2
    go_enter Try.func16, Try.ntmps16
    go_upto_region 11 with (first | (go_at_call 14; refine H0.out.mono ?_; rintro e w' ⟨rfl, X, rfl⟩) | (go_at_call 24; (with_reducible refine (HA0'.out _).out.mono ?_); rintro e w' ⟨rfl, Y, rfl⟩) | (go_at_call 24; (with_reducible refine (HA1'.out _ _).out.mono ?_); rintro e w' ⟨rfl, Z, rfl⟩) | (go_at_call 24; (with_reducible refine (HA2'.out _ _ _).out.mono ?_); rintro e w' ⟨rfl, U, rfl⟩))
    clear H0 HA0' HA1' HA2'
    go_cut [11] (fun s11 wx => s11 = .int .i64 ((bx.natAbs + bY.natAbs : Nat) : Int) ∧ wx = ((((w.grow X).grow Y).grow Z).grow U))
    case first =>
      go_wp2_with fail
      all_goals
        go_meet
        refine ⟨congrArg (Value.int IntKind.i64) ?_, rfl⟩
        omega
    case rest =>
      obtain ⟨rfl, rfl⟩ := hcut
      go_upto_block 0 with fail
      go_cut [12] (fun s12 wx => s12 = .int .i64 (kq bx bY : Nat) ∧ wx = ((((w.grow X).grow Y).grow Z).grow U))
      case first =>
        have hax : bx = 0 ∨ bY = 0 := HAx.out.1
        by_cases s1 : 0 < bY
        · have HK : Hid (kq bx bY = 1) := by show _ = _; unfold kq; rw [if_neg (by omega), if_pos s1]
          clear hax
          go_wp2
          go_meet
          exact ⟨by rw [HK.out]; rfl, rfl⟩
        · by_cases s2 : bx < 0
          · have HK : Hid (kq bx bY = 2) := by show _ = _; unfold kq; rw [if_pos (by omega), if_neg (by omega)]
            clear hax
            go_wp2
            go_meet
            exact ⟨by rw [HK.out]; rfl, rfl⟩
          · by_cases s3 : bY < 0
            · have HK : Hid (kq bx bY = 3) := by show _ = _; unfold kq; rw [if_neg (by omega), if_neg (by omega)]
              clear hax
              go_wp2
              go_meet
              exact ⟨by rw [HK.out]; rfl, rfl⟩
            · have HK : Hid (kq bx bY = 0) := by show _ = _; unfold kq; rw [if_pos (by omega), if_pos (by omega)]
              clear hax
              go_wp2
              go_meet
              exact ⟨by rw [HK.out]; rfl, rfl⟩
      case rest =>
        obtain ⟨rfl, rfl⟩ := hcut
        go_upto_region 19 with fail
        go_cut [13] (fun s13 wx => s13 = .bool f ∧ wx = ((((w.grow X).grow Y).grow Z).grow U))
        case first =>
          go_wp2
          go_meet
          refine ⟨congrArg Value.bool ?_, rfl⟩
          rw [← HFl.out]
        case rest =>
          obtain ⟨rfl, rfl⟩ := hcut
          have hn : bx.natAbs + bY.natAbs ≤ 33554432 := by omega
          have hk : kq bx bY ≤ 3 := by unfold kq; split <;> split <;> omega
          clear p1 p2 p3 p4 hc1 hc2 hd1 hd2 HFl hbx1 hbx2 hby1 hby2 HAx
          obtain ⟨k, hkq⟩ : ∃ k, kq bx bY = k := ⟨_, rfl⟩
          obtain ⟨n, hnn⟩ : ∃ n, bx.natAbs + bY.natAbs = n := ⟨_, rfl⟩
          have HKN : Hid (kq bx bY = k ∧ bx.natAbs + bY.natAbs = n) := ⟨hkq, hnn⟩
          rw [hkq, hnn]
          rw [hkq] at hk
          rw [hnn] at hn HN
          clear hkq hnn
          cases h2 : nearB x 4096 && nearB y 4096 && decide (n ≤ 8)
          · have HR : Hid (er = 3 ∧ L = []) := by
              have e0 : er = 3 := by rw [HN.out.1]; simp [h2]
              exact ⟨e0, by rw [HN.out.2, e0]; rfl⟩
            clear HN
            cases h3 : nearB x 4096
            · clear h2
              go_wp2_with (first | (go_at_call 23; refine (rnear_any _ _).mono ?_; rintro e w' ⟨rfl, rfl⟩))
              go_ret2
              rw [HR.out.1, HR.out.2]
              obtain ⟨Z5, e5⟩ := grown_of (w := w) (w' := ((((w.grow X).grow Y).grow Z).grow U)) (by repeat (first | with_reducible exact Below.refl _ _ | (with_reducible refine Below.alloc ?_ (by first | omega | (simp [go_sem] <;> omega)) _) | (with_reducible refine Below.drew ?_) | (with_reducible refine Below.drewN ?_ _) | (with_reducible refine Below.grow ?_ (by first | omega | (simp [go_sem] <;> omega)) _) | (with_reducible refine Below.setCell ?_ (by first | omega | (simp [go_sem] <;> omega)) _)))
              exact ⟨_, Z5, rfl, e5, none, 0, rfl, by simp, Or.inl rfl⟩
            · cases h4 : nearB y 4096
              · clear h2
                go_wp2_with (first | (go_at_call 23; refine (rnear_any _ _).mono ?_; rintro e w' ⟨rfl, rfl⟩))
                go_ret2
                rw [HR.out.1, HR.out.2]
                obtain ⟨Z5, e5⟩ := grown_of (w := w) (w' := ((((w.grow X).grow Y).grow Z).grow U)) (by repeat (first | with_reducible exact Below.refl _ _ | (with_reducible refine Below.alloc ?_ (by first | omega | (simp [go_sem] <;> omega)) _) | (with_reducible refine Below.drew ?_) | (with_reducible refine Below.drewN ?_ _) | (with_reducible refine Below.grow ?_ (by first | omega | (simp [go_sem] <;> omega)) _) | (with_reducible refine Below.setCell ?_ (by first | omega | (simp [go_sem] <;> omega)) _)))
                exact ⟨_, Z5, rfl, e5, none, 0, rfl, by simp, Or.inl rfl⟩
              · have h5 : ¬ n ≤ 8 := by rw [h3, h4] at h2; simpa using h2
                clear h2
                go_wp2_with (first | (go_at_call 23; refine (rnear_any _ _).mono ?_; rintro e w' ⟨rfl, rfl⟩))
                go_ret2
                rw [HR.out.1, HR.out.2]
                obtain ⟨Z5, e5⟩ := grown_of (w := w) (w' := ((((w.grow X).grow Y).grow Z).grow U)) (by repeat (first | with_reducible exact Below.refl _ _ | (with_reducible refine Below.alloc ?_ (by first | omega | (simp [go_sem] <;> omega)) _) | (with_reducible refine Below.drew ?_) | (with_reducible refine Below.drewN ?_ _) | (with_reducible refine Below.grow ?_ (by first | omega | (simp [go_sem] <;> omega)) _) | (with_reducible refine Below.setCell ?_ (by first | omega | (simp [go_sem] <;> omega)) _)))
                exact ⟨_, Z5, rfl, e5, none, 0, rfl, by simp, Or.inl rfl⟩
          · simp only [Bool.and_eq_true, decide_eq_true_eq] at h2
            obtain ⟨⟨h2, h3⟩, h4⟩ := h2
            have HR : Hid (er = 0 ∧ L = neatL ⟨f, bx, bY, x, y⟩) := by
              have e0 : er = 0 := by rw [HN.out.1, h2, h3, decide_eq_true h4]; rfl
              exact ⟨e0, by rw [HN.out.2, if_pos e0]⟩
            clear HN
            go_upto_region 23 with (first | (go_at_call 23; refine (rnear_any _ _).mono ?_; rintro e w' ⟨rfl, rfl⟩))
            have o0 : (((((w.grow X).grow Y).grow Z).grow U)).ownsRow ((((w.grow X).grow Y).grow Z).grow U).heap.size 35 3 (.slice none 0 0) ([] : List St).length (cells3 []) := World.ownsRow_nil _ _ _ _
            have l0 : ([] : List St).length ≤ 0 := by simp
            go_cut [89] (fun s wx => s = .bool (decide (x ≠ 0 ∨ y ≠ 0)) ∧ wx = ((((w.grow X).grow Y).grow Z).grow U))
            case first =>
              by_cases hx0 : x = 0
              · have b1 : (x != 0) = false := by simp [hx0]
                have HX := Lib.hid hx0
                clear hx0
                go_wp2
                go_meet
                refine ⟨?_, rfl⟩
                have := HX.out
                by_cases h : y = 0 <;> simp [this, h]
              · have b1 : (x != 0) = true := by simp [hx0]
                have HX := Lib.hid hx0
                clear hx0
                go_wp2
                go_meet
                refine ⟨?_, rfl⟩
                have := HX.out
                simp [this]
            case rest =>
              obtain ⟨rfl, rfl⟩ := hcut
              go_upto_if 89 with fail
              go_cut [14] (fun v wx => ∃ Z', wx = ((((w.grow X).grow Y).grow Z).grow U).grow Z' ∧ (((((w.grow X).grow Y).grow Z).grow U).grow Z').ownsRow ((((w.grow X).grow Y).grow Z).grow U).heap.size 35 3 v (L1 x y).length (cells3 (L1 x y)))
              case first =>
                by_cases h5 : x ≠ 0 ∨ y ≠ 0
                · have HL : Hid (L1 x y = [⟨1, x, y⟩]) := by show _ = _; simp [L1, h5]
                  have b5 : decide (x ≠ 0 ∨ y ≠ 0) = true := by simp [h5]
                  rw [b5]
                  clear h5 b5
                  go_wp2_with (at_builtin; refine append_grow rfl _ _ 22 rfl steps_row ((((w.grow X).grow Y).grow Z).grow U) rfl (o0.alloc _) (by repeat (first | with_reducible exact Below.refl _ _ | (with_reducible refine Below.alloc ?_ (by first | omega | (simp [go_sem] <;> omega)) _) | (with_reducible refine Below.drew ?_) | (with_reducible refine Below.drewN ?_ _) | (with_reducible refine Below.grow ?_ (by first | omega | (simp [go_sem] <;> omega)) _) | (with_reducible refine Below.setCell ?_ (by first | omega | (simp [go_sem] <;> omega)) _))) ⟨_, 0, none⟩ 1 1 [.int .i64 1, .int .i64 x, .int .i64 y] rfl rfl (new_cells (c := #[.int .i64 1, .int .i64 x, .int .i64 y]) (by simp [go_sem])) (by intro u hu; simp at hu; rcases hu with rfl | rfl | rfl <;> rfl) (by have := l0; unfold maxLen; omega) (by have := l0; omega) ?_; intro v' Z' hown' _)
                  go_meet
                  refine ⟨Z', rfl, ?_⟩
                  rw [HL.out]
                  exact hown'
                · have HL : Hid (L1 x y = []) := by show _ = _; simp [L1, h5]
                  have b5 : decide (x ≠ 0 ∨ y ≠ 0) = false := by simp [h5]
                  rw [b5]
                  clear h5 b5
                  go_wp2
                  go_meet
                  refine ⟨_, (grow_refl _).symm, ?_⟩
                  rw [HL.out, grow_refl]
                  exact o0
              case rest =>
                obtain ⟨Z1, rfl, o1⟩ := hcut
                have l1 : (L1 x y).length ≤ 1 := by unfold L1; split <;> simp
                clear o0
                go_upto_if 97 with fail
                go_cut [14] (fun v wx => ∃ Z', wx = ((((w.grow X).grow Y).grow Z).grow U).grow Z' ∧ (((((w.grow X).grow Y).grow Z).grow U).grow Z').ownsRow ((((w.grow X).grow Y).grow Z).grow U).heap.size 35 3 v (L1 x y ++ L2 k).length (cells3 (L1 x y ++ L2 k)))
                case first =>
                  by_cases h5 : 0 < k
                  · have HL : Hid (L2 k = [⟨2, k, 0⟩]) := by show _ = _; simp [L2, h5]
                    have b5 : (0 : Int) < k := by omega
                    clear h5
                    go_wp2_with (at_builtin; refine append_grow rfl _ _ 22 rfl steps_row ((((w.grow X).grow Y).grow Z).grow U) rfl (o1.alloc _) (by repeat (first | with_reducible exact Below.refl _ _ | (with_reducible refine Below.alloc ?_ (by first | omega | (simp [go_sem] <;> omega)) _) | (with_reducible refine Below.drew ?_) | (with_reducible refine Below.drewN ?_ _) | (with_reducible refine Below.grow ?_ (by first | omega | (simp [go_sem] <;> omega)) _) | (with_reducible refine Below.setCell ?_ (by first | omega | (simp [go_sem] <;> omega)) _))) ⟨_, 0, none⟩ 1 1 [.int .i64 2, .int .i64 k, .int .i64 0] rfl rfl (new_cells (c := #[.int .i64 2, .int .i64 k, .int .i64 0]) (by simp [go_sem])) (by intro u hu; simp at hu; rcases hu with rfl | rfl | rfl <;> rfl) (by have := l1; unfold maxLen; omega) (by have := l1; omega) ?_; intro v' Z' hown' _)
                    go_meet
                    refine ⟨Z', rfl, ?_⟩
                    rw [HL.out, cells3_snoc, List.length_append]
                    exact hown'
                  · have HL : Hid (L2 k = []) := by show _ = _; simp [L2, h5]
                    have b5 : ¬ (0 : Int) < k := by omega
                    clear h5
                    go_wp2
                    go_meet
                    refine ⟨_, rfl, ?_⟩
                    rw [HL.out, List.append_nil]
                    exact o1
                case rest =>
                  obtain ⟨Z2, rfl, o2⟩ := hcut
                  have l2 : (L1 x y ++ L2 k).length ≤ 2 := by have : (L2 k).length ≤ 1 := by { unfold L2; split <;> simp }; rw [List.length_append]; omega
                  clear o1
                  go_upto_if 104 with fail
                  go_cut [14] (fun v wx => ∃ Z', wx = ((((w.grow X).grow Y).grow Z).grow U).grow Z' ∧ (((((w.grow X).grow Y).grow Z).grow U).grow Z').ownsRow ((((w.grow X).grow Y).grow Z).grow U).heap.size 35 3 v (L1 x y ++ L2 k ++ L3 n).length (cells3 (L1 x y ++ L2 k ++ L3 n)))
                  case first =>
                    by_cases h5 : 1 < n
                    · have HL : Hid (L3 n = [⟨3, n, 0⟩]) := by show _ = _; simp [L3, h5]
                      have b5 : (1 : Int) < n := by omega
                      clear h5
                      go_wp2_with (at_builtin; refine append_grow rfl _ _ 22 rfl steps_row ((((w.grow X).grow Y).grow Z).grow U) rfl (o2.alloc _) (by repeat (first | with_reducible exact Below.refl _ _ | (with_reducible refine Below.alloc ?_ (by first | omega | (simp [go_sem] <;> omega)) _) | (with_reducible refine Below.drew ?_) | (with_reducible refine Below.drewN ?_ _) | (with_reducible refine Below.grow ?_ (by first | omega | (simp [go_sem] <;> omega)) _) | (with_reducible refine Below.setCell ?_ (by first | omega | (simp [go_sem] <;> omega)) _))) ⟨_, 0, none⟩ 1 1 [.int .i64 3, .int .i64 n, .int .i64 0] rfl rfl (new_cells (c := #[.int .i64 3, .int .i64 n, .int .i64 0]) (by simp [go_sem])) (by intro u hu; simp at hu; rcases hu with rfl | rfl | rfl <;> rfl) (by have := l2; unfold maxLen; omega) (by have := l2; omega) ?_; intro v' Z' hown' _)
                      go_meet
                      refine ⟨Z', rfl, ?_⟩
                      rw [HL.out, cells3_snoc, List.length_append]
                      exact hown'
                    · have HL : Hid (L3 n = []) := by show _ = _; simp [L3, h5]
                      have b5 : ¬ (1 : Int) < n := by omega
                      clear h5
                      go_wp2
                      go_meet
                      refine ⟨_, rfl, ?_⟩
                      rw [HL.out, List.append_nil]
                      exact o2
                  case rest =>
                    obtain ⟨Z3, rfl, o3⟩ := hcut
                    have l3 : (L1 x y ++ L2 k ++ L3 n).length ≤ 3 := by have : (L3 n).length ≤ 1 := by { unfold L3; split <;> simp }; rw [List.length_append]; omega
                    clear o2
                    go_upto_if 110 with fail
                    go_cut [14] (fun v wx => ∃ Z', wx = ((((w.grow X).grow Y).grow Z).grow U).grow Z' ∧ (((((w.grow X).grow Y).grow Z).grow U).grow Z').ownsRow ((((w.grow X).grow Y).grow Z).grow U).heap.size 35 3 v (L1 x y ++ L2 k ++ L3 n ++ L4 f).length (cells3 (L1 x y ++ L2 k ++ L3 n ++ L4 f)))
                    case first =>
                      by_cases h5 : f = true
                      · have HL : Hid (L4 f = [⟨4, 0, 0⟩]) := by show _ = _; simp [L4, h5]
                        subst h5
                        go_wp2_with (at_builtin; refine append_grow rfl _ _ 22 rfl steps_row ((((w.grow X).grow Y).grow Z).grow U) rfl (o3.alloc _) (by repeat (first | with_reducible exact Below.refl _ _ | (with_reducible refine Below.alloc ?_ (by first | omega | (simp [go_sem] <;> omega)) _) | (with_reducible refine Below.drew ?_) | (with_reducible refine Below.drewN ?_ _) | (with_reducible refine Below.grow ?_ (by first | omega | (simp [go_sem] <;> omega)) _) | (with_reducible refine Below.setCell ?_ (by first | omega | (simp [go_sem] <;> omega)) _))) ⟨_, 0, none⟩ 1 1 [.int .i64 4, .int .i64 0, .int .i64 0] rfl rfl (new_cells (c := #[.int .i64 4, .int .i64 0, .int .i64 0]) (by simp [go_sem])) (by intro u hu; simp at hu; rcases hu with rfl | rfl | rfl <;> rfl) (by have := l3; unfold maxLen; omega) (by have := l3; omega) ?_; intro v' Z' hown' _)
                        go_meet
                        refine ⟨Z', rfl, ?_⟩
                        rw [HL.out, cells3_snoc, List.length_append]
                        exact hown'
                      · have HL : Hid (L4 f = []) := by show _ = _; simp [L4, h5]
                        have h5 : f = false := by simpa using h5
                        subst h5
                        go_wp2
                        go_meet
                        refine ⟨_, rfl, ?_⟩
                        rw [HL.out, List.append_nil]
                        exact o3
                    case rest =>
                      obtain ⟨Z4, rfl, o4⟩ := hcut
                      have l4 : (L1 x y ++ L2 k ++ L3 n ++ L4 f).length ≤ 4 := by have : (L4 f).length ≤ 1 := by { unfold L4; split <;> simp }; rw [List.length_append]; omega
                      clear o3
                      have HN : Hid (neatL ⟨f, bx, bY, x, y⟩ = L1 x y ++ L2 k ++ L3 n ++ L4 f) := by
                        show _ = _
                        unfold neatL
                        dsimp only
                        rw [HKN.out.1, HKN.out.2]
                      have o5 := Lib.hid (sl_own (by omega) o4)
                      clear o4
                      go_wp2
                      go_ret2
                      rw [HR.out.1, HR.out.2, HN.out]
                      obtain ⟨Z5, e5⟩ := grown_of (w := w) (w' := (((((w.grow X).grow Y).grow Z).grow U).grow Z4)) (by repeat (first | with_reducible exact Below.refl _ _ | (with_reducible refine Below.alloc ?_ (by first | omega | (simp [go_sem] <;> omega)) _) | (with_reducible refine Below.drew ?_) | (with_reducible refine Below.drewN ?_ _) | (with_reducible refine Below.grow ?_ (by first | omega | (simp [go_sem] <;> omega)) _) | (with_reducible refine Below.setCell ?_ (by first | omega | (simp [go_sem] <;> omega)) _)))
                      exact ⟨_, Z5, rfl, e5, o5.out⟩
end Go.Proofs.Ytendepongefklaa
