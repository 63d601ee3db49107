/- The walks of the turns: the reference; the plain law; how steps are opened. -/
import Derived.Deep.CutBlock
import Derived.ProofKit
import Derived.Deep.Slices
import Derived.Deep.Fields
import Derived.ChangeSame
import Derived.Test.YtgcccpdadponiaaGreatDoorTA
namespace Go.Proofs.YtgcccpdadponiaaGreatDoor
open Go.RowKit

theorem pb_small (a b : Int) (ha : a.natAbs ≤ 1) (hb : b.natAbs ≤ 1) : PB 4096 (a, b) := ⟨by dsimp only; omega, by dsimp only; omega⟩

theorem sq_nonneg (a : Int) : 0 ≤ a * a := by
  rcases Int.lt_or_le a 0 with h | h
  · exact Int.le_of_lt (Int.mul_pos_of_neg_of_neg h h)
  · exact Int.mul_nonneg h h

set_option maxRecDepth 100000 in
set_option maxHeartbeats 4000000 in
theorem rneat_any (v : Value) (l : List St) (w : World) (h : Sl w v l) : Calls Tryz.prog 28 #[v] w (RetL (neatOf l) (neatE l) w) := by
  have H0 := Lib.hid (trright_any v l w h)
  have HA0 := Lib.hid (fun (hr : rightB l = true) X => Lib.hid (rall_any v l 0 0 (w.grow X) (h.grow X) hr (pb_small _ _ (by decide) (by decide))))
  have HA1 := Lib.hid (fun (hr : rightB l = true) X Y => Lib.hid (rall_any v l 1 0 ((w.grow X).grow Y) ((h.grow X).grow Y) hr (pb_small _ _ (by decide) (by decide))))
  have HA2 := Lib.hid (fun (hr : rightB l = true) X Y Z => Lib.hid (rall_any v l 0 1 (((w.grow X).grow Y).grow Z) (((h.grow X).grow Y).grow Z) hr (pb_small _ _ (by decide) (by decide))))
  clear h
  cases h1 : rightB l
  · have HN : Hid (neatE l = 1 ∧ neatOf l = []) := by
      have : neatE l = 1 := by simp [neatE, h1]
      exact ⟨this, by simp [neatOf, this]⟩
    rw [HN.out.1, HN.out.2]
    go_enter Tryz.func28, Tryz.ntmps28
    go_wp2_with (go_at_call 35; refine H0.out.mono ?_; rintro e w' ⟨rfl, X, rfl⟩)
    go_ret2
    exact ⟨_, _, rfl, rfl, none, 0, rfl, by simp, Or.inl rfl⟩
  · obtain ⟨T0, T1, T2⟩ := three l h1
    have HA0' := Lib.hid (HA0.out h1)
    have HA1' := Lib.hid (HA1.out h1)
    have HA2' := Lib.hid (HA2.out h1)
    clear HA0 HA1 HA2
    have hm := (all_bd l h1 l.length)
    rw [List.take_length] at hm
    have HN : Hid ((neatE l = if nearB (allM l).mx 4096 && nearB (allM l).my 4096 && decide ((allM l).bx.natAbs + (allM l).bY.natAbs ≤ 8) then 0 else 3) ∧ neatOf l = if neatE l = 0 then neatL (allM l) else []) := ⟨by simp [neatE, h1], rfl⟩
    generalize allM l = m at *
    generalize neatE l = er at *
    generalize neatOf l = L at *
    unfold pt at HA0' HA1' HA2'
    rw [T0] at HA0'
    rw [T1] at HA1'
    rw [T2] at HA2'
    clear T0 T1 T2
    dsimp only at HA0' HA1' HA2'
    have hx1 : -137438953472 ≤ m.mx := by have := hm.1.2.2.1; omega
    have hx2 : m.mx ≤ 137438953472 := by have := hm.1.2.2.1; omega
    have hy1 : -137438953472 ≤ m.my := by have := hm.1.2.2.2; omega
    have hy2 : m.my ≤ 137438953472 := by have := hm.1.2.2.2; omega
    have hbx1 : -16777216 ≤ m.bx := by have := hm.1.1; omega
    have hbx2 : m.bx ≤ 16777216 := by have := hm.1.1; omega
    have hby1 : -16777216 ≤ m.bY := by have := hm.1.2.1; omega
    have hby2 : m.bY ≤ 16777216 := by have := hm.1.2.1; omega
    have HAx : Hid (Ax m) := hm.2
    clear hm
    obtain ⟨f, bx, bY, x, y⟩ := m
    dsimp only at *
    have hs : ∃ c1 c2 : Int, -(bY * (if f = true then -1 else 1)) = c1 ∧ bx * (if f = true then -1 else 1) = c2 ∧ (-16777216 ≤ c1 ∧ c1 ≤ 16777216) ∧ (-16777216 ≤ c2 ∧ c2 ≤ 16777216) ∧ Hid (decide (bx * c2 - bY * c1 < 0) = f) ∧ (-281474976710656 ≤ bx * c2 ∧ bx * c2 ≤ 281474976710656) ∧ (-281474976710656 ≤ bY * c1 ∧ bY * c1 ≤ 281474976710656) := by
      have q1 := mul_abs (show bx.natAbs ≤ 16777216 by omega) (show bx.natAbs ≤ 16777216 by omega)
      have q2 := mul_abs (show bY.natAbs ≤ 16777216 by omega) (show bY.natAbs ≤ 16777216 by omega)
      have sq1 := sq_nonneg bx
      have sq2 := sq_nonneg bY
      have sq : bx * bx + bY * bY ≠ 0 := by
        rcases HAx.out.2 with h | h
        · have : bx * bx ≠ 0 := by simp [h]
          omega
        · have : bY * bY ≠ 0 := by simp [h]
          omega
      cases f
      · refine ⟨-bY, bx, by simp, by simp, by omega, by omega, ?_, by omega, ?_⟩
        · show decide _ = _; rw [Int.mul_neg]; simp; omega
        · rw [Int.mul_neg]; omega
      · refine ⟨bY, -bx, by simp, by simp, by omega, by omega, ?_, ?_, by omega⟩
        · show decide _ = _; rw [Int.mul_neg]; simp; omega
        · rw [Int.mul_neg]; omega
    obtain ⟨c1, c2, e1, e2, ⟨hc1, hc2⟩, ⟨hd1, hd2⟩, HFl, ⟨p1, p2⟩, ⟨p3, p4⟩⟩ := hs
    rw [e1, e2] at HA2'
    clear e1 e2
    go_enter Tryz.func28, Tryz.ntmps28
    go_upto_region 11 with (first | (go_at_call 35; refine H0.out.mono ?_; rintro e w' ⟨rfl, X, rfl⟩) | (go_at_call 51; (with_reducible refine (HA0'.out _).out.mono ?_); rintro e w' ⟨rfl, Y, rfl⟩) | (go_at_call 51; (with_reducible refine (HA1'.out _ _).out.mono ?_); rintro e w' ⟨rfl, Z, rfl⟩) | (go_at_call 51; (with_reducible refine (HA2'.out _ _ _).out.mono ?_); rintro e w' ⟨rfl, U, rfl⟩))
    clear H0 HA0' HA1' HA2'
    go_cut [11] (fun s11 wx => s11 = .int .i64 ((bx.natAbs + bY.natAbs : Nat) : Int) ∧ wx = ((((w.grow X).grow Y).grow Z).grow U))
    case first =>
      go_wp2_with fail
      all_goals
        go_meet
        refine ⟨congrArg (Value.int IntKind.i64) ?_, rfl⟩
        omega
    case rest =>
      obtain ⟨rfl, rfl⟩ := hcut
      go_upto_block 0 with fail
      go_cut [12] (fun s12 wx => s12 = .int .i64 (kq bx bY : Nat) ∧ wx = ((((w.grow X).grow Y).grow Z).grow U))
      case first =>
        have hax : bx = 0 ∨ bY = 0 := HAx.out.1
        by_cases s1 : 0 < bY
        · have HK : Hid (kq bx bY = 1) := by show _ = _; unfold kq; rw [if_neg (by omega), if_pos s1]
          clear hax
          go_wp2
          go_meet
          exact ⟨by rw [HK.out]; rfl, rfl⟩
        · by_cases s2 : bx < 0
          · have HK : Hid (kq bx bY = 2) := by show _ = _; unfold kq; rw [if_pos (by omega), if_neg (by omega)]
            clear hax
            go_wp2
            go_meet
            exact ⟨by rw [HK.out]; rfl, rfl⟩
          · by_cases s3 : bY < 0
            · have HK : Hid (kq bx bY = 3) := by show _ = _; unfold kq; rw [if_neg (by omega), if_neg (by omega)]
              clear hax
              go_wp2
              go_meet
              exact ⟨by rw [HK.out]; rfl, rfl⟩
            · have HK : Hid (kq bx bY = 0) := by show _ = _; unfold kq; rw [if_pos (by omega), if_pos (by omega)]
              clear hax
              go_wp2
              go_meet
              exact ⟨by rw [HK.out]; rfl, rfl⟩
      case rest =>
        obtain ⟨rfl, rfl⟩ := hcut
        go_upto_region 19 with fail
        go_cut [13] (fun s13 wx => s13 = .bool f ∧ wx = ((((w.grow X).grow Y).grow Z).grow U))
        case first =>
          go_wp2
          go_meet
          refine ⟨congrArg Value.bool ?_, rfl⟩
          rw [← HFl.out]
        case rest =>
          obtain ⟨rfl, rfl⟩ := hcut
          have hn : bx.natAbs + bY.natAbs ≤ 33554432 := by omega
          have hk : kq bx bY ≤ 3 := by unfold kq; split <;> split <;> omega
          clear p1 p2 p3 p4 hc1 hc2 hd1 hd2 HFl hbx1 hbx2 hby1 hby2 HAx
          obtain ⟨k, hkq⟩ : ∃ k, kq bx bY = k := ⟨_, rfl⟩
          obtain ⟨n, hnn⟩ : ∃ n, bx.natAbs + bY.natAbs = n := ⟨_, rfl⟩
          have HKN : Hid (kq bx bY = k ∧ bx.natAbs + bY.natAbs = n) := ⟨hkq, hnn⟩
          rw [hkq, hnn]
          rw [hkq] at hk
          rw [hnn] at hn HN
          clear hkq hnn
          cases h2 : nearB x 4096 && nearB y 4096 && decide (n ≤ 8)
          · have HR : Hid (er = 3 ∧ L = []) := by
              have e0 : er = 3 := by rw [HN.out.1]; simp [h2]
              exact ⟨e0, by rw [HN.out.2, e0]; rfl⟩
            clear HN
            cases h3 : nearB x 4096
            · clear h2
              go_wp2_with (first | (go_at_call 52; refine (rnear_any _ _).mono ?_; rintro e w' ⟨rfl, rfl⟩))
              go_ret2
              rw [HR.out.1, HR.out.2]
              obtain ⟨Z5, e5⟩ := grown_of (w := w) (w' := ((((w.grow X).grow Y).grow Z).grow U)) (by repeat (first | with_reducible exact Below.refl _ _ | (with_reducible refine Below.alloc ?_ (by first | omega | (simp [go_sem] <;> omega)) _) | (with_reducible refine Below.drew ?_) | (with_reducible refine Below.drewN ?_ _) | (with_reducible refine Below.grow ?_ (by first | omega | (simp [go_sem] <;> omega)) _) | (with_reducible refine Below.setCell ?_ (by first | omega | (simp [go_sem] <;> omega)) _)))
              exact ⟨_, Z5, rfl, e5, none, 0, rfl, by simp, Or.inl rfl⟩
            · cases h4 : nearB y 4096
              · clear h2
                go_wp2_with (first | (go_at_call 52; refine (rnear_any _ _).mono ?_; rintro e w' ⟨rfl, rfl⟩))
                go_ret2
                rw [HR.out.1, HR.out.2]
                obtain ⟨Z5, e5⟩ := grown_of (w := w) (w' := ((((w.grow X).grow Y).grow Z).grow U)) (by repeat (first | with_reducible exact Below.refl _ _ | (with_reducible refine Below.alloc ?_ (by first | omega | (simp [go_sem] <;> omega)) _) | (with_reducible refine Below.drew ?_) | (with_reducible refine Below.drewN ?_ _) | (with_reducible refine Below.grow ?_ (by first | omega | (simp [go_sem] <;> omega)) _) | (with_reducible refine Below.setCell ?_ (by first | omega | (simp [go_sem] <;> omega)) _)))
                exact ⟨_, Z5, rfl, e5, none, 0, rfl, by simp, Or.inl rfl⟩
              · have h5 : ¬ n ≤ 8 := by rw [h3, h4] at h2; simpa using h2
                clear h2
                go_wp2_with (first | (go_at_call 52; refine (rnear_any _ _).mono ?_; rintro e w' ⟨rfl, rfl⟩))
                go_ret2
                rw [HR.out.1, HR.out.2]
                obtain ⟨Z5, e5⟩ := grown_of (w := w) (w' := ((((w.grow X).grow Y).grow Z).grow U)) (by repeat (first | with_reducible exact Below.refl _ _ | (with_reducible refine Below.alloc ?_ (by first | omega | (simp [go_sem] <;> omega)) _) | (with_reducible refine Below.drew ?_) | (with_reducible refine Below.drewN ?_ _) | (with_reducible refine Below.grow ?_ (by first | omega | (simp [go_sem] <;> omega)) _) | (with_reducible refine Below.setCell ?_ (by first | omega | (simp [go_sem] <;> omega)) _)))
                exact ⟨_, Z5, rfl, e5, none, 0, rfl, by simp, Or.inl rfl⟩
          · simp only [Bool.and_eq_true, decide_eq_true_eq] at h2
            obtain ⟨⟨h2, h3⟩, h4⟩ := h2
            have HR : Hid (er = 0 ∧ L = neatL ⟨f, bx, bY, x, y⟩) := by
              have e0 : er = 0 := by rw [HN.out.1, h2, h3, decide_eq_true h4]; rfl
              exact ⟨e0, by rw [HN.out.2, if_pos e0]⟩
            clear HN
            go_upto_region 23 with (first | (go_at_call 52; refine (rnear_any _ _).mono ?_; rintro e w' ⟨rfl, rfl⟩))
            have o0 : (((((w.grow X).grow Y).grow Z).grow U)).ownsRow ((((w.grow X).grow Y).grow Z).grow U).heap.size 58 3 (.slice none 0 0) ([] : List St).length (cells3 []) := World.ownsRow_nil _ _ _ _
            have l0 : ([] : List St).length ≤ 0 := by simp
            go_cut [89] (fun s wx => s = .bool (decide (x ≠ 0 ∨ y ≠ 0)) ∧ wx = ((((w.grow X).grow Y).grow Z).grow U))
            case first =>
              by_cases hx0 : x = 0
              · have b1 : (x != 0) = false := by simp [hx0]
                have HX := Lib.hid hx0
                clear hx0
                go_wp2
                go_meet
                refine ⟨?_, rfl⟩
                have := HX.out
                by_cases h : y = 0 <;> simp [this, h]
              · have b1 : (x != 0) = true := by simp [hx0]
                have HX := Lib.hid hx0
                clear hx0
                go_wp2
                go_meet
                refine ⟨?_, rfl⟩
                have := HX.out
                simp [this]
            case rest =>
              obtain ⟨rfl, rfl⟩ := hcut
              go_upto_if 89 with fail
              go_cut [14] (fun v wx => ∃ Z', wx = ((((w.grow X).grow Y).grow Z).grow U).grow Z' ∧ (((((w.grow X).grow Y).grow Z).grow U).grow Z').ownsRow ((((w.grow X).grow Y).grow Z).grow U).heap.size 58 3 v (L1 x y).length (cells3 (L1 x y)))
              case first =>
                by_cases h5 : x ≠ 0 ∨ y ≠ 0
                · have HL : Hid (L1 x y = [⟨1, x, y⟩]) := by show _ = _; simp [L1, h5]
                  have b5 : decide (x ≠ 0 ∨ y ≠ 0) = true := by simp [h5]
                  rw [b5]
                  clear h5 b5
                  go_wp2_with (at_builtin; refine append_grow rfl _ _ 29 rfl steps_row ((((w.grow X).grow Y).grow Z).grow U) rfl (o0.alloc _) (by repeat (first | with_reducible exact Below.refl _ _ | (with_reducible refine Below.alloc ?_ (by first | omega | (simp [go_sem] <;> omega)) _) | (with_reducible refine Below.drew ?_) | (with_reducible refine Below.drewN ?_ _) | (with_reducible refine Below.grow ?_ (by first | omega | (simp [go_sem] <;> omega)) _) | (with_reducible refine Below.setCell ?_ (by first | omega | (simp [go_sem] <;> omega)) _))) ⟨_, 0, none⟩ 1 1 [.int .i64 1, .int .i64 x, .int .i64 y] rfl rfl (new_cells (c := #[.int .i64 1, .int .i64 x, .int .i64 y]) (by simp [go_sem])) (by intro u hu; simp at hu; rcases hu with rfl | rfl | rfl <;> rfl) (by have := l0; unfold maxLen; omega) (by have := l0; omega) ?_; intro v' Z' hown' _)
                  go_meet
                  refine ⟨Z', rfl, ?_⟩
                  rw [HL.out]
                  exact hown'
                · have HL : Hid (L1 x y = []) := by show _ = _; simp [L1, h5]
                  have b5 : decide (x ≠ 0 ∨ y ≠ 0) = false := by simp [h5]
                  rw [b5]
                  clear h5 b5
                  go_wp2
                  go_meet
                  refine ⟨_, (grow_refl _).symm, ?_⟩
                  rw [HL.out, grow_refl]
                  exact o0
              case rest =>
                obtain ⟨Z1, rfl, o1⟩ := hcut
                have l1 : (L1 x y).length ≤ 1 := by unfold L1; split <;> simp
                clear o0
                go_upto_if 97 with fail
                go_cut [14] (fun v wx => ∃ Z', wx = ((((w.grow X).grow Y).grow Z).grow U).grow Z' ∧ (((((w.grow X).grow Y).grow Z).grow U).grow Z').ownsRow ((((w.grow X).grow Y).grow Z).grow U).heap.size 58 3 v (L1 x y ++ L2 k).length (cells3 (L1 x y ++ L2 k)))
                case first =>
                  by_cases h5 : 0 < k
                  · have HL : Hid (L2 k = [⟨2, k, 0⟩]) := by show _ = _; simp [L2, h5]
                    have b5 : (0 : Int) < k := by omega
                    clear h5
                    go_wp2_with (at_builtin; refine append_grow rfl _ _ 29 rfl steps_row ((((w.grow X).grow Y).grow Z).grow U) rfl (o1.alloc _) (by repeat (first | with_reducible exact Below.refl _ _ | (with_reducible refine Below.alloc ?_ (by first | omega | (simp [go_sem] <;> omega)) _) | (with_reducible refine Below.drew ?_) | (with_reducible refine Below.drewN ?_ _) | (with_reducible refine Below.grow ?_ (by first | omega | (simp [go_sem] <;> omega)) _) | (with_reducible refine Below.setCell ?_ (by first | omega | (simp [go_sem] <;> omega)) _))) ⟨_, 0, none⟩ 1 1 [.int .i64 2, .int .i64 k, .int .i64 0] rfl rfl (new_cells (c := #[.int .i64 2, .int .i64 k, .int .i64 0]) (by simp [go_sem])) (by intro u hu; simp at hu; rcases hu with rfl | rfl | rfl <;> rfl) (by have := l1; unfold maxLen; omega) (by have := l1; omega) ?_; intro v' Z' hown' _)
                    go_meet
                    refine ⟨Z', rfl, ?_⟩
                    rw [HL.out, cells3_snoc, List.length_append]
                    exact hown'
                  · have HL : Hid (L2 k = []) := by show _ = _; simp [L2, h5]
                    have b5 : ¬ (0 : Int) < k := by omega
                    clear h5
                    go_wp2
                    go_meet
                    refine ⟨_, rfl, ?_⟩
                    rw [HL.out, List.append_nil]
                    exact o1
                case rest =>
                  obtain ⟨Z2, rfl, o2⟩ := hcut
                  have l2 : (L1 x y ++ L2 k).length ≤ 2 := by have : (L2 k).length ≤ 1 := by { unfold L2; split <;> simp }; rw [List.length_append]; omega
                  clear o1
                  go_upto_if 104 with fail
                  go_cut [14] (fun v wx => ∃ Z', wx = ((((w.grow X).grow Y).grow Z).grow U).grow Z' ∧ (((((w.grow X).grow Y).grow Z).grow U).grow Z').ownsRow ((((w.grow X).grow Y).grow Z).grow U).heap.size 58 3 v (L1 x y ++ L2 k ++ L3 n).length (cells3 (L1 x y ++ L2 k ++ L3 n)))
                  case first =>
                    by_cases h5 : 1 < n
                    · have HL : Hid (L3 n = [⟨3, n, 0⟩]) := by show _ = _; simp [L3, h5]
                      have b5 : (1 : Int) < n := by omega
                      clear h5
                      go_wp2_with (at_builtin; refine append_grow rfl _ _ 29 rfl steps_row ((((w.grow X).grow Y).grow Z).grow U) rfl (o2.alloc _) (by repeat (first | with_reducible exact Below.refl _ _ | (with_reducible refine Below.alloc ?_ (by first | omega | (simp [go_sem] <;> omega)) _) | (with_reducible refine Below.drew ?_) | (with_reducible refine Below.drewN ?_ _) | (with_reducible refine Below.grow ?_ (by first | omega | (simp [go_sem] <;> omega)) _) | (with_reducible refine Below.setCell ?_ (by first | omega | (simp [go_sem] <;> omega)) _))) ⟨_, 0, none⟩ 1 1 [.int .i64 3, .int .i64 n, .int .i64 0] rfl rfl (new_cells (c := #[.int .i64 3, .int .i64 n, .int .i64 0]) (by simp [go_sem])) (by intro u hu; simp at hu; rcases hu with rfl | rfl | rfl <;> rfl) (by have := l2; unfold maxLen; omega) (by have := l2; omega) ?_; intro v' Z' hown' _)
                      go_meet
                      refine ⟨Z', rfl, ?_⟩
                      rw [HL.out, cells3_snoc, List.length_append]
                      exact hown'
                    · have HL : Hid (L3 n = []) := by show _ = _; simp [L3, h5]
                      have b5 : ¬ (1 : Int) < n := by omega
                      clear h5
                      go_wp2
                      go_meet
                      refine ⟨_, rfl, ?_⟩
                      rw [HL.out, List.append_nil]
                      exact o2
                  case rest =>
                    obtain ⟨Z3, rfl, o3⟩ := hcut
                    have l3 : (L1 x y ++ L2 k ++ L3 n).length ≤ 3 := by have : (L3 n).length ≤ 1 := by { unfold L3; split <;> simp }; rw [List.length_append]; omega
                    clear o2
                    go_upto_if 110 with fail
                    go_cut [14] (fun v wx => ∃ Z', wx = ((((w.grow X).grow Y).grow Z).grow U).grow Z' ∧ (((((w.grow X).grow Y).grow Z).grow U).grow Z').ownsRow ((((w.grow X).grow Y).grow Z).grow U).heap.size 58 3 v (L1 x y ++ L2 k ++ L3 n ++ L4 f).length (cells3 (L1 x y ++ L2 k ++ L3 n ++ L4 f)))
                    case first =>
                      by_cases h5 : f = true
                      · have HL : Hid (L4 f = [⟨4, 0, 0⟩]) := by show _ = _; simp [L4, h5]
                        subst h5
                        go_wp2_with (at_builtin; refine append_grow rfl _ _ 29 rfl steps_row ((((w.grow X).grow Y).grow Z).grow U) rfl (o3.alloc _) (by repeat (first | with_reducible exact Below.refl _ _ | (with_reducible refine Below.alloc ?_ (by first | omega | (simp [go_sem] <;> omega)) _) | (with_reducible refine Below.drew ?_) | (with_reducible refine Below.drewN ?_ _) | (with_reducible refine Below.grow ?_ (by first | omega | (simp [go_sem] <;> omega)) _) | (with_reducible refine Below.setCell ?_ (by first | omega | (simp [go_sem] <;> omega)) _))) ⟨_, 0, none⟩ 1 1 [.int .i64 4, .int .i64 0, .int .i64 0] rfl rfl (new_cells (c := #[.int .i64 4, .int .i64 0, .int .i64 0]) (by simp [go_sem])) (by intro u hu; simp at hu; rcases hu with rfl | rfl | rfl <;> rfl) (by have := l3; unfold maxLen; omega) (by have := l3; omega) ?_; intro v' Z' hown' _)
                        go_meet
                        refine ⟨Z', rfl, ?_⟩
                        rw [HL.out, cells3_snoc, List.length_append]
                        exact hown'
                      · have HL : Hid (L4 f = []) := by show _ = _; simp [L4, h5]
                        have h5 : f = false := by simpa using h5
                        subst h5
                        go_wp2
                        go_meet
                        refine ⟨_, rfl, ?_⟩
                        rw [HL.out, List.append_nil]
                        exact o3
                    case rest =>
                      obtain ⟨Z4, rfl, o4⟩ := hcut
                      have l4 : (L1 x y ++ L2 k ++ L3 n ++ L4 f).length ≤ 4 := by have : (L4 f).length ≤ 1 := by { unfold L4; split <;> simp }; rw [List.length_append]; omega
                      clear o3
                      have HN : Hid (neatL ⟨f, bx, bY, x, y⟩ = L1 x y ++ L2 k ++ L3 n ++ L4 f) := by
                        show _ = _
                        unfold neatL
                        dsimp only
                        rw [HKN.out.1, HKN.out.2]
                      have o5 := Lib.hid (sl_own (by omega) o4)
                      clear o4
                      go_wp2
                      go_ret2
                      rw [HR.out.1, HR.out.2, HN.out]
                      obtain ⟨Z5, e5⟩ := grown_of (w := w) (w' := (((((w.grow X).grow Y).grow Z).grow U).grow Z4)) (by repeat (first | with_reducible exact Below.refl _ _ | (with_reducible refine Below.alloc ?_ (by first | omega | (simp [go_sem] <;> omega)) _) | (with_reducible refine Below.drew ?_) | (with_reducible refine Below.drewN ?_ _) | (with_reducible refine Below.grow ?_ (by first | omega | (simp [go_sem] <;> omega)) _) | (with_reducible refine Below.setCell ?_ (by first | omega | (simp [go_sem] <;> omega)) _)))
                      exact ⟨_, Z5, rfl, e5, o5.out⟩
end Go.Proofs.YtgcccpdadponiaaGreatDoor
namespace Go.Proofs.YtgcccpdadponiaaGreatDoor
open Go.RowKit

theorem eq_step (a b c d e f : Int) (w : World) : (Op.equalIn 10000 58 (.agg #[.int .i64 a, .int .i64 b, .int .i64 c]) (.agg #[.int .i64 d, .int .i64 e, .int .i64 f])).run Tryz.prog w = .ok (a == d && (b == e && c == f)) w := by
  have h2 : Tryz.prog.underlying 58 = some (.struct (Tryz.prog.fieldsOf 58)) := by kernel_rfl
  have h3 : Tryz.prog.stoodInHeld 58 = false := by kernel_rfl
  rw [run_equalIn_agg _ _ _ _ _ h2 h3]
  simp only [Program.fieldsOf, Tryz.underlying58]
  by_cases h1 : a = d <;> by_cases h4 : b = e <;> by_cases h5 : c = f <;> simp [go_sem, Tryz.underlying3, h1, h4, h5]
@[go_sem high] theorem neq_step (a b c d e f : Int) (w : World) : (binOp .neq 58 (.agg #[.int .i64 a, .int .i64 b, .int .i64 c]) (.agg #[.int .i64 d, .int .i64 e, .int .i64 f])).run Tryz.prog w = .ok (.bool (!(a == d && (b == e && c == f)))) w := by
  rw [run_neq_struct, eq_step]; rfl
@[go_sem] theorem guard_step : Tryz.prog.eqGuardType Tryz.prog.depth 58 = false := by kernel_rfl
theorem st_beq (s t : St) : (s.k == t.k && (s.x == t.x && s.y == t.y)) = decide (s = t) := by
  obtain ⟨a, b, c⟩ := s
  obtain ⟨d, e, f⟩ := t
  by_cases h1 : a = d <;> by_cases h4 : b = e <;> by_cases h5 : c = f <;> simp [h1, h4, h5]

theorem take_more {l m : List St} {k : Nat} (h1 : k < l.length) (h2 : k < m.length) (h : l.take k = m.take k) (he : l[k] = m[k]) : l.take (k + 1) = m.take (k + 1) := by
  rw [List.take_succ_eq_append_getElem h1, List.take_succ_eq_append_getElem h2, h, he]

set_option maxHeartbeats 1000000 in
theorem tsame_any (v u : Value) (l m : List St) (w : World) (h : Sl w v l) (hu : Sl w u m) : Calls Tryz.prog 18 #[v, u] w (Ret (.bool (decide (l = m))) w) := by
  obtain ⟨a, cap, rfl, hl, hc⟩ := h
  obtain ⟨b, cap', rfl, hm, hd⟩ := hu
  by_cases hlen : l.length = m.length
  · have HL := Lib.hid hlen
    rw [hlen]
    rw [hlen] at hl
    clear hlen
    go_enter Tryz.func18, Tryz.ntmps18
    go_wp2_with fail
    go_loopw [5] (fun i wr => ∃ k : Nat, k ≤ m.length ∧ i = .int .i64 k ∧ (∃ X, wr = w.grow X) ∧ Hid (l.take k = m.take k)) (fun i _ => m.length - (intOf i).toNat)
    case atStart => exact ⟨0, by omega, rfl, ⟨_, (grow_refl w).symm⟩, by show _ = _; simp⟩
    case round =>
      obtain ⟨k, hk, rfl, ⟨X, rfl⟩, HK⟩ := hrel
      by_cases hlt : k < m.length
      · have hlt' : k < l.length := by rw [HL.out]; exact hlt
        rcases hc with rfl | ⟨b1, off1, rfl, hb, hc⟩
        · exact absurd hlt' (by simp)
        rcases hd with rfl | ⟨b2, off2, rfl, hb', hd⟩
        · exact absurd hlt (by simp)
        obtain ⟨c0, c1, c2⟩ := hc k (l[k]) (List.getElem?_eq_getElem hlt')
        obtain ⟨d0, d1, d2⟩ := hd k (m[k]) (List.getElem?_eq_getElem hlt)
        clear hc hd
        have HB := Lib.hid (st_beq l[k] m[k])
        cases he : (l[k].k == m[k].k && (l[k].x == m[k].x && l[k].y == m[k].y))
        · have HE : Hid (decide (l = m) = false) := by
            show _ = _
            rw [HB.out, decide_eq_false_iff_not] at he
            rw [decide_eq_false_iff_not]
            intro h; subst h; exact he rfl
          go_wp2_with fail
          refine wp_region_grow (by kernel_rfl) (by kernel_rfl) ?_
          repeat (go_big_quiet_step (fail))
          refine wpQuiet_nil ?_
          intro _ hw'; obtain ⟨nq, hw''⟩ := hw'; subst hw''
          go_wp2
          go_ret
          exact Ret.of (by rw [HE.out]; rfl) (by repeat (first | with_reducible exact Below.refl _ _ | (with_reducible refine Below.alloc ?_ (by first | omega | (simp [go_sem] <;> omega)) _) | (with_reducible refine Below.drew ?_) | (with_reducible refine Below.drewN ?_ _) | (with_reducible refine Below.grow ?_ (by first | omega | (simp [go_sem] <;> omega)) _) | (with_reducible refine Below.setCell ?_ (by first | omega | (simp [go_sem] <;> omega)) _)))
        · have HE : Hid (l[k] = m[k]) := by
            show l[k] = m[k]
            have h2 := he
            rw [HB.out] at h2
            exact of_decide_eq_true h2
          go_wp2_with fail
          refine wp_region_grow (by kernel_rfl) (by kernel_rfl) ?_
          repeat (go_big_quiet_step (fail))
          refine wpQuiet_nil ?_
          intro _ hw'; obtain ⟨nq, hw''⟩ := hw'; subst hw''
          go_wp2
          go_roundw
          case rel => exact ⟨k + 1, by omega, by go_num, grow_of_below (by repeat (first | with_reducible exact Below.refl _ _ | (with_reducible refine Below.alloc ?_ (by first | omega | (simp [go_sem] <;> omega)) _) | (with_reducible refine Below.drew ?_) | (with_reducible refine Below.drewN ?_ _) | (with_reducible refine Below.grow ?_ (by first | omega | (simp [go_sem] <;> omega)) _) | (with_reducible refine Below.setCell ?_ (by first | omega | (simp [go_sem] <;> omega)) _))), take_more hlt' hlt HK.out HE.out⟩
          case measure => simp [intOf]; omega
      · have : k = m.length := by omega
        subst this
        have HE : Hid (decide (l = m) = true) := by
          show _ = _
          have := HK.out
          rw [List.take_length, ← HL.out, List.take_length] at this
          exact decide_eq_true this
        go_wp2
        go_ret
        exact Ret.of (by rw [HE.out]; rfl) (by repeat (first | with_reducible exact Below.refl _ _ | (with_reducible refine Below.alloc ?_ (by first | omega | (simp [go_sem] <;> omega)) _) | (with_reducible refine Below.drew ?_) | (with_reducible refine Below.drewN ?_ _) | (with_reducible refine Below.grow ?_ (by first | omega | (simp [go_sem] <;> omega)) _) | (with_reducible refine Below.setCell ?_ (by first | omega | (simp [go_sem] <;> omega)) _)))
  · have HE : Hid (decide (l = m) = false) := decide_eq_false (fun h => hlen (by rw [h]))
    have hb : ((l.length : Int) != m.length) = true := by simp; omega
    clear hlen
    go_enter Tryz.func18, Tryz.ntmps18
    go_wp2
    go_ret
    exact Ret.of (by rw [HE.out]; rfl) (by repeat (first | with_reducible exact Below.refl _ _ | (with_reducible refine Below.alloc ?_ (by first | omega | (simp [go_sem] <;> omega)) _) | (with_reducible refine Below.drew ?_) | (with_reducible refine Below.drewN ?_ _) | (with_reducible refine Below.grow ?_ (by first | omega | (simp [go_sem] <;> omega)) _) | (with_reducible refine Below.setCell ?_ (by first | omega | (simp [go_sem] <;> omega)) _)))

theorem sl_new {W : World} {n : Nat} (l : List St) (c : Array Value) (t : TypeId) (hn : n = W.heap.size) (hc : c.toList = cells3 l) (hl : l.length ≤ 9223372036854775807) (cap : Nat) : Sl (W.alloc (.cells c t)) (.slice (some ⟨n, 0, none⟩) l.length cap) l := by
  refine ⟨_, cap, rfl, hl, Or.inr ⟨n, 0, rfl, by subst hn; simp, fun i s hs => ?_⟩⟩
  subst hn
  obtain ⟨h1, h2, h3⟩ := cells3_get l i s hs
  rw [← hc] at h1 h2 h3
  simp only [Nat.zero_add]
  simp only [World.cell?_alloc_new]
  simp only [Array.getElem?_toList] at h1 h2 h3
  exact ⟨h1, h2, h3⟩

theorem neat_awake : neatE [⟨2, 5, 0⟩] = 0 ∧ neatOf [⟨2, 5, 0⟩] = [⟨2, 1, 0⟩] := by constructor <;> rfl

theorem RetL.abs {l : List St} {er : Int} {w w' : World} {e : Ending} (h : RetL l er w e w') : ∃ v, e = .returned (.tuple #[v, .int .i64 er]) ∧ Below w.heap.size w w' ∧ Sl w' v l := by
  obtain ⟨v, X, h1, rfl, h2⟩ := h
  exact ⟨v, h1, below_grow w X, h2⟩

end Go.Proofs.YtgcccpdadponiaaGreatDoor
namespace Go.Proofs.YtgcccpdadponiaaGreatDoor

theorem sl_alloc {w : World} {v : Value} {l : List St} (h : Sl w v l) (o : Obj) : Sl (w.alloc o) v l := by
  rw [alloc_grow]; exact h.grow _

theorem fold_app (A B : List St) (m : Mo) : (A ++ B).foldl (fun m s => behind m (stepM s)) m = B.foldl (fun m s => behind m (stepM s)) (A.foldl (fun m s => behind m (stepM s)) m) := List.foldl_append

theorem quart_nat (k : Nat) (h : k ≤ 3) : quart (k : Int) = k := by unfold quart; omega

theorem kq_rot (bx bY : Int) (h : (bx = 0 ∨ bY = 0) ∧ (bx ≠ 0 ∨ bY ≠ 0)) : (rot (kq bx bY) (1, 0)).1 * ((bx.natAbs + bY.natAbs : Nat) : Int) = bx ∧ (rot (kq bx bY) (1, 0)).2 * ((bx.natAbs + bY.natAbs : Nat) : Int) = bY := by
  unfold kq
  by_cases h0 : bY = 0
  · rw [if_pos h0]
    by_cases h1 : 0 ≤ bx
    · rw [if_pos h1]; simp [rot]; omega
    · rw [if_neg h1]; simp [rot]; omega
  · rw [if_neg h0]
    by_cases h1 : 0 < bY
    · rw [if_pos h1]; simp [rot]; omega
    · rw [if_neg h1]; simp [rot]; omega

theorem neat_same (m : Mo) (hax : Ax m) (hk : kq m.bx m.bY ≤ 3) : allM (neatL m) = m := by
  obtain ⟨f, bx, bY, x, y⟩ := m
  obtain ⟨r1, r2⟩ := kq_rot bx bY hax
  unfold neatL allM
  dsimp only at *
  have hn : 1 ≤ bx.natAbs + bY.natAbs := by rcases hax.2 with h | h <;> (simp only at h; omega)
  generalize kq bx bY = k at *
  generalize bx.natAbs + bY.natAbs = n at *
  rw [fold_app, fold_app, fold_app]
  have e1 : (L1 x y).foldl (fun m s => behind m (stepM s)) Mo.one = ⟨false, 1, 0, x, y⟩ := by
    unfold L1
    split
    · simp [behind, stepM, Mo.one, Mo.to]
    · rename_i h
      have h1 : x = 0 := by omega
      have h2 : y = 0 := by omega
      subst h1; subst h2; rfl
  have e2 : (L2 k).foldl (fun m s => behind m (stepM s)) ⟨false, 1, 0, x, y⟩ = ⟨false, (rot k (1, 0)).1, (rot k (1, 0)).2, x, y⟩ := by
    unfold L2
    split
    · simp [behind, stepM, Mo.one, Mo.to, quart_nat k hk]
    · have : k = 0 := by omega
      subst this; rfl
  have e3 : (L3 n).foldl (fun m s => behind m (stepM s)) ⟨false, (rot k (1, 0)).1, (rot k (1, 0)).2, x, y⟩ = ⟨false, bx, bY, x, y⟩ := by
    unfold L3
    split
    · simp [behind, stepM, Mo.one, Mo.to, r1, r2]
    · have : n = 1 := by omega
      subst this
      simp at r1 r2
      rw [r1, r2]; rfl
  rw [e1, e2, e3]
  unfold L4
  cases f
  · simp
  · simp [behind, stepM, Mo.one, Mo.to]

theorem neatE_zero {l : List St} (h : neatE l = 0) : rightB l = true ∧ nearB (allM l).mx 4096 = true ∧ nearB (allM l).my 4096 = true ∧ (allM l).bx.natAbs + (allM l).bY.natAbs ≤ 8 := by
  unfold neatE at h
  cases h1 : rightB l
  · simp [h1] at h
  · rw [if_neg (by simp [h1])] at h
    split at h
    · rename_i h2
      simp only [Bool.and_eq_true, decide_eq_true_eq] at h2
      exact ⟨rfl, h2.1.1, h2.1.2, h2.2⟩
    · omega

theorem kq_le (x y : Int) : kq x y ≤ 3 := by unfold kq; split <;> split <;> omega

theorem allM_ax {l : List St} (h : rightB l = true) : Ax (allM l) := by
  have := (all_bd l h l.length).2
  rwa [List.take_length] at this

theorem neat_right (m : Mo) (hx : nearB m.mx 4096 = true) (hy : nearB m.my 4096 = true) (hn : m.bx.natAbs + m.bY.natAbs ≤ 8) : rightB (neatL m) = true ∧ (neatL m).length ≤ 4 := by
  have hk := kq_le m.bx m.bY
  unfold neatL
  generalize kq m.bx m.bY = k at *
  generalize m.bx.natAbs + m.bY.natAbs = n at *
  have a1 : (L1 m.mx m.my).all mayB = true ∧ (L1 m.mx m.my).length ≤ 1 := by unfold L1; split <;> simp [mayB, hx, hy]
  have a2 : (L2 k).all mayB = true ∧ (L2 k).length ≤ 1 := by
    unfold L2; split
    · simp [mayB, nearB]; omega
    · simp
  have a3 : (L3 n).all mayB = true ∧ (L3 n).length ≤ 1 := by
    unfold L3; split
    · simp [mayB]; omega
    · simp
  have a4 : (L4 m.flip).all mayB = true ∧ (L4 m.flip).length ≤ 1 := by unfold L4; split <;> simp [mayB]
  constructor
  · unfold rightB
    simp only [List.all_append, a1.1, a2.1, a3.1, a4.1, Bool.and_true, Bool.true_and, List.length_append, decide_eq_true_eq]
    omega
  · simp only [List.length_append]; omega

theorem neat_law (l : List St) (h : neatE l = 0) : rightB (neatOf l) = true ∧ allM (neatOf l) = allM l ∧ neatE (neatOf l) = 0 ∧ neatOf (neatOf l) = neatOf l ∧ (neatOf l).length ≤ 4 := by
  obtain ⟨h1, h2, h3, h4⟩ := neatE_zero h
  have e : neatOf l = neatL (allM l) := by unfold neatOf; rw [if_pos h]
  have hs := neat_same (allM l) (allM_ax h1) (kq_le _ _)
  obtain ⟨r1, r2⟩ := neat_right (allM l) h2 h3 h4
  rw [e]
  have z : neatE (neatL (allM l)) = 0 := by
    unfold neatE
    rw [if_neg (by rw [r1]; simp), hs, h2, h3, decide_eq_true h4]; rfl
  refine ⟨r1, hs, z, ?_, r2⟩
  unfold neatOf; rw [if_pos z, hs]

theorem runV_neat (l : List St) (h : neatE l = 0) (x y : Int) : runV (neatOf l) x y = runV l x y := by
  obtain ⟨r1, hs, _⟩ := neat_law l h
  obtain ⟨h1, _⟩ := neatE_zero h
  unfold runV
  rw [r1, h1, ← all_to _ r1, ← all_to _ h1, hs]

theorem neat_alike (l m : List St) (hl : neatE l = 0) (hm : neatE m = 0) : neatOf l = neatOf m ↔ (allR l (0, 0) = allR m (0, 0) ∧ allR l (1, 0) = allR m (1, 0) ∧ allR l (0, 1) = allR m (0, 1)) := by
  obtain ⟨h1, _⟩ := neatE_zero hl
  obtain ⟨h2, _⟩ := neatE_zero hm
  obtain ⟨_, s1, _⟩ := neat_law l hl
  obtain ⟨_, s2, _⟩ := neat_law m hm
  constructor
  · intro h
    have : allM l = allM m := by rw [← s1, ← s2, h]
    rw [← all_to l h1, ← all_to l h1, ← all_to l h1, ← all_to m h2, ← all_to m h2, ← all_to m h2, this]
    exact ⟨rfl, rfl, rfl⟩
  · rintro ⟨e0, e1, e2⟩
    obtain ⟨a0, a1, a2⟩ := three l h1
    obtain ⟨b0, b1, b2⟩ := three m h2
    have ax := (allM_ax h1).2
    rw [a0, b0] at e0
    rw [a1, b1] at e1
    rw [a2, b2] at e2
    have : allM l = allM m := by
      generalize allM l = p at *
      generalize allM m = q at *
      obtain ⟨f, a, b, c, d⟩ := p
      obtain ⟨f', a', b', c', d'⟩ := q
      simp only [Prod.mk.injEq] at e0 e1 e2 ax
      obtain ⟨rfl, rfl⟩ := e0
      have ea : a = a' := by omega
      have eb : b = b' := by omega
      subst ea; subst eb
      cases f <;> cases f' <;> simp at e2 ⊢ <;> omega
    unfold neatOf
    rw [if_pos hl, if_pos hm, this]
end Go.Proofs.YtgcccpdadponiaaGreatDoor
namespace Go.Proofs.YtgcccpdadponiaaGreatDoor
open Go.ChangeShapes Go.WideShapes Go.Deep
instance : Inhabited St := ⟨⟨0, 0, 0⟩⟩

section
variable {H : Type} {enc : TypeId × Value → H} {w : World} {base : Nat} {spare : Nat → Bool} {held : Bool}

theorem step_fields : ∃ f0 f1 f2 : Field, Tryz.prog.underlying 58 = some (.struct #[f0, f1, f2]) ∧ f0.type = 3 ∧ f1.type = 3 ∧ f2.type = 3 ∧ oneCellFields Tryz.prog #[f0, f1, f2] = true :=
  ⟨_, _, _, Tryz.underlying58, rfl, rfl, rfl, by kernel_rfl⟩

theorem sl_open {fuel : Nat} {a : Option Addr} {len cap : Nat} {x : DataW H × List MemPlace}
    (h : DataW.trod enc Tryz.prog w base spare held fuel 29 [.slice a len cap] = some x) : ∃ l : List St, l.length = len ∧ Sl w (.slice a len cap) l := by
  rcases open_slice Tryz.underlying29 h with ⟨hcs, _⟩ | ⟨ad, len', cap', m, n, D, Pl, hcs, hb, hl, hm, hmm, hx, hi⟩
  · simp at hcs
    obtain ⟨rfl, rfl, rfl⟩ := hcs
    exact ⟨[], rfl, none, 0, rfl, by simp, Or.inl rfl⟩
  · simp at hcs
    obtain ⟨rfl, rfl, rfl⟩ := hcs
    obtain ⟨f0, f1, f2, hs, t0, t1, t2, hone⟩ := step_fields
    have hlen : len ≤ 9223372036854775807 := by unfold maxLen at hm; omega
    have hC : Tryz.prog.cellsOf 58 = 3 := by kernel_rfl
    have hml : len ≤ m := by rw [hmm]; split <;> omega
    have key : ∀ i, i < m → ∃ s : St, w.cell? (ad.add (i * 3)) = some (.int .i64 s.k) ∧ w.cell? (ad.add (i * 3 + 1)) = some (.int .i64 s.x) ∧ w.cell? (ad.add (i * 3 + 2)) = some (.int .i64 s.y) := by
      intro i him
      obtain ⟨cs', hc, ht'⟩ := hi i him
      rw [hC] at hc
      obtain ⟨ys, n', hn', hy, hlen', hyl, hf⟩ := DataW.trod_struct hs ht'
      obtain ⟨_, hcl, hat⟩ := World.cells?_some hc
      have cell : ∀ (j : Nat) (f : Field), #[f0, f1, f2][j]? = some f → f.type = 3 → ∃ k : Int, w.cell? (ad.add (i * 3 + j)) = some (.int .i64 k) := by
        intro j f hj ht
        obtain ⟨ho, hk⟩ := hone_of hone j f hj
        have hjl : j < 3 := (Array.getElem?_eq_some_iff.1 hj).1
        have hcell := hat j hjl
        have hv : cs'[j]? = some (cs'[j]'(by omega)) := List.getElem?_eq_getElem (by omega)
        have h1 := hf j f hj
        rw [ho, hk] at h1
        have hone' : (cs'.drop j).take 1 = [cs'[j]'(by omega)] := by
          rw [List.drop_eq_getElem_cons (by omega)]
          rfl
        rw [hone', ht] at h1
        have hys : ys[j]? = some (ys[j]'(by rw [hyl]; exact hjl)) := List.getElem?_eq_getElem (by rw [hyl]; exact hjl)
        rw [hys] at h1
        obtain ⟨q, e1, _⟩ := DataW.trod_int Tryz.underlying3 h1
        simp at e1
        refine ⟨q, ?_⟩
        rw [← Go.Deep.add_add, hcell, hv, e1]
      obtain ⟨k, hk⟩ := cell 0 f0 rfl t0
      obtain ⟨x, hx⟩ := cell 1 f1 rfl t1
      obtain ⟨y, hy⟩ := cell 2 f2 rfl t2
      exact ⟨⟨k, x, y⟩, hk, hx, hy⟩
    by_cases h0 : len = 0
    · subst h0
      exact ⟨[], rfl, some ad, cap, rfl, by simp, Or.inl rfl⟩
    · obtain ⟨g, hg⟩ := choose_lt (n := m) (p := fun i (s : St) => w.cell? (ad.add (i * 3)) = some (.int .i64 s.k) ∧ w.cell? (ad.add (i * 3 + 1)) = some (.int .i64 s.x) ∧ w.cell? (ad.add (i * 3 + 2)) = some (.int .i64 s.y)) key
      obtain ⟨b, off, spot⟩ := ad
      have hspot : spot = none := by simpa [Addr.add] using World.cell?_spot (hg 0 (by omega)).1
      subst hspot
      have hadd : ∀ j, (⟨b, off, none⟩ : Addr).add j = ⟨b, off + j, none⟩ := fun j => by unfold Addr.add; split <;> simp_all
      refine ⟨(List.range len).map g, by simp, some ⟨b, off, none⟩, cap, by simp, by simpa using hlen, Or.inr ⟨b, off, rfl, ?_, fun i s hs => ?_⟩⟩
      · exact World.block_lt_of_cell? w _ (hg 0 (by omega)).1
      · have hlt : i < len := by
          have := (List.getElem?_eq_some_iff.1 hs).1
          simpa using this
        have e : ((List.range len).map g)[i]? = some (g i) := by rw [List.getElem?_map, List.getElem?_range hlt]; rfl
        rw [e] at hs
        cases hs
        have := hg i (by omega)
        rw [hadd, hadd, hadd] at this
        exact this
end
end Go.Proofs.YtgcccpdadponiaaGreatDoor
