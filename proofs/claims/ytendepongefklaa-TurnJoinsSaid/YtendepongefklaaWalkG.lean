/- The walks of the turns: what is neat. -/
import Derived.Deep.DeepCutAuto
import Derived.Test.YtendepongefklaaWalkF
namespace Go.Proofs.Ytendepongefklaa
open Go.RowKit

theorem steps_row : SlT Try.prog 22 35 (.agg #[.int .i64 0, .int .i64 0, .int .i64 0]) 3 24 := ⟨by kernel_rfl, by kernel_rfl, by kernel_rfl, by decide⟩
def cells3 (l : List St) : List Value := l.flatMap fun s => [.int .i64 s.k, .int .i64 s.x, .int .i64 s.y]
theorem cells3_len (l : List St) : (cells3 l).length = l.length * 3 := by
  induction l with
  | nil => rfl
  | cons s l ih => simp only [cells3, List.flatMap_cons, List.length_append, List.length_cons, List.length_nil] at *; omega
theorem cells3_get (l : List St) (i : Nat) (s : St) (h : l[i]? = some s) : (cells3 l)[i * 3]? = some (.int .i64 s.k) ∧ (cells3 l)[i * 3 + 1]? = some (.int .i64 s.x) ∧ (cells3 l)[i * 3 + 2]? = some (.int .i64 s.y) := by
  induction l generalizing i with
  | nil => simp at h
  | cons t l ih =>
    cases i with
    | zero => simp at h; subst h; simp [cells3]
    | succ i =>
      have := ih i (by simpa using h)
      have e : cells3 (t :: l) = .int .i64 t.k :: .int .i64 t.x :: .int .i64 t.y :: cells3 l := rfl
      rw [e, show (i + 1) * 3 = i * 3 + 1 + 1 + 1 by omega]
      simpa using this
theorem sl_own {w : World} {B : Nat} {e : TypeId} {v : Value} {l : List St} (hl : l.length ≤ 9223372036854775807) (h : w.ownsRow B e 3 v l.length (cells3 l)) : Sl w v l := by
  obtain ⟨_, a, cap, rfl, _, hc⟩ := own_cells h
  refine ⟨a, cap, rfl, hl, ?_⟩
  rcases hc with hc | ⟨b, rfl, _, hb, hc⟩
  · exact Or.inl (List.eq_nil_of_length_eq_zero hc)
  · refine Or.inr ⟨b, 0, rfl, hb, fun i s hs => ?_⟩
    obtain ⟨h1, h2, h3⟩ := cells3_get l i s hs
    simp only [Nat.zero_add]
    exact ⟨hc _ _ h1, hc _ _ h2, hc _ _ h3⟩
theorem cells3_snoc (l : List St) (s : St) : cells3 (l ++ [s]) = cells3 l ++ [.int .i64 s.k, .int .i64 s.x, .int .i64 s.y] := by simp [cells3]

/-- A result: steps, in new memory, and an error. -/
def RetL (l : List St) (er : Int) (w : World) (e : Ending) (w' : World) : Prop := ∃ v X, e = .returned (.tuple #[v, .int .i64 er]) ∧ w' = w.grow X ∧ Sl w' v l

def L1 (x y : Int) : List St := if x ≠ 0 ∨ y ≠ 0 then [⟨1, x, y⟩] else []
def L2 (k : Nat) : List St := if 0 < k then [⟨2, k, 0⟩] else []
def L3 (n : Nat) : List St := if 1 < n then [⟨3, n, 0⟩] else []
def L4 (f : Bool) : List St := if f then [⟨4, 0, 0⟩] else []
def neatL (m : Mo) : List St := L1 m.mx m.my ++ L2 (kq m.bx m.bY) ++ L3 (m.bx.natAbs + m.bY.natAbs) ++ L4 m.flip
def neatE (l : List St) : Int :=
  if rightB l = false then 1 else if nearB (allM l).mx 4096 && nearB (allM l).my 4096 && decide ((allM l).bx.natAbs + (allM l).bY.natAbs ≤ 8) then 0 else 3
def neatOf (l : List St) : List St := if neatE l = 0 then neatL (allM l) else []

set_option maxHeartbeats 4000000 in
theorem neat_any (v : Value) (l : List St) (w : World) (h : Sl w v l) : Calls Try.prog 15 #[v] w (RetL (neatOf l) (neatE l) w) := by
  have H0 := Lib.hid (right_any v l w h)
  have HA := Lib.hid (fun (hr : rightB l = true) X => Lib.hid (all_any v l (w.grow X) (h.grow X) hr))
  clear h
  cases h1 : rightB l
  · have HN : Hid (neatE l = 1 ∧ neatOf l = []) := by
      have : neatE l = 1 := by simp [neatE, h1]
      exact ⟨this, by simp [neatOf, this]⟩
    rw [HN.out.1, HN.out.2]
    go_enter Try.func15, Try.ntmps15
    go_wp2_with (go_at_call 13; refine H0.out.mono ?_; rintro e w' ⟨rfl, X, rfl⟩)
    go_ret2
    exact ⟨_, _, rfl, rfl, none, 0, rfl, by simp, Or.inl rfl⟩
  · have HA' := Lib.hid (HA.out h1)
    have hm := (all_bd l h1 l.length)
    have hi := allB_is l h1 l.length (Nat.le_refl _)
    rw [List.take_length] at hm hi
    have HN : Hid ((neatE l = if nearB (allM l).mx 4096 && nearB (allM l).my 4096 && decide ((allM l).bx.natAbs + (allM l).bY.natAbs ≤ 8) then 0 else 3) ∧ neatOf l = if neatE l = 0 then neatL (allM l) else []) := ⟨by simp [neatE, h1], rfl⟩
    clear HA
    generalize allM l = m at *
    generalize allB l = u at *
    generalize neatE l = er at *
    generalize neatOf l = L at *
    have HI1 := Lib.hid (fun W => ints_any u.m1 u.m2 m.mx m.my W hi.2.2.2.1 hi.2.2.2.2 (sm_of _ hm.1.2.2.1 (by omega)) (sm_of _ hm.1.2.2.2 (by omega)))
    have HQ := Lib.hid (fun W => quarters_any u.b1 u.b2 m.bx m.bY W hi.2.1 hi.2.2.1 hm.2.1 hm.1.1 hm.1.2.1)
    have HF : Hid (u.f = m.flip) := hi.1
    have hx1 : -137438953472 ≤ m.mx := by have := hm.1.2.2.1; omega
    have hx2 : m.mx ≤ 137438953472 := by have := hm.1.2.2.1; omega
    have hy1 : -137438953472 ≤ m.my := by have := hm.1.2.2.2; omega
    have hy2 : m.my ≤ 137438953472 := by have := hm.1.2.2.2; omega
    have hn : m.bx.natAbs + m.bY.natAbs ≤ 33554432 := by have := hm.1; unfold Bd at this; omega
    have hk : kq m.bx m.bY ≤ 3 := by unfold kq; split <;> split <;> omega
    clear hm hi
    generalize hkq : kq m.bx m.bY = k at *
    generalize hnn : m.bx.natAbs + m.bY.natAbs = n at *
    have HKN : Hid (kq m.bx m.bY = k ∧ m.bx.natAbs + m.bY.natAbs = n) := ⟨hkq, hnn⟩
    clear hkq hnn
    generalize hmx : m.mx = x at *
    generalize hmy : m.my = y at *
    have HXY : Hid (m.mx = x ∧ m.my = y) := ⟨hmx, hmy⟩
    clear hmx hmy
    obtain ⟨uf, b1, b2, m1, m2⟩ := u
    unfold MB.val at HA'
    dsimp only at *
    cases h2 : nearB x 4096 && nearB y 4096 && decide (n ≤ 8)
    · have HR : Hid (er = 3 ∧ L = []) := by
        have e0 : er = 3 := by rw [HN.out.1]; simp [h2]
        exact ⟨e0, by rw [HN.out.2, e0]; rfl⟩
      rw [HR.out.1, HR.out.2]
      clear HN HR
      cases h3 : nearB x 4096
      · clear h2
        go_enter Try.func15, Try.ntmps15
        go_wp2_with (first | (go_at_call 13; refine H0.out.mono ?_; rintro e w' ⟨rfl, X, rfl⟩) | (go_at_call 18; refine (near_any _ _ _ (by omega) (by omega)).mono ?_; rintro e w' ⟨rfl, rfl⟩) | (go_at_call 20; refine (HA'.out _).out.mono ?_; rintro e w' ⟨rfl, Y, rfl⟩) | (go_at_call 19; refine (HI1.out _).mono ?_; rintro e w' ⟨rfl, rfl⟩) | (go_at_call 26; refine (HQ.out _).mono ?_; rintro e w' ⟨rfl, rfl⟩))
        go_ret2
        obtain ⟨Z5, e5⟩ := grown_of (w := w) (w' := (((w.grow X).grow Y).alloc (.cells #[.bool uf, .complex .f64 b1 b2, .complex .f64 m1 m2] 43))) (by repeat (first | with_reducible exact Below.refl _ _ | (with_reducible refine Below.alloc ?_ (by first | omega | (simp [go_sem] <;> omega)) _) | (with_reducible refine Below.drew ?_) | (with_reducible refine Below.drewN ?_ _) | (with_reducible refine Below.grow ?_ (by first | omega | (simp [go_sem] <;> omega)) _) | (with_reducible refine Below.setCell ?_ (by first | omega | (simp [go_sem] <;> omega)) _)))
        exact ⟨_, Z5, rfl, e5, none, 0, rfl, by simp, Or.inl rfl⟩
      · cases h4 : nearB y 4096
        · clear h2
          go_enter Try.func15, Try.ntmps15
          go_wp2_with (first | (go_at_call 13; refine H0.out.mono ?_; rintro e w' ⟨rfl, X, rfl⟩) | (go_at_call 18; refine (near_any _ _ _ (by omega) (by omega)).mono ?_; rintro e w' ⟨rfl, rfl⟩) | (go_at_call 20; refine (HA'.out _).out.mono ?_; rintro e w' ⟨rfl, Y, rfl⟩) | (go_at_call 19; refine (HI1.out _).mono ?_; rintro e w' ⟨rfl, rfl⟩) | (go_at_call 26; refine (HQ.out _).mono ?_; rintro e w' ⟨rfl, rfl⟩))
          go_ret2
          obtain ⟨Z5, e5⟩ := grown_of (w := w) (w' := (((w.grow X).grow Y).alloc (.cells #[.bool uf, .complex .f64 b1 b2, .complex .f64 m1 m2] 43))) (by repeat (first | with_reducible exact Below.refl _ _ | (with_reducible refine Below.alloc ?_ (by first | omega | (simp [go_sem] <;> omega)) _) | (with_reducible refine Below.drew ?_) | (with_reducible refine Below.drewN ?_ _) | (with_reducible refine Below.grow ?_ (by first | omega | (simp [go_sem] <;> omega)) _) | (with_reducible refine Below.setCell ?_ (by first | omega | (simp [go_sem] <;> omega)) _)))
          exact ⟨_, Z5, rfl, e5, none, 0, rfl, by simp, Or.inl rfl⟩
        · have h5 : ¬ n ≤ 8 := by rw [h3, h4] at h2; simpa using h2
          clear h2
          go_enter Try.func15, Try.ntmps15
          go_wp2_with (first | (go_at_call 13; refine H0.out.mono ?_; rintro e w' ⟨rfl, X, rfl⟩) | (go_at_call 18; refine (near_any _ _ _ (by omega) (by omega)).mono ?_; rintro e w' ⟨rfl, rfl⟩) | (go_at_call 20; refine (HA'.out _).out.mono ?_; rintro e w' ⟨rfl, Y, rfl⟩) | (go_at_call 19; refine (HI1.out _).mono ?_; rintro e w' ⟨rfl, rfl⟩) | (go_at_call 26; refine (HQ.out _).mono ?_; rintro e w' ⟨rfl, rfl⟩))
          go_ret2
          obtain ⟨Z5, e5⟩ := grown_of (w := w) (w' := (((w.grow X).grow Y).alloc (.cells #[.bool uf, .complex .f64 b1 b2, .complex .f64 m1 m2] 43))) (by repeat (first | with_reducible exact Below.refl _ _ | (with_reducible refine Below.alloc ?_ (by first | omega | (simp [go_sem] <;> omega)) _) | (with_reducible refine Below.drew ?_) | (with_reducible refine Below.drewN ?_ _) | (with_reducible refine Below.grow ?_ (by first | omega | (simp [go_sem] <;> omega)) _) | (with_reducible refine Below.setCell ?_ (by first | omega | (simp [go_sem] <;> omega)) _)))
          exact ⟨_, Z5, rfl, e5, none, 0, rfl, by simp, Or.inl rfl⟩
    · simp only [Bool.and_eq_true, decide_eq_true_eq] at h2
      obtain ⟨⟨h2, h3⟩, h4⟩ := h2
      have HR : Hid (er = 0 ∧ L = neatL m) := by
        have e0 : er = 0 := by rw [HN.out.1, h2, h3, decide_eq_true h4]; rfl
        exact ⟨e0, by rw [HN.out.2, if_pos e0]⟩
      rw [HR.out.1, HR.out.2]
      clear HN HR
      go_enter Try.func15, Try.ntmps15
      go_upto_region 9 with (first | (go_at_call 13; refine H0.out.mono ?_; rintro e w' ⟨rfl, X, rfl⟩) | (go_at_call 18; refine (near_any _ _ _ (by omega) (by omega)).mono ?_; rintro e w' ⟨rfl, rfl⟩) | (go_at_call 20; refine (HA'.out _).out.mono ?_; rintro e w' ⟨rfl, Y, rfl⟩) | (go_at_call 19; refine (HI1.out _).mono ?_; rintro e w' ⟨rfl, rfl⟩) | (go_at_call 26; refine (HQ.out _).mono ?_; rintro e w' ⟨rfl, rfl⟩))
      have o0 : ((((w.grow X).grow Y).alloc (.cells #[.bool uf, .complex .f64 b1 b2, .complex .f64 m1 m2] 43))).ownsRow (((w.grow X).grow Y).alloc (.cells #[.bool uf, .complex .f64 b1 b2, .complex .f64 m1 m2] 43)).heap.size 35 3 (.slice none 0 0) ([] : List St).length (cells3 []) := World.ownsRow_nil _ _ _ _
      have l0 : ([] : List St).length ≤ 0 := by simp
      go_cut [44] (fun s44 wx => s44 = .bool (decide (x ≠ 0 ∨ y ≠ 0)) ∧ wx = (((w.grow X).grow Y).alloc (.cells #[.bool uf, .complex .f64 b1 b2, .complex .f64 m1 m2] 43)))
      case first =>
        by_cases hx0 : x = 0
        · have b1 : (x != 0) = false := by simp [hx0]
          have HX := Lib.hid hx0
          clear hx0
          go_wp2
          go_meet
          refine ⟨?_, rfl⟩
          have := HX.out
          by_cases h : y = 0 <;> simp [this, h]
        · have b1 : (x != 0) = true := by simp [hx0]
          have HX := Lib.hid hx0
          clear hx0
          go_wp2
          go_meet
          refine ⟨?_, rfl⟩
          have := HX.out
          simp [this]
      case rest =>
        obtain ⟨rfl, rfl⟩ := hcut
        go_upto_if 44 with fail
        go_cut [9] (fun v wx => ∃ Z, wx = (((w.grow X).grow Y).alloc (.cells #[.bool uf, .complex .f64 b1 b2, .complex .f64 m1 m2] 43)).grow Z ∧ ((((w.grow X).grow Y).alloc (.cells #[.bool uf, .complex .f64 b1 b2, .complex .f64 m1 m2] 43)).grow Z).ownsRow (((w.grow X).grow Y).alloc (.cells #[.bool uf, .complex .f64 b1 b2, .complex .f64 m1 m2] 43)).heap.size 35 3 v (L1 x y).length (cells3 (L1 x y)))
        case first =>
          by_cases h5 : x ≠ 0 ∨ y ≠ 0
          · have HL : Hid (L1 x y = [⟨1, x, y⟩]) := by show _ = _; simp [L1, h5]
            have b5 : decide (x ≠ 0 ∨ y ≠ 0) = true := by simp [h5]
            rw [b5]
            clear h5 b5
            go_wp2_with (at_builtin; refine append_grow rfl _ _ 22 rfl steps_row (((w.grow X).grow Y).alloc (.cells #[.bool uf, .complex .f64 b1 b2, .complex .f64 m1 m2] 43)) rfl (o0.alloc _) (by repeat (first | with_reducible exact Below.refl _ _ | (with_reducible refine Below.alloc ?_ (by first | omega | (simp [go_sem] <;> omega)) _) | (with_reducible refine Below.drew ?_) | (with_reducible refine Below.drewN ?_ _) | (with_reducible refine Below.grow ?_ (by first | omega | (simp [go_sem] <;> omega)) _) | (with_reducible refine Below.setCell ?_ (by first | omega | (simp [go_sem] <;> omega)) _))) ⟨_, 0, none⟩ 1 1 [.int .i64 1, .int .i64 x, .int .i64 y] rfl rfl (new_cells (c := #[.int .i64 1, .int .i64 x, .int .i64 y]) (by simp [go_sem])) (by intro u hu; simp at hu; rcases hu with rfl | rfl | rfl <;> rfl) (by have := l0; unfold maxLen; omega) (by have := l0; omega) ?_; intro v' Z' hown' _)
            go_meet
            refine ⟨Z', rfl, ?_⟩
            rw [HL.out]
            exact hown'
          · have HL : Hid (L1 x y = []) := by show _ = _; simp [L1, h5]
            have b5 : decide (x ≠ 0 ∨ y ≠ 0) = false := by simp [h5]
            rw [b5]
            clear h5 b5
            go_wp2
            go_meet
            refine ⟨_, (grow_refl _).symm, ?_⟩
            rw [HL.out, grow_refl]
            exact o0
        case rest =>
          obtain ⟨Z, rfl, o1⟩ := hcut
          have l1 : (L1 x y).length ≤ 1 := by unfold L1; split <;> simp
          have HO := Lib.hid o0
          clear o0
          go_upto_if 52 with fail
          go_cut [9] (fun v wx => ∃ Z, wx = (((w.grow X).grow Y).alloc (.cells #[.bool uf, .complex .f64 b1 b2, .complex .f64 m1 m2] 43)).grow Z ∧ ((((w.grow X).grow Y).alloc (.cells #[.bool uf, .complex .f64 b1 b2, .complex .f64 m1 m2] 43)).grow Z).ownsRow (((w.grow X).grow Y).alloc (.cells #[.bool uf, .complex .f64 b1 b2, .complex .f64 m1 m2] 43)).heap.size 35 3 v (L1 x y ++ L2 k).length (cells3 (L1 x y ++ L2 k)))
          case first =>
            by_cases h5 : 0 < k
            · have HL : Hid (L2 k = [⟨2, k, 0⟩]) := by show _ = _; simp [L2, h5]
              have b5 : (0 : Int) < k := by omega
              clear h5
              go_wp2_with (at_builtin; refine append_grow rfl _ _ 22 rfl steps_row (((w.grow X).grow Y).alloc (.cells #[.bool uf, .complex .f64 b1 b2, .complex .f64 m1 m2] 43)) rfl (o1.alloc _) (by repeat (first | with_reducible exact Below.refl _ _ | (with_reducible refine Below.alloc ?_ (by first | omega | (simp [go_sem] <;> omega)) _) | (with_reducible refine Below.drew ?_) | (with_reducible refine Below.drewN ?_ _) | (with_reducible refine Below.grow ?_ (by first | omega | (simp [go_sem] <;> omega)) _) | (with_reducible refine Below.setCell ?_ (by first | omega | (simp [go_sem] <;> omega)) _))) ⟨_, 0, none⟩ 1 1 [.int .i64 2, .int .i64 k, .int .i64 0] rfl rfl (new_cells (c := #[.int .i64 2, .int .i64 k, .int .i64 0]) (by simp [go_sem])) (by intro u hu; simp at hu; rcases hu with rfl | rfl | rfl <;> rfl) (by have := l1; unfold maxLen; omega) (by have := l1; omega) ?_; intro v' Z' hown' _)
              go_meet
              refine ⟨Z', rfl, ?_⟩
              rw [HL.out, cells3_snoc, List.length_append]
              exact hown'
            · have HL : Hid (L2 k = []) := by show _ = _; simp [L2, h5]
              have b5 : ¬ (0 : Int) < k := by omega
              clear h5
              go_wp2
              go_meet
              refine ⟨_, rfl, ?_⟩
              rw [HL.out, List.append_nil]
              exact o1
          case rest =>
            obtain ⟨Z2, rfl, o2⟩ := hcut
            have l2 : (L1 x y ++ L2 k).length ≤ 2 := by have : (L2 k).length ≤ 1 := by { unfold L2; split <;> simp }; rw [List.length_append]; omega
            clear o1
            go_upto_if 59 with fail
            go_cut [9] (fun v wx => ∃ Z, wx = (((w.grow X).grow Y).alloc (.cells #[.bool uf, .complex .f64 b1 b2, .complex .f64 m1 m2] 43)).grow Z ∧ ((((w.grow X).grow Y).alloc (.cells #[.bool uf, .complex .f64 b1 b2, .complex .f64 m1 m2] 43)).grow Z).ownsRow (((w.grow X).grow Y).alloc (.cells #[.bool uf, .complex .f64 b1 b2, .complex .f64 m1 m2] 43)).heap.size 35 3 v (L1 x y ++ L2 k ++ L3 n).length (cells3 (L1 x y ++ L2 k ++ L3 n)))
            case first =>
              by_cases h5 : 1 < n
              · have HL : Hid (L3 n = [⟨3, n, 0⟩]) := by show _ = _; simp [L3, h5]
                have b5 : (1 : Int) < n := by omega
                clear h5
                go_wp2_with (at_builtin; refine append_grow rfl _ _ 22 rfl steps_row (((w.grow X).grow Y).alloc (.cells #[.bool uf, .complex .f64 b1 b2, .complex .f64 m1 m2] 43)) rfl (o2.alloc _) (by repeat (first | with_reducible exact Below.refl _ _ | (with_reducible refine Below.alloc ?_ (by first | omega | (simp [go_sem] <;> omega)) _) | (with_reducible refine Below.drew ?_) | (with_reducible refine Below.drewN ?_ _) | (with_reducible refine Below.grow ?_ (by first | omega | (simp [go_sem] <;> omega)) _) | (with_reducible refine Below.setCell ?_ (by first | omega | (simp [go_sem] <;> omega)) _))) ⟨_, 0, none⟩ 1 1 [.int .i64 3, .int .i64 n, .int .i64 0] rfl rfl (new_cells (c := #[.int .i64 3, .int .i64 n, .int .i64 0]) (by simp [go_sem])) (by intro u hu; simp at hu; rcases hu with rfl | rfl | rfl <;> rfl) (by have := l2; unfold maxLen; omega) (by have := l2; omega) ?_; intro v' Z' hown' _)
                go_meet
                refine ⟨Z', rfl, ?_⟩
                rw [HL.out, cells3_snoc, List.length_append]
                exact hown'
              · have HL : Hid (L3 n = []) := by show _ = _; simp [L3, h5]
                have b5 : ¬ (1 : Int) < n := by omega
                clear h5
                go_wp2
                go_meet
                refine ⟨_, rfl, ?_⟩
                rw [HL.out, List.append_nil]
                exact o2
            case rest =>
              obtain ⟨Z3, rfl, o3⟩ := hcut
              have l3 : (L1 x y ++ L2 k ++ L3 n).length ≤ 3 := by have : (L3 n).length ≤ 1 := by { unfold L3; split <;> simp }; rw [List.length_append]; omega
              clear o2
              go_upto_if 66 with fail
              go_cut [9] (fun v wx => ∃ Z, wx = (((w.grow X).grow Y).alloc (.cells #[.bool uf, .complex .f64 b1 b2, .complex .f64 m1 m2] 43)).grow Z ∧ ((((w.grow X).grow Y).alloc (.cells #[.bool uf, .complex .f64 b1 b2, .complex .f64 m1 m2] 43)).grow Z).ownsRow (((w.grow X).grow Y).alloc (.cells #[.bool uf, .complex .f64 b1 b2, .complex .f64 m1 m2] 43)).heap.size 35 3 v (L1 x y ++ L2 k ++ L3 n ++ L4 uf).length (cells3 (L1 x y ++ L2 k ++ L3 n ++ L4 uf)))
              case first =>
                by_cases h5 : uf = true
                · have HL : Hid (L4 uf = [⟨4, 0, 0⟩]) := by show _ = _; simp [L4, h5]
                  subst h5
                  go_wp2_with (at_builtin; refine append_grow rfl _ _ 22 rfl steps_row (((w.grow X).grow Y).alloc (.cells #[.bool true, .complex .f64 b1 b2, .complex .f64 m1 m2] 43)) rfl (o3.alloc _) (by repeat (first | with_reducible exact Below.refl _ _ | (with_reducible refine Below.alloc ?_ (by first | omega | (simp [go_sem] <;> omega)) _) | (with_reducible refine Below.drew ?_) | (with_reducible refine Below.drewN ?_ _) | (with_reducible refine Below.grow ?_ (by first | omega | (simp [go_sem] <;> omega)) _) | (with_reducible refine Below.setCell ?_ (by first | omega | (simp [go_sem] <;> omega)) _))) ⟨_, 0, none⟩ 1 1 [.int .i64 4, .int .i64 0, .int .i64 0] rfl rfl (new_cells (c := #[.int .i64 4, .int .i64 0, .int .i64 0]) (by simp [go_sem])) (by intro u hu; simp at hu; rcases hu with rfl | rfl | rfl <;> rfl) (by have := l3; unfold maxLen; omega) (by have := l3; omega) ?_; intro v' Z' hown' _)
                  go_meet
                  refine ⟨Z', rfl, ?_⟩
                  rw [HL.out, cells3_snoc, List.length_append]
                  exact hown'
                · have HL : Hid (L4 uf = []) := by show _ = _; simp [L4, h5]
                  have h5 : uf = false := by simpa using h5
                  subst h5
                  go_wp2
                  go_meet
                  refine ⟨_, rfl, ?_⟩
                  rw [HL.out, List.append_nil]
                  exact o3
              case rest =>
                obtain ⟨Z4, rfl, o4⟩ := hcut
                have l4 : (L1 x y ++ L2 k ++ L3 n ++ L4 uf).length ≤ 4 := by have : (L4 uf).length ≤ 1 := by { unfold L4; split <;> simp }; rw [List.length_append]; omega
                clear o3
                have HN : Hid (neatL m = L1 x y ++ L2 k ++ L3 n ++ L4 uf) := by
                  show _ = _
                  unfold neatL
                  rw [HKN.out.1, HKN.out.2, HXY.out.1, HXY.out.2, HF.out]
                have o5 := Lib.hid (sl_own (by omega) o4)
                clear o4
                go_wp2
                go_ret2
                rw [HN.out]
                obtain ⟨Z5, e5⟩ := grown_of (w := w) (w' := ((((w.grow X).grow Y).alloc (.cells #[.bool uf, .complex .f64 b1 b2, .complex .f64 m1 m2] 43)).grow Z4)) (by repeat (first | with_reducible exact Below.refl _ _ | (with_reducible refine Below.alloc ?_ (by first | omega | (simp [go_sem] <;> omega)) _) | (with_reducible refine Below.drew ?_) | (with_reducible refine Below.drewN ?_ _) | (with_reducible refine Below.grow ?_ (by first | omega | (simp [go_sem] <;> omega)) _) | (with_reducible refine Below.setCell ?_ (by first | omega | (simp [go_sem] <;> omega)) _)))
                exact ⟨_, Z5, rfl, e5, o5.out⟩
end Go.Proofs.Ytendepongefklaa
