/- The walks of the small functions of the turns. -/
import Derived.Test.YtendepongefklaaProg
import Derived.Test.YtendepongefklaaKit
import Derived.Test.YtendepongefklaaFlo
import Derived.Test.YtendepongefklaaPlain
namespace Go.Proofs.Ytendepongefklaa
open Go.RowKit

theorem ret_bool {a b : Bool} (h : a = b) : Ending.returned (.bool a) = .returned (.bool b) := by rw [h]
set_option maxHeartbeats 400000 in
theorem near_any (n far : Int) (w : World) (h0 : 0 ≤ far) (h1 : far ≤ 100000) :
    Calls Try.prog 18 #[.int .i64 n, .int .i64 far] w fun e w' => e = .returned (.bool (nearB n far)) ∧ w = w' := by
  go_enter Try.func18, Try.ntmps18
  go_wp2
  all_goals go_ret
  all_goals exact ⟨ret_bool (by unfold nearB; simp <;> omega), rfl⟩
set_option maxHeartbeats 400000 in
theorem rnear_any (n : Int) (w : World) :
    Calls Try.prog 23 #[.int .i64 n] w fun e w' => e = .returned (.bool (nearB n 4096)) ∧ w = w' := by
  go_enter Try.func23, Try.ntmps23
  go_wp2
  all_goals go_ret
  all_goals exact ⟨ret_bool (by unfold nearB; simp <;> omega), rfl⟩

@[go_sem] theorem run_store_complex {P : Program} {w : World} {a : Addr} {md : Mode} (k : FloatKind) (r s : Nat) : (store a (.complex k r s) md).run P w = stored P w a (.complex k r s) md := run_store P w a _ md rfl
@[go_sem] theorem run_negf {P : Program} (b : Nat) (w : World) : (Op.unary .neg (.float .f64 b)).run P w = .ok (.float .f64 (Op.negFloat .f64 b)) w := rfl

set_option maxHeartbeats 400000 in
theorem of_any (x y : Int) (w : World) :
    Calls Try.prog 22 #[.int .i64 x, .int .i64 y] w fun e w' => e = .returned (.complex .f64 (floatOfInt .f64 x) (floatOfInt .f64 y)) ∧ w = w' := by
  go_enter Try.func22, Try.ntmps22
  go_wp2
  go_ret
  exact ⟨rfl, rfl⟩

set_option maxHeartbeats 400000 in
theorem ints_any (r s : Nat) (x y : Int) (w : World) (hr : F r x) (hs : F s y) (hx : Sm x) (hy : Sm y) :
    Calls Try.prog 19 #[.complex .f64 r s] w fun e w' => e = .returned (.tuple #[.int .i64 x, .int .i64 y]) ∧ w = w' := by
  have e1 := fun w : World => run_convert_float_int (P := Try.prog) w 50 3 .f64 .i64 r x (by kernel_rfl) (by kernel_rfl) (F_toInt hr hx)
  have e2 := fun w : World => run_convert_float_int (P := Try.prog) w 50 3 .f64 .i64 s y (by kernel_rfl) (by kernel_rfl) (F_toInt hs hy)
  go_enter Try.func19, Try.ntmps19
  go_wp2
  go_ret2
  exact ⟨rfl, rfl⟩

set_option maxHeartbeats 400000 in
theorem flipped_any (r s : Nat) (w : World) :
    Calls Try.prog 29 #[.complex .f64 r s] w fun e w' => e = .returned (.complex .f64 r (Op.negFloat .f64 s)) ∧ w = w' := by
  go_enter Try.func29, Try.ntmps29
  go_wp2
  go_ret
  exact ⟨rfl, rfl⟩

/-- A motion's bits. -/
structure MB where
  f : Bool
  b1 : Nat
  b2 : Nat
  m1 : Nat
  m2 : Nat
def MB.val (m : MB) : Value := .agg #[.bool m.f, .complex .f64 m.b1 m.b2, .complex .f64 m.m1 m.m2]
/-- They stand for a motion. -/
def MB.is (u : MB) (m : Mo) : Prop := u.f = m.flip ∧ F u.b1 m.bx ∧ F u.b2 m.bY ∧ F u.m1 m.mx ∧ F u.m2 m.my
def cmul (a b c d : Nat) : Nat × Nat := (cMulBits a b c d).getD (0, 0)
def cadd (a b c d : Nat) : Nat × Nat := (cSumBits .add .f64 a b c d).getD (0, 0)
theorem cmul_run {P : Program} {a b c d : Nat} (t : TypeId) (h : (cMulBits a b c d).isSome = true) (w : World) : (binOp .mul t (.complex .f64 a b) (.complex .f64 c d)).run P w = .ok (.complex .f64 (cmul a b c d).1 (cmul a b c d).2) w := by
  obtain ⟨⟨r, s⟩, e⟩ := Option.isSome_iff_exists.1 h
  have : cmul a b c d = (r, s) := by simp [cmul, e]
  rw [this]
  exact run_complex_mul w t a b c d r s e
theorem cadd_run {P : Program} {a b c d : Nat} (t : TypeId) (h : (cSumBits .add .f64 a b c d).isSome = true) (w : World) : (binOp .add t (.complex .f64 a b) (.complex .f64 c d)).run P w = .ok (.complex .f64 (cadd a b c d).1 (cadd a b c d).2) w := by
  obtain ⟨⟨r, s⟩, e⟩ := Option.isSome_iff_exists.1 h
  have : cadd a b c d = (r, s) := by simp [cadd, e]
  rw [this]
  exact run_complex_sum w .add (Or.inl rfl) t .f64 a b c d r s e
theorem cmul_F {a b c d : Nat} {x y u v : Int} (ha : F a x) (hb : F b y) (hc : F c u) (hd : F d v) (h1 : Sm (x * u)) (h2 : Sm (y * v)) (h3 : Sm (x * v)) (h4 : Sm (y * u)) (h5 : Sm (x * u - y * v)) (h6 : Sm (x * v + y * u)) :
    (cMulBits a b c d).isSome = true ∧ F (cmul a b c d).1 (x * u - y * v) ∧ F (cmul a b c d).2 (x * v + y * u) := by
  obtain ⟨r, s, e, f1, f2⟩ := F_cmul ha hb hc hd h1 h2 h3 h4 h5 h6
  simp [cmul, e, f1, f2]
theorem cadd_F {a b c d : Nat} {x y u v : Int} (ha : F a x) (hb : F b y) (hc : F c u) (hd : F d v) (h1 : Sm (x + u)) (h2 : Sm (y + v)) :
    (cSumBits .add .f64 a b c d).isSome = true ∧ F (cadd a b c d).1 (x + u) ∧ F (cadd a b c d).2 (y + v) := by
  obtain ⟨r, s, e, f1, f2⟩ := F_cadd ha hb hc hd h1 h2
  simp [cadd, e, f1, f2]

/-- Where bits of a motion bring bits of a point. -/
def MB.to (u : MB) (z : Nat × Nat) : Nat × Nat :=
  let s := if u.f then Op.negFloat .f64 z.2 else z.2
  cadd (cmul u.b1 u.b2 z.1 s).1 (cmul u.b1 u.b2 z.1 s).2 u.m1 u.m2

theorem sm_of {n : Int} (c : Nat) (h : n.natAbs ≤ c) (hc : c ≤ 4503599627370495) : Sm n := by unfold Sm; omega

theorem to_F (u : MB) (m : Mo) (r s : Nat) (x y : Int) (hv : u.is m) (hm : Bd 134217728 m) (hr : F r x) (hs : F s y) (hx : x.natAbs ≤ 4096) (hy : y.natAbs ≤ 4096) :
    (cMulBits u.b1 u.b2 r (if u.f then Op.negFloat .f64 s else s)).isSome = true ∧
    (cSumBits .add .f64 (cmul u.b1 u.b2 r (if u.f then Op.negFloat .f64 s else s)).1 (cmul u.b1 u.b2 r (if u.f then Op.negFloat .f64 s else s)).2 u.m1 u.m2).isSome = true ∧
    F (u.to (r, s)).1 (m.to (x, y)).1 ∧ F (u.to (r, s)).2 (m.to (x, y)).2 := by
  obtain ⟨f0, f1, f2, f3, f4⟩ := hv
  obtain ⟨a1, a2, a3, a4⟩ := hm
  have hs' : F (if u.f then Op.negFloat .f64 s else s) (if m.flip then -y else y) := by
    rw [f0]; cases m.flip
    · exact hs
    · exact F_neg hs
  have hy' : (if m.flip then -y else y).natAbs ≤ 4096 := by split <;> omega
  unfold MB.to Mo.to
  dsimp only
  generalize (if u.f then Op.negFloat .f64 s else s) = s' at *
  generalize (if m.flip then -y else y) = y' at *
  have q1 := mul_abs a1 hx
  have q2 := mul_abs a2 hy'
  have q3 := mul_abs a1 hy'
  have q4 := mul_abs a2 hx
  obtain ⟨e, g1, g2⟩ := cmul_F f1 f2 hr hs' (sm_of _ q1 (by omega)) (sm_of _ q2 (by omega)) (sm_of _ q3 (by omega)) (sm_of _ q4 (by omega)) (sm_of _ (sub_abs q1 q2) (by omega)) (sm_of _ (add_abs q3 q4) (by omega))
  obtain ⟨e', g1', g2'⟩ := cadd_F g1 g2 f3 f4 (sm_of _ (add_abs (sub_abs q1 q2) a3) (by omega)) (sm_of _ (add_abs (add_abs q3 q4) a4) (by omega))
  exact ⟨e, e', g1', g2'⟩

set_option maxHeartbeats 800000 in
theorem to_any (u : MB) (m : Mo) (r s : Nat) (x y : Int) (w : World) (hv : u.is m) (hm : Bd 134217728 m) (hr : F r x) (hs : F s y) (hx : x.natAbs ≤ 4096) (hy : y.natAbs ≤ 4096) :
    Calls Try.prog 21 #[u.val, .complex .f64 r s] w (Ret (.complex .f64 (u.to (r, s)).1 (u.to (r, s)).2) w) := by
  obtain ⟨k1, k2, _, _⟩ := to_F u m r s x y hv hm hr hs hx hy
  clear hv hm hr hs hx hy
  obtain ⟨f, b1, b2, m1, m2⟩ := u
  unfold MB.val MB.to
  dsimp only at *
  cases f
  all_goals
    simp only [Bool.false_eq_true, reduceIte] at k1 k2 ⊢
    have h1 := fun w => cmul_run (P := Try.prog) 41 k1 w
    have h2 := fun w => cadd_run (P := Try.prog) 41 k2 w
    clear k1 k2
    go_enter Try.func21, Try.ntmps21
    go_wp2_with (go_at_call 29; refine (flipped_any _ _ _).mono ?_; rintro e w' ⟨rfl, rfl⟩)
    go_ret
    exact Ret.of rfl ((Below.refl _ _).alloc (Nat.le_refl _) _)
end Go.Proofs.Ytendepongefklaa
