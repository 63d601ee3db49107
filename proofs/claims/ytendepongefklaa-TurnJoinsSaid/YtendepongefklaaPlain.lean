/- The plain mathematics of the turns: what steps do, said of whole numbers. No program. -/
import Derived.Below
namespace Go.Proofs.Ytendepongefklaa

structure St where
  k : Int
  x : Int
  y : Int
deriving DecidableEq
/-- A motion: flipped or not, the factor, the move. -/
structure Mo where
  flip : Bool
  bx : Int
  bY : Int
  mx : Int
  my : Int

def nearB (n far : Int) : Bool := decide (-far ≤ n) && decide (n ≤ far)
def mayB (s : St) : Bool :=
  if s.k = 1 then nearB s.x 4096 && nearB s.y 4096
  else if s.k = 2 then nearB s.x 1000 && decide (s.y = 0)
  else if s.k = 3 then decide (1 ≤ s.x) && decide (s.x ≤ 8) && decide (s.y = 0)
  else if s.k = 4 then decide (s.x = 0) && decide (s.y = 0)
  else false
def rightB (l : List St) : Bool := l.all mayB && decide (l.length ≤ 8)

/-- How many quarters. -/
def quart (n : Int) : Nat := (n % 4).toNat
def rot : Nat → Int × Int → Int × Int
  | 0, p => p
  | k + 1, p => rot k (-p.2, p.1)
def moveR (s : St) (p : Int × Int) : Int × Int :=
  if s.k = 1 then (p.1 + s.x, p.2 + s.y) else if s.k = 3 then (p.1 * s.x, p.2 * s.x) else if s.k = 4 then (p.1, -p.2) else rot (quart s.x) p
def allR (l : List St) (p : Int × Int) : Int × Int := l.foldr moveR p

def Mo.one : Mo := ⟨false, 1, 0, 0, 0⟩
def Mo.to (m : Mo) (z : Int × Int) : Int × Int :=
  let y := if m.flip then -z.2 else z.2
  (m.bx * z.1 - m.bY * y + m.mx, m.bx * y + m.bY * z.1 + m.my)
def stepM (s : St) : Mo :=
  if s.k = 1 then { Mo.one with mx := s.x, my := s.y }
  else if s.k = 2 then { Mo.one with bx := (rot (quart s.x) (1, 0)).1, bY := (rot (quart s.x) (1, 0)).2 }
  else if s.k = 3 then { Mo.one with bx := s.x }
  else if s.k = 4 then { Mo.one with flip := true }
  else Mo.one
def behind (m n : Mo) : Mo :=
  let nY := if m.flip then -n.bY else n.bY
  { flip := m.flip != n.flip, mx := (m.to (n.mx, n.my)).1, my := (m.to (n.mx, n.my)).2, bx := m.bx * n.bx - m.bY * nY, bY := m.bx * nY + m.bY * n.bx }
def allM (l : List St) : Mo := l.foldl (fun m s => behind m (stepM s)) Mo.one

theorem nearB_iff {n far : Int} : nearB n far = true ↔ -far ≤ n ∧ n ≤ far := by simp [nearB]

theorem rot_rot (k : Nat) : ∀ p : Int × Int, rot k (-p.2, p.1) = (-(rot k p).2, (rot k p).1) := by
  induction k with
  | zero => intro p; rfl
  | succ k ih => intro p; simp only [rot]; rw [ih (-p.2, p.1)]

theorem rot_mul (k : Nat) (p : Int × Int) : rot k p = ((rot k (1, 0)).1 * p.1 - (rot k (1, 0)).2 * p.2, (rot k (1, 0)).1 * p.2 + (rot k (1, 0)).2 * p.1) := by
  induction k generalizing p with
  | zero => simp [rot]
  | succ k ih =>
    simp only [rot]
    rw [ih (-p.2, p.1), rot_rot k (1, 0)]
    ext <;> simp [Int.neg_mul, Int.mul_neg] <;> omega

theorem step_to (s : St) (h : mayB s = true) (z : Int × Int) : (stepM s).to z = moveR s z := by
  unfold mayB at h
  unfold stepM moveR
  split
  · simp [Mo.to, Mo.one]
  · split
    · rename_i h1 h2
      have : ¬ s.k = 3 ∧ ¬ s.k = 4 := by omega
      rw [if_neg this.1, if_neg this.2, rot_mul (quart s.x) z]
      simp [Mo.to, Mo.one]
    · split
      · simp only [Mo.to, Mo.one]; ext <;> simp [Int.mul_comm]
      · split
        · simp [Mo.to, Mo.one]
        · simp_all

theorem behind_to (m n : Mo) (z : Int × Int) : (behind m n).to z = m.to (n.to z) := by
  obtain ⟨f, a, b, c, d⟩ := m
  obtain ⟨g, a', b', c', d'⟩ := n
  obtain ⟨x, y⟩ := z
  cases f <;> cases g <;> simp [behind, Mo.to] <;> constructor <;> grind

theorem foldl_to (l : List St) (h : ∀ s ∈ l, mayB s = true) (m : Mo) (z : Int × Int) : (l.foldl (fun m s => behind m (stepM s)) m).to z = m.to (allR l z) := by
  induction l generalizing m with
  | nil => rfl
  | cons s l ih =>
    simp only [List.foldl_cons]
    rw [ih (fun t ht => h t (by simp [ht])), behind_to, step_to s (h s (by simp))]
    rfl

theorem all_to (l : List St) (h : rightB l = true) (z : Int × Int) : (allM l).to z = allR l z := by
  unfold rightB at h
  simp only [Bool.and_eq_true, List.all_eq_true] at h
  unfold allM
  rw [foldl_to l h.1 Mo.one z]
  simp [Mo.to, Mo.one]

/-! Bounds. -/
def Bd (c : Nat) (m : Mo) : Prop := m.bx.natAbs ≤ c ∧ m.bY.natAbs ≤ c ∧ m.mx.natAbs ≤ 8192 * c ∧ m.my.natAbs ≤ 8192 * c
/-- On an axis, and not nothing. -/
def Ax (m : Mo) : Prop := (m.bx = 0 ∨ m.bY = 0) ∧ (m.bx ≠ 0 ∨ m.bY ≠ 0)

theorem mul_abs {a b : Int} {A B : Nat} (ha : a.natAbs ≤ A) (hb : b.natAbs ≤ B) : (a * b).natAbs ≤ A * B := by
  rw [Int.natAbs_mul]; exact Nat.mul_le_mul ha hb
theorem sub_abs {a b : Int} {A B : Nat} (ha : a.natAbs ≤ A) (hb : b.natAbs ≤ B) : (a - b).natAbs ≤ A + B := by omega
theorem add_abs {a b : Int} {A B : Nat} (ha : a.natAbs ≤ A) (hb : b.natAbs ≤ B) : (a + b).natAbs ≤ A + B := by omega

theorem rot_unit (k : Nat) (p : Int × Int) (h : p = (1, 0) ∨ p = (0, 1) ∨ p = (-1, 0) ∨ p = (0, -1)) : rot k p = (1, 0) ∨ rot k p = (0, 1) ∨ rot k p = (-1, 0) ∨ rot k p = (0, -1) := by
  induction k generalizing p with
  | zero => exact h
  | succ k ih => simp only [rot]; apply ih; rcases h with rfl | rfl | rfl | rfl <;> simp

theorem step_ax (s : St) (h : mayB s = true) : Ax (stepM s) ∧ (stepM s).bx.natAbs ≤ 8 ∧ (stepM s).bY.natAbs ≤ 8 ∧ (stepM s).mx.natAbs ≤ 4096 ∧ (stepM s).my.natAbs ≤ 4096 := by
  unfold mayB nearB at h
  unfold stepM Ax
  split
  · rename_i h1; simp [h1] at h; simp [Mo.one]; omega
  · split
    · rcases rot_unit (quart s.x) (1, 0) (by simp) with e | e | e | e <;> simp [e, Mo.one]
    · split
      · rename_i h1 h2 h3; simp [h3] at h; simp [Mo.one]; omega
      · split <;> simp [Mo.one]

theorem behind_ax (m n : Mo) (hm : Ax m) (hn : Ax n) : Ax (behind m n) := by
  obtain ⟨f, a, b, c, d⟩ := m
  obtain ⟨g, a', b', c', d'⟩ := n
  obtain ⟨h1, h2⟩ := hm
  obtain ⟨h3, h4⟩ := hn
  simp only at h1 h2 h3 h4
  unfold Ax behind
  rcases h1 with rfl | rfl <;> rcases h3 with rfl | rfl <;> simp at h2 h4 <;> cases f <;> simp [h2, h4, Int.mul_eq_zero]

theorem lin_bd {a b u v : Int} {c : Nat} (h : u = 0 ∨ v = 0) (ha : a.natAbs ≤ c) (hb : b.natAbs ≤ c) (hu : u.natAbs ≤ 8) (hv : v.natAbs ≤ 8) : (a * u - b * v).natAbs ≤ 8 * c ∧ (a * v + b * u).natAbs ≤ 8 * c := by
  have q1 := mul_abs ha hu
  have q2 := mul_abs hb hv
  have q3 := mul_abs ha hv
  have q4 := mul_abs hb hu
  rcases h with rfl | rfl
  · simp only [Int.mul_zero] at *; omega
  · simp only [Int.mul_zero] at *; omega
theorem mov_bd {a b x y e d : Int} {c : Nat} (ha : a.natAbs ≤ c) (hb : b.natAbs ≤ c) (hx : x.natAbs ≤ 4096) (hy : y.natAbs ≤ 4096) (he : e.natAbs ≤ 8192 * c) (hd : d.natAbs ≤ 8192 * c) : (a * x - b * y + e).natAbs ≤ 8192 * (8 * c) ∧ (a * y + b * x + d).natAbs ≤ 8192 * (8 * c) := by
  have q1 := mul_abs ha hx
  have q2 := mul_abs hb hy
  have q3 := mul_abs ha hy
  have q4 := mul_abs hb hx
  omega
theorem behind_bd (c : Nat) (m n : Mo) (hm : Bd c m) (hax : Ax n) (h1 : n.bx.natAbs ≤ 8) (h2 : n.bY.natAbs ≤ 8) (h3 : n.mx.natAbs ≤ 4096) (h4 : n.my.natAbs ≤ 4096) : Bd (8 * c) (behind m n) := by
  obtain ⟨p1, p2, p3, p4⟩ := hm
  have hz := hax.1
  have hy : (if m.flip then -n.bY else n.bY).natAbs ≤ 8 := by split <;> omega
  have hz' : n.bx = 0 ∨ (if m.flip then -n.bY else n.bY) = 0 := by rcases hz with h | h <;> simp [h]
  have hw : (if m.flip then -n.my else n.my).natAbs ≤ 4096 := by split <;> omega
  have r1 := lin_bd hz' p1 p2 h1 hy
  have r2 := mov_bd p1 p2 h3 hw p3 p4
  exact ⟨r1.1, r1.2, r2.1, r2.2⟩

theorem all_bd_from (l : List St) (h : ∀ s ∈ l, mayB s = true) (c : Nat) (m : Mo) (hm : Bd c m) (ha : Ax m) : Bd (8 ^ l.length * c) (l.foldl (fun m s => behind m (stepM s)) m) ∧ Ax (l.foldl (fun m s => behind m (stepM s)) m) := by
  induction l generalizing m c with
  | nil => simpa using ⟨hm, ha⟩
  | cons s l ih =>
    obtain ⟨hx, b1, b2, b3, b4⟩ := step_ax s (h s (by simp))
    have := ih (fun t ht => h t (by simp [ht])) (8 * c) (behind m (stepM s)) (behind_bd c m _ hm hx b1 b2 b3 b4) (behind_ax m _ ha hx)
    simp only [List.foldl_cons, List.length_cons]
    rw [show 8 ^ (l.length + 1) * c = 8 ^ l.length * (8 * c) by rw [Nat.pow_succ]; ac_rfl]
    exact this

theorem Bd.mono {c c' : Nat} {m : Mo} (h : Bd c m) (hc : c ≤ c') : Bd c' m := by
  obtain ⟨a, b, d, e⟩ := h; exact ⟨by omega, by omega, by omega, by omega⟩

theorem bd_one : Bd 1 Mo.one := by simp [Bd, Mo.one]
theorem ax_one : Ax Mo.one := by simp [Ax, Mo.one]

theorem all_bd (l : List St) (h : rightB l = true) (k : Nat) : Bd 16777216 (allM (l.take k)) ∧ Ax (allM (l.take k)) := by
  unfold rightB at h
  simp only [Bool.and_eq_true, List.all_eq_true, decide_eq_true_eq] at h
  have hh := all_bd_from (l.take k) (fun s hs => h.1 s (List.mem_of_mem_take hs)) 1 Mo.one bd_one ax_one
  refine ⟨hh.1.mono ?_, hh.2⟩
  have : (l.take k).length ≤ 8 := by rw [List.length_take]; omega
  have := Nat.pow_le_pow_right (n := 8) (by omega) this
  omega

/-! Where points may come, step by step. -/
def PB (c : Nat) (p : Int × Int) : Prop := p.1.natAbs ≤ c ∧ p.2.natAbs ≤ c
theorem rot_pb (k : Nat) (c : Nat) (p : Int × Int) (h : PB c p) : PB c (rot k p) := by
  induction k generalizing p with
  | zero => exact h
  | succ k ih => simp only [rot]; exact ih _ ⟨by have := h.2; simpa using this, h.1⟩
theorem move_pb (s : St) (h : mayB s = true) (c : Nat) (hc : 4096 ≤ c) (p : Int × Int) (hp : PB c p) : PB (9 * c) (moveR s p) := by
  obtain ⟨h1, h2⟩ := hp
  unfold mayB nearB at h
  unfold moveR
  split
  · rename_i e; simp [e] at h; exact ⟨by simp only; omega, by simp only; omega⟩
  · split
    · rename_i e; simp [e] at h
      have a := mul_abs h1 (show s.x.natAbs ≤ 8 by omega)
      have b := mul_abs h2 (show s.x.natAbs ≤ 8 by omega)
      exact ⟨by simp only; omega, by simp only; omega⟩
    · split
      · exact ⟨by simp only; omega, by simp only; omega⟩
      · have := rot_pb (quart s.x) c p ⟨h1, h2⟩
        exact ⟨by have := this.1; omega, by have := this.2; omega⟩
theorem allR_pb (l : List St) (h : ∀ s ∈ l, mayB s = true) (c : Nat) (hc : 4096 ≤ c) (p : Int × Int) (hp : PB c p) : PB (9 ^ l.length * c) (allR l p) := by
  induction l with
  | nil => simpa [allR] using hp
  | cons s l ih =>
    have i1 := ih (fun t ht => h t (by simp [ht]))
    have h9 : 1 ≤ 9 ^ l.length := Nat.pos_of_ne_zero (by simp)
    have h2 : c ≤ 9 ^ l.length * c := Nat.le_mul_of_pos_left c h9
    have := move_pb s (h s (by simp)) (9 ^ l.length * c) (by omega) _ i1
    rw [show 9 ^ (s :: l).length * c = 9 * (9 ^ l.length * c) by rw [List.length_cons, Nat.pow_succ]; ac_rfl]
    exact this
theorem allR_drop (l : List St) (k : Nat) (hk : k < l.length) (p : Int × Int) : allR (l.drop k) p = moveR l[k] (allR (l.drop (k + 1)) p) := by
  rw [List.drop_eq_getElem_cons hk]; rfl
theorem three (l : List St) (h : rightB l = true) : allR l (0, 0) = ((allM l).mx, (allM l).my) ∧ allR l (1, 0) = ((allM l).bx + (allM l).mx, (allM l).bY + (allM l).my) ∧
    allR l (0, 1) = (-((allM l).bY * (if (allM l).flip then -1 else 1)) + (allM l).mx, (allM l).bx * (if (allM l).flip then -1 else 1) + (allM l).my) := by
  rw [← all_to l h, ← all_to l h, ← all_to l h]
  generalize allM l = m
  refine ⟨?_, ?_, ?_⟩ <;> cases hf : m.flip <;> simp [Mo.to, hf]
theorem allR_lim (l : List St) (h : rightB l = true) (k : Nat) (p : Int × Int) (hp : PB 4096 p) : PB 176319369216 (allR (l.drop k) p) := by
  unfold rightB at h
  simp only [Bool.and_eq_true, List.all_eq_true, decide_eq_true_eq] at h
  have := allR_pb (l.drop k) (fun s hs => h.1 s (List.mem_of_mem_drop hs)) 4096 (by omega) p hp
  have hl : (l.drop k).length ≤ 8 := by rw [List.length_drop]; omega
  have h9 : 9 ^ (l.drop k).length ≤ 9 ^ 8 := Nat.pow_le_pow_right (by omega) hl
  have h9' : 9 ^ (l.drop k).length * 4096 ≤ 9 ^ 8 * 4096 := Nat.mul_le_mul_right _ h9
  exact ⟨by have := this.1; omega, by have := this.2; omega⟩
end Go.Proofs.Ytendepongefklaa
