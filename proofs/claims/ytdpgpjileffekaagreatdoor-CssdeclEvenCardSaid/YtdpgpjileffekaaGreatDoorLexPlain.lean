/- Plain laws: the pieces of a policy's text, and pieces as text. No program in sight. -/
namespace Go.Proofs.YtdpgpjileffekaaGreatDoor
abbrev Bs := List UInt8

def spB (c : UInt8) : Bool := decide (c.toNat = 32 ∨ (9 ≤ c.toNat ∧ c.toNat ≤ 13 ∧ c.toNat ≠ 11))
def lowB (c : UInt8) : Bool := decide (97 ≤ c.toNat ∧ c.toNat ≤ 122)
def upB (c : UInt8) : Bool := decide (65 ≤ c.toNat ∧ c.toNat ≤ 90)
def digB (c : UInt8) : Bool := decide (48 ≤ c.toNat ∧ c.toNat ≤ 57)
def wchB (c : UInt8) : Bool := lowB c || digB c || decide (c.toNat = 45)
def oddB (c : UInt8) : Bool := decide (c.toNat < 32 ∨ 127 ≤ c.toNat)
def mrkB (c : UInt8) : Bool := decide (c.toNat = 58 ∨ c.toNat = 59 ∨ c.toNat = 42)

/-- A name. -/
def wordB : Bs → Bool
  | [] => false
  | c :: r => decide (r.length < 64) && lowB c && r.all wchB

/-- What is behind the mark that opens a string. -/
inductive TR where
  | ok (t : Bs) (n : Nat)
  | bad (n : Nat)
  | op
def TR.app (pre : Bs) (k : Nat) : TR → TR
  | .ok t n => .ok (pre ++ t) (n + k)
  | .bad n => .bad (n + k)
  | .op => .op
theorem TR.app_app (p q : Bs) (k l : Nat) (x : TR) : (x.app q l).app p k = x.app (p ++ q) (k + l) := by
  cases x <;> simp [TR.app] <;> omega
theorem TR.app_nil (x : TR) : x.app [] 0 = x := by cases x <;> simp [TR.app]
def strL : Bs → TR
  | [] => .op
  | c :: r =>
    if c.toNat = 34 then .ok [] 1
    else if c.toNat = 92 then
      match r with
      | d :: r' => if d.toNat = 92 ∨ d.toNat = 34 then (strL r').app [d] 2 else .bad 0
      | [] => .bad 0
    else if oddB c then .bad 0 else (strL r).app [c] 1

/-- How many bytes are passed over; within a remark, or not. -/
def blk : Bool → Bs → Nat
  | _, [] => 0
  | false, c :: r => if spB c then blk false r + 1 else if c.toNat = 35 then blk true r + 1 else 0
  | true, c :: r => if c.toNat = 10 then blk false r + 1 else blk true r + 1
theorem blk_le (b : Bool) (l : Bs) : blk b l ≤ l.length := by
  induction l generalizing b with
  | nil => cases b <;> simp [blk]
  | cons c r ih =>
    have h1 := ih true
    have h2 := ih false
    cases b <;> simp only [blk, List.length_cons] <;> (repeat' split) <;> omega

inductive PR where
  | ok (kind : Nat) (text : Bs) (n : Nat)
  | bad (n : Nat)
def pieceL : Bs → PR
  | [] => .bad 0
  | c :: r =>
    if c.toNat = 34 then
      match strL r with
      | .ok t n => .ok 3 t (n + 1)
      | .bad n => .bad (n + 1)
      | .op => .bad 0
    else if lowB c then
      if wordB (c :: r.takeWhile wchB) then .ok 1 (c :: r.takeWhile wchB) (1 + (r.takeWhile wchB).length) else .bad 0
    else if digB c then
      if (r.takeWhile digB).length < 9 then .ok 2 (c :: r.takeWhile digB) (1 + (r.takeWhile digB).length) else .bad 0
    else if mrkB c then .ok 4 [c] 1 else .bad 0

structure Lx where
  kind : Nat
  at_ : Nat
  text : Bs
deriving DecidableEq

/-- All pieces; with an error: at which byte. -/
inductive SR where
  | ok (l : List Lx)
  | bad (n : Nat)
deriving DecidableEq
def SR.cons (x : Lx) : SR → SR
  | .ok l => .ok (x :: l)
  | .bad n => .bad n
def scanF : Nat → Nat → Bs → SR
  | 0, _, _ => .ok []
  | f + 1, a, l =>
    match l.drop (blk false l) with
    | [] => .ok []
    | r@(_ :: _) =>
      match pieceL r with
      | .ok k t n => (scanF f (a + blk false l + n) (r.drop n)).cons ⟨k, a + blk false l, t⟩
      | .bad n => .bad (a + blk false l + n)

theorem strL_quote {c : UInt8} (r : Bs) (h : c.toNat = 34) : strL (c :: r) = .ok [] 1 := by rw [strL.eq_def]; simp only [if_pos h]
theorem strL_esc {c d : UInt8} (r : Bs) (h : c.toNat = 92) (hd : d.toNat = 92 ∨ d.toNat = 34) : strL (c :: d :: r) = (strL r).app [d] 2 := by
  rw [strL.eq_def]; simp only [if_neg (show ¬ c.toNat = 34 by omega), if_pos h, if_pos hd]
theorem strL_esc_bad {c d : UInt8} (r : Bs) (h : c.toNat = 92) (hd : ¬ (d.toNat = 92 ∨ d.toNat = 34)) : strL (c :: d :: r) = .bad 0 := by
  rw [strL.eq_def]; simp only [if_neg (show ¬ c.toNat = 34 by omega), if_pos h, if_neg hd]
theorem strL_esc_end {c : UInt8} (h : c.toNat = 92) : strL [c] = .bad 0 := by
  rw [strL.eq_def]; simp only [if_neg (show ¬ c.toNat = 34 by omega), if_pos h]
theorem strL_odd {c : UInt8} (r : Bs) (h1 : ¬ c.toNat = 34) (h2 : ¬ c.toNat = 92) (h : oddB c = true) : strL (c :: r) = .bad 0 := by
  rw [strL.eq_def]; simp only [if_neg h1, if_neg h2, if_pos h]
theorem strL_plain {c : UInt8} (r : Bs) (h1 : ¬ c.toNat = 34) (h2 : ¬ c.toNat = 92) (h : ¬ oddB c = true) : strL (c :: r) = (strL r).app [c] 1 := by
  rw [strL.eq_def]; simp only [if_neg h1, if_neg h2, if_neg h]

def TR.fits (m : Nat) : TR → Prop
  | .ok _ n => 1 ≤ n ∧ n ≤ m
  | .bad n => n < m
  | .op => True
theorem TR.fits.app {m : Nat} {x : TR} (h : x.fits m) (p : Bs) (k : Nat) : (x.app p k).fits (m + k) := by
  cases x <;> simp only [TR.fits, TR.app] at * <;> omega
theorem strL_fits (m : Nat) (l : Bs) (h : l.length ≤ m) : (strL l).fits l.length := by
  induction m generalizing l with
  | zero => cases l with
    | nil => exact trivial
    | cons c r => simp at h
  | succ m ih =>
    cases l with
    | nil => exact trivial
    | cons c r =>
      simp only [List.length_cons] at h
      by_cases h1 : c.toNat = 34
      · rw [strL_quote r h1]; simp [TR.fits]
      · by_cases h2 : c.toNat = 92
        · cases r with
          | nil => rw [strL_esc_end h2]; simp [TR.fits]
          | cons d r =>
            simp only [List.length_cons] at h
            by_cases h3 : d.toNat = 92 ∨ d.toNat = 34
            · rw [strL_esc r h2 h3]; exact (ih r (by omega)).app [d] 2
            · rw [strL_esc_bad r h2 h3]; simp [TR.fits]
        · by_cases h3 : oddB c = true
          · rw [strL_odd r h1 h2 h3]; simp [TR.fits]
          · rw [strL_plain r h1 h2 h3]; exact (ih r (by omega)).app [c] 1

theorem takeWhile_le (p : UInt8 → Bool) (l : Bs) : (l.takeWhile p).length ≤ l.length := by
  induction l with
  | nil => simp
  | cons c r ih => rw [List.takeWhile_cons]; split <;> simp <;> omega
def PR.fits (m : Nat) : PR → Prop
  | .ok _ _ n => 1 ≤ n ∧ n ≤ m
  | .bad n => n ≤ m
theorem pieceL_fits (l : Bs) : (pieceL l).fits l.length := by
  cases l with
  | nil => simp [pieceL, PR.fits]
  | cons c r =>
    have h1 := strL_fits _ r (Nat.le_refl _)
    have h2 := takeWhile_le wchB r
    have h3 := takeWhile_le digB r
    simp only [pieceL, List.length_cons]
    by_cases c1 : c.toNat = 34
    · rw [if_pos c1]
      cases hx : strL r <;> rw [hx] at h1 <;> simp only [TR.fits, PR.fits] at * <;> omega
    · rw [if_neg c1]
      by_cases c2 : lowB c = true
      · rw [if_pos c2]; split <;> simp only [PR.fits] <;> omega
      · rw [if_neg c2]
        by_cases c3 : digB c = true
        · rw [if_pos c3]; split <;> simp only [PR.fits] <;> omega
        · rw [if_neg c3]; split <;> simp only [PR.fits] <;> omega
theorem pieceL_le (l : Bs) : (∀ k t n, pieceL l = .ok k t n → 1 ≤ n ∧ n ≤ l.length) ∧ (∀ n, pieceL l = .bad n → n ≤ l.length) := by
  have h := pieceL_fits l
  exact ⟨fun k t n e => by rw [e] at h; exact h, fun n e => by rw [e] at h; exact h⟩

theorem scanF_more (f g : Nat) (a : Nat) (l : Bs) (hf : l.length < f) (hg : l.length < g) : scanF f a l = scanF g a l := by
  induction f generalizing g a l with
  | zero => omega
  | succ f ih =>
    cases g with
    | zero => omega
    | succ g =>
      unfold scanF
      split
      · rfl
      · rename_i c r hr
        have hl : (c :: r).length ≤ l.length := by rw [← hr, List.length_drop]; omega
        cases hp : pieceL (c :: r) with
        | ok k t n =>
          have := (pieceL_le (c :: r)).1 k t n hp
          simp only
          rw [ih g _ _ (by rw [List.length_drop]; omega) (by rw [List.length_drop]; omega)]
        | bad n => rfl
def scanL (a : Nat) (l : Bs) : SR := scanF (l.length + 1) a l
theorem scanL_eq (a : Nat) (l : Bs) : scanL a l = match l.drop (blk false l) with
    | [] => .ok []
    | r@(_ :: _) =>
      match pieceL r with
      | .ok k t n => (scanL (a + blk false l + n) (r.drop n)).cons ⟨k, a + blk false l, t⟩
      | .bad n => .bad (a + blk false l + n) := by
  unfold scanL
  rw [scanF]
  split
  · rfl
  · rename_i c r hr
    have hl : (c :: r).length ≤ l.length := by rw [← hr, List.length_drop]; omega
    cases hp : pieceL (c :: r) with
    | ok k t n =>
      have := (pieceL_le (c :: r)).1 k t n hp
      simp only
      rw [scanF_more _ ((List.drop n (c :: r)).length + 1) _ _ (by rw [List.length_drop]; omega) (by omega)]
    | bad n => rfl

/-- A string, quoted. -/
def esc : Bs → Bs
  | [] => []
  | c :: r => if c.toNat = 34 ∨ c.toNat = 92 then 92 :: c :: esc r else c :: esc r
def quoteL (l : Bs) : Option Bs := if l.any oddB then none else some (34 :: esc l ++ [34])
/-- A piece as text. -/
def toldL (k : Nat) (t : Bs) : Option Bs :=
  if k = 3 then quoteL t
  else if k = 1 then if wordB t then some t else none
  else if k = 2 then if 1 ≤ t.length ∧ t.length ≤ 9 ∧ t.all digB then some t else none
  else if k = 4 then match t with
    | [c] => if mrkB c then some t else none
    | _ => none
  else none
end Go.Proofs.YtdpgpjileffekaaGreatDoor
