/- Plain laws: the pieces one behind the other. No program in sight. -/
import Derived.Test.YtglnadikhcidnaaLexPlain
namespace Go.Proofs.Ytglnadikhcidnaa
/-- What the iterator hands on: a piece, or an error with its byte. -/
structure LE where
  kind : Nat
  at_ : Nat
  text : Bs
  err : Nat
def yldS (k : Nat → Bs → List LE) (a : Nat) : Bs → List LE
  | [] => []
  | c :: r => match pieceL (c :: r) with
    | .ok kd t n => ⟨kd, a, t, 0⟩ :: k (a + n) ((c :: r).drop n)
    | .bad n => [⟨0, a + n, [], 2⟩]
def yldF : Nat → Nat → Bs → List LE
  | 0, _, _ => []
  | f + 1, a, l => yldS (yldF f) (a + blk false l) (l.drop (blk false l))
theorem yldS_congr {k k' : Nat → Bs → List LE} (a : Nat) (r : Bs) (h : ∀ b l, l.length < r.length → k b l = k' b l) : yldS k a r = yldS k' a r := by
  cases r with
  | nil => rfl
  | cons c r =>
    simp only [yldS]
    cases hp : pieceL (c :: r) with
    | bad n => rfl
    | ok kd t n =>
      have := (pieceL_le (c :: r)).1 kd t n hp
      simp only
      rw [h _ _ (by rw [List.length_drop]; omega)]
theorem yldF_more (f g : Nat) (a : Nat) (l : Bs) (hf : l.length < f) (hg : l.length < g) : yldF f a l = yldF g a l := by
  induction f generalizing g a l with
  | zero => omega
  | succ f ih =>
    cases g with
    | zero => omega
    | succ g =>
      unfold yldF
      refine yldS_congr _ _ fun b l' hl' => ?_
      rw [List.length_drop] at hl'
      exact ih g _ _ (by omega) (by omega)
def yldL (a : Nat) (l : Bs) : List LE := yldF (l.length + 1) a l
theorem yldF_len (f a : Nat) (l : Bs) : (yldF f a l).length ≤ f := by
  induction f generalizing a l with
  | zero => simp [yldF]
  | succ f ih =>
    unfold yldF
    generalize l.drop (blk false l) = r
    cases r with
    | nil => simp [yldS]
    | cons c r =>
      simp only [yldS]
      cases hp : pieceL (c :: r) with
      | ok k t n => simp; exact ih _ _
      | bad n => simp
theorem yldL_len (a : Nat) (l : Bs) : (yldL a l).length ≤ l.length + 1 := yldF_len _ a l
/-- From a place on at which nothing is passed over. -/
def yldH (a : Nat) (r : Bs) : List LE := yldS yldL a r
theorem yldL_eq (a : Nat) (l : Bs) : yldL a l = yldH (a + blk false l) (l.drop (blk false l)) := by
  show yldF (l.length + 1) a l = _
  unfold yldF yldH
  refine yldS_congr _ _ fun b l' hl' => ?_
  rw [List.length_drop] at hl'
  exact yldF_more _ _ _ _ (by omega) (by omega)
theorem yldH_ok {a : Nat} {r : Bs} {k : Nat} {t : Bs} {n : Nat} (hr : r ≠ []) (h : pieceL r = .ok k t n) : yldH a r = ⟨k, a, t, 0⟩ :: yldL (a + n) (r.drop n) := by
  cases r with
  | nil => exact absurd rfl hr
  | cons c r => simp only [yldH, yldS, h]
theorem yldH_bad {a : Nat} {r : Bs} {n : Nat} (hr : r ≠ []) (h : pieceL r = .bad n) : yldH a r = [⟨0, a + n, [], 2⟩] := by
  cases r with
  | nil => exact absurd rfl hr
  | cons c r => simp only [yldH, yldS, h]
def toSR : List LE → SR
  | [] => .ok []
  | x :: r => if x.err = 0 then (toSR r).cons ⟨x.kind, x.at_, x.text⟩ else .bad x.at_
theorem scanF_yld (f a : Nat) (l : Bs) : scanF f a l = toSR (yldF f a l) := by
  induction f generalizing a l with
  | zero => rfl
  | succ f ih =>
    rw [scanF, yldF]
    generalize l.drop (blk false l) = r
    cases r with
    | nil => rfl
    | cons c r =>
      simp only [yldS]
      cases hp : pieceL (c :: r) with
      | ok k t n => simp [toSR, ih]
      | bad n => simp [toSR]
theorem scanL_yld (a : Nat) (l : Bs) : scanL a l = toSR (yldL a l) := scanF_yld _ a l
end Go.Proofs.Ytglnadikhcidnaa
