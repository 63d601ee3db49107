/- Plain laws: lists of pictures. No program in sight. -/
import Derived.Test.YtgoioaobknjmcaaDoorLexPlain
namespace Go.Proofs.YtgoioaobknjmcaaDoor
/-- A picture: its place, its size. -/
structure Pic where
  url : Bs
  size : Bs
  deriving DecidableEq
/-- Space or comma. -/
def sepB (c : UInt8) : Bool := spB c || decide (c.toNat = 44)
/-- How many bytes are ahead of the next comma that is not within brackets. -/
def szL : Nat → Bs → Nat
  | _, [] => 0
  | d, c :: r => if c.toNat = 44 ∧ d = 0 then 0 else 1 + szL (if c.toNat = 40 then d + 1 else if c.toNat = 41 then d - 1 else d) r
/-- The words of a text, one being read. -/
def wordsA : Bs → Bs → List Bs
  | w, [] => if w = [] then [] else [w]
  | w, c :: r => if spB c then (if w = [] then wordsA [] r else w :: wordsA [] r) else wordsA (w ++ [c]) r
def wordsL (l : Bs) : List Bs := wordsA [] l
def joinBs (sep : Bs) : List Bs → Bs
  | [] => []
  | [x] => x
  | x :: y :: r => x ++ sep ++ joinBs sep (y :: r)
/-- A text without the commas at its end. -/
def trimC (l : Bs) : Bs := (l.reverse.dropWhile (fun c => decide (c.toNat = 44))).reverse
def endsC (l : Bs) : Bool := match l.getLast? with
  | some c => decide (c.toNat = 44)
  | none => false
def picF : Nat → Bs → List Pic
  | 0, _ => []
  | n + 1, l => match l.dropWhile sepB with
    | [] => []
    | c :: r =>
      if endsC ((c :: r).takeWhile (fun c => !spB c)) then ⟨trimC ((c :: r).takeWhile (fun c => !spB c)), []⟩ :: picF n ((c :: r).dropWhile (fun c => !spB c))
      else ⟨(c :: r).takeWhile (fun c => !spB c), joinBs [32] (wordsL (((c :: r).dropWhile (fun c => !spB c)).take (szL 0 ((c :: r).dropWhile (fun c => !spB c)))))⟩ :: picF n (((c :: r).dropWhile (fun c => !spB c)).drop (szL 0 ((c :: r).dropWhile (fun c => !spB c))))
def picL (l : Bs) : List Pic := picF (l.length + 1) l
def toldP' (p : Pic) : Bs := if p.size = [] then p.url else p.url ++ 32 :: p.size
def textP (l : List Pic) : Bs := joinBs [44, 32] (l.map toldP')
/-- May a size be? -/
def sizeTail : Bs → Bool
  | [120] => true
  | _ => false
def sizeB (s : Bs) : Bool :=
  if s = [] then true
  else
    let n := (s.takeWhile digB).length
    if n < 1 ∨ 9 < n then false
    else match s.dropWhile digB with
      | [119] => (s.takeWhile digB).any (fun c => decide (c.toNat ≠ 48))
      | 46 :: r => decide (1 ≤ (r.takeWhile digB).length) && decide ((r.takeWhile digB).length ≤ 9) && sizeTail (r.dropWhile digB)
      | t => sizeTail t
def rightP (p : Pic) : Bool := match p.url with
  | [] => false
  | c :: r => decide (c.toNat ≠ 44) && !endsC (c :: r) && (c :: r).all (fun c => !spB c) && sizeB p.size

theorem drop_while_len (p : UInt8 → Bool) (l : Bs) : (l.dropWhile p).length ≤ l.length := (List.dropWhile_sublist p).length_le
theorem tail_len {c : UInt8} {r : Bs} (h : spB c = false) : ((c :: r).dropWhile (fun c => !spB c)).length ≤ r.length := by
  rw [List.dropWhile_cons_of_pos (by simp [h])]
  exact drop_while_len _ r
theorem sep_head {l : Bs} {c : UInt8} {r : Bs} (h : l.dropWhile sepB = c :: r) : sepB c = false := by
  have := List.head?_dropWhile_not sepB l
  rw [h] at this
  simpa using this
theorem sep_sp {c : UInt8} (h : sepB c = false) : spB c = false := by
  unfold sepB at h
  simp at h; exact h.1
theorem pic_more : ∀ (n m : Nat) (l : Bs), l.length < n → l.length < m → picF n l = picF m l := by
  intro n
  induction n with
  | zero => intro m l h; omega
  | succ n ih =>
    intro m l h1 h2
    cases m with
    | zero => omega
    | succ m =>
      rw [picF, picF]
      split
      · rfl
      · rename_i c r hd
        have hs := sep_sp (sep_head hd)
        have h3 := tail_len (r := r) hs
        have h4 := drop_while_len sepB l
        rw [hd] at h4
        simp at h4
        have h5 : (((c :: r).dropWhile (fun c => !spB c)).drop (szL 0 ((c :: r).dropWhile (fun c => !spB c)))).length ≤ r.length := by
          rw [List.length_drop]; omega
        rw [ih m _ (by omega) (by omega), ih m _ (by omega) (by omega)]
theorem pic_sep {c : UInt8} {r : Bs} (h : sepB c = true) : picL (c :: r) = picL r := by
  unfold picL
  rw [pic_more ((c :: r).length + 1) (r.length + 2) _ (by simp) (by simp)]
  rw [pic_more (r.length + 1) (r.length + 2) r (by omega) (by omega)]
  rw [picF, picF, List.dropWhile_cons_of_pos h]
theorem pic_nil : picL [] = [] := rfl
/-- One round, behind commas and spaces. -/
theorem pic_round {c : UInt8} {r : Bs} (h : sepB c = false) : picL (c :: r) =
    if endsC ((c :: r).takeWhile (fun c => !spB c)) then ⟨trimC ((c :: r).takeWhile (fun c => !spB c)), []⟩ :: picL ((c :: r).dropWhile (fun c => !spB c))
    else ⟨(c :: r).takeWhile (fun c => !spB c), joinBs [32] (wordsL (((c :: r).dropWhile (fun c => !spB c)).take (szL 0 ((c :: r).dropWhile (fun c => !spB c)))))⟩ :: picL (((c :: r).dropWhile (fun c => !spB c)).drop (szL 0 ((c :: r).dropWhile (fun c => !spB c)))) := by
  unfold picL
  rw [picF, List.dropWhile_cons_of_neg (by simp [h])]
  have h3 := tail_len (r := r) (sep_sp h)
  have h5 : (((c :: r).dropWhile (fun c => !spB c)).drop (szL 0 ((c :: r).dropWhile (fun c => !spB c)))).length ≤ r.length := by
    rw [List.length_drop]; omega
  dsimp only
  rw [pic_more (c :: r).length _ _ (by simp; omega) (Nat.lt_succ_self _)]
  rw [pic_more (c :: r).length _ _ (by simp; simp at h5; omega) (Nat.lt_succ_self _)]
end Go.Proofs.YtgoioaobknjmcaaDoor
