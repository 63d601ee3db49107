/- Plain laws: values of styles: movements as pieces, and back. No program in sight. -/
import Derived.Test.YtgcccpdadponiaaGreatDoorDecPlain
import Derived.Test.YtgcccpdadponiaaGreatDoorTA
namespace Go.Proofs.YtgcccpdadponiaaGreatDoor
def fnC (t : Bs) : Css := ⟨2, t, 0, []⟩
def nuC (n : Int) (u : Bs) : Css := ⟨3, [], n * 1000, u⟩
def moveT : Bs := [116, 114, 97, 110, 115, 108, 97, 116, 101]
def turnT : Bs := [114, 111, 116, 97, 116, 101]
def scaleT : Bs := [115, 99, 97, 108, 101]
def flipT : Bs := [115, 99, 97, 108, 101, 121]
def pxT : Bs := [112, 120]
def degT : Bs := [100, 101, 103]
def noneC : Css := ⟨1, [110, 111, 110, 101], 0, []⟩
def transT : Bs := [116, 114, 97, 110, 115, 102, 111, 114, 109]
/-- The pieces of a step. -/
def toldT (s : St) : List Css :=
  if s.k = 1 then [fnC moveT, nuC s.x pxT, mark1 44, nuC s.y pxT, mark1 41]
  else if s.k = 2 then [fnC turnT, nuC (90 * s.x) degT, mark1 41]
  else if s.k = 3 then [fnC scaleT, nuC s.x [], mark1 41]
  else [fnC flipT, nuC (-1) [], mark1 41]
def atI (l : List Css) (i : Nat) : Int := match l[i]? with
  | some x => x.num.tdiv 1000
  | none => 0
/-- The step that pieces might tell. -/
def guessT (l : List Css) : St := match l with
  | [] => ⟨4, 0, 0⟩
  | x :: _ => if x.text = moveT then ⟨1, atI l 1, atI l 3⟩ else if x.text = turnT then ⟨2, (atI l 1).tdiv 90, 0⟩ else if x.text = scaleT then ⟨3, atI l 1, 0⟩ else ⟨4, 0, 0⟩
def fitT (l : List Css) : Bool := decide (l.take (toldT (guessT l)).length = toldT (guessT l))
def restT (l : List Css) : List Css := l.drop (toldT (guessT l)).length
/-- What is handed on, one behind the other. -/
def handT : Nat → List Css → List (St × Bool)
  | 0, _ => []
  | _ + 1, [] => []
  | f + 1, x :: l => if fitT (x :: l) then (guessT (x :: l), true) :: handT f (restT (x :: l)) else [(guessT (x :: l), false)]
def parseT : Nat → List Css → Option (List St)
  | _, [] => some []
  | 0, _ => none
  | f + 1, x :: l => if fitT (x :: l) then (parseT f (restT (x :: l))).map (guessT (x :: l) :: ·) else none
def stepsT (l : List Css) : Option (List St) := match parseT l.length l with
  | some ss => if rightB ss then some ss else none
  | none => none
def piecesT (l : List St) : List Css := l.flatMap toldT
theorem told_len3 (s : St) : 3 ≤ (toldT s).length ∧ (toldT s).length ≤ 5 := by
  unfold toldT
  split
  · simp
  · split
    · simp
    · split <;> simp
theorem told_ne (s : St) : toldT s ≠ [] := fun h => by have := (told_len3 s).1; rw [h] at this; simp at this
theorem rest_len (x : Css) (l : List Css) : (restT (x :: l)).length ≤ l.length := by
  unfold restT
  rw [List.length_drop, List.length_cons]
  have := (told_len3 (guessT (x :: l))).1
  omega
theorem parse_fuel : ∀ (f g : Nat) (l : List Css), l.length ≤ f → l.length ≤ g → parseT f l = parseT g l
  | 0, 0, [], _, _ => rfl
  | 0, g + 1, [], _, _ => rfl
  | f + 1, 0, [], _, _ => rfl
  | f + 1, g + 1, [], _, _ => rfl
  | f + 1, g + 1, x :: l, h1, h2 => by
    have := rest_len x l
    simp only [List.length_cons] at h1 h2
    simp only [parseT]
    rw [parse_fuel f g (restT (x :: l)) (by omega) (by omega)]
  | 0, _, _ :: _, h1, _ => by simp at h1
  | _ + 1, 0, _ :: _, _, h2 => by simp at h2
theorem hand_fuel : ∀ (f g : Nat) (l : List Css), l.length ≤ f → l.length ≤ g → handT f l = handT g l
  | 0, 0, [], _, _ => rfl
  | 0, g + 1, [], _, _ => rfl
  | f + 1, 0, [], _, _ => rfl
  | f + 1, g + 1, [], _, _ => rfl
  | f + 1, g + 1, x :: l, h1, h2 => by
    have := rest_len x l
    simp only [List.length_cons] at h1 h2
    simp only [handT]
    rw [hand_fuel f g (restT (x :: l)) (by omega) (by omega)]
  | 0, _, _ :: _, h1, _ => by simp at h1
  | _ + 1, 0, _ :: _, _, h2 => by simp at h2
/-- What is handed on tells what is parsed. -/
theorem hand_parse : ∀ (f : Nat) (l : List Css), l.length ≤ f → parseT f l = if (handT f l).all (·.2) then some ((handT f l).map (·.1)) else none
  | 0, [], _ => rfl
  | f + 1, [], _ => rfl
  | 0, _ :: _, h => by simp at h
  | f + 1, x :: l, h => by
    have h1 := rest_len x l
    simp only [List.length_cons] at h
    have ih := hand_parse f (restT (x :: l)) (by omega)
    cases hf : fitT (x :: l)
    · have e1 : handT (f + 1) (x :: l) = [(guessT (x :: l), false)] := by simp [handT, hf]
      have e2 : parseT (f + 1) (x :: l) = none := by simp [parseT, hf]
      rw [e1, e2]; rfl
    · have e1 : handT (f + 1) (x :: l) = (guessT (x :: l), true) :: handT f (restT (x :: l)) := by simp [handT, hf]
      have e2 : parseT (f + 1) (x :: l) = (parseT f (restT (x :: l))).map (guessT (x :: l) :: ·) := by simp [parseT, hf]
      rw [e1, e2, ih]
      simp only [List.all_cons, Bool.true_and, List.map_cons]
      split <;> simp
theorem take_of {l t : List Css} (h : l.take t.length = t) : l = t ++ l.drop t.length := by
  conv => lhs; rw [← List.take_append_drop t.length l]
  rw [h]
/-- Pieces that tell steps are the pieces of these. -/
theorem parse_pieces : ∀ (f : Nat) (l : List Css) (ss : List St), parseT f l = some ss → piecesT ss = l
  | _, [], ss, h => by
    have : ss = [] := by
      cases ‹Nat› <;> (simp [parseT] at h; exact h)
    subst this; rfl
  | 0, _ :: _, ss, h => by simp [parseT] at h
  | f + 1, x :: l, ss, h => by
    simp only [parseT] at h
    split at h
    · rename_i hf
      simp only [Option.map_eq_some_iff] at h
      obtain ⟨r, h1, rfl⟩ := h
      have ih := parse_pieces f _ r h1
      simp only [fitT, decide_eq_true_eq] at hf
      show toldT (guessT (x :: l)) ++ piecesT r = _
      rw [ih, restT]
      exact (take_of hf).symm
    · cases h
theorem tdiv_mul (n k : Int) (hk : 0 < k) : (n * k).tdiv k = n := Int.mul_tdiv_cancel n (by omega)
theorem guess_told {s : St} (h : mayB s = true) (r : List Css) : guessT (toldT s ++ r) = s := by
  obtain ⟨k, x, y⟩ := s
  unfold mayB at h
  simp only at h
  by_cases h1 : k = 1
  · subst h1
    simp only [toldT, if_true, List.cons_append, guessT, fnC]
    simp only [atI, List.getElem?_cons_succ, List.getElem?_cons_zero, nuC]
    rw [tdiv_mul _ _ (by omega), tdiv_mul _ _ (by omega)]
  · rw [if_neg h1] at h
    by_cases h2 : k = 2
    · subst h2
      rw [if_pos rfl] at h
      simp only [Bool.and_eq_true, decide_eq_true_eq] at h
      obtain ⟨_, rfl⟩ := h
      have e : turnT ≠ moveT := by decide
      simp only [toldT, if_neg h1, if_true, List.cons_append, guessT, fnC]
      rw [if_neg e]
      simp only [atI, List.getElem?_cons_succ, List.getElem?_cons_zero, nuC]
      rw [tdiv_mul _ _ (by omega), Int.mul_comm, tdiv_mul _ _ (by omega)]
    · rw [if_neg h2] at h
      by_cases h3 : k = 3
      · subst h3
        rw [if_pos rfl] at h
        simp only [Bool.and_eq_true, decide_eq_true_eq] at h
        obtain ⟨_, rfl⟩ := h
        have e : scaleT ≠ moveT := by decide
        have e2 : scaleT ≠ turnT := by decide
        simp only [toldT, if_neg h1, if_neg h2, if_true, List.cons_append, guessT, fnC]
        rw [if_neg e, if_neg e2]
        simp only [atI, List.getElem?_cons_succ, List.getElem?_cons_zero, nuC]
        rw [tdiv_mul _ _ (by omega)]
      · rw [if_neg h3] at h
        by_cases h4 : k = 4
        · subst h4
          rw [if_pos rfl] at h
          simp only [Bool.and_eq_true, decide_eq_true_eq] at h
          obtain ⟨rfl, rfl⟩ := h
          have e : flipT ≠ moveT := by decide
          have e2 : flipT ≠ turnT := by decide
          have e3 : flipT ≠ scaleT := by decide
          simp only [toldT, if_neg h1, if_neg h2, if_neg h3, List.cons_append, guessT, fnC]
          rw [if_neg e, if_neg e2, if_neg e3]
        · rw [if_neg h4] at h; cases h
theorem fit_told {s : St} (h : mayB s = true) (r : List Css) : fitT (toldT s ++ r) = true ∧ restT (toldT s ++ r) = r := by
  have hg := guess_told h r
  unfold fitT restT
  rw [hg]
  exact ⟨by simp, by simp⟩
/-- Steps' pieces tell these steps. -/
theorem pieces_parse : ∀ (ss : List St), (∀ s ∈ ss, mayB s = true) → ∀ f, (piecesT ss).length ≤ f → parseT f (piecesT ss) = some ss
  | [], _, f, _ => by cases f <;> rfl
  | s :: ss, h, f, hf => by
    obtain ⟨h1, h2⟩ := fit_told (h s (List.mem_cons_self ..)) (piecesT ss)
    have hg := guess_told (h s (List.mem_cons_self ..)) (piecesT ss)
    have e : piecesT (s :: ss) = toldT s ++ piecesT ss := rfl
    rw [e] at hf ⊢
    rw [List.length_append] at hf
    have h3 := (told_len3 s).1
    obtain ⟨g, rfl⟩ : ∃ g, f = g + 1 := ⟨f - 1, by omega⟩
    have ih := pieces_parse ss (fun t ht => h t (List.mem_cons_of_mem _ ht)) g (by omega)
    cases ht : toldT s with
    | nil => exact absurd ht (told_ne s)
    | cons x l =>
      rw [ht, List.cons_append] at h1 h2 hg
      rw [List.cons_append, parseT, h1, if_pos rfl, h2, ih, hg]; rfl
theorem right_may {ss : List St} (h : rightB ss = true) : (∀ s ∈ ss, mayB s = true) ∧ ss.length ≤ 8 := by
  simp only [rightB, Bool.and_eq_true, List.all_eq_true, decide_eq_true_eq] at h
  exact h
theorem steps_pieces {ss : List St} (h : rightB ss = true) : stepsT (piecesT ss) = some ss := by
  unfold stepsT
  rw [pieces_parse ss (right_may h).1 _ (Nat.le_refl _)]
  simp [h]
theorem pieces_steps {l : List Css} {ss : List St} (h : stepsT l = some ss) : piecesT ss = l ∧ rightB ss = true := by
  unfold stepsT at h
  split at h
  · rename_i r hr
    split at h
    · rename_i h2
      cases h
      exact ⟨parse_pieces _ _ _ hr, h2⟩
    · cases h
  · cases h
/-! What may be. -/
def unitB (u : Bs) : Bool := decide (u = [] ∨ u = [37] ∨ u = pxT ∨ u = [101, 109] ∨ u = [114, 101, 109] ∨ u = [112, 116] ∨ u = [118, 104] ∨ u = [118, 119] ∨ u = degT ∨ u = [115] ∨ u = [109, 115])
def hexB (c : UInt8) : Bool := digB c || decide (65 ≤ c.toNat ∧ c.toNat ≤ 70 ∨ 97 ≤ c.toNat ∧ c.toNat ≤ 102)
def hashB (t : Bs) : Bool := decide (t.length = 3 ∨ t.length = 4 ∨ t.length = 6 ∨ t.length = 8) && t.all hexB
def plain0 (x : Css) : Bool :=
  if x.kind = 1 ∨ x.kind = 5 then true else if x.kind = 3 then unitB x.unit else if x.kind = 4 then hashB x.text else if x.kind = 6 then decide (x.text = [44] ∨ x.text = [47]) else false
def plainC (x : Css) : Bool := plain0 x && rightC x
def rgbT : Bs := [114, 103, 98]
def rgbaT : Bs := [114, 103, 98, 97]
def hslT : Bs := [104, 115, 108]
def hslaT : Bs := [104, 115, 108, 97]
def colourC (x : Css) : Bool := decide (x = fnC rgbT ∨ x = fnC rgbaT ∨ x = fnC hslT ∨ x = fnC hslaT)
def valF : Bool → List Css → Bool
  | o, [] => !o
  | o, x :: l => if plainC x then valF o l else if !o && colourC x then valF true l else if o && decide (x = mark1 41) then valF false l else false
end Go.Proofs.YtgcccpdadponiaaGreatDoor
