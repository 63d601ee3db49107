/- Plain laws: the pieces of a style, and pieces as text. No program in sight. -/
import Derived.Test.YtgcccpdadponiaaGreatDoorKB
namespace Go.Proofs.YtgcccpdadponiaaGreatDoor
def letB (c : UInt8) : Bool := upB c || lowB c
def begB (c : UInt8) : Bool := letB c || decide (c.toNat = 95)
def goB (c : UInt8) : Bool := begB c || digB c || decide (c.toNat = 45)
def sgB (c : UInt8) : Bool := decide (c.toNat = 43 ∨ c.toNat = 45)
def qtB (c : UInt8) : Bool := decide (c.toNat = 34 ∨ c.toNat = 39)
def plB (c : UInt8) : Bool := decide (32 ≤ c.toNat ∧ c.toNat ≠ 127 ∧ c.toNat ≠ 92 ∧ c.toNat ≠ 34 ∧ c.toNat ≠ 39)
def mkB (c : UInt8) : Bool := [58, 59, 44, 40, 41, 47, 33, 42, 43, 46, 62, 61, 45].contains c
def lwB (c : UInt8) : UInt8 := if upB c then c + 32 else c
def lowL (s : Bs) : Bs := s.map lwB
/-- How many there are at the beginning. -/
def twc (p : UInt8 → Bool) (l : Bs) : Nat := (l.takeWhile p).length

structure Css where
  kind : Int
  text : Bs
  num : Int
  unit : Bs
deriving DecidableEq
def badC : Css := ⟨7, [], 0, []⟩
def namedC (k : Int) (t : Bs) : Css := if 64 < t.length then badC else ⟨k, lowL t, 0, []⟩

/-- Does a name begin here? -/
def nameB : Bs → Bool
  | [] => false
  | c :: r => begB c || (decide (c.toNat = 45) && match r with
    | [] => false
    | d :: _ => begB d)
def hd (p : UInt8 → Bool) : Bs → Bool
  | [] => false
  | c :: _ => p c
def nameC (s : Bs) : Css × Nat :=
  if 64 < twc goB s then (badC, twc goB s)
  else if hd (fun c => decide (c.toNat = 40)) (s.drop (twc goB s)) then (⟨2, lowL (s.take (twc goB s)), 0, []⟩, twc goB s + 1)
  else (⟨1, lowL (s.take (twc goB s)), 0, []⟩, twc goB s)

/-- A number's parts: how many bytes its sign has, its figures ahead of the point, and behind it, its unit. -/
def sgN (s : Bs) : Nat := if hd sgB s then 1 else 0
def dotN : Bs → Nat
  | [] => 0
  | c :: r => if c.toNat = 46 then twc digB r else 0
def unitN : Bs → Nat
  | [] => 0
  | c :: r => if c.toNat = 37 then 1 else if letB c then twc goB (c :: r) else 0
def valL (ds : Bs) : Nat := ds.foldl (fun n c => n * 10 + (c.toNat - 48)) 0
structure Num where
  neg : Bool
  whole : Bs
  part : Bs
  unit : Bs
  to : Nat
def numP (s : Bs) : Num :=
  let u := s.drop (sgN s)
  let v := u.drop (twc digB u)
  let r := if dotN v = 0 then v else v.drop (dotN v + 1)
  ⟨hd (fun c => decide (c.toNat = 45)) s, u.take (twc digB u), (v.drop 1).take (dotN v), r.take (unitN r), sgN s + twc digB u + (if dotN v = 0 then 0 else dotN v + 1)⟩
def numOf (x : Num) : Option (Css × Nat) :=
  if x.whole = [] ∧ x.part = [] then none
  else if 6 < x.whole.length ∨ 3 < x.part.length ∨ 64 < x.unit.length then some (badC, x.to + x.unit.length)
  else some (⟨3, [], if x.neg then -(valL (x.whole ++ x.part ++ List.replicate (3 - x.part.length) 48) : Int) else valL (x.whole ++ x.part ++ List.replicate (3 - x.part.length) 48), lowL x.unit⟩, x.to + x.unit.length)
def numC (s : Bs) : Option (Css × Nat) := numOf (numP s)

def quotC : Bs → Option (Css × Nat)
  | [] => none
  | c :: r => if qtB c && hd (fun d => decide (d = c)) (r.drop (twc plB r)) then some (⟨5, r.take (twc plB r), 0, []⟩, twc plB r + 2) else none

def pieceC (s : Bs) : Css × Nat :=
  if nameB s then nameC s
  else match numC s with
  | some x => x
  | none => match quotC s with
    | some x => x
    | none => match s with
      | [] => (badC, 1)
      | c :: r => if c.toNat = 35 ∧ 0 < twc goB r then (namedC 4 (r.take (twc goB r)), twc goB r + 1) else if mkB c then (⟨6, [c], 0, []⟩, 1) else (badC, 1)

/-- A text without what is passed over at its beginning. 0: outside; 2: within a remark; 1, 3: one byte more is passed over, then it goes on so. -/
def blkM : Nat → Bs → Bs
  | _, [] => []
  | 0, c :: r => if spB c then blkM 0 r else if c.toNat = 47 ∧ hd (fun d => decide (d.toNat = 42)) r = true then blkM 1 r else c :: r
  | 1, _ :: r => blkM 2 r
  | 2, c :: r => if c.toNat = 42 ∧ hd (fun d => decide (d.toNat = 47)) r = true then blkM 3 r else blkM 2 r
  | _, _ :: r => blkM 0 r
def cssF : Nat → Bs → List Css
  | 0, _ => []
  | f + 1, s => match blkM 0 s with
    | [] => []
    | c :: r => (pieceC (c :: r)).1 :: cssF f ((c :: r).drop (pieceC (c :: r)).2)
def cssL (s : Bs) : List Css := cssF (s.length + 1) s

/-- Figures. -/
def fgB (d : Nat) : UInt8 := UInt8.ofNat (48 + d)
def figF : Nat → Nat → Bs
  | 0, n => [fgB (n % 10)]
  | f + 1, n => if n < 10 then [fgB n] else figF f (n / 10) ++ [fgB (n % 10)]
def figL (n : Nat) : Bs := figF 20 n
def fracL (p : Nat) : Bs :=
  if p = 0 then [] else 46 :: fgB (p / 100) :: (if p % 100 = 0 then [] else fgB (p / 10 % 10) :: (if p % 10 = 0 then [] else [fgB (p % 10)]))
def figuresL (n : Int) : Bs := (if n < 0 then [45] else []) ++ figL (n.natAbs / 1000) ++ fracL (n.natAbs % 1000)
def toldC (x : Css) : Bs :=
  if x.kind = 1 ∨ x.kind = 6 then x.text else if x.kind = 2 then x.text ++ [40] else if x.kind = 3 then figuresL x.num ++ x.unit
  else if x.kind = 4 then 35 :: x.text else if x.kind = 5 then 34 :: x.text ++ [34] else []
def rightC (x : Css) : Bool := decide (x.kind ≠ 7) && decide (cssL (toldC x) = [x])
def joinC : List Bs → Bs
  | [] => []
  | [u] => u
  | u :: v :: l => u ++ 32 :: joinC (v :: l)
def textC (l : List Css) : Bs := joinC (l.map toldC)

/-! How far these look. -/
theorem twc_le (p : UInt8 → Bool) (l : Bs) : twc p l ≤ l.length := (List.takeWhile_sublist p).length_le
theorem twc_take (p : UInt8 → Bool) (l : Bs) : l.take (twc p l) = l.takeWhile p := by
  unfold twc
  induction l with
  | nil => rfl
  | cons c r ih => by_cases h : p c <;> simp [h, ih]
theorem twc_drop (p : UInt8 → Bool) (l : Bs) : l.drop (twc p l) = l.dropWhile p := by
  unfold twc
  induction l with
  | nil => rfl
  | cons c r ih => by_cases h : p c <;> simp [h, ih]
theorem twc_stop (p : UInt8 → Bool) (s r : Bs) (h : hd p r = false) : twc p (s ++ r) = twc p s := by
  unfold twc
  induction s with
  | nil =>
    cases r with
    | nil => rfl
    | cons c r => simp [hd] at h; simp [h]
  | cons c s ih => by_cases hc : p c <;> simp [hc, ih]
theorem twc_all (p : UInt8 → Bool) (s : Bs) (h : s.all p = true) : twc p s = s.length := by
  unfold twc
  induction s with
  | nil => rfl
  | cons c s ih =>
    simp only [List.all_cons, Bool.and_eq_true] at h
    simp [h.1, ih h.2]
theorem all_take (p : UInt8 → Bool) (s : Bs) : (s.take (twc p s)).all p = true := by
  rw [twc_take]
  induction s with
  | nil => rfl
  | cons c s ih => by_cases hc : p c <;> simp [hc, ih]
theorem twc_run (p : UInt8 → Bool) (s r : Bs) (h : s.all p = true) (hr : hd p r = false) : twc p (s ++ r) = s.length := by
  rw [twc_stop p s r hr, twc_all p s h]
theorem twc_ge (p : UInt8 → Bool) (s r : Bs) (h : s.all p = true) : s.length ≤ twc p (s ++ r) := by
  unfold twc
  induction s with
  | nil => simp
  | cons c s ih =>
    simp only [List.all_cons, Bool.and_eq_true] at h
    simp [h.1]; exact ih h.2
theorem hd_app (p : UInt8 → Bool) (s r : Bs) : hd p (s ++ r) = if s = [] then hd p r else hd p s := by
  cases s <;> simp [hd]
/-- Where a piece surely ends: spaces, a colon, a semicolon. -/
def endB (c : UInt8) : Bool := spB c || decide (c.toNat = 58 ∨ c.toNat = 59)
/-- Nothing that a piece goes on with. -/
def Ends (r : Bs) : Prop := r = [] ∨ ∃ c t, r = c :: t ∧ endB c = true
theorem sp_no {c : UInt8} (h : endB c = true) : goB c = false ∧ digB c = false ∧ begB c = false ∧ letB c = false ∧ sgB c = false ∧ c.toNat ≠ 40 ∧ c.toNat ≠ 46 ∧ c.toNat ≠ 37 ∧ c.toNat ≠ 42 ∧ c.toNat ≠ 47 ∧ c.toNat ≠ 45 := by
  simp only [endB, spB, goB, digB, begB, letB, sgB, upB, lowB, decide_eq_true_eq, Bool.or_eq_true, Bool.or_eq_false_iff, decide_eq_false_iff_not] at *
  omega
theorem Ends.hd {r : Bs} (h : Ends r) (p : UInt8 → Bool) (hp : ∀ c, endB c = true → p c = false) : hd p r = false := by
  rcases h with rfl | ⟨c, t, rfl, hc⟩
  · rfl
  · exact hp c hc
theorem drop_app (s r : Bs) (n : Nat) (h : n ≤ s.length) : (s ++ r).drop n = s.drop n ++ r := List.drop_append_of_le_length h
theorem take_app (s r : Bs) (n : Nat) (h : n ≤ s.length) : (s ++ r).take n = s.take n := List.take_append_of_le_length h
theorem nameB_app {s r : Bs} (hs : s ≠ []) (h : Ends r) : nameB (s ++ r) = nameB s := by
  cases s with
  | nil => exact absurd rfl hs
  | cons c s =>
    cases s with
    | nil =>
      rcases h with rfl | ⟨d, t, rfl, hd⟩
      · rfl
      · simp [nameB, (sp_no hd).2.2.1]
    | cons d s => rfl
theorem nameC_app {s r : Bs} (h : Ends r) : nameC (s ++ r) = nameC s := by
  have h1 : twc goB (s ++ r) = twc goB s := twc_stop _ _ _ (h.hd _ fun c hc => (sp_no hc).1)
  have hle := twc_le goB s
  unfold nameC
  rw [h1, drop_app _ _ _ hle, take_app _ _ _ hle, hd_app]
  split
  · rfl
  · by_cases hd0 : s.drop (twc goB s) = []
    · rw [if_pos hd0, hd0, h.hd _ fun c hc => by simp [(sp_no hc).2.2.2.2.2.1]]
      rfl
    · rw [if_neg hd0]
theorem dotN_app {s r : Bs} (h : Ends r) : dotN (s ++ r) = dotN s := by
  cases s with
  | nil =>
    rcases h with rfl | ⟨c, t, rfl, hc⟩
    · rfl
    · simp [dotN, (sp_no hc).2.2.2.2.2.2.1]
  | cons c s =>
    simp only [List.cons_append, dotN]
    split
    · exact twc_stop _ _ _ (h.hd _ fun c hc => (sp_no hc).2.1)
    · rfl
theorem unitN_app {s r : Bs} (h : Ends r) : unitN (s ++ r) = unitN s := by
  cases s with
  | nil =>
    rcases h with rfl | ⟨c, t, rfl, hc⟩
    · rfl
    · simp [unitN, (sp_no hc).2.2.2.2.2.2.2.1, (sp_no hc).2.2.2.1]
  | cons c s =>
    simp only [List.cons_append, unitN]
    split
    · rfl
    · split
      · exact twc_stop _ (c :: s) _ (h.hd _ fun c hc => (sp_no hc).1)
      · rfl
theorem dotN_le (s : Bs) : dotN s = 0 ∨ dotN s + 1 ≤ s.length := by
  cases s with
  | nil => exact .inl rfl
  | cons c s =>
    simp only [dotN]
    split
    · have := twc_le digB s; right; simp; exact this
    · exact .inl rfl
theorem unitN_le (s : Bs) : unitN s ≤ s.length := by
  cases s with
  | nil => exact Nat.le_refl _
  | cons c s =>
    simp only [unitN]
    split
    · simp
    · split
      · exact twc_le goB (c :: s)
      · simp
theorem sgN_le (s : Bs) : sgN s ≤ s.length := by
  unfold sgN
  cases s with
  | nil => simp [hd]
  | cons c r => by_cases h : sgB c = true <;> simp [hd, h]
theorem numP_app {s r : Bs} (hs : s ≠ []) (h : Ends r) : numP (s ++ r) = numP s := by
  have h1 : sgN (s ++ r) = sgN s := by unfold sgN; rw [hd_app, if_neg hs]
  have h0 : hd (fun c => decide (c.toNat = 45)) (s ++ r) = hd (fun c => decide (c.toNat = 45)) s := by rw [hd_app, if_neg hs]
  have h2 : ∀ u : Bs, twc digB (u ++ r) = twc digB u := fun u => twc_stop _ _ _ (h.hd _ fun c hc => (sp_no hc).2.1)
  have h3 := sgN_le s
  unfold numP
  simp only [h0, h1, drop_app s r _ h3, h2]
  generalize s.drop (sgN s) = u
  rw [drop_app u r _ (twc_le digB u), take_app u r _ (twc_le digB u)]
  generalize hv : u.drop (twc digB u) = v
  rw [dotN_app h]
  rcases dotN_le v with hd0 | hd1
  · simp only [hd0, if_true, List.take_zero, unitN_app h]
    rw [take_app v r _ (unitN_le v)]
  · have hne : dotN v ≠ 0 ∨ dotN v = 0 := by omega
    rcases hne with hne | hne
    · simp only [if_neg hne]
      rw [drop_app v r 1 (by omega), drop_app v r _ hd1, take_app (v.drop 1) r _ (by simp; omega), unitN_app h, take_app _ r _ (unitN_le _)]
    · simp only [hne, if_true, List.take_zero, unitN_app h]
      rw [take_app v r _ (unitN_le v)]
theorem quotC_app {s r : Bs} {x : Css × Nat} (hq : quotC s = some x) : quotC (s ++ r) = some x := by
  cases s with
  | nil => simp [quotC] at hq
  | cons c s =>
    simp only [quotC] at hq
    split at hq
    · rename_i h
      rw [Bool.and_eq_true] at h
      obtain ⟨hq1, hq2⟩ := h
      have hlt : twc plB (s ++ r) = twc plB s ∧ hd (fun d => decide (d = c)) ((s ++ r).drop (twc plB s)) = true := by
        have hle := twc_le plB s
        generalize hd0 : s.drop (twc plB s) = t at hq2
        cases t with
        | nil => simp [hd] at hq2
        | cons d t =>
          have hpl : plB d = false := by
            simp [hd] at hq2
            subst hq2
            simp [qtB] at hq1
            simp only [plB, decide_eq_false_iff_not]; omega
          have hs : s = s.take (twc plB s) ++ d :: t := by rw [← hd0]; exact (List.take_append_drop _ _).symm
          refine ⟨?_, by rw [drop_app _ _ _ hle, hd0]; exact hq2⟩
          have e1 : twc plB (s ++ r) = (s.take (twc plB s)).length := by
            conv => lhs; rw [hs, List.append_assoc]
            exact twc_run _ _ _ (all_take plB s) hpl
          rw [e1, List.length_take]; omega
      simp only [List.cons_append, quotC, hlt.1, hq1, hlt.2, Bool.and_self, if_true]
      rw [take_app _ _ _ (twc_le plB s)]
      exact hq
    · cases hq
theorem piece_app {s r : Bs} (hs : s ≠ []) (h : Ends r) (hb : (pieceC s).1.kind ≠ 7) : pieceC (s ++ r) = pieceC s := by
  unfold pieceC at hb ⊢
  rw [nameB_app hs h]
  cases hn : nameB s
  · rw [hn] at hb
    simp only [Bool.false_eq_true, if_false] at hb ⊢
    rw [show numC (s ++ r) = numC s from by unfold numC; rw [numP_app hs h]]
    cases hm : numC s with
    | some x => rfl
    | none =>
      rw [hm] at hb
      cases hq : quotC s with
      | some x => rw [quotC_app hq]
      | none =>
        rw [hq] at hb
        cases s with
        | nil => exact absurd rfl hs
        | cons c s =>
          have hqt : qtB c = false := by
            cases hc : qtB c
            · rfl
            · exfalso
              apply hb
              have h35 : c.toNat ≠ 35 := by simp [qtB] at hc; omega
              have hmk : mkB c = false := by
                simp [qtB] at hc
                unfold mkB
                rcases hc with hc | hc
                · have : c = 34 := UInt8.toNat_inj.1 hc
                  subst this; decide
                · have : c = 39 := UInt8.toNat_inj.1 hc
                  subst this; decide
              simp [h35, hmk, badC]
          have hq2 : quotC (c :: s ++ r) = none := by simp [quotC, hqt]
          have ht : twc goB (s ++ r) = twc goB s := twc_stop _ _ _ (h.hd _ fun c hc => (sp_no hc).1)
          rw [hq2]
          simp only [List.cons_append, ht, take_app _ _ _ (twc_le goB s)]
  · simp only [if_true, nameC_app h]
theorem nameB_pos {s : Bs} (h : nameB s = true) : 1 ≤ twc goB s := by
  cases s with
  | nil => simp [nameB] at h
  | cons c r =>
    have : goB c = true := by
      simp only [nameB, Bool.or_eq_true, Bool.and_eq_true, decide_eq_true_eq] at h
      simp only [goB, Bool.or_eq_true, decide_eq_true_eq]
      rcases h with h | ⟨h, _⟩
      · exact .inl (.inl h)
      · exact .inr h
    simp [twc, this]
end Go.Proofs.YtgcccpdadponiaaGreatDoor
