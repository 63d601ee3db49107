/- Plain laws: declarations of styles. No program in sight. -/
import Derived.Test.YtgcccpdadponiaaGreatDoorCssPlainC
namespace Go.Proofs.YtgcccpdadponiaaGreatDoor
structure Dcl where
  name : Bs
  value : List Css
  imp : Bool
deriving DecidableEq
def mk1 (k : UInt8) (x : Css) : Bool := decide (x.kind = 6) && decide (x.text = [k])
def opC (x : Css) : Bool := decide (x.kind = 2) || mk1 40 x
/-- How deep it is behind a piece. -/
def dn (d : Nat) (x : Css) : Nat := if opC x then d + 1 else if mk1 41 x then d - 1 else d
def evenF : Nat → List Css → Bool
  | d, [] => decide (d = 0)
  | d, x :: l => if mk1 41 x && decide (d = 0) then false else evenF (dn d x) l
def okC (x : Css) : Bool := decide (x.kind ≠ 7) && !mk1 59 x && !mk1 33 x
def mayC (l : List Css) : Bool := !l.isEmpty && evenF 0 l && l.all okC
def partsL : Nat → List Css → List (List Css)
  | _, [] => [[]]
  | d, x :: l => if mk1 59 x && decide (d = 0) then [] :: partsL 0 l else match partsL (dn d x) l with
    | [] => [[x]]
    | p :: ps => (x :: p) :: ps
def impT : Bs := [105, 109, 112, 111, 114, 116, 97, 110, 116]
def impC (x : Css) : Bool := decide (x.kind = 1) && decide (x.text = impT)
/-- Does it end with what says that it is important? -/
def urg (l : List Css) : Bool := match l[l.length - 2]?, l[l.length - 1]? with
  | some a, some b => decide (2 ≤ l.length) && mk1 33 a && impC b
  | _, _ => false
def urgV (l : List Css) : List Css := if urg l then l.take (l.length - 2) else l
def declOf : List Css → Option Dcl
  | a :: b :: r => if decide (a.kind = 1) && mk1 58 b && mayC (urgV r) then some ⟨a.text, urgV r, urg r⟩ else none
  | _ => none
def declsL (l : List Css) : List Dcl := (partsL 0 l).filterMap declOf
def impS : Bs := [32, 33, 32] ++ impT
def toldD (d : Dcl) : Bs := d.name ++ [58, 32] ++ textC d.value ++ (if d.imp then impS else [])
def joinS : List Bs → Bs
  | [] => []
  | [u] => u
  | u :: v :: l => u ++ 59 :: 32 :: joinS (v :: l)
def textD (l : List Dcl) : Bs := joinS (l.map toldD)
def rightD (d : Dcl) : Bool := d.value.all rightC && mayC d.value && rightC ⟨1, d.name, 0, []⟩
def mark1 (k : UInt8) : Css := ⟨6, [k], 0, []⟩
def toksD (d : Dcl) : List Css := ⟨1, d.name, 0, []⟩ :: mark1 58 :: (d.value ++ if d.imp then [mark1 33, ⟨1, impT, 0, []⟩] else [])
def toksL : List Dcl → List Css
  | [] => []
  | [d] => toksD d
  | d :: e :: l => toksD d ++ mark1 59 :: toksL (e :: l)

/-! What pieces are. -/
theorem piece_form {s : Bs} (hs : s ≠ []) {x : Css} {n : Nat} (h : pieceC s = (x, n)) : (x.kind = 1 → x.num = 0 ∧ x.unit = [] ∧ lowL x.text = x.text) ∧ (x.kind = 6 → ∃ c, x = mark1 c) := by
  unfold pieceC at h
  cases hn : nameB s
  · rw [hn] at h
    simp only [Bool.false_eq_true, if_false] at h
    cases hm : numC s with
    | some y =>
      rw [hm] at h
      simp only at h
      subst h
      obtain ⟨_, _, h3⟩ := numC_some hm
      rcases h3 with rfl | ⟨_, _, _, rfl⟩
      · exact ⟨fun h => absurd h (by decide), fun h => absurd h (by decide)⟩
      · exact ⟨fun h => absurd h (by simp), fun h => absurd h (by simp)⟩
    | none =>
      rw [hm] at h
      simp only at h
      cases hq : quotC s with
      | some y =>
        rw [hq] at h
        simp only at h
        subst h
        obtain ⟨c, r, rfl, h1, h2, rfl⟩ := quotC_some hq
        exact ⟨fun h => absurd h (by simp), fun h => absurd h (by simp)⟩
      | none =>
        rw [hq] at h
        simp only at h
        cases s with
        | nil => exact absurd rfl hs
        | cons c r =>
          simp only at h
          split at h
          · simp only [Prod.mk.injEq] at h
            obtain ⟨rfl, _⟩ := h
            unfold namedC
            split
            · exact ⟨fun h => absurd h (by decide), fun h => absurd h (by decide)⟩
            · exact ⟨fun h => absurd h (by simp), fun h => absurd h (by simp)⟩
          · split at h
            · simp only [Prod.mk.injEq] at h
              obtain ⟨rfl, _⟩ := h
              exact ⟨fun h => absurd h (by simp), fun _ => ⟨c, rfl⟩⟩
            · simp only [Prod.mk.injEq] at h
              obtain ⟨rfl, _⟩ := h
              exact ⟨fun h => absurd h (by decide), fun h => absurd h (by decide)⟩
  · rw [hn] at h
    simp only [if_true] at h
    unfold nameC at h
    split at h
    · simp only [Prod.mk.injEq] at h
      obtain ⟨rfl, _⟩ := h
      exact ⟨fun h => absurd h (by decide), fun h => absurd h (by decide)⟩
    · split at h
      · simp only [Prod.mk.injEq] at h
        obtain ⟨rfl, _⟩ := h
        exact ⟨fun h => absurd h (by simp), fun h => absurd h (by simp)⟩
      · simp only [Prod.mk.injEq] at h
        obtain ⟨rfl, _⟩ := h
        exact ⟨fun _ => ⟨rfl, rfl, low_low _⟩, fun h => absurd h (by simp)⟩
theorem right_form {x : Css} (h : rightC x = true) : (x.kind = 1 → x.num = 0 ∧ x.unit = [] ∧ lowL x.text = x.text) ∧ (x.kind = 6 → ∃ c, x = mark1 c) := by
  obtain ⟨h1, h2⟩ := right_piece h
  exact piece_form (by intro h0; rw [h0] at h1; exact h1) h2
/-- As pieces of a text are. -/
def Proper (x : Css) : Prop := (x.kind = 1 → x.num = 0 ∧ x.unit = []) ∧ (x.kind = 6 → ∃ c, x = mark1 c)
theorem proper_right {x : Css} (h : rightC x = true) : Proper x := ⟨fun h1 => ⟨((right_form h).1 h1).1, ((right_form h).1 h1).2.1⟩, (right_form h).2⟩
theorem proper_scan {s : Bs} : ∀ x ∈ cssL s, Proper x := by
  intro x hx
  by_cases h7 : x.kind = 7
  · exact ⟨fun h => by omega, fun h => by omega⟩
  · exact proper_right (scan_right _ s x hx h7)
/-! What is told is scanned as its pieces. -/
theorem mark_right (k : UInt8) (h : k = 58 ∨ k = 33 ∨ k = 59) : rightC (mark1 k) = true := by
  rcases h with rfl | rfl | rfl <;> decide +kernel
theorem imp_right : rightC ⟨1, impT, 0, []⟩ = true := by decide +kernel
theorem told_mark (k : UInt8) : toldC (mark1 k) = [k] := rfl
theorem ends_sp (r : Bs) : Ends (32 :: r) := .inr ⟨32, r, rfl, by decide⟩
theorem ends_colon (r : Bs) : Ends (58 :: r) := .inr ⟨58, r, rfl, by decide⟩
theorem ends_semi (r : Bs) : Ends (59 :: r) := .inr ⟨59, r, rfl, by decide⟩
theorem scan_mark (k : UInt8) (h : k = 58 ∨ k = 33 ∨ k = 59) (r : Bs) (hr : Ends r) : cssL (k :: r) = mark1 k :: cssL r := told_scan (mark_right k h) hr
/-- A semicolon is a piece, whatever follows. -/
theorem scan_semi (r : Bs) : cssL (59 :: r) = mark1 59 :: cssL r := by
  have h1 : Solid (59 :: r) := ⟨by decide, fun h => absurd h.1 (by decide)⟩
  have h2 : pieceC (59 :: r) = (mark1 59, 1) := by
    have q4 : nameB (59 :: r) = false := by
      have : begB 59 = false := by decide
      simp [nameB, this]
    have q3 : numC (59 :: r) = none := by
      have e1 : sgN (59 :: r) = 0 := rfl
      have e2 : twc digB (59 :: r) = 0 := rfl
      have e3 : dotN (59 :: r) = 0 := rfl
      unfold numC numP
      simp only [e1, e2, e3, List.drop_zero, List.take_zero]
      rfl
    have q2 : quotC (59 :: r) = none := rfl
    unfold pieceC
    rw [q4, q3, q2]
    rfl
  rw [scan_solid h1, h2]; rfl
theorem told_toks {d : Dcl} (h : rightD d = true) (r : Bs) (hr : Ends r) : cssL (toldD d ++ r) = toksD d ++ cssL r := by
  simp only [rightD, Bool.and_eq_true, List.all_eq_true] at h
  obtain ⟨⟨h1, _⟩, h3⟩ := h
  have e1 : toldD d ++ r = d.name ++ (58 :: 32 :: (textC d.value ++ ((if d.imp then impS else []) ++ r))) := by
    unfold toldD; simp
  have hv : Ends ((if d.imp then impS else []) ++ r) := by
    cases d.imp
    · exact hr
    · exact ends_sp _
  have e2 : cssL ((if d.imp then impS else []) ++ r) = (if d.imp then [mark1 33, ⟨1, impT, 0, []⟩] else []) ++ cssL r := by
    cases d.imp
    · rfl
    · show cssL (32 :: 33 :: 32 :: (impT ++ r)) = _
      rw [scan_sp (by decide), scan_mark 33 (.inr (.inl rfl)) _ (ends_sp _), scan_sp (by decide)]
      have := told_scan imp_right hr
      rw [show toldC ⟨1, impT, 0, []⟩ = impT from rfl] at this
      rw [this]; rfl
  rw [e1]
  have := told_scan h3 (ends_colon (32 :: (textC d.value ++ ((if d.imp then impS else []) ++ r))))
  rw [show toldC ⟨1, d.name, 0, []⟩ = d.name from rfl] at this
  rw [this, scan_mark 58 (.inl rfl) _ (ends_sp _), scan_sp (by decide), text_scan _ h1 _ hv, e2]
  simp [toksD]
theorem text_toks : ∀ (l : List Dcl), (∀ d ∈ l, rightD d = true) → ∀ r, Ends r → cssL (textD l ++ r) = toksL l ++ cssL r := by
  intro l
  induction l with
  | nil => intro _ r _; rfl
  | cons d l ih =>
    intro h r hr
    have hd := h d (List.mem_cons_self ..)
    have hl := ih (fun y hy => h y (List.mem_cons_of_mem _ hy)) r hr
    cases l with
    | nil => exact told_toks hd r hr
    | cons e l =>
      show cssL ((toldD d ++ 59 :: 32 :: textD (e :: l)) ++ r) = _
      rw [List.append_assoc, List.cons_append, List.cons_append, told_toks hd _ (ends_semi _), scan_semi, scan_sp (by decide), hl]
      simp [toksL]
/-! Parts. -/
theorem parts_ne (d : Nat) (l : List Css) : ∃ p ps, partsL d l = p :: ps := by
  cases l with
  | nil => exact ⟨_, _, rfl⟩
  | cons x l =>
    simp only [partsL]
    split
    · exact ⟨_, _, rfl⟩
    · cases partsL (dn d x) l <;> exact ⟨_, _, rfl⟩
def dnF (d : Nat) (l : List Css) : Nat := l.foldl dn d
/-- Pieces without a semicolon stay together. -/
theorem parts_run : ∀ (l : List Css) (d : Nat) (rest : List Css), (∀ x ∈ l, mk1 59 x = false) → ∀ p ps, partsL (dnF d l) rest = p :: ps → partsL d (l ++ rest) = (l ++ p) :: ps := by
  intro l
  induction l with
  | nil => intro d rest _ p ps h; exact h
  | cons x l ih =>
    intro d rest hx p ps h
    have := ih (dn d x) rest (fun y hy => hx y (List.mem_cons_of_mem _ hy)) p ps h
    rw [List.cons_append, partsL, hx x (List.mem_cons_self ..)]
    simp [this]
theorem even_dn : ∀ (l : List Css) (d : Nat), evenF d l = true → dnF d l = 0 := by
  intro l
  induction l with
  | nil => intro d h; simpa [evenF, dnF] using h
  | cons x l ih =>
    intro d h
    simp only [evenF] at h
    split at h
    · cases h
    · exact ih _ h
theorem may_facts {l : List Css} (h : mayC l = true) : l ≠ [] ∧ evenF 0 l = true ∧ ∀ x ∈ l, okC x = true := by
  simp only [mayC, Bool.and_eq_true, List.all_eq_true, Bool.not_eq_true', List.isEmpty_eq_false_iff] at h
  exact ⟨h.1.1, h.1.2, h.2⟩
theorem ok_semi {x : Css} (h : okC x = true) : mk1 59 x = false ∧ mk1 33 x = false ∧ x.kind ≠ 7 := by
  simp only [okC, Bool.and_eq_true, Bool.not_eq_true', decide_eq_true_eq] at h
  exact ⟨h.1.2, h.2, h.1.1⟩
theorem toks_semi {d : Dcl} (h : rightD d = true) : (∀ x ∈ toksD d, mk1 59 x = false) ∧ dnF 0 (toksD d) = 0 := by
  simp only [rightD, Bool.and_eq_true] at h
  obtain ⟨_, he, ho⟩ := may_facts h.1.2
  have h0 : dnF 0 d.value = 0 := even_dn _ _ he
  constructor
  · intro x hx
    simp only [toksD, List.mem_cons, List.mem_append] at hx
    rcases hx with rfl | rfl | hx | hx
    · simp [mk1]
    · decide
    · exact (ok_semi (ho x hx)).1
    · split at hx
      · simp only [List.mem_cons, List.not_mem_nil, or_false] at hx
        rcases hx with rfl | rfl <;> decide
      · cases hx
  · show List.foldl dn (dn (dn 0 ⟨1, d.name, 0, []⟩) (mark1 58)) (d.value ++ _) = 0
    have e1 : dn 0 ⟨1, d.name, 0, []⟩ = 0 := by simp [dn, opC, mk1]
    have e2 : dn 0 (mark1 58) = 0 := by decide
    rw [e1, e2, List.foldl_append]
    change List.foldl dn (dnF 0 d.value) _ = 0
    rw [h0]
    cases d.imp <;> decide
theorem urg_of (v : List Css) : urg (v ++ [mark1 33, ⟨1, impT, 0, []⟩]) = true ∧ urgV (v ++ [mark1 33, ⟨1, impT, 0, []⟩]) = v := by
  have h1 : urg (v ++ [mark1 33, ⟨1, impT, 0, []⟩]) = true := by
    unfold urg
    have e1 : (v ++ [mark1 33, ⟨1, impT, 0, []⟩]).length = v.length + 2 := by simp
    rw [e1, Nat.add_sub_cancel, List.getElem?_append_right (Nat.le_refl _), Nat.sub_self, List.getElem?_append_right (by omega), show v.length + 2 - 1 - v.length = 1 by omega]
    simp; decide
  refine ⟨h1, ?_⟩
  unfold urgV
  rw [if_pos h1]; simp
theorem urg_no {v : List Css} (h : ∀ x ∈ v, okC x = true) : urg v = false ∧ urgV v = v := by
  have h1 : urg v = false := by
    unfold urg
    split
    · rename_i a b ha hb
      have := (ok_semi (h a (List.mem_of_getElem? ha))).2.1
      rw [this]; simp
    · rfl
  exact ⟨h1, by unfold urgV; rw [h1]; rfl⟩
theorem decl_toks {d : Dcl} (h : rightD d = true) : declOf (toksD d) = some d := by
  simp only [rightD, Bool.and_eq_true] at h
  obtain ⟨_, _, ho⟩ := may_facts h.1.2
  have hm := h.1.2
  obtain ⟨n, v, i⟩ := d
  simp only [toksD, declOf]
  cases i
  · obtain ⟨e1, e2⟩ := urg_no (v := v) ho
    simp only [Bool.false_eq_true, if_false, List.append_nil, e1, e2]
    simp only at hm
    rw [hm]; rfl
  · obtain ⟨e1, e2⟩ := urg_of v
    simp only [if_true, e1, e2]
    simp only at hm
    rw [hm]; rfl
/-- The declarations of what is told, and of what follows it behind a semicolon. -/
theorem decls_toks : ∀ (l : List Dcl), (∀ d ∈ l, rightD d = true) → declsL (toksL l) = l ∧ ∀ rest, declsL (toksL l ++ mark1 59 :: rest) = l ++ declsL rest := by
  have hs : ∀ rest, partsL 0 (mark1 59 :: rest) = [] :: partsL 0 rest := fun rest => by
    rw [partsL, if_pos (by decide)]
  have one : ∀ d, rightD d = true → ∀ rest, declsL (toksD d ++ mark1 59 :: rest) = d :: declsL rest := fun d hd rest => by
    obtain ⟨h1, h2⟩ := toks_semi hd
    unfold declsL
    rw [parts_run (toksD d) 0 (mark1 59 :: rest) h1 [] (partsL 0 rest) (by rw [h2, hs]), List.append_nil, List.filterMap_cons, decl_toks hd]
  intro l
  induction l with
  | nil =>
    intro _
    refine ⟨rfl, fun rest => ?_⟩
    unfold declsL
    rw [toksL, List.nil_append, hs, List.filterMap_cons]; rfl
  | cons d l ih =>
    intro h
    have hd := h d (List.mem_cons_self ..)
    obtain ⟨i1, i2⟩ := ih (fun y hy => h y (List.mem_cons_of_mem _ hy))
    cases l with
    | nil =>
      refine ⟨?_, fun rest => one d hd rest⟩
      obtain ⟨h1, h2⟩ := toks_semi hd
      have := parts_run (toksD d) 0 [] h1 [] [] (by rw [h2]; rfl)
      rw [List.append_nil] at this
      unfold declsL
      rw [toksL, this, List.filterMap_cons, decl_toks hd]; rfl
    | cons e l =>
      refine ⟨by rw [toksL, one d hd, i1], fun rest => ?_⟩
      rw [toksL, List.append_assoc, List.cons_append, one d hd, i2]; rfl
/-- What is told as text is parsed as the same. -/
theorem decl_back {l : List Dcl} (h : ∀ d ∈ l, rightD d = true) : declsL (cssL (textD l)) = l := by
  have := text_toks l h [] (.inl rfl)
  rw [List.append_nil, scan_nil (s := []) rfl, List.append_nil] at this
  rw [this]; exact (decls_toks l h).1
theorem decl_joins {l : List Dcl} (h : ∀ d ∈ l, rightD d = true) (s : Bs) : declsL (cssL (textD l ++ 59 :: s)) = l ++ declsL (cssL s) := by
  rw [text_toks l h _ (ends_semi _), scan_semi]
  exact (decls_toks l h).2 _
/-- What is parsed can be told. -/
theorem parts_mem : ∀ (l : List Css) (d : Nat), ∀ p ∈ partsL d l, ∀ x ∈ p, x ∈ l := by
  intro l
  induction l with
  | nil => intro d p hp x hx; simp [partsL] at hp; subst hp; cases hx
  | cons y l ih =>
    intro d p hp x hx
    simp only [partsL] at hp
    split at hp
    · simp only [List.mem_cons] at hp
      rcases hp with rfl | hp
      · cases hx
      · exact List.mem_cons_of_mem _ (ih 0 p hp x hx)
    · obtain ⟨q, qs, hq⟩ := parts_ne (dn d y) l
      have ih2 := ih (dn d y)
      rw [hq] at hp ih2
      simp only [List.mem_cons] at hp
      rcases hp with rfl | hp
      · simp only [List.mem_cons] at hx
        rcases hx with rfl | hx
        · exact List.mem_cons_self ..
        · exact List.mem_cons_of_mem _ (ih2 q (List.mem_cons_self ..) x hx)
      · exact List.mem_cons_of_mem _ (ih2 p (List.mem_cons_of_mem _ hp) x hx)
theorem urgV_mem {l : List Css} {x : Css} (h : x ∈ urgV l) : x ∈ l := by
  unfold urgV at h
  split at h
  · exact List.mem_of_mem_take h
  · exact h
theorem decl_facts {l : List Css} (hp : ∀ x ∈ l, Proper x ∧ (x.kind ≠ 7 → rightC x = true)) {d : Dcl} (h : d ∈ declsL l) : rightD d = true ∧ (∀ x ∈ d.value, x ∈ l) ∧ ⟨1, d.name, 0, []⟩ ∈ l := by
  simp only [declsL, List.mem_filterMap] at h
  obtain ⟨p, h1, h2⟩ := h
  have hm := parts_mem l 0 p h1
  match p, h2, hm with
  | [], h2, _ => simp [declOf] at h2
  | [_], h2, _ => simp [declOf] at h2
  | a :: b :: r, h2, hm =>
    simp only [declOf] at h2
    split at h2
    · rename_i h3
      simp only [Bool.and_eq_true, decide_eq_true_eq] at h3
      simp only [Option.some.injEq] at h2
      subst h2
      obtain ⟨⟨h4, h5⟩, h6⟩ := h3
      have ha := hm a (List.mem_cons_self ..)
      have hv : ∀ x ∈ urgV r, x ∈ l := fun x hx => hm x (List.mem_cons_of_mem _ (List.mem_cons_of_mem _ (urgV_mem hx)))
      obtain ⟨pa, ra⟩ := hp a ha
      obtain ⟨q1, q2⟩ := pa.1 h4
      have ea : a = ⟨1, a.text, 0, []⟩ := by
        obtain ⟨k, t, m, u⟩ := a
        simp only at h4 q1 q2 ⊢
        rw [h4, q1, q2]
      obtain ⟨_, _, ho⟩ := may_facts h6
      refine ⟨?_, hv, by rw [← ea]; exact ha⟩
      simp only [rightD, Bool.and_eq_true, List.all_eq_true]
      refine ⟨⟨fun x hx => (hp x (hv x hx)).2 (ok_semi (ho x hx)).2.2, h6⟩, ?_⟩
      rw [← ea]; exact ra (by omega)
    · cases h2
theorem parsed_right {s : Bs} {d : Dcl} (h : d ∈ declsL (cssL s)) : rightD d = true ∧ (∀ x ∈ d.value, x ∈ cssL s) ∧ ⟨1, d.name, 0, []⟩ ∈ cssL s :=
  decl_facts (fun x hx => ⟨proper_scan x hx, scan_right _ s x hx⟩) h
end Go.Proofs.YtgcccpdadponiaaGreatDoor
