/- Plain: a text that tells words twice and a limit. No program in sight. -/
import Derived.Test.YtenjnliceeejlaaPolV
namespace Go.Proofs.Ytenjnliceeejlaa
/-- A text ahead of whatever: its pieces. -/
def PfxIf (ok : Bs → Prop) (xs : List (Nat × Bs)) (u : Bs) : Prop := ∀ r, ok r → ∀ a, ∃ L : List Lx, L.map Lx.kt = xs ∧ scanL a (u ++ r) = match scanL (a + u.length) r with
  | .ok M => .ok (L ++ M)
  | .bad n => .bad n
abbrev PfxS (xs : List (Nat × Bs)) (u : Bs) : Prop := PfxIf stops xs u
abbrev PfxA (xs : List (Nat × Bs)) (u : Bs) : Prop := PfxIf (fun _ => True) xs u
theorem PfxIf.then {o p q : Bs → Prop} {xs ys : List (Nat × Bs)} {u v : Bs} (h : PfxIf o xs u) (g : PfxIf p ys v) (hv : ∀ r, q r → p r ∧ o (v ++ r)) : PfxIf q (xs ++ ys) (u ++ v) := by
  intro r hr a
  obtain ⟨L, h1, h2⟩ := h (v ++ r) (hv r hr).2 a
  obtain ⟨M, g1, g2⟩ := g r (hv r hr).1 (a + u.length)
  refine ⟨L ++ M, by rw [List.map_append, h1, g1], ?_⟩
  rw [List.append_assoc, h2, g2, List.length_append, ← Nat.add_assoc]
  cases scanL (a + u.length + v.length) r with
  | ok N => simp
  | bad n => rfl
theorem PfxA.blank {b : Bs} (h : Blank b) : PfxA [] b := by
  intro r _ a
  refine ⟨[], rfl, ?_⟩
  rw [scanL_skip b.length (by rw [h.2.2 r]; simp), List.drop_left]
  cases scanL (a + b.length) r <;> rfl
theorem PfxS.piece {k : Nat} {t u : Bs} (h : toldL k t = some u) : PfxS [(k, t)] u := by
  intro r hr a
  obtain ⟨h1, h2, h3⟩ := told_piece h hr
  refine ⟨[⟨k, a, t⟩], rfl, ?_⟩
  rw [scanL_ok (by simp [h2]) h3 h1, List.drop_left]
  cases scanL (a + u.length) r <;> rfl
theorem PfxA.mark {c : UInt8} (h : mrkB c = true) : PfxA [(4, [c])] [c] := by
  intro r _ a
  refine ⟨[⟨4, a, [c]⟩], rfl, ?_⟩
  have hm := h
  unfold mrkB at h
  simp at h
  have h34 : ¬ c.toNat = 34 := by omega
  have hl : lowB c = false := by simp [lowB]; omega
  have hd : digB c = false := by simp [digB]; omega
  have hp : pieceL ([c] ++ r) = .ok 4 [c] 1 := by
    rw [List.singleton_append, pieceL, if_neg h34, if_neg (by rw [hl]; simp), if_neg (by rw [hd]; simp), if_pos hm]
  have h0 : blk false ([c] ++ r) = 0 := by
    simp only [List.singleton_append, blk]
    rw [if_neg (by simp [spB]; omega), if_neg (by omega)]
  rw [scanL_ok (by simp) h0 hp]
  show (scanL (a + 1) r).cons _ = _
  simp only [List.length_cons, List.length_nil]
  cases scanL (a + (0 + 1)) r <;> rfl
theorem blank1 : Blank [32] := ⟨fun c r h => by cases h; rfl, by simp, fun r => by simp [blk, spB]; omega⟩
theorem stop_32 (r : Bs) : stops (32 :: r) := fun c r' h => by cases h; rfl
theorem stop_59 (r : Bs) : stops (59 :: r) := fun c r' h => by cases h; rfl
/-- The names. -/
def sayW : List Bs → Bs
  | [] => []
  | w :: l => 32 :: (w ++ sayW l)
theorem sayW_stop (l : List Bs) (r : Bs) (hr : stops r) : stops (sayW l ++ r) := by
  cases l with
  | nil => exact hr
  | cons w l => exact stop_32 _
theorem sayW_pfx : ∀ (l : List Bs), (∀ w ∈ l, wordB w = true) → PfxS (l.map fun w => (1, w)) (sayW l)
  | [], _ => fun r _ a => ⟨[], rfl, by simp only [sayW, List.nil_append, List.length_nil, Nat.add_zero]; cases scanL a r <;> rfl⟩
  | w :: l, h => by
    have h1 : toldL 1 w = some w := by
      unfold toldL
      rw [if_neg (by decide), if_pos rfl, if_pos (h w List.mem_cons_self)]
    have h2 := sayW_pfx l (fun w hw => h w (List.mem_cons_of_mem _ hw))
    have h3 : PfxS ([(1, w)] ++ l.map fun w => (1, w)) (w ++ sayW l) := (PfxS.piece h1).then h2 fun r hr => ⟨hr, sayW_stop l r hr⟩
    exact (PfxA.blank blank1).then h3 fun r hr => ⟨hr, trivial⟩
def tagsS (l : List Bs) : Bs := tagsT ++ sayW l
theorem tagsS_pfx {l : List Bs} (h : ∀ w ∈ l, wordB w = true) : PfxS ((1, tagsT) :: l.map fun w => (1, w)) (tagsS l) :=
  (PfxS.piece (k := 1) (t := tagsT) (u := tagsT) (by decide)).then (sayW_pfx l h) fun r hr => ⟨hr, sayW_stop l r hr⟩
/-- Ahead of the number. -/
def headS (l : List Bs) : Bs := tagsS l ++ ([59] ++ ([32] ++ (tagsS l ++ ([59] ++ ([32] ++ (limitT ++ ([32] ++ (depthT ++ [32]))))))))
def headK (l : List Bs) : List (Nat × Bs) := ((1, tagsT) :: l.map fun w => (1, w)) ++ ((4, [59]) :: (((1, tagsT) :: l.map fun w => (1, w)) ++ [(4, [59]), (1, limitT), (1, depthT)]))
theorem headS_pfx {l : List Bs} (h : ∀ w ∈ l, wordB w = true) : PfxA (headK l) (headS l) := by
  have m : PfxA [(4, [59])] [59] := PfxA.mark (by decide)
  have b := PfxA.blank blank1
  have d1 : PfxA [(1, depthT)] (depthT ++ [32]) := (PfxS.piece (k := 1) (t := depthT) (u := depthT) (by decide)).then b fun r _ => ⟨trivial, stop_32 _⟩
  have d2 : PfxA [(1, depthT)] ([32] ++ (depthT ++ [32])) := b.then d1 fun r _ => ⟨trivial, trivial⟩
  have d3 : PfxA [(1, limitT), (1, depthT)] (limitT ++ ([32] ++ (depthT ++ [32]))) := (PfxS.piece (k := 1) (t := limitT) (u := limitT) (by decide)).then d2 fun r _ => ⟨trivial, stop_32 _⟩
  have d4 : PfxA [(1, limitT), (1, depthT)] ([32] ++ (limitT ++ ([32] ++ (depthT ++ [32])))) := b.then d3 fun r _ => ⟨trivial, trivial⟩
  have d5 : PfxA [(4, [59]), (1, limitT), (1, depthT)] ([59] ++ ([32] ++ (limitT ++ ([32] ++ (depthT ++ [32]))))) := m.then d4 fun r _ => ⟨trivial, trivial⟩
  have t := tagsS_pfx h
  have e1 := t.then d5 (q := fun _ => True) fun r _ => ⟨trivial, stop_59 _⟩
  have e2 := b.then e1 (q := fun _ => True) fun r _ => ⟨trivial, trivial⟩
  have e3 := m.then e2 (q := fun _ => True) fun r _ => ⟨trivial, trivial⟩
  exact t.then e3 (q := fun _ => True) fun r _ => ⟨trivial, stop_59 _⟩
/-! The number. -/
def figF : Nat → Nat → Bs
  | 0, _ => []
  | f + 1, n => if n = 0 then [] else figF f (n / 10) ++ [UInt8.ofNat (48 + n % 10)]
def figL (n : Nat) : Bs := figF n n
theorem figF_more : ∀ (f g n : Nat), n ≤ f → n ≤ g → figF f n = figF g n
  | 0, 0, _, _, _ => rfl
  | 0, g + 1, n, h, _ => by have : n = 0 := by omega
                            subst this; rfl
  | f + 1, 0, n, _, h => by have : n = 0 := by omega
                            subst this; rfl
  | f + 1, g + 1, n, h1, h2 => by
    unfold figF
    by_cases h : n = 0
    · rw [if_pos h, if_pos h]
    · rw [if_neg h, if_neg h, figF_more f g (n / 10) (by omega) (by omega)]
theorem figL_zero : figL 0 = [] := rfl
theorem figL_step {n : Nat} (h : n ≠ 0) : figL n = figL (n / 10) ++ [UInt8.ofNat (48 + n % 10)] := by
  obtain ⟨m, rfl⟩ : ∃ m, n = m + 1 := ⟨n - 1, by omega⟩
  show (if m + 1 = 0 then [] else figF m ((m + 1) / 10) ++ _) = _
  rw [if_neg h]
  congr 1
  exact figF_more _ _ _ (by omega) (Nat.le_refl _)
theorem dig_byte (k : Nat) (hk : k < 10) : (UInt8.ofNat (48 + k)).toNat = 48 + k := by
  rw [UInt8.toNat_ofNat']; omega
theorem figL_facts (n : Nat) : (figL n).all digB = true ∧ numT (figL n) = n ∧ (n ≠ 0 → 1 ≤ (figL n).length) ∧ (n < 1000000000 ↔ (figL n).length ≤ 9) ∧ ((figL n).length ≤ n) := by
  have key : ∀ k n : Nat, (figL n).length ≤ k ↔ n < 10 ^ k := by
    intro k
    induction k with
    | zero =>
      intro n
      by_cases h : n = 0
      · subst h; simp [figL_zero]
      · rw [figL_step h]; simp [h]
    | succ k ih =>
      intro n
      by_cases h : n = 0
      · subst h; simp [figL_zero]; exact Nat.pos_of_ne_zero (by simp)
      · rw [figL_step h]
        have := ih (n / 10)
        simp only [List.length_append, List.length_cons, List.length_nil]
        rw [Nat.pow_succ]
        omega
  have hstr : ∀ m n : Nat, n ≤ m → (figL n).all digB = true ∧ numT (figL n) = n ∧ (figL n).length ≤ n := by
    intro m
    induction m with
    | zero => intro n h; obtain rfl : n = 0 := by omega
              exact ⟨rfl, rfl, Nat.le_refl _⟩
    | succ m ih =>
      intro n h
      by_cases h0 : n = 0
      · subst h0; exact ⟨rfl, rfl, Nat.le_refl _⟩
      · obtain ⟨i1, i2, i3⟩ := ih (n / 10) (by omega)
        have hb := dig_byte (n % 10) (by omega)
        rw [figL_step h0]
        refine ⟨?_, ?_, ?_⟩
        · rw [List.all_append, i1]
          simp only [List.all_cons, List.all_nil, Bool.and_true, Bool.true_and]
          unfold digB
          rw [hb]
          simp; omega
        · unfold numT at i2 ⊢
          rw [List.foldl_append, i2]
          simp only [List.foldl_cons, List.foldl_nil, hb]
          omega
        · simp only [List.length_append, List.length_cons, List.length_nil]; omega
  obtain ⟨h1, h2, h3⟩ := hstr n n (Nat.le_refl _)
  refine ⟨h1, h2, fun h => ?_, ((key 9 n).trans (by rfl)).symm, h3⟩
  rw [figL_step h]; simp
theorem fig_short {n : Nat} (h : n < 10 ^ 19) : (figL n).length ≤ 19 := by
  have key : ∀ k n : Nat, n < 10 ^ k → (figL n).length ≤ k := by
    intro k
    induction k with
    | zero => intro n h; obtain rfl : n = 0 := by simpa using h
              exact Nat.le_refl _
    | succ k ih =>
      intro n h
      by_cases h0 : n = 0
      · subst h0; exact Nat.zero_le _
      · rw [figL_step h0]
        have := ih (n / 10) (by rw [Nat.pow_succ] at h; omega)
        simp only [List.length_append, List.length_cons, List.length_nil]; omega
  exact key 19 n h
/-- The whole text. -/
def onceS (l : List Bs) (n : Nat) : Bs := headS l ++ (figL n ++ [59])
theorem once_scan {l : List Bs} (h : ∀ w ∈ l, wordB w = true) (n : Nat) : (n = 0 ∧ ∃ L, scanL 0 (onceS l n) = .ok L ∧ L.map Lx.kt = headK l ++ [(4, [59])]) ∨ (n ≠ 0 ∧ n < 1000000000 ∧ ∃ L, scanL 0 (onceS l n) = .ok L ∧ L.map Lx.kt = headK l ++ [(2, figL n), (4, [59])]) ∨ (1000000000 ≤ n ∧ ∃ k, scanL 0 (onceS l n) = .bad k) := by
  obtain ⟨L, h1, h2⟩ := headS_pfx h (figL n ++ [59]) trivial 0
  have hm : ∀ a, scanL a [59] = .ok [⟨4, a, [59]⟩] := fun a => by
    obtain ⟨M, m1, m2⟩ := (PfxA.mark (c := 59) (by decide)) [] trivial a
    rw [scanL_ok (by simp) (by decide) (show pieceL [59] = .ok 4 [59] 1 from rfl)]
    rfl
  obtain ⟨f1, _, f3, f4, _⟩ := figL_facts n
  by_cases h0 : n = 0
  · subst h0
    refine .inl ⟨rfl, ?_⟩
    rw [show figL 0 ++ [59] = ([59] : Bs) from rfl, hm] at h2
    exact ⟨_, h2, by rw [List.map_append, h1]; rfl⟩
  · by_cases h9 : n < 1000000000
    · refine .inr (.inl ⟨h0, h9, ?_⟩)
      have ht : toldL 2 (figL n) = some (figL n) := by
        unfold toldL
        rw [if_neg (by decide), if_neg (by decide), if_pos rfl, if_pos ⟨f3 h0, f4.1 h9, f1⟩]
      obtain ⟨M, m1, m2⟩ := (PfxS.piece ht) [59] (stop_59 []) (0 + (headS l).length)
      rw [m2, hm] at h2
      exact ⟨_, h2, by simp only [List.map_append, h1, m1]; simp [Lx.kt]⟩
    · refine .inr (.inr ⟨by omega, ?_⟩)
      have hl : 9 < (figL n).length := by
        rcases Nat.lt_or_ge 9 (figL n).length with h | h
        · exact h
        · exact absurd (f4.2 h) h9
      cases hf : figL n with
      | nil => rw [hf] at hl; simp at hl
      | cons c r =>
        rw [hf] at f1 hl
        simp only [List.all_cons, Bool.and_eq_true] at f1
        have hc := f1.1
        unfold digB at hc
        simp at hc
        have e := tw_stop digB (fun _ h => dig_wch h) r [59] f1.2 (stop_59 [])
        have hp : pieceL (c :: (r ++ [59])) = .bad 0 := by
          rw [pieceL, if_neg (by omega), if_neg (by simp [lowB]; omega), if_pos f1.1, e, if_neg (by simp only [List.length_cons] at hl; omega)]
        have h0 : blk false (c :: (r ++ [59])) = 0 := by
          simp only [blk]
          rw [if_neg (by simp [spB]; omega), if_neg (by omega)]
        rw [hf, List.cons_append, scanL_bad (by simp) h0 hp] at h2
        exact ⟨_, by unfold onceS; rw [hf, List.cons_append]; exact h2⟩
theorem nm_step {en : Nat} {l : List Lx} {k tag : Bs} {ws : List Bs} {n : Nat} {p : Pol} {told : List Bs} (h : oneR l = some (.nm k tag ws, n)) (hp : limB p = true) : runP en ⟨l, p, told⟩ = runP en ⟨l.drop n, (St.nm k tag ws).app p, told⟩ := by
  have hne : l ≠ [] := by rintro rfl; cases h
  have he := stmt_end (en := en) (l := l) (p := p) (told := told) hp
  rw [h] at he
  simp only [StEnd, St.key] at he
  rw [runP_cons (s := ⟨l, p, told⟩) hne, he]
/-- Pieces of no place. -/
def lxs (ks : List (Nat × Bs)) : List Lx := ks.map fun x => ⟨x.1, 0, x.2⟩
theorem lxs_kt (ks : List (Nat × Bs)) : (lxs ks).map Lx.kt = ks := by
  unfold lxs; rw [List.map_map]
  conv => rhs; rw [← List.map_id ks]
  rfl
theorem lxs_app (a b : List (Nat × Bs)) : lxs (a ++ b) = lxs a ++ lxs b := List.map_append
theorem one_tags (l : List Bs) (hl : l ≠ []) (r : List Lx) : oneR (lxs (((1, tagsT) :: l.map fun w => (1, w)) ++ [(4, [59])]) ++ r) = some (.nm tagsT [] l, l.length + 2) := by
  have hd : (lxs (((1, tagsT) :: l.map fun w => (1, w)) ++ [(4, [59])]) ++ r).drop 1 = lxs (l.map fun w => (1, w)) ++ (⟨4, 0, [59]⟩ :: r) := by
    rw [lxs_app]; simp [lxs]
  have hw : ∀ (l : List Bs), (lxs (l.map fun w => (1, w)) ++ (⟨4, 0, [59]⟩ :: r)).takeWhile (isP 1 []) = lxs (l.map fun w => (1, w)) := by
    intro l
    induction l with
    | nil => rfl
    | cons w l ih =>
      have : lxs ((w :: l).map fun w => (1, w)) = (⟨1, 0, w⟩ : Lx) :: lxs (l.map fun w => (1, w)) := rfl
      rw [this, List.cons_append, List.takeWhile_cons_of_pos (by simp [isP]), ih]
  have hws : wordsR (lxs (((1, tagsT) :: l.map fun w => (1, w)) ++ [(4, [59])]) ++ r) 1 = l := by
    unfold wordsR
    rw [hd, hw]
    unfold lxs
    rw [List.map_map, List.map_map]
    conv => rhs; rw [← List.map_id l]
    rfl
  have hk : kindR (lxs (((1, tagsT) :: l.map fun w => (1, w)) ++ [(4, [59])]) ++ r) = tagsT := rfl
  have hi : isR (lxs (((1, tagsT) :: l.map fun w => (1, w)) ++ [(4, [59])]) ++ r) (1 + l.length) 4 semiT = true := by
    unfold isR
    rw [← List.drop_drop, hd, List.drop_append_of_le_length (by simp [lxs]), List.drop_of_length_le (by simp [lxs])]
    rfl
  have hn : namesR (lxs (((1, tagsT) :: l.map fun w => (1, w)) ++ [(4, [59])]) ++ r) 1 = .ok l := by
    unfold namesR
    rw [hws, hi, if_neg (by rintro (h | h); exact hl (List.eq_nil_of_length_eq_zero h); cases h)]
  unfold oneR
  rw [hk, if_pos (by decide)]
  unfold nmS
  rw [show listR tagsT (lxs (((1, tagsT) :: l.map fun w => (1, w)) ++ [(4, [59])]) ++ r) = .ok ([], 1) from rfl]
  simp only
  rw [hn]
  simp only
  congr 2; omega
theorem drop_tags (l : List Bs) (r : List Lx) : (lxs (((1, tagsT) :: l.map fun w => (1, w)) ++ [(4, [59])]) ++ r).drop (l.length + 2) = r := by
  rw [List.drop_append_of_le_length (by simp [lxs]), List.drop_of_length_le (by simp [lxs])]; rfl
def onceP2 (l : List Bs) (n : Nat) : Pol := ⟨neatL ltB l, [], [], [], [], [], false, n, 32, 1024⟩
theorem headK_two (l : List Bs) (x : List (Nat × Bs)) : lxs (headK l ++ x) = lxs (((1, tagsT) :: l.map fun w => (1, w)) ++ [(4, [59])]) ++ (lxs (((1, tagsT) :: l.map fun w => (1, w)) ++ [(4, [59])]) ++ lxs ([(1, limitT), (1, depthT)] ++ x)) := by
  rw [← lxs_app, ← lxs_app]
  congr 1
  unfold headK
  simp
theorem run_kt {en : Nat} {l m : List Lx} (h : l.map Lx.kt = m.map Lx.kt) {p : Pol} {told : List Bs} (hp : limB p = true) {k tag : Bs} {ws : List Bs} {n : Nat} (ho : oneR m = some (.nm k tag ws, n)) : runP en ⟨l, p, told⟩ = runP en ⟨l.drop n, (St.nm k tag ws).app p, told⟩ := nm_step ((oneR_kt h).trans ho) hp
/-- What it tells. -/
theorem once_parse {l : List Bs} (h : ∀ w ∈ l, wordB w = true) (hl : l ≠ []) (h60 : l.length ≤ 60) (n : Nat) (h8 : (onceS l n).length ≤ 8192) :
    if 1 ≤ n ∧ n ≤ 256 then parsePl (onceS l n) = .ok (onceP2 l n) else ∃ a, parsePl (onceS l n) = .error ⟨a, 2⟩ := by
  have two : ∀ {L : List Lx} {x : List (Nat × Bs)}, L.map Lx.kt = headK l ++ x → ∃ N : List Lx, N.map Lx.kt = [(1, limitT), (1, depthT)] ++ x ∧ ∀ en, runP en ⟨L, pol0, []⟩ = runP en ⟨N, { pol0 with tags := l ++ l }, []⟩ := by
    intro L x hL
    have e1 : L.map Lx.kt = (lxs (headK l ++ x)).map Lx.kt := by rw [lxs_kt]; exact hL
    rw [headK_two] at e1
    have e2 : (L.drop (l.length + 2)).map Lx.kt = (lxs (((1, tagsT) :: l.map fun w => (1, w)) ++ [(4, [59])]) ++ lxs ([(1, limitT), (1, depthT)] ++ x)).map Lx.kt := by
      have := drop_kt e1 (l.length + 2)
      rwa [drop_tags] at this
    have e3 : ((L.drop (l.length + 2)).drop (l.length + 2)).map Lx.kt = [(1, limitT), (1, depthT)] ++ x := by
      have := drop_kt e2 (l.length + 2)
      rwa [drop_tags, lxs_kt] at this
    refine ⟨_, e3, fun en => ?_⟩
    rw [run_kt e1 (by decide) (one_tags l hl _), run_kt e2 (by rfl) (one_tags l hl _)]
    congr 2
  have fin : ∀ {L : List Lx} {x : List (Nat × Bs)} {e : Flt}, scanL 0 (onceS l n) = .ok L → runP (onceS l n).length ⟨L, pol0, []⟩ = .error e → parsePl (onceS l n) = .error e := by
    intro L x e h1 h2
    unfold parsePl
    rw [if_neg (by omega), h1]
    simp only
    rw [h2]
  rcases once_scan h n with ⟨h0, L, h1, h2⟩ | ⟨h0, h9, L, h1, h2⟩ | ⟨h9, k, h1⟩
  · rw [if_neg (by omega)]
    obtain ⟨N, n1, n2⟩ := two h2
    have ho : oneR N = none := (oneR_kt (m := lxs ([(1, limitT), (1, depthT)] ++ [(4, [59])])) (by rw [lxs_kt]; exact n1)).trans (by decide)
    have hne : N ≠ [] := by rintro rfl; simp at n1
    have he := stmt_end (en := (onceS l n).length) (l := N) (p := { pol0 with tags := l ++ l }) (told := []) (by rfl)
    rw [ho] at he
    obtain ⟨a, he⟩ := he
    refine ⟨a, fin (x := []) h1 ?_⟩
    rw [n2, runP_cons (s := ⟨N, _, _⟩) hne, he]
  · obtain ⟨N, n1, n2⟩ := two h2
    have ho : oneR N = some (.sg limitT depthT (figL n) [], 4) := (oneR_kt (m := lxs ([(1, limitT), (1, depthT)] ++ [(2, figL n), (4, [59])])) (by rw [lxs_kt]; exact n1)).trans (by rfl)
    have hne : N ≠ [] := by rintro rfl; simp at n1
    have he := stmt_end (en := (onceS l n).length) (l := N) (p := { pol0 with tags := l ++ l }) (told := []) (by rfl)
    rw [ho] at he
    simp only [StEnd, St.key] at he
    rw [if_neg (by simp)] at he
    have hgood : (St.sg limitT depthT (figL n) []).good = decide (1 ≤ n ∧ n ≤ 256) := by
      simp only [St.good]
      rw [if_neg (by decide), if_neg (by decide)]
      unfold boundB inB
      rw [if_pos rfl, (figL_facts n).2.1, decide_eq_decide]
      omega
    rw [hgood] at he
    by_cases hr : 1 ≤ n ∧ n ≤ 256
    · rw [if_pos hr]
      rw [decide_eq_true hr, if_pos rfl] at he
      have hd : N.drop 4 = [] := by
        refine List.drop_eq_nil_of_le ?_
        have := congrArg List.length n1
        simp at this; omega
      have happ : (St.sg limitT depthT (figL n) []).app { pol0 with tags := l ++ l } = { pol0 with tags := l ++ l, depth := (n : Int) } := by
        simp only [St.app]
        rw [if_neg (by decide), if_neg (by decide), (figL_facts n).2.1]
        rfl
      rw [hd, happ] at he
      have hrun : runP (onceS l n).length ⟨L, pol0, []⟩ = .ok ⟨[], { pol0 with tags := l ++ l, depth := (n : Int) }, [limitT ++ [32] ++ depthT]⟩ := by
        rw [n2, runP_cons (s := ⟨N, _, _⟩) hne, he]
        rfl
      have hneat : neatP { pol0 with tags := l ++ l, depth := (n : Int) } = onceP2 l n := by
        refine pol_ext ?_ rfl rfl rfl rfl rfl rfl rfl rfl rfl
        exact neat_set swoB ev_B fun x => by simp
      have hfit : fitB (onceP2 l n) = true := by
        have := neat_len ltB l
        unfold fitB
        rw [decide_eq_true_eq]
        refine ⟨?_, Nat.zero_le _, Nat.zero_le _, Nat.zero_le _, Nat.zero_le _, Nat.zero_le _⟩
        show (neatL ltB l).length ≤ 200
        omega
      unfold parsePl
      rw [if_neg (by omega), h1]
      simp only
      rw [hrun]
      simp only
      rw [hneat, if_pos hfit]
    · rw [if_neg hr]
      rw [decide_eq_false hr, if_neg (by decide)] at he
      obtain ⟨a, he⟩ := he
      refine ⟨a, fin (x := []) h1 ?_⟩
      rw [n2, runP_cons (s := ⟨N, _, _⟩) hne, he]
  · rw [if_neg (by omega)]
    refine ⟨k, ?_⟩
    unfold parsePl
    rw [if_neg (by omega), h1]
end Go.Proofs.Ytenjnliceeejlaa
