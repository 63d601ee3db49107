/- Plain: two texts of policies, either way round, and each twice. No program in sight. -/
import Derived.Test.YtenjnliceeejlaaPolU
namespace Go.Proofs.Ytenjnliceeejlaa
/-! Two texts with a new line between are scanned as the pieces of both. -/
theorem scanF_kt : ∀ (f a b : Nat) (l : Bs) (L : List Lx), scanF f a l = .ok L → ∃ M, scanF f b l = .ok M ∧ M.map Lx.kt = L.map Lx.kt
  | 0, _, _, _, L, h => by cases h; exact ⟨[], rfl, rfl⟩
  | f + 1, a, b, l, L, h => by
    unfold scanF at h ⊢
    split at h
    · cases h; exact ⟨[], rfl, rfl⟩
    · split at h
      · next k t n hp =>
        obtain ⟨M, h1, rfl⟩ := SR.cons_ok h
        obtain ⟨N, h2, h3⟩ := scanF_kt f _ (b + blk false l + n) _ M h1
        simp only [h2]
        exact ⟨_, rfl, by rw [List.map_cons, List.map_cons, h3]; rfl⟩
      · cases h
theorem scanL_kt {a : Nat} {l : Bs} {L : List Lx} (h : scanL a l = .ok L) (b : Nat) : ∃ M, scanL b l = .ok M ∧ M.map Lx.kt = L.map Lx.kt := scanF_kt _ a b l L h
theorem blk_full : ∀ (b : Bool) (s r : Bs), blk b s = s.length → blk b (s ++ 10 :: r) = s.length + 1 + blk false r
  | true, [], r, _ => by simp [blk]; omega
  | false, [], r, _ => by simp [blk, spB]; omega
  | true, c :: s, r, h => by
    simp only [blk, List.cons_append, List.length_cons] at h ⊢
    split
    · next hc => rw [if_pos hc] at h; rw [blk_full false s r (by omega)]; omega
    · next hc => rw [if_neg hc] at h; rw [blk_full true s r (by omega)]; omega
  | false, c :: s, r, h => by
    simp only [blk, List.cons_append, List.length_cons] at h ⊢
    split
    · next hc => rw [if_pos hc] at h; rw [blk_full false s r (by omega)]; omega
    · next hc =>
      rw [if_neg hc] at h
      split
      · next h2 => rw [if_pos h2] at h; rw [blk_full true s r (by omega)]; omega
      · next h2 => rw [if_neg h2] at h; omega
theorem blk_stop : ∀ (b : Bool) (s x : Bs), blk b s < s.length → blk b (s ++ x) = blk b s
  | _, [], _, h => by simp at h
  | true, c :: s, x, h => by
    simp only [blk, List.cons_append, List.length_cons] at h ⊢
    split
    · next hc => rw [if_pos hc] at h; rw [blk_stop false s x (by omega)]
    · next hc => rw [if_neg hc] at h; rw [blk_stop true s x (by omega)]
  | false, c :: s, x, h => by
    simp only [blk, List.cons_append, List.length_cons] at h ⊢
    split
    · next hc => rw [if_pos hc] at h; rw [blk_stop false s x (by omega)]
    · next hc =>
      rw [if_neg hc] at h
      split
      · next h2 => rw [if_pos h2] at h; rw [blk_stop true s x (by omega)]
      · rfl
theorem TR.app_ok2 {x : TR} {p t : Bs} {k n : Nat} (h : x.app p k = .ok t n) : ∃ t' n', x = .ok t' n' ∧ t = p ++ t' ∧ n = n' + k := by
  cases x with
  | ok t' n' => simp only [TR.app, TR.ok.injEq] at h; exact ⟨t', n', rfl, h.1.symm, h.2.symm⟩
  | bad n => cases h
  | op => cases h
theorem strL_app (x : Bs) : ∀ (m : Nat) (l t : Bs) (n : Nat), l.length ≤ m → strL l = .ok t n → strL (l ++ x) = .ok t n
  | _, [], t, n, _, h => by rw [strL.eq_def] at h; cases h
  | 0, _ :: _, _, _, hm, _ => by simp at hm
  | m + 1, c :: r, t, n, hm, h => by
    simp only [List.length_cons] at hm
    rw [List.cons_append]
    by_cases h34 : c.toNat = 34
    · rw [strL_quote r h34] at h; rw [strL_quote _ h34]; exact h
    by_cases h92 : c.toNat = 92
    · cases r with
      | nil => rw [strL_esc_end h92] at h; cases h
      | cons d r =>
        by_cases hd : d.toNat = 92 ∨ d.toNat = 34
        · rw [strL_esc r h92 hd] at h
          obtain ⟨t', n', h1, rfl, rfl⟩ := TR.app_ok2 h
          rw [List.cons_append, strL_esc _ h92 hd, strL_app x m r t' n' (by simp only [List.length_cons] at hm; omega) h1]
          rfl
        · rw [strL_esc_bad r h92 hd] at h; cases h
    by_cases ho : oddB c = true
    · rw [strL_odd r h34 h92 ho] at h; cases h
    · rw [strL_plain r h34 h92 ho] at h
      obtain ⟨t', n', h1, rfl, rfl⟩ := TR.app_ok2 h
      rw [strL_plain _ h34 h92 ho, strL_app x m r t' n' (by omega) h1]
      rfl
theorem tw_line {p : UInt8 → Bool} (hp : p 10 = false) : ∀ (q r : Bs), (q ++ 10 :: r).takeWhile p = q.takeWhile p
  | [], r => by rw [List.nil_append, List.takeWhile_cons_of_neg (by rw [hp]; decide)]; rfl
  | c :: q, r => by
    rw [List.cons_append]
    by_cases hc : p c = true
    · rw [List.takeWhile_cons_of_pos hc, List.takeWhile_cons_of_pos hc, tw_line hp q r]
    · rw [List.takeWhile_cons_of_neg hc, List.takeWhile_cons_of_neg hc]
theorem piece_app {l t : Bs} {k n : Nat} (r : Bs) (h : pieceL l = .ok k t n) : pieceL (l ++ 10 :: r) = .ok k t n := by
  cases l with
  | nil => cases h
  | cons c q =>
    rw [List.cons_append]
    rw [pieceL] at h ⊢
    by_cases h34 : c.toNat = 34
    · rw [if_pos h34] at h ⊢
      cases hs : strL q with
      | ok t' n' => rw [hs] at h; rw [strL_app (10 :: r) _ q t' n' (Nat.le_refl _) hs]; exact h
      | bad n' => rw [hs] at h; cases h
      | op => rw [hs] at h; cases h
    · rw [if_neg h34] at h ⊢
      rw [tw_line (p := wchB) (by decide), tw_line (p := digB) (by decide)]
      exact h
theorem scan_two {r : Bs} {K : List (Nat × Bs)} (hr : ∀ a, ∃ M, scanL a (10 :: r) = .ok M ∧ M.map Lx.kt = K) : ∀ (m : Nat) (s : Bs) (a : Nat) (L : List Lx), s.length ≤ m → scanL a s = .ok L → ∃ N, scanL a (s ++ 10 :: r) = .ok N ∧ N.map Lx.kt = L.map Lx.kt ++ K
  | m, s, a, L, hm, h => by
    have h0 := h
    rw [scanL_eq] at h
    cases hd : s.drop (blk false s) with
    | nil =>
      rw [hd] at h
      cases h
      have hb : blk false s = s.length := by
        have h1 := blk_le false s
        have h2 := congrArg List.length hd
        rw [List.length_drop, List.length_nil] at h2
        omega
      obtain ⟨M, h1, h2⟩ := hr (a + s.length)
      refine ⟨M, ?_, by rw [h2]; rfl⟩
      rw [scanL_skip s.length (by rw [blk_full false s r hb, List.drop_left]; simp [blk, spB]; omega), List.drop_left]
      exact h1
    | cons c q =>
      rw [hd] at h
      have h : (match pieceL (c :: q) with
        | .ok k t n => (scanL (a + blk false s + n) ((c :: q).drop n)).cons ⟨k, a + blk false s, t⟩
        | .bad n => .bad (a + blk false s + n)) = SR.ok L := h
      have hb : blk false s < s.length := by
        have h2 := congrArg List.length hd
        rw [List.length_drop, List.length_cons] at h2
        omega
      cases hp : pieceL (c :: q) with
      | bad n => rw [hp] at h; cases h
      | ok k t n =>
        rw [hp] at h
        simp only at h
        obtain ⟨M, h1, rfl⟩ := SR.cons_ok h
        have hn := piece_pos hp
        have hf : n ≤ (c :: q).length := ((pieceL_le _).1 _ _ _ hp).2
        have hlen : ((c :: q).drop n).length + 1 ≤ s.length := by
          have h2 := congrArg List.length hd
          rw [List.length_drop] at h2 ⊢
          omega
        have hm1 : 0 < m := by omega
        obtain ⟨m', rfl⟩ : ∃ m', m = m' + 1 := ⟨m - 1, by omega⟩
        obtain ⟨N, h3, h4⟩ := scan_two hr m' ((c :: q).drop n) _ M (by omega) h1
        refine ⟨⟨k, a + blk false s, t⟩ :: N, ?_, by rw [List.map_cons, List.map_cons, h4]; rfl⟩
        rw [scanL_eq, blk_stop false s _ hb, List.drop_append_of_le_length (by omega), hd, List.cons_append]
        simp only
        rw [← List.cons_append, piece_app r hp]
        simp only
        rw [List.drop_append_of_le_length hf, h3]
        rfl
theorem scan_line {a : Nat} {t : Bs} {T : List Lx} (h : scanL 0 t = .ok T) : ∃ M, scanL a (10 :: t) = .ok M ∧ M.map Lx.kt = T.map Lx.kt := by
  obtain ⟨M, h1, h2⟩ := scanL_kt h (a + 1)
  refine ⟨M, ?_, h2⟩
  rw [scanL_skip 1 (by simp [blk, spB]; omega)]
  exact h1
theorem scan_both {s t : Bs} {L T : List Lx} (hs : scanL 0 s = .ok L) (ht : scanL 0 t = .ok T) : ∃ N, scanL 0 (s ++ 10 :: t) = .ok N ∧ N.map Lx.kt = (L ++ T).map Lx.kt := by
  obtain ⟨N, h1, h2⟩ := scan_two (r := t) (K := T.map Lx.kt) (fun a => scan_line ht) s.length s 0 L (Nat.le_refl _) hs
  exact ⟨N, h1, by rw [h2, List.map_append]⟩
/-! A text and its statements. -/
theorem parse_st {s : Bs} {p : Pol} (h : parsePl s = .ok p) : ∃ L ss, scanL 0 s = .ok L ∧ Parsed L ss ∧ (∀ st ∈ ss, st.good = true) ∧ (keysS ss).Nodup ∧ p = neatP (appS ss pol0) := by
  unfold parsePl at h
  split at h
  · cases h
  · split at h
    · cases h
    · next l hl =>
      split at h
      · cases h
      · next t ht =>
        split at h
        · cases h
          obtain ⟨ss, a1, a2, a3, _, a5⟩ := run_parsed _ (by decide) (Nat.le_refl _) ht
          exact ⟨l, ss, hl, a1, a2, a3, by rw [a5]⟩
        · cases h
theorem st_parse {s : Bs} {L : List Lx} {ss : List St} (h8 : s.length ≤ 8192) (hl : scanL 0 s = .ok L) (hp : Parsed L ss) (hg : ∀ st ∈ ss, st.good = true) :
    ((keysS ss).Nodup → parsePl s = if fitB (neatP (appS ss pol0)) then .ok (neatP (appS ss pol0)) else .error ⟨s.length, 3⟩) ∧ (¬(keysS ss).Nodup → ∃ a, parsePl s = .error ⟨a, 5⟩) := by
  obtain ⟨h1, h2⟩ := parsed_run (en := s.length) hp (p := pol0) (told := []) (by decide) hg
  constructor
  · intro hn
    obtain ⟨t, h3, h4⟩ := h1 ⟨hn, fun _ _ h => (by cases h)⟩
    unfold parsePl
    rw [if_neg (by omega), hl]
    simp only
    rw [h3]
    simp only
    rw [h4]
  · intro hn
    obtain ⟨a, h3⟩ := h2 (fun h => hn h.1)
    refine ⟨a, ?_⟩
    unfold parsePl
    rw [if_neg (by omega), hl]
    simp only
    rw [h3]
/-! What statements do, part by part. -/
def St.cL (f : Bs) : St → List Bs
  | .nm k _ ws => if k = f then ws else []
  | .sg _ _ _ _ => []
def St.cA : St → List Alw
  | .nm k tag ws => if k = tagsT ∨ k = schemesT ∨ k = cssT ∨ k = dropT then [] else ws.map (fun n => ⟨tag, n⟩)
  | .sg _ _ _ _ => []
def St.cF : St → List Frc
  | .nm _ _ _ => []
  | .sg k x y z => if k = relT then [] else if k = forceT then [⟨x, y, z⟩] else []
def St.cR : St → List Bool
  | .nm _ _ _ => []
  | .sg k x _ _ => if k = relT then [decide (x = yesT)] else []
def St.cN (i : Nat) : St → List Int
  | .nm _ _ _ => []
  | .sg k x y _ => if k = relT then [] else if k = forceT then [] else if (if x = depthT then 0 else if x = nameT then 1 else 2) = i then [numT y] else []
def lastD {α : Type} (l : List α) (d : α) : α := l.getLast?.getD d
theorem lastD_app {α : Type} (a b : List α) (d : α) : lastD (a ++ b) d = lastD b (lastD a d) := by
  unfold lastD
  rw [List.getLast?_append]
  cases b.getLast? <;> simp
theorem lastD_nil {α : Type} (d : α) : lastD [] d = d := rfl
theorem lastD_one {α : Type} (x d : α) : lastD [x] d = x := rfl
theorem app_tags (st : St) (p : Pol) : (st.app p).tags = p.tags ++ st.cL tagsT ∧ (st.app p).schemes = p.schemes ++ st.cL schemesT ∧ (st.app p).css = p.css ++ st.cL cssT ∧ (st.app p).drops = p.drops ++ st.cL dropT ∧ (st.app p).attrs = p.attrs ++ st.cA ∧ (st.app p).forces = p.forces ++ st.cF ∧ (st.app p).rel = lastD st.cR p.rel ∧ (st.app p).depth = lastD (st.cN 0) p.depth ∧ (st.app p).name = lastD (st.cN 1) p.name ∧ (st.app p).value = lastD (st.cN 2) p.value := by
  cases st with
  | nm k tag ws =>
    simp only [St.app, St.cL, St.cA, St.cF, St.cR, St.cN, lastD_nil, List.append_nil, addK_forces]
    unfold addK
    by_cases h1 : k = tagsT
    · subst h1; simp [show ¬ tagsT = schemesT by decide, show ¬ tagsT = cssT by decide, show ¬ tagsT = dropT by decide]
    by_cases h2 : k = schemesT
    · subst h2; simp [show ¬ schemesT = tagsT by decide, show ¬ schemesT = cssT by decide, show ¬ schemesT = dropT by decide]
    by_cases h3 : k = cssT
    · subst h3; simp [show ¬ cssT = tagsT by decide, show ¬ cssT = schemesT by decide, show ¬ cssT = dropT by decide]
    by_cases h4 : k = dropT
    · subst h4; simp [show ¬ dropT = tagsT by decide, show ¬ dropT = schemesT by decide, show ¬ dropT = cssT by decide]
    simp [h1, h2, h3, h4]
  | sg k x y z =>
    simp only [St.app, St.cL, St.cA, St.cF, St.cR, St.cN, List.append_nil]
    by_cases h1 : k = relT
    · simp [h1, lastD_nil, lastD_one]
    by_cases h2 : k = forceT
    · simp [h2, show ¬ forceT = relT by decide, lastD_nil]
    simp only [h1, h2, if_false]
    unfold setL
    by_cases h3 : x = depthT
    · simp [h3, lastD_nil, lastD_one]
    by_cases h4 : x = nameT
    · simp [h4, show ¬ nameT = depthT by decide, lastD_nil, lastD_one]
    simp [h3, h4, lastD_nil, lastD_one]
theorem appS_cons (st : St) (ss : List St) (p : Pol) : appS (st :: ss) p = appS ss (st.app p) := rfl
theorem appS_parts : ∀ (ss : List St) (p : Pol), (appS ss p).tags = p.tags ++ ss.flatMap (St.cL tagsT) ∧ (appS ss p).schemes = p.schemes ++ ss.flatMap (St.cL schemesT) ∧ (appS ss p).css = p.css ++ ss.flatMap (St.cL cssT) ∧ (appS ss p).drops = p.drops ++ ss.flatMap (St.cL dropT) ∧ (appS ss p).attrs = p.attrs ++ ss.flatMap St.cA ∧ (appS ss p).forces = p.forces ++ ss.flatMap St.cF ∧ (appS ss p).rel = lastD (ss.flatMap St.cR) p.rel ∧ (appS ss p).depth = lastD (ss.flatMap (St.cN 0)) p.depth ∧ (appS ss p).name = lastD (ss.flatMap (St.cN 1)) p.name ∧ (appS ss p).value = lastD (ss.flatMap (St.cN 2)) p.value
  | [], p => by simp [appS, lastD_nil]
  | st :: ss, p => by
    obtain ⟨a0, a1, a2, a3, a4, a5, a6, a7, a8, a9⟩ := appS_parts ss (st.app p)
    obtain ⟨b0, b1, b2, b3, b4, b5, b6, b7, b8, b9⟩ := app_tags st p
    rw [appS_cons]
    simp only [List.flatMap_cons, lastD_app]
    refine ⟨?_, ?_, ?_, ?_, ?_, ?_, ?_, ?_, ?_, ?_⟩
    · rw [a0, b0, List.append_assoc]
    · rw [a1, b1, List.append_assoc]
    · rw [a2, b2, List.append_assoc]
    · rw [a3, b3, List.append_assoc]
    · rw [a4, b4, List.append_assoc]
    · rw [a5, b5, List.append_assoc]
    · rw [a6, b6]
    · rw [a7, b7]
    · rw [a8, b8]
    · rw [a9, b9]
/-! Either way round. -/
theorem take_dec {α : Type} [DecidableEq α] (a : α) : ∀ (l : List α), (l.filter (fun x => decide (a = x))).take 1 = if a ∈ l then [a] else []
  | [] => by simp
  | x :: l => by
    by_cases h : a = x
    · subst h; simp
    · rw [List.filter_cons_of_neg (by simpa using h), take_dec a l]
      simp [h]
theorem neat_set {α : Type} [DecidableEq α] {lt : α → α → Bool} (H : Swo lt) (he : ∀ a b, ev lt a b = decide (a = b)) {l m : List α} (h : ∀ x, x ∈ l ↔ x ∈ m) : neatL lt l = neatL lt m := by
  refine neat_same H fun a => ?_
  have : ev lt a = fun x => decide (a = x) := funext fun x => he a x
  rw [this, take_dec, take_dec]
  by_cases ha : a ∈ l
  · rw [if_pos ha, if_pos ((h a).1 ha)]
  · rw [if_neg ha, if_neg (fun h2 => ha ((h a).2 h2))]
theorem ev_alw (a b : Alw) : ev ltA a b = decide (a = b) := by
  have : ev ltA a b = ev ltP a.key b.key := rfl
  rw [this, ev_P, decide_eq_decide]
  cases a; cases b
  simp [Alw.key]
theorem app_one {α : Type} {a b : List α} (h : (a ++ b).length ≤ 1) : a ++ b = b ++ a := by
  rw [List.length_append] at h
  cases a with
  | nil => simp
  | cons x a =>
    have : b = [] := List.eq_nil_of_length_eq_zero (by simp only [List.length_cons] at h; omega)
    subst this; simp
theorem keysS_app (a b : List St) : keysS (a ++ b) = keysS a ++ keysS b := List.filterMap_append
/-- Of what is told but once there is one at most. -/
theorem one_of {α : Type} (c : St → List α) (q : α → Bool) (w : Bs) (h1 : ∀ st, ((c st).filter q).length ≤ 1) (h2 : ∀ st, (c st).filter q ≠ [] → st.key = some w) : ∀ {ss : List St}, (keysS ss).Nodup → ((ss.flatMap c).filter q).length ≤ 1
  | [], _ => by simp
  | st :: ss, hn => by
    rw [List.flatMap_cons, List.filter_append, List.length_append]
    by_cases h : (c st).filter q = []
    · rw [h, List.length_nil, Nat.zero_add]
      refine one_of c q w h1 h2 ?_
      unfold keysS at hn ⊢
      cases hk : st.key with
      | none => rw [List.filterMap_cons_none hk] at hn; exact hn
      | some k => rw [List.filterMap_cons_some hk] at hn; exact (List.nodup_cons.1 hn).2
    · have hk := h2 st h
      unfold keysS at hn
      rw [List.filterMap_cons_some hk] at hn
      have hno := (List.nodup_cons.1 hn).1
      have : (ss.flatMap c).filter q = [] := by
        refine List.filter_eq_nil_iff.2 fun x hx hq => hno ?_
        obtain ⟨s2, hs2, hx2⟩ := List.mem_flatMap.1 hx
        exact List.mem_filterMap.2 ⟨s2, hs2, h2 s2 (List.ne_nil_of_mem (List.mem_filter.2 ⟨hx2, hq⟩))⟩
      rw [this]
      have := h1 st
      simp only [List.length_nil]; omega
theorem one_all {α : Type} (c : St → List α) (w : Bs) (h1 : ∀ st, (c st).length ≤ 1) (h2 : ∀ st, c st ≠ [] → st.key = some w) {ss : List St} (hn : (keysS ss).Nodup) : (ss.flatMap c).length ≤ 1 := by
  have hf : ∀ l : List α, l.filter (fun _ => true) = l := fun l => List.filter_eq_self.2 fun _ _ => rfl
  have := one_of c (fun _ => true) w (fun st => by rw [hf]; exact h1 st) (fun st h => h2 st (by rwa [hf] at h)) hn
  rwa [hf] at this
/-- Statements of limits are of the three. -/
def St.fine : St → Prop
  | .nm _ _ _ => True
  | .sg k x _ _ => k ≠ relT → k ≠ forceT → x = depthT ∨ x = nameT ∨ x = valT
theorem cN_key {st : St} (hf : st.fine) (i : Nat) (hi : i < 3) (h : st.cN i ≠ []) : st.key = some (limitT ++ [32] ++ (if i = 0 then depthT else if i = 1 then nameT else valT)) := by
  cases st with
  | nm k tag ws => exact absurd rfl h
  | sg k x y z =>
    simp only [St.cN] at h
    by_cases h1 : k = relT
    · rw [if_pos h1] at h; exact absurd rfl h
    by_cases h2 : k = forceT
    · rw [if_neg h1, if_pos h2] at h; exact absurd rfl h
    rw [if_neg h1, if_neg h2] at h
    simp only [St.key, if_neg h1, if_neg h2]
    rcases hf h1 h2 with rfl | rfl | rfl
    · have : i = 0 := by
        by_cases e : i = 0
        · exact e
        · exact absurd (by simp; omega) h
      subst this; rfl
    · have : i = 1 := by
        by_cases e : i = 1
        · exact e
        · exact absurd (by simp [show ¬ nameT = depthT by decide]; omega) h
      subst this; rfl
    · have : i = 2 := by
        by_cases e : i = 2
        · exact e
        · exact absurd (by simp [show ¬ valT = depthT by decide, show ¬ valT = nameT by decide]; omega) h
      subst this; rfl
theorem cN_len (i : Nat) (st : St) : (st.cN i).length ≤ 1 := by
  cases st with
  | nm k tag ws => exact Nat.zero_le _
  | sg k x y z =>
    simp only [St.cN]
    split
    · simp
    split
    · simp
    generalize (if x = depthT then 0 else if x = nameT then 1 else 2) = q
    split <;> simp
theorem isR_text {l : List Lx} {i k : Nat} {t : Bs} (h : isR l i k t = true) (ht : t ≠ []) : textR l i = t := by
  unfold isR at h
  unfold textR
  cases hd : l.drop i with
  | nil => rw [hd] at h; cases h
  | cons x r =>
    rw [hd] at h
    have h9 := (isP_kind h).2 (by unfold tsR; rw [if_neg ht]; simp)
    unfold tsR at h9
    rw [if_neg ht] at h9
    simpa using h9
theorem oneR_fine {l : List Lx} {st : St} {n : Nat} (h : oneR l = some (st, n)) : st.fine := by
  unfold oneR at h
  split at h
  · unfold nmS at h
    split at h
    · cases h
    · split at h <;> cases h
      exact trivial
  · split at h
    · unfold synR at h
      split at h
      · next h1 =>
        split at h
        · cases h
        · split at h <;> cases h
          exact fun h2 => absurd h1 h2
      · split at h
        · next h2 =>
          split at h <;> cases h
          exact fun _ h3 => absurd h2 h3
        · split at h
          · cases h
          · next hy =>
            split at h <;> cases h
            intro _ _
            cases h1 : isR l 1 1 depthT with
            | true => exact .inl (isR_text h1 (by decide))
            | false =>
              cases h2 : isR l 1 1 nameT with
              | true => exact .inr (.inl (isR_text h2 (by decide)))
              | false =>
                cases h3 : isR l 1 1 valT with
                | true => exact .inr (.inr (isR_text h3 (by decide)))
                | false => rw [h1, h2, h3] at hy; exact absurd rfl hy
    · cases h
theorem Parsed.fine {l : List Lx} {ss : List St} (h : Parsed l ss) : ∀ st ∈ ss, st.fine := by
  induction h with
  | nil => exact fun _ h => (by cases h)
  | cons ho _ ih =>
    intro s hs
    rcases List.mem_cons.1 hs with rfl | hs
    · exact oneR_fine ho
    · exact ih s hs
theorem one_lim (i : Nat) (hi : i < 3) : ∀ {ss : List St}, (∀ st ∈ ss, st.fine) → (keysS ss).Nodup → (ss.flatMap (St.cN i)).length ≤ 1
  | [], _, _ => by simp
  | st :: ss, hf, hn => by
    rw [List.flatMap_cons, List.length_append]
    by_cases h : st.cN i = []
    · rw [h, List.length_nil, Nat.zero_add]
      refine one_lim i hi (fun s hs => hf s (List.mem_cons_of_mem _ hs)) ?_
      unfold keysS at hn ⊢
      cases hk : st.key with
      | none => rw [List.filterMap_cons_none hk] at hn; exact hn
      | some k => rw [List.filterMap_cons_some hk] at hn; exact (List.nodup_cons.1 hn).2
    · have hk := cN_key (hf st List.mem_cons_self) i hi h
      unfold keysS at hn
      rw [List.filterMap_cons_some hk] at hn
      have hno := (List.nodup_cons.1 hn).1
      have : ss.flatMap (St.cN i) = [] := by
        refine List.eq_nil_iff_forall_not_mem.2 fun x hx => hno ?_
        obtain ⟨s2, hs2, hx2⟩ := List.mem_flatMap.1 hx
        exact List.mem_filterMap.2 ⟨s2, hs2, cN_key (hf s2 (List.mem_cons_of_mem _ hs2)) i hi (List.ne_nil_of_mem hx2)⟩
      rw [this]
      have := cN_len i st
      simp only [List.length_nil]; omega
theorem pol_ext {p q : Pol} (h0 : p.tags = q.tags) (h1 : p.schemes = q.schemes) (h2 : p.css = q.css) (h3 : p.drops = q.drops) (h4 : p.attrs = q.attrs) (h5 : p.forces = q.forces) (h6 : p.rel = q.rel) (h7 : p.depth = q.depth) (h8 : p.name = q.name) (h9 : p.value = q.value) : p = q := by
  cases p; cases q
  simp only at h0 h1 h2 h3 h4 h5 h6 h7 h8 h9
  subst h0 h1 h2 h3 h4 h5 h6 h7 h8 h9
  rfl
theorem force_one (a : Frc) {ss : List St} (hn : (keysS ss).Nodup) : ((ss.flatMap St.cF).filter (ev ltF a)).length ≤ 1 := by
  refine one_of St.cF (ev ltF a) (forceT ++ [32] ++ a.tag ++ [32] ++ a.name) (fun st => ?_) (fun st h => ?_) hn
  · refine Nat.le_trans (List.length_filter_le _ _) ?_
    cases st with
    | nm k tag ws => exact Nat.zero_le _
    | sg k x y z =>
      simp only [St.cF]
      split
      · simp
      split <;> simp
  · cases st with
    | nm k tag ws => exact absurd rfl h
    | sg k x y z =>
      simp only [St.cF] at h
      by_cases h1 : k = relT
      · rw [if_pos h1] at h; exact absurd rfl h
      by_cases h2 : k = forceT
      · rw [if_neg h1, if_pos h2] at h
        simp only [St.key, if_neg h1, if_pos h2]
        have he : ev ltF a ⟨x, y, z⟩ = true := by
          cases hc : ev ltF a ⟨x, y, z⟩ with
          | true => rfl
          | false => rw [List.filter_cons_of_neg (by rw [hc]; decide)] at h; exact absurd rfl h
        have h3 : ev ltF a ⟨x, y, z⟩ = ev ltP a.key (x, y) := rfl
        rw [h3, ev_P, decide_eq_true_eq] at he
        have e1 := congrArg Prod.fst he
        have e2 := congrArg Prod.snd he
        simp only [Frc.key] at e1 e2
        rw [e1, e2]
      · rw [if_neg h1, if_neg h2] at h; exact absurd rfl h
theorem rel_one {ss : List St} (hn : (keysS ss).Nodup) : (ss.flatMap St.cR).length ≤ 1 := by
  refine one_all St.cR relT (fun st => ?_) (fun st h => ?_) hn
  · cases st with
    | nm k tag ws => exact Nat.zero_le _
    | sg k x y z => simp only [St.cR]; split <;> simp
  · cases st with
    | nm k tag ws => exact absurd rfl h
    | sg k x y z =>
      simp only [St.cR] at h
      by_cases h1 : k = relT
      · simp [St.key, h1]
      · rw [if_neg h1] at h; exact absurd rfl h
/-- Either way round. -/
theorem neat_turn {S T : List St} (hf : ∀ st ∈ S ++ T, st.fine) (hn : (keysS (S ++ T)).Nodup) : neatP (appS (S ++ T) pol0) = neatP (appS (T ++ S) pol0) := by
  obtain ⟨a0, a1, a2, a3, a4, a5, a6, a7, a8, a9⟩ := appS_parts (S ++ T) pol0
  obtain ⟨b0, b1, b2, b3, b4, b5, b6, b7, b8, b9⟩ := appS_parts (T ++ S) pol0
  have hL : ∀ f x, x ∈ pol0.tags ++ (S ++ T).flatMap (St.cL f) ↔ x ∈ pol0.tags ++ (T ++ S).flatMap (St.cL f) := fun f x => by
    simp only [pol0, List.nil_append, List.flatMap_append, List.mem_append]; exact Or.comm
  have hN : ∀ i, i < 3 → (S ++ T).flatMap (St.cN i) = (T ++ S).flatMap (St.cN i) := fun i hi => by
    have := one_lim i hi hf hn
    rw [List.flatMap_append] at this ⊢
    rw [List.flatMap_append]
    exact app_one this
  have hR : (S ++ T).flatMap St.cR = (T ++ S).flatMap St.cR := by
    have := rel_one hn
    rw [List.flatMap_append] at this ⊢
    rw [List.flatMap_append]
    exact app_one this
  refine pol_ext ?_ ?_ ?_ ?_ ?_ ?_ ?_ ?_ ?_ ?_
  · show neatL ltB _ = neatL ltB _; rw [a0, b0]; exact neat_set swoB ev_B (hL _)
  · show neatL ltB _ = neatL ltB _; rw [a1, b1]; exact neat_set swoB ev_B (hL _)
  · show neatL ltB _ = neatL ltB _; rw [a2, b2]; exact neat_set swoB ev_B (hL _)
  · show neatL ltB _ = neatL ltB _; rw [a3, b3]; exact neat_set swoB ev_B (hL _)
  · show neatL ltA _ = neatL ltA _; rw [a4, b4]
    refine neat_set swoA ev_alw fun x => ?_
    simp only [pol0, List.nil_append, List.flatMap_append, List.mem_append]; exact Or.comm
  · show neatL ltF _ = neatL ltF _; rw [a5, b5]
    refine neat_same swoF fun a => ?_
    have := force_one a hn
    simp only [pol0, List.nil_append, List.flatMap_append, List.filter_append] at this ⊢
    rw [app_one this]
  · show (appS _ _).rel = (appS _ _).rel; rw [a6, b6, hR]
  · show (appS _ _).depth = (appS _ _).depth; rw [a7, b7, hN 0 (by omega)]
  · show (appS _ _).name = (appS _ _).name; rw [a8, b8, hN 1 (by omega)]
  · show (appS _ _).value = (appS _ _).value; rw [a9, b9, hN 2 (by omega)]
theorem no_keys {ss : List St} (h : keysS ss = []) : ∀ st ∈ ss, ∃ k tag ws, st = .nm k tag ws := by
  intro st hs
  cases st with
  | nm k tag ws => exact ⟨k, tag, ws, rfl⟩
  | sg k x y z =>
    have : (St.sg k x y z).key.isSome = true := rfl
    obtain ⟨w, hw⟩ := Option.isSome_iff_exists.1 this
    have h9 : w ∈ keysS ss := List.mem_filterMap.2 ⟨_, hs, hw⟩
    rw [h] at h9; cases h9
theorem flat_none {α : Type} {c : St → List α} {ss : List St} (h : ∀ st ∈ ss, c st = []) : ss.flatMap c = [] := by
  refine List.eq_nil_iff_forall_not_mem.2 fun x hx => ?_
  obtain ⟨s, hs, hx⟩ := List.mem_flatMap.1 hx
  rw [h s hs] at hx; cases hx
/-- Each twice, where nothing may be told but once. -/
theorem neat_twice {S : List St} (h : keysS S = []) : neatP (appS (S ++ S) pol0) = neatP (appS S pol0) := by
  obtain ⟨a0, a1, a2, a3, a4, a5, a6, a7, a8, a9⟩ := appS_parts (S ++ S) pol0
  obtain ⟨b0, b1, b2, b3, b4, b5, b6, b7, b8, b9⟩ := appS_parts S pol0
  have hk := no_keys h
  have hL : ∀ f x, x ∈ pol0.tags ++ (S ++ S).flatMap (St.cL f) ↔ x ∈ pol0.tags ++ S.flatMap (St.cL f) := fun f x => by
    simp only [pol0, List.nil_append, List.flatMap_append, List.mem_append, or_self]
  have hN : ∀ i, S.flatMap (St.cN i) = [] := fun i => flat_none fun st hs => by obtain ⟨k, t, ws, rfl⟩ := hk st hs; rfl
  have hR : S.flatMap St.cR = [] := flat_none fun st hs => by obtain ⟨k, t, ws, rfl⟩ := hk st hs; rfl
  have hF : S.flatMap St.cF = [] := flat_none fun st hs => by obtain ⟨k, t, ws, rfl⟩ := hk st hs; rfl
  refine pol_ext ?_ ?_ ?_ ?_ ?_ ?_ ?_ ?_ ?_ ?_
  · show neatL ltB _ = neatL ltB _; rw [a0, b0]; exact neat_set swoB ev_B (hL _)
  · show neatL ltB _ = neatL ltB _; rw [a1, b1]; exact neat_set swoB ev_B (hL _)
  · show neatL ltB _ = neatL ltB _; rw [a2, b2]; exact neat_set swoB ev_B (hL _)
  · show neatL ltB _ = neatL ltB _; rw [a3, b3]; exact neat_set swoB ev_B (hL _)
  · show neatL ltA _ = neatL ltA _; rw [a4, b4]
    refine neat_set swoA ev_alw fun x => ?_
    simp only [pol0, List.nil_append, List.flatMap_append, List.mem_append, or_self]
  · show neatL ltF _ = neatL ltF _; rw [a5, b5, List.flatMap_append, hF]; rfl
  · show (appS _ _).rel = (appS _ _).rel; rw [a6, b6, List.flatMap_append, hR]; rfl
  · show (appS _ _).depth = (appS _ _).depth; rw [a7, b7, List.flatMap_append, hN]; rfl
  · show (appS _ _).name = (appS _ _).name; rw [a8, b8, List.flatMap_append, hN]; rfl
  · show (appS _ _).value = (appS _ _).value; rw [a9, b9, List.flatMap_append, hN]; rfl
theorem nodup_comm {α : Type} {a b : List α} (h : (a ++ b).Nodup) : (b ++ a).Nodup := by
  rw [List.nodup_append] at h ⊢
  exact ⟨h.2.1, h.1, fun x hx y hy e => h.2.2 y hy x hx e.symm⟩
/-- Of two texts, either way round, and each twice. -/
theorem two_texts {s t : Bs} {ps pt : Pol} (hs : parsePl s = .ok ps) (ht : parsePl t = .ok pt) (h1 : s.length ≤ 1500) (h2 : t.length ≤ 1500) :
    (∃ P, parsePl (s ++ 10 :: t) = .ok P ∧ parsePl (t ++ 10 :: s) = .ok P ∧ (parsePl ((s ++ 10 :: t) ++ 10 :: (s ++ 10 :: t)) = .ok P ∨ ∃ a, parsePl ((s ++ 10 :: t) ++ 10 :: (s ++ 10 :: t)) = .error ⟨a, 5⟩)) ∨
    (∃ a b c, (c = 5 ∨ c = 3) ∧ parsePl (s ++ 10 :: t) = .error ⟨a, c⟩ ∧ parsePl (t ++ 10 :: s) = .error ⟨b, c⟩) := by
  obtain ⟨L, S, l1, l2, l3, l4, _⟩ := parse_st hs
  obtain ⟨M, T, m1, m2, m3, m4, _⟩ := parse_st ht
  obtain ⟨N1, n1, k1⟩ := scan_both l1 m1
  obtain ⟨N2, n2, k2⟩ := scan_both m1 l1
  obtain ⟨N3, n3, k3⟩ := scan_both n1 n1
  have p1 : Parsed N1 (S ++ T) := (l2.app m2).kt k1.symm
  have p2 : Parsed N2 (T ++ S) := (m2.app l2).kt k2.symm
  have p3 : Parsed N3 ((S ++ T) ++ (S ++ T)) := (p1.app p1).kt k3.symm
  have g1 : ∀ st ∈ S ++ T, st.good = true := fun st h => (List.mem_append.1 h).elim (l3 st) (m3 st)
  have g2 : ∀ st ∈ T ++ S, st.good = true := fun st h => (List.mem_append.1 h).elim (m3 st) (l3 st)
  have g3 : ∀ st ∈ (S ++ T) ++ (S ++ T), st.good = true := fun st h => (List.mem_append.1 h).elim (g1 st) (g1 st)
  obtain ⟨q1, q2⟩ := st_parse (by simp only [List.length_append, List.length_cons]; omega) n1 p1 g1
  obtain ⟨r1, r2⟩ := st_parse (by simp only [List.length_append, List.length_cons]; omega) n2 p2 g2
  obtain ⟨z1, z2⟩ := st_parse (by simp only [List.length_append, List.length_cons]; omega) n3 p3 g3
  have hnd : (keysS (T ++ S)).Nodup ↔ (keysS (S ++ T)).Nodup := by
    rw [keysS_app, keysS_app]
    exact ⟨nodup_comm, nodup_comm⟩
  by_cases hn : (keysS (S ++ T)).Nodup
  · have e1 := q1 hn
    have e2 := r1 (hnd.2 hn)
    rw [← neat_turn p1.fine hn] at e2
    by_cases hf : fitB (neatP (appS (S ++ T) pol0)) = true
    · rw [if_pos hf] at e1 e2
      refine .inl ⟨_, e1, e2, ?_⟩
      by_cases hk : keysS (S ++ T) = []
      · left
        rw [z1 (by rw [keysS_app, hk]; exact List.nodup_nil), neat_twice hk, if_pos hf]
      · right
        refine z2 fun h => hk ?_
        rw [keysS_app] at h
        have hd := (List.nodup_append.1 h).2.2
        cases hc : keysS (S ++ T) with
        | nil => rfl
        | cons x r => rw [hc] at hd; exact absurd rfl (hd x List.mem_cons_self x List.mem_cons_self)
    · rw [if_neg hf] at e1 e2
      exact .inr ⟨_, _, 3, .inr rfl, e1, e2⟩
  · obtain ⟨a, e1⟩ := q2 hn
    obtain ⟨b, e2⟩ := r2 (fun h => hn (hnd.1 h))
    exact .inr ⟨a, b, 5, .inl rfl, e1, e2⟩
end Go.Proofs.Ytenjnliceeejlaa
