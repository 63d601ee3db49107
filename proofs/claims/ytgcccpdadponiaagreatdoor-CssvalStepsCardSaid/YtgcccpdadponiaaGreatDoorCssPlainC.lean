/- Plain laws: the pieces of a style, more: what may be told is scanned back, and what is scanned may be told. No program in sight. -/
import Derived.Test.YtgcccpdadponiaaGreatDoorCssPlainB
namespace Go.Proofs.YtgcccpdadponiaaGreatDoor
/-- What a unit may be. -/
def UnitOk (U : Bs) : Prop := U = [] ∨ U = [37] ∨ ∃ c r, U = c :: r ∧ letB c = true ∧ U.all goB = true ∧ lowL U = U ∧ U.length ≤ 64
theorem lw_let (c : UInt8) : letB (lwB c) = letB c := by
  unfold lwB
  split
  · rename_i h
    simp only [upB, decide_eq_true_eq] at h
    have : (c + 32).toNat = c.toNat + 32 := by rw [UInt8.toNat_add]; simp; omega
    rw [Bool.eq_iff_iff]; simp only [letB, upB, lowB, Bool.or_eq_true, decide_eq_true_eq, this]; omega
  · rfl
theorem lw_dig (c : UInt8) : digB (lwB c) = digB c := by
  unfold lwB
  split
  · rename_i h
    simp only [upB, decide_eq_true_eq] at h
    have : (c + 32).toNat = c.toNat + 32 := by rw [UInt8.toNat_add]; simp; omega
    rw [Bool.eq_iff_iff]; simp only [digB, decide_eq_true_eq, this]; omega
  · rfl
theorem lw_eq (c : UInt8) (k : Nat) (hk : k < 65 ∨ 122 < k ∨ (90 < k ∧ k < 97)) : decide ((lwB c).toNat = k) = decide (c.toNat = k) := by
  unfold lwB
  split
  · rename_i h
    simp only [upB, decide_eq_true_eq] at h
    have : (c + 32).toNat = c.toNat + 32 := by rw [UInt8.toNat_add]; simp; omega
    rw [Bool.eq_iff_iff]; simp only [decide_eq_true_eq, this]; omega
  · rfl
theorem lw_beg (c : UInt8) : begB (lwB c) = begB c := by unfold begB; rw [lw_let, lw_eq c 95 (by omega)]
theorem lw_go (c : UInt8) : goB (lwB c) = goB c := by unfold goB; rw [lw_beg, lw_dig, lw_eq c 45 (by omega)]
theorem lw_lw (c : UInt8) : lwB (lwB c) = lwB c := by
  have : upB (lwB c) = false := by
    unfold lwB
    split
    · rename_i h
      simp only [upB, decide_eq_true_eq] at h
      have : (c + 32).toNat = c.toNat + 32 := by rw [UInt8.toNat_add]; simp; omega
      simp only [upB, decide_eq_false_iff_not, this]; omega
    · rename_i h; simpa using h
  rw [show lwB (lwB c) = if upB (lwB c) = true then lwB c + 32 else lwB c from rfl, this]; rfl
theorem low_low (s : Bs) : lowL (lowL s) = lowL s := by simp [lowL, lw_lw]
theorem low_all (p : UInt8 → Bool) (hp : ∀ c, p (lwB c) = p c) (s : Bs) : (lowL s).all p = s.all p := by
  induction s with
  | nil => rfl
  | cons c s ih => simp only [lowL, List.map_cons, List.all_cons, hp] at *; rw [ih]
theorem unit_ok (r : Bs) (h : (r.take (unitN r)).length ≤ 64) : UnitOk (lowL (r.take (unitN r))) := by
  cases r with
  | nil => exact .inl rfl
  | cons c r =>
    simp only [unitN] at h ⊢
    split
    · rename_i h1
      have : c = 37 := UInt8.toNat_inj.1 h1
      subst this
      exact .inr (.inl rfl)
    · split
      · rename_i h0 h1
        rw [if_neg h0, if_pos h1] at h
        have h2 : goB c = true := by simp only [goB, begB, h1, Bool.true_or]
        have h3 : twc goB (c :: r) = twc goB r + 1 := by simp [twc, h2]
        rw [h3, List.take_succ_cons] at h ⊢
        refine .inr (.inr ⟨lwB c, lowL (r.take (twc goB r)), rfl, by rw [lw_let]; exact h1, ?_, low_low _, by rw [lowL_len]; exact h⟩)
        rw [low_all _ lw_go, List.all_cons, h2, all_take]; rfl
      · exact .inl rfl
theorem unit_facts {U : Bs} (h : UnitOk U) : unitN U = U.length ∧ hd digB U = false ∧ hd (fun c => decide (c.toNat = 46)) U = false ∧ lowL U = U ∧ U.length ≤ 64 := by
  rcases h with rfl | rfl | ⟨c, r, rfl, h1, h2, h3, h4⟩
  · exact ⟨rfl, rfl, rfl, rfl, by simp⟩
  · exact ⟨by decide, by decide, by decide, by decide, by decide⟩
  · refine ⟨?_, ?_, ?_, h3, h4⟩
    · have h5 : c.toNat ≠ 37 := by simp only [letB, upB, lowB, Bool.or_eq_true, decide_eq_true_eq] at h1; omega
      simp only [unitN, if_neg h5, h1, if_true]
      exact twc_all _ _ h2
    · simp only [hd, letB, upB, lowB, digB, Bool.or_eq_true, decide_eq_true_eq, decide_eq_false_iff_not] at *; omega
    · simp only [hd, letB, upB, lowB, Bool.or_eq_true, decide_eq_true_eq, decide_eq_false_iff_not] at *; omega
/-- Figures' parts: a sign, figures, a point and figures. -/
def sgL (n : Int) : Bs := if n < 0 then [45] else []
theorem fig_split (n : Int) : figuresL n = sgL n ++ (figL (n.natAbs / 1000) ++ fracL (n.natAbs % 1000)) := by
  unfold figuresL sgL; rw [List.append_assoc]
theorem fig_cons (k : Nat) : ∃ c r, figL k = c :: r ∧ digB c = true := by
  have h := figF_dig 20 k
  unfold figL
  cases hf : figF 20 k with
  | nil => exact absurd hf h.2
  | cons c r => rw [hf] at h; simp at h; exact ⟨c, r, rfl, h.1⟩
theorem dig_not {c : UInt8} (h : digB c = true) : begB c = false ∧ sgB c = false ∧ spB c = false ∧ c.toNat ≠ 45 ∧ c.toNat ≠ 47 ∧ qtB c = false := by
  simp only [digB, begB, letB, sgB, spB, qtB, upB, lowB, decide_eq_true_eq, Bool.or_eq_false_iff, decide_eq_false_iff_not] at *
  omega
theorem fig_head (n : Int) (V : Bs) : sgN (figuresL n ++ V) = (sgL n).length ∧ (figuresL n ++ V).drop (sgL n).length = figL (n.natAbs / 1000) ++ (fracL (n.natAbs % 1000) ++ V) ∧ nameB (figuresL n ++ V) = false ∧ Solid (figuresL n ++ V) ∧ hd (fun c => decide (c.toNat = 45)) (figuresL n ++ V) = decide (n < 0) := by
  obtain ⟨c, r, hc, hd0⟩ := fig_cons (n.natAbs / 1000)
  obtain ⟨d1, d2, d3, d4, d5, _⟩ := dig_not hd0
  rw [fig_split, List.append_assoc, List.append_assoc]
  unfold sgL
  by_cases hn : n < 0
  · rw [if_pos hn]
    refine ⟨rfl, rfl, ?_, ⟨by decide, by simp⟩, by simp [hd, hn]⟩
    rw [hc]
    simp [nameB, d1]
    decide
  · rw [if_neg hn]
    refine ⟨?_, rfl, ?_, ?_, ?_⟩
    · rw [hc]; simp [sgN, hd, d2]
    · rw [hc]; simp [nameB, d1, d4]
    · rw [hc]; exact ⟨d3, fun h => d5 h.1⟩
    · rw [hc]; simp [hd, d4, hn]
theorem fig_to (n : Int) (V : Bs) : (figuresL n).length ≤ (numP (figuresL n ++ V)).to := by
  obtain ⟨h1, h2, _⟩ := fig_head n V
  have hf := (figF_dig 20 (n.natAbs / 1000)).1
  have hfr := frac_dig (n.natAbs % 1000) (Nat.mod_lt _ (by omega))
  unfold numP
  simp only [h1, h2]
  have hlen : (figuresL n).length = (sgL n).length + ((figL (n.natAbs / 1000)).length + (fracL (n.natAbs % 1000)).length) := by rw [fig_split]; simp
  rw [hlen]
  rw [frac_is] at *
  by_cases hp : n.natAbs % 1000 = 0
  · rw [if_pos hp]
    have := twc_ge digB (figL (n.natAbs / 1000)) ([] ++ V) hf
    simp only [List.length_nil]
    omega
  · rw [if_neg hp]
    have e1 : twc digB (figL (n.natAbs / 1000) ++ (46 :: fracD (n.natAbs % 1000) ++ V)) = (figL (n.natAbs / 1000)).length := twc_run _ _ _ hf (by rfl)
    rw [e1, List.drop_left]
    have e2 : dotN (46 :: fracD (n.natAbs % 1000) ++ V) = twc digB (fracD (n.natAbs % 1000) ++ V) := rfl
    rw [e2]
    have h3 := twc_ge digB (fracD (n.natAbs % 1000)) V hfr.1
    have h4 : 0 < (fracD (n.natAbs % 1000)).length := List.length_pos_iff.2 (hfr.2.2 hp)
    rw [if_neg (by omega)]
    simp only [List.length_cons]; omega
/-- A number's figures, with a unit, are scanned as it. -/
theorem num_scan (n : Int) (U : Bs) (hn : n.natAbs ≤ 999999999) (hU : UnitOk U) : pieceC (figuresL n ++ U) = (⟨3, [], n, U⟩, (figuresL n ++ U).length) := by
  obtain ⟨h1, h2, h3, _, h5⟩ := fig_head n U
  obtain ⟨u1, u2, u3, u4, u5⟩ := unit_facts hU
  have hf := (figF_dig 20 (n.natAbs / 1000)).1
  have hfl : (figL (n.natAbs / 1000)).length ≤ 6 := figF_len 20 _ 6 (by omega) (by omega)
  have hfv : valL (figL (n.natAbs / 1000)) = n.natAbs / 1000 := figF_val 20 _ (by omega)
  have hfr := frac_dig (n.natAbs % 1000) (Nat.mod_lt _ (by omega))
  have hlen : (figuresL n).length = (sgL n).length + ((figL (n.natAbs / 1000)).length + (fracL (n.natAbs % 1000)).length) := by rw [fig_split]; simp
  have hne : figL (n.natAbs / 1000) ≠ [] := (figF_dig 20 _).2
  have hP : numP (figuresL n ++ U) = ⟨decide (n < 0), figL (n.natAbs / 1000), fracD (n.natAbs % 1000), U, (figuresL n).length⟩ := by
    unfold numP
    simp only [h1, h2, h5]
    rw [frac_is] at *
    by_cases hp : n.natAbs % 1000 = 0
    · rw [if_pos hp] at hlen ⊢
      have e1 : twc digB (figL (n.natAbs / 1000) ++ ([] ++ U)) = (figL (n.natAbs / 1000)).length := twc_run _ _ _ hf (by simpa using u2)
      rw [e1, List.drop_left, List.take_left]
      have e2 : dotN U = 0 := by
        cases U with
        | nil => rfl
        | cons c r => simp only [hd, decide_eq_false_iff_not] at u3; simp [dotN, u3]
      have e3 : fracD (n.natAbs % 1000) = [] := by rw [hp]; rfl
      simp only [List.nil_append, e2, e3, if_true, List.take_zero, u1, List.take_length, hlen, List.length_nil]
      congr 1
    · rw [if_neg hp] at hlen ⊢
      have e1 : twc digB (figL (n.natAbs / 1000) ++ (46 :: fracD (n.natAbs % 1000) ++ U)) = (figL (n.natAbs / 1000)).length := twc_run _ _ _ hf (by rfl)
      rw [e1, List.drop_left, List.take_left]
      have e2 : dotN (46 :: (fracD (n.natAbs % 1000) ++ U)) = (fracD (n.natAbs % 1000)).length := twc_run _ _ _ hfr.1 u2
      have h4 : 0 < (fracD (n.natAbs % 1000)).length := List.length_pos_iff.2 (hfr.2.2 hp)
      have h6 : (fracD (n.natAbs % 1000)).length ≠ 0 := by omega
      simp only [List.cons_append, e2, if_neg h6, List.drop_succ_cons, List.drop_zero, List.take_left, List.drop_left, u1, List.take_length, hlen, List.length_cons]
      congr 1
      omega
  unfold pieceC
  rw [h3]
  simp only [Bool.false_eq_true, if_false]
  unfold numC
  rw [hP]
  unfold numOf
  simp only
  rw [if_neg (fun h => hne h.1), if_neg (by omega)]
  have hv : valL (figL (n.natAbs / 1000) ++ fracD (n.natAbs % 1000) ++ List.replicate (3 - (fracD (n.natAbs % 1000)).length) 48) = n.natAbs := by
    unfold valL at hfv ⊢
    rw [List.append_assoc, valL_app, hfv, frac_val _ _ (Nat.mod_lt _ (by omega))]
    omega
  simp only [hv, u4, List.length_append]
  congr 2
  by_cases h : n < 0
  · simp [h]; omega
  · simp [h]; omega
/-! What may be told. -/
theorem right_parts {x : Css} (h : rightC x = true) : x.kind ≠ 7 ∧ cssL (toldC x) = [x] := by
  simpa [rightC] using h
/-- What may be told is one piece, to its end. -/
theorem right_piece {x : Css} (h : rightC x = true) : Solid (toldC x) ∧ pieceC (toldC x) = (x, (toldC x).length) := by
  obtain ⟨h7, hs⟩ := right_parts h
  obtain ⟨pre, hpre⟩ := blk_suffix (toldC x) 0
  have hl := blk_len (toldC x) 0
  cases hb : blkM 0 (toldC x) with
  | nil => rw [scan_nil hb] at hs; cases hs
  | cons c r =>
    rw [hb] at hpre hl
    rw [scan_cons hb] at hs
    have hx := (List.cons.inj hs).1
    obtain ⟨n, hn⟩ : ∃ n, (pieceC (c :: r)).2 = n := ⟨_, rfl⟩
    have hp : pieceC (c :: r) = (x, n) := Prod.ext hx hn
    obtain ⟨n1, n2, hk⟩ := piece_kinds (s := c :: r) (by simp) hp
    have key : n = (toldC x).length → Solid (toldC x) ∧ pieceC (toldC x) = (x, (toldC x).length) := fun he => by
      have h0 : pre = [] := List.eq_nil_of_length_eq_zero (by have := congrArg List.length hpre; rw [List.length_append] at this; omega)
      rw [h0, List.nil_append] at hpre
      rw [← he, hpre]
      exact ⟨blk_solid _ _ hb, hp⟩
    rcases hk with hk | ⟨k1, k2⟩ | ⟨k1, k2⟩ | ⟨k1, k2, k3⟩ | ⟨k1, k2⟩ | ⟨k1, k2⟩ | ⟨k1, k2⟩
    · exact absurd hk h7
    · exact key (by rw [toldC, if_pos (.inl k1)]; omega)
    · exact key (by rw [toldC, if_neg (by omega), if_pos k1]; simp; omega)
    · have ht : toldC x = figuresL x.num ++ x.unit := by rw [toldC, if_neg (by omega), if_neg (by omega), if_pos k1]
      obtain ⟨_, _, _, hsol, _⟩ := fig_head x.num x.unit
      rw [← ht] at hsol
      rw [solid_blk hsol] at hb
      rw [← hb] at hp k3 n2
      obtain ⟨m1, _, m3⟩ := numC_some k3
      have m4 : x.unit.length = (numP (toldC x)).unit.length := by
        rcases m3 with m3 | ⟨_, _, _, m3⟩
        · exact absurd (by rw [m3]; rfl) h7
        · have := congrArg Css.unit m3; simp only at this; rw [this, lowL_len]
      have m5 := fig_to x.num x.unit
      rw [← ht] at m5
      have m6 : (toldC x).length = (figuresL x.num).length + x.unit.length := by rw [ht]; simp
      have : n = (toldC x).length := by omega
      exact ⟨hsol, by rw [← this]; exact hp⟩
    · exact key (by rw [toldC, if_neg (by omega), if_neg (by omega), if_neg (by omega), if_pos k1]; simp; omega)
    · exact key (by rw [toldC, if_neg (by omega), if_neg (by omega), if_neg (by omega), if_neg (by omega), if_pos k1]; simp; omega)
    · exact key (by rw [toldC, if_pos (.inr k1)]; omega)
theorem told_scan {x : Css} (h : rightC x = true) {r : Bs} (hr : Ends r) : cssL (toldC x ++ r) = x :: cssL r := by
  obtain ⟨h1, h2⟩ := right_piece h
  have hne : toldC x ≠ [] := by intro h0; rw [h0] at h1; exact h1
  have h3 := piece_app hne hr (by rw [h2]; exact (right_parts h).1)
  rw [scan_solid (solid_app h1 hr), h3, h2, List.drop_left]
theorem text_scan : ∀ (l : List Css), (∀ x ∈ l, rightC x = true) → ∀ r, Ends r → cssL (textC l ++ r) = l ++ cssL r := by
  intro l
  induction l with
  | nil => intro _ r _; rfl
  | cons x l ih =>
    intro h r hr
    have hx := h x (List.mem_cons_self ..)
    have hl := ih (fun y hy => h y (List.mem_cons_of_mem _ hy)) r hr
    cases l with
    | nil => exact told_scan hx hr
    | cons y l =>
      show cssL ((toldC x ++ 32 :: textC (y :: l)) ++ r) = _
      rw [List.append_assoc, List.cons_append, told_scan hx (.inr ⟨32, _, rfl, by decide⟩), scan_sp (by decide), hl]
      rfl
theorem right_of {x : Css} (h1 : Solid (toldC x)) (h2 : pieceC (toldC x) = (x, (toldC x).length)) (h7 : x.kind ≠ 7) : rightC x = true := by
  have h3 := scan_solid h1
  rw [h2, List.drop_length] at h3
  simp only [rightC, h3, Bool.and_eq_true, decide_eq_true_eq]
  exact ⟨h7, by rw [scan_nil rfl]⟩
/-- A name in small letters is the name that it was. -/
theorem name_low {s : Bs} (h : nameB s = true) (V : Bs) : nameB (lowL (s.take (twc goB s)) ++ V) = true := by
  cases s with
  | nil => simp [nameB] at h
  | cons c r =>
    simp only [nameB, Bool.or_eq_true, Bool.and_eq_true, decide_eq_true_eq] at h
    rcases h with h | ⟨h, h2⟩
    · have h3 : goB c = true := by simp only [goB, h, Bool.true_or]
      have h4 : twc goB (c :: r) = twc goB r + 1 := by simp [twc, h3]
      rw [h4, List.take_succ_cons]
      simp [lowL, nameB, lw_beg, h]
    · cases r with
      | nil => simp at h2
      | cons d r =>
        have h3 : goB c = true := by simp [goB, h]
        have h5 : goB d = true := by simp only [goB]; simp only at h2; rw [h2]; rfl
        have h4 : twc goB (c :: d :: r) = twc goB r + 2 := by simp [twc, h3, h5]
        have hc : c = 45 := UInt8.toNat_inj.1 h
        subst hc
        rw [h4, List.take_succ_cons, List.take_succ_cons]
        have h6 : lwB 45 = 45 := by decide
        simp only at h2
        simp [lowL, nameB, lw_beg, h2, h6]
theorem name_solid {s : Bs} (h : nameB s = true) : Solid s := by
  cases s with
  | nil => simp [nameB] at h
  | cons c r =>
    simp only [nameB, Bool.or_eq_true, Bool.and_eq_true, decide_eq_true_eq] at h
    have : c.toNat = 45 ∨ begB c = true := by rcases h with h | h; exact .inr h; exact .inl h.1
    refine ⟨?_, fun h => ?_⟩
    · simp only [begB, letB, upB, lowB, spB, Bool.or_eq_true, decide_eq_true_eq, decide_eq_false_iff_not] at *; omega
    · have := h.1; simp only [begB, letB, upB, lowB, Bool.or_eq_true, decide_eq_true_eq] at *; omega
theorem mk_cases {c : UInt8} (h : mkB c = true) : c ∈ ([58, 59, 44, 40, 41, 47, 33, 42, 43, 46, 62, 61, 45] : Bs) := by
  unfold mkB at h
  exact List.contains_iff_mem.1 h
/-- What is scanned may be told, if it is not bad. -/
theorem scanned_right {s : Bs} (hs : s ≠ []) {x : Css} {n : Nat} (h : pieceC s = (x, n)) (h7 : x.kind ≠ 7) : rightC x = true := by
  unfold pieceC at h
  cases hn : nameB s
  · rw [hn] at h
    simp only [Bool.false_eq_true, if_false] at h
    cases hm : numC s with
    | some y =>
      rw [hm] at h
      simp only at h
      subst h
      obtain ⟨_, _, h3⟩ := numC_some hm
      rcases h3 with rfl | ⟨l1, l2, l3, h3⟩
      · exact absurd rfl h7
      · have hu : UnitOk (lowL (numP s).unit) := unit_ok _ l3
        have hv : valL ((numP s).whole ++ (numP s).part ++ List.replicate (3 - (numP s).part.length) 48) ≤ 999999999 := by
          have hb : ∀ (l : Bs), l.all digB = true → ∀ k, l.foldl (fun n (c : UInt8) => n * 10 + (c.toNat - 48)) k + 1 ≤ (k + 1) * 10 ^ l.length := by
            intro l
            induction l with
            | nil => intro _ k; simp
            | cons c l ih =>
              intro hl k
              simp only [List.all_cons, Bool.and_eq_true] at hl
              have := ih hl.2 (k * 10 + (c.toNat - 48))
              have hc := hl.1
              simp only [digB, decide_eq_true_eq] at hc
              simp only [List.foldl_cons, List.length_cons, Nat.pow_succ]
              refine Nat.le_trans this ?_
              rw [Nat.mul_comm (10 ^ l.length) 10, ← Nat.mul_assoc]
              exact Nat.mul_le_mul_right _ (by omega)
          have ha : ((numP s).whole ++ (numP s).part ++ List.replicate (3 - (numP s).part.length) 48).all digB = true := by
            simp only [List.all_append, Bool.and_eq_true]
            refine ⟨⟨all_take digB _, ?_⟩, ?_⟩
            · unfold numP
              simp only
              generalize ((s.drop (sgN s)).drop (twc digB (s.drop (sgN s)))) = v
              cases v with
              | nil => rfl
              | cons c v =>
                simp only [dotN, List.drop_succ_cons, List.drop_zero]
                split
                · exact all_take digB _
                · rfl
            · rw [List.all_eq_true]
              intro c hc
              rw [List.eq_of_mem_replicate hc]; decide
          have := hb _ ha 0
          have hl : ((numP s).whole ++ (numP s).part ++ List.replicate (3 - (numP s).part.length) 48).length ≤ 9 := by simp; omega
          have hp := Nat.pow_le_pow_right (n := 10) (by omega) hl
          unfold valL
          omega
        have hnum : x.num.natAbs ≤ 999999999 := by
          rw [h3]
          simp only
          split <;> omega
        have ht : toldC x = figuresL x.num ++ lowL (numP s).unit := by rw [h3]; rfl
        obtain ⟨_, _, _, hsol, _⟩ := fig_head x.num (lowL (numP s).unit)
        refine right_of (by rw [ht]; exact hsol) ?_ h7
        rw [ht, num_scan _ _ hnum hu]
        congr 1
        rw [h3]
    | none =>
      rw [hm] at h
      simp only at h
      cases hq : quotC s with
      | some y =>
        rw [hq] at h
        simp only at h
        subst h
        obtain ⟨c, r, rfl, h1, h2, rfl⟩ := quotC_some hq
        have ha := all_take plB r
        generalize r.take (twc plB r) = t at *
        have ht : toldC ⟨5, t, 0, []⟩ = 34 :: (t ++ [34]) := rfl
        refine right_of (by rw [ht]; exact ⟨by decide, fun h => absurd h.1 (by decide)⟩) ?_ h7
        rw [ht]
        have q1 : twc plB (t ++ [34]) = t.length := twc_run _ _ _ ha (by decide)
        have q2 : quotC (34 :: (t ++ [34])) = some (⟨5, t, 0, []⟩, t.length + 2) := by
          simp only [quotC, q1, List.drop_left, List.take_left]
          rfl
        have q3 : numC (34 :: (t ++ [34])) = none := by
          have e1 : sgN (34 :: (t ++ [34])) = 0 := rfl
          have e2 : twc digB (34 :: (t ++ [34])) = 0 := rfl
          have e3 : dotN (34 :: (t ++ [34])) = 0 := rfl
          unfold numC numP
          simp only [e1, e2, e3, List.drop_zero, List.take_zero]
          rfl
        have q4 : nameB (34 :: (t ++ [34])) = false := by
          have : begB 34 = false := by decide
          simp [nameB, this]
        unfold pieceC
        rw [q4, q3, q2]
        simp
      | none =>
        rw [hq] at h
        simp only at h
        cases s with
        | nil => exact absurd rfl hs
        | cons c r =>
          simp only at h
          split at h
          · rename_i h1
            simp only [Prod.mk.injEq] at h
            obtain ⟨rfl, rfl⟩ := h
            have ha := all_take goB r
            have hl : (r.take (twc goB r)).length = twc goB r := by rw [List.length_take]; have := twc_le goB r; omega
            generalize r.take (twc goB r) = t at *
            unfold namedC at h7 ⊢
            split
            · rename_i h2; rw [if_pos h2] at h7; exact absurd rfl h7
            · rename_i h2
              rw [if_neg h2] at h7
              have ht : toldC ⟨4, lowL t, 0, []⟩ = 35 :: lowL t := rfl
              refine right_of (by rw [ht]; exact ⟨by decide, fun h => absurd h.1 (by decide)⟩) ?_ h7
              rw [ht]
              have q0 : twc goB (lowL t) = t.length := by rw [twc_all _ _ (by rw [low_all _ lw_go]; exact ha), lowL_len]
              have q2 : quotC (35 :: lowL t) = none := rfl
              have q3 : numC (35 :: lowL t) = none := by
                have e1 : sgN (35 :: lowL t) = 0 := rfl
                have e2 : twc digB (35 :: lowL t) = 0 := rfl
                have e3 : dotN (35 :: lowL t) = 0 := rfl
                unfold numC numP
                simp only [e1, e2, e3, List.drop_zero, List.take_zero]
                rfl
              have q4 : nameB (35 :: lowL t) = false := by
                have : begB 35 = false := by decide
                simp [nameB, this]
              unfold pieceC
              rw [q4, q3, q2]
              simp only [Bool.false_eq_true, if_false, q0]
              rw [if_pos ⟨by decide, by omega⟩, ← lowL_len t, List.take_length]
              unfold namedC
              rw [lowL_len, if_neg h2, low_low]
              simp [lowL_len]
          · split at h
            · rename_i h1 h2
              simp only [Prod.mk.injEq] at h
              obtain ⟨rfl, rfl⟩ := h
              have := mk_cases h2
              simp only [List.mem_cons, List.not_mem_nil, or_false] at this
              rcases this with rfl | rfl | rfl | rfl | rfl | rfl | rfl | rfl | rfl | rfl | rfl | rfl | rfl <;> decide
            · simp only [Prod.mk.injEq] at h
              obtain ⟨rfl, rfl⟩ := h
              exact absurd rfl h7
  · rw [hn] at h
    simp only [if_true] at h
    have hp := nameB_pos hn
    have hle := twc_le goB s
    have hnl := name_low hn
    have ha := all_take goB s
    have hl : (s.take (twc goB s)).length = twc goB s := by rw [List.length_take]; omega
    have hal : (lowL (s.take (twc goB s))).all goB = true := by rw [low_all _ lw_go]; exact ha
    have hll : (lowL (s.take (twc goB s))).length = twc goB s := by rw [lowL_len, hl]
    have hlo := low_low (s.take (twc goB s))
    unfold nameC at h
    split at h
    · simp only [Prod.mk.injEq] at h
      obtain ⟨rfl, rfl⟩ := h
      exact absurd rfl h7
    · rename_i h64
      generalize lowL (s.take (twc goB s)) = t at *
      generalize twc goB s = m at *
      split at h
      · simp only [Prod.mk.injEq] at h
        obtain ⟨rfl, rfl⟩ := h
        have ht : toldC ⟨2, t, 0, []⟩ = t ++ [40] := rfl
        have q1 : twc goB (t ++ [40]) = t.length := twc_run _ _ _ hal (by decide)
        refine right_of (by rw [ht]; exact name_solid (hnl [40])) ?_ h7
        rw [ht]
        unfold pieceC
        rw [hnl [40]]
        simp only [if_true]
        unfold nameC
        rw [q1, List.drop_left, List.take_left, if_neg (by omega), if_pos (by decide), hlo]
        simp
      · simp only [Prod.mk.injEq] at h
        obtain ⟨rfl, rfl⟩ := h
        have ht : toldC ⟨1, t, 0, []⟩ = t := rfl
        have hn2 := hnl []
        rw [List.append_nil] at hn2
        have q1 : twc goB t = t.length := twc_all _ _ hal
        refine right_of (by rw [ht]; exact name_solid hn2) ?_ h7
        rw [ht]
        unfold pieceC
        rw [hn2]
        simp only [if_true]
        unfold nameC
        rw [q1, List.drop_length, List.take_length, if_neg (by omega), if_neg (by simp [hd]), hlo]
theorem scan_right : ∀ (f : Nat) (s : Bs), ∀ x ∈ cssF f s, x.kind ≠ 7 → rightC x = true := by
  intro f
  induction f with
  | zero => intro s x hx; simp [cssF] at hx
  | succ f ih =>
    intro s x hx h7
    simp only [cssF] at hx
    cases hb : blkM 0 s with
    | nil => rw [hb] at hx; simp at hx
    | cons c r =>
      rw [hb] at hx
      simp only [List.mem_cons] at hx
      rcases hx with rfl | hx
      · exact scanned_right (s := c :: r) (by simp) (n := (pieceC (c :: r)).2) rfl h7
      · exact ih _ x hx h7
/-- Any text's pieces may be told, if none is bad. -/
theorem scan_all (s : Bs) : (cssL s).all rightC = !(cssL s).any (fun x => decide (x.kind = 7)) := by
  rw [Bool.eq_iff_iff]
  simp only [List.all_eq_true, Bool.not_eq_true', List.any_eq_false, decide_eq_true_eq]
  exact ⟨fun h x hx => (right_parts (h x hx)).1, fun h x hx => scan_right _ s x hx (h x hx)⟩
end Go.Proofs.YtgcccpdadponiaaGreatDoor
