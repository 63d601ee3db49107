/- Small laws over any program, more: in a round of a range over a function, a region whose order is open and that reads cells beside calls that make memory. -/
import Derived.OrdersHeld
import Derived.OrdersIn
import Derived.StillTail
import Derived.Test.YtdpgpjileffekaaGreatDoorKitD
namespace Go.Proofs.YtdpgpjileffekaaGreatDoor
open Go.RowKit
theorem rowsIn_wide {n : Nat} {P : Program} {row : String} {args : Array Value} {w : World} {R : Value → World → Prop} (h : Rows P row args w R) : RowsIn Fence.wide n P row args w R :=
  fun c cs _ => let ⟨v, w', r, s⟩ := h c cs; ⟨v, w', r, stepsIn_wide.2 s⟩
theorem wpIn_round_of_wp {P : Program} {l : Nat} {o : Oper} (hnd : ∀ c, o.op ≠ .defer c) {a : Act} {w : World} {K : Act → World → Prop} {Q : Exit → Act → World → Prop} (h : o.wp P a w K Q) : o.wpIn (Fence.wide.inRound l) 0 P a w K Q := by
  unfold Oper.wp at h
  unfold Oper.wpIn
  refine ⟨fun f _ => trivial, ?_⟩
  rw [Oper.semAt_eq _ _ _ hnd]
  generalize (execOp a.eval o).run P w = r at *
  cases r with
  | ok n w' =>
    cases n <;> simp only [Oper.upon] at h <;> simp only [Oper.uponIn]
    case value u => exact h
    case skip => exact h
    case defer d => exact h
    case enter f args => exact ⟨fun hd => by simp [Fence.wide, Fence.inRound] at hd, (callsIn_wide (n := 0 - 1)).2 h⟩
    case row row args => exact ⟨fun hd => by simp [Fence.wide, Fence.inRound] at hd, rowsIn_wide (n := 0 - 1) h⟩
  | halt x w' =>
    cases x <;> simp only [Oper.upon] at h <;> simp only [Oper.uponIn]
    all_goals exact h
theorem wpOpIn_round_of_wpOp {P : Program} {l : Nat} {ops : Array Oper} (hnd : ∀ o ∈ ops, ∀ c, o.op ≠ .defer c) {Q : Exit → Act → World → Prop} (hlo : ¬ LetsOut Q) {i : Nat} {K : Act → World → Prop} {a : Act} {w : World} (h : wpOp P ops Q i K a w) : wpOpIn (Fence.wide.inRound l) 0 P ops Q i K a w := by
  unfold wpOp at h
  unfold wpOpIn
  split
  · rename_i ho; simp only [ho] at h; exact h
  · rename_i o ho
    simp only [ho] at h
    split
    · rename_i hw
      simp only [hw, if_true] at h
      rcases h with h | ⟨_, h⟩
      · exact wpIn_round_of_wp (hnd o (Array.mem_of_getElem? ho)) h
      · exact absurd h hlo
    · rename_i hw
      simp only [hw] at h
      exact ⟨fun f _ => trivial, h⟩
theorem wpAnyIn_round_of_wpAny {P : Program} {l : Nat} {ops : Array Oper} {md : Region.Mode} (hnd : ∀ o ∈ ops, ∀ c, o.op ≠ .defer c) {Q : Exit → Act → World → Prop} (hlo : ¬ LetsOut Q) : ∀ (fuel : Nat) (listed : Array Bool) (a : Act) (w : World), wpAny P md ops Q fuel listed a w → wpAnyIn (Fence.wide.inRound l) 0 P md ops Q fuel listed a w
  | 0, _, _, _, h => h
  | fuel + 1, _, _, _, h => ⟨h.1, fun i hi => wpOpIn_round_of_wpOp hnd hlo (wpOp_mono (fun a' w' h' => wpAnyIn_round_of_wpAny hnd hlo fuel _ a' w' h') (h.2 i hi))⟩
def noDefer (ops : Array Oper) : Bool := ops.all fun o => match o.op with
  | .defer _ => false
  | _ => true
theorem noDefer_spec {ops : Array Oper} (h : noDefer ops = true) : ∀ o ∈ ops, ∀ c, o.op ≠ .defer c := by
  intro o ho c hc
  unfold noDefer at h
  rw [Array.all_eq_true_iff_forall_mem] at h
  have := h o ho
  rw [hc] at this; cases this
theorem wpIn_round_held {P : Program} {l id : Nat} {ops : Array Oper} {Q : Exit → Act → World → Prop} {S : World → Prop} {a : Act} {w : World} (hm : P.follows .mixedOrders = true) (hnd : noDefer ops = true) (hlo : ¬ LetsOut Q)
    (h : wpAnyH P .any ops Q S ops.size (Array.replicate ops.size false) a w.drew) : (Code.region id ops true).wpIn (Fence.wide.inRound l) 0 P Q a w :=
  wpIn_region_any hm (wpAnyIn_round_of_wpAny (noDefer_spec hnd) hlo _ _ _ _ (wpAny_of_held _ _ _ _ h))

/-! A region whose head is told as a row of operations: those that only read (where S holds) are taken first, each other one is the only one that may come up then; what follows comes up in one order. -/
section
variable {P : Program} {ops : Array Oper} {md : Region.Mode} {Q : Exit → Act → World → Prop} {S : World → Prop}
def wpHeadH (P : Program) (md : Region.Mode) (ops : Array Oper) (Q : Exit → Act → World → Prop) (S : World → Prop) (n : Nat) (L : Array Bool → Act → World → Prop) : Nat → Array Bool → Act → World → Prop
  | 0, listed, a, w => L listed a w
  | f + 1, listed, a, w => Region.ready md ops listed ≠ [] ∧ ∀ i ∈ Region.ready md ops listed, i < n ∧ wpOp P ops Q i (fun a' w' => S w' ∧ wpHeadH P md ops Q S n L f (listed.setIfInBounds i true) a' w') a w
theorem wpAny_of_headH {n g : Nat} {L : Array Bool → Act → World → Prop} (hL : ∀ listed a w, L listed a w → wpAny P md ops Q g listed a w) :
    ∀ (f : Nat) (listed : Array Bool) (a : Act) (w : World), wpHeadH P md ops Q S n L f listed a w → wpAny P md ops Q (f + g) listed a w
  | 0, listed, a, w, h => by rw [Nat.zero_add]; exact hL _ _ _ h
  | f + 1, listed, a, w, h => by
    rw [show f + 1 + g = (f + g) + 1 by omega]
    exact ⟨fun h0 => absurd h0 h.1, fun i hi => wpOp_mono (fun a' w' h' => wpAny_of_headH hL f _ a' w' h'.2) (h.2 i hi).2⟩
theorem wpHeadH_first {n i : Nat} {oi : Oper} {v : Value} {L : Array Bool → Act → World → Prop} (hi : ops[i]? = some oi) (hsel : ∀ (j : Nat) (o : Oper) cs b, ops[j]? = some o → o.op ≠ .select cs b)
    (hQ : ∀ c a w, Q (.panic c) (a.put oi.dst v) w → Q (.panic c) a w)
    (hs : Region.sinkB md ops n = true) (hc : Region.chainB md ops n = true) (hn : n < ops.size) (hin : i < n)
    (hdone : ∀ listed a w, L listed a w → ∀ j ∈ Region.ready md ops listed, n ≤ j) :
    ∀ (f : Nat) (listed : Array Bool) (a : Act) (w : World), HeadInv md ops n listed →
      (∀ j oj, ops[j]? = some oj → j ≠ i → listed.getD j true = false → (∀ e ∈ oj.after, Region.binds md e = true → e.on ≠ i) → oi.apart ops oj = true) →
      i ∈ Region.ready md ops listed → YieldsIf P ops S oi v a → S w →
      wpHeadH P md ops Q S n L f (listed.setIfInBounds i true) (a.put oi.dst v) w → wpHeadH P md ops Q S n L (f + 1) listed a w := by
  intro f
  induction f with
  | zero =>
    intro listed a w inv _ hr hy hS H
    have hun := (mem_ready.1 hr).1
    refine ⟨fun h => (by rw [h] at hr; cases hr), fun j hj => ?_⟩
    have hjn : j < n := by
      rcases Nat.lt_or_ge j n with h | h
      · exact h
      · exact absurd hj (tail_waits hs hc hn inv _ i rfl hin hun j h)
    refine ⟨hjn, ?_⟩
    by_cases hji : j = i
    · subst hji; exact hy.wpOp hi hS ⟨hS, H⟩
    · have := hdone _ _ _ H j (ready_mono hj hji)
      omega
  | succ f ih =>
    intro listed a w inv hfree hr hy hS H
    have hun := (mem_ready.1 hr).1
    refine ⟨fun h => (by rw [h] at hr; cases hr), fun j hj => ?_⟩
    have hjn : j < n := by
      rcases Nat.lt_or_ge j n with h | h
      · exact h
      · exact absurd hj (tail_waits hs hc hn inv _ i rfl hin hun j h)
    refine ⟨hjn, ?_⟩
    by_cases hji : j = i
    · subst hji; exact hy.wpOp hi hS ⟨hS, H⟩
    · have h1 := (H.2 j (ready_mono hj hji)).2
      obtain ⟨hjun, oj, hoj, hall⟩ := mem_ready.1 hj
      have hnot : ∀ e ∈ oj.after, Region.binds md e = true → e.on ≠ i := fun e he hb heq => by
        have h1 := hall e he hb
        rw [heq, getD_both hun] at h1
        cases h1
      have h2 := wpOp_putIf hoj (hfree j oj hoj hji hjun hnot) (fun cs b => hsel i oi cs b hi) (fun cs b => hsel j oj cs b hoj) hQ hy h1
      have hfree' : ∀ k ok, ops[k]? = some ok → k ≠ i → (listed.setIfInBounds j true).getD k true = false →
          (∀ e ∈ ok.after, Region.binds md e = true → e.on ≠ i) → oi.apart ops ok = true := fun k ok hk hki hun hno => by
        refine hfree k ok hk hki ?_ hno
        by_cases hjk : j = k
        · subst hjk; exact hjun
        · rw [getD_set_ne true hjk] at hun; exact hun
      refine wpOp_mono (fun a' w' h3 => ⟨h3.2.1, ih (listed.setIfInBounds j true) a' w' (inv.set hj hjn) hfree' (ready_mono hr (Ne.symm hji)) h3.1 h3.2.1 ?_⟩) h2
      rw [Array.setIfInBounds_comm _ _ hji]
      exact h3.2.2
/-- The walk of the head, one operation at a time. -/
def wpRow (P : Program) (ops : Array Oper) (Q : Exit → Act → World → Prop) (S : World → Prop) (L : Act → World → Prop) : List (Nat × Bool) → Act → World → Prop
  | [], a, w => L a w
  | (i, true) :: is, a, w => ∃ o v, ops[i]? = some o ∧ YieldsIf P ops S o v a ∧ wpRow P ops Q S L is (a.put o.dst v) w
  | (i, false) :: is, a, w => wpOp P ops Q i (fun a' w' => S w' ∧ wpRow P ops Q S L is a' w') a w
def rowB (md : Region.Mode) (ops : Array Oper) (n g : Nat) : List (Nat × Bool) → Array Bool → Bool
  | [], listed => Region.seqB md ops g n listed
  | (i, true) :: is, listed => decide (i < n) && Region.free md ops listed i && (Region.ready md ops listed).contains i && rowB md ops n g is (listed.setIfInBounds i true)
  | (i, false) :: is, listed => decide (i < n) && decide (Region.ready md ops listed = [i]) && rowB md ops n g is (listed.setIfInBounds i true)
theorem wpHeadH_row {n g : Nat} {L : Act → World → Prop} (hsel : Region.noSelect ops = true) (hs : Region.sinkB md ops n = true) (hc : Region.chainB md ops n = true) (hn : n < ops.size)
    (hQ : ∀ c a d v w, Q (.panic c) (a.put d v) w → Q (.panic c) a w) :
    ∀ (is : List (Nat × Bool)) (listed : Array Bool) (a : Act) (w : World), HeadInv md ops n listed → rowB md ops n g is listed = true → S w → wpRow P ops Q S L is a w →
      wpHeadH P md ops Q S n (fun listed' a' w' => Region.seqB md ops g n listed' = true ∧ L a' w') is.length listed a w
  | [], listed, a, w, inv, hB, hS, h => ⟨hB, h⟩
  | (i, true) :: is, listed, a, w, inv, hB, hS, h => by
    simp only [rowB, Bool.and_eq_true, decide_eq_true_eq] at hB
    obtain ⟨⟨⟨hin, hf⟩, hr⟩, hB⟩ := hB
    have hr : i ∈ Region.ready md ops listed := by simpa using hr
    obtain ⟨o, v, ho, hy, h⟩ := h
    exact wpHeadH_first ho (Region.noSelect_spec hsel) (fun c a w => hQ c a _ _ w) hs hc hn hin (fun listed' a' w' hL => seqB_ready hL.1) is.length listed a w inv (Region.free_spec ho hf) hr hy hS
      (wpHeadH_row hsel hs hc hn hQ is _ _ _ (inv.set hr hin) hB hS h)
  | (i, false) :: is, listed, a, w, inv, hB, hS, h => by
    simp only [rowB, Bool.and_eq_true, decide_eq_true_eq] at hB
    obtain ⟨⟨hin, hr⟩, hB⟩ := hB
    refine ⟨by rw [hr]; simp, fun j hj => ?_⟩
    have hji : j = i := by rw [hr] at hj; simpa using hj
    subst hji
    refine ⟨hin, wpOp_mono (fun a' w' h' => ⟨h'.1, wpHeadH_row hsel hs hc hn hQ is _ _ _ (inv.set hj hin) hB h'.1 h'.2⟩) h⟩
theorem wpRow_read {L : Act → World → Prop} {is : List (Nat × Bool)} {i : Nat} {a : Act} {w : World} {o : Oper} {v : Value} (ho : ops[i]? = some o) (hw : Region.wanted o (yielded ops a.tmps) = true)
    (hv : ∀ W, S W → (execOp a.eval o).run P W = .ok (.value v) W) (h : wpRow P ops Q S L is (a.put o.dst v) w) : wpRow P ops Q S L ((i, true) :: is) a w := ⟨o, v, ho, .inl ⟨hw, hv⟩, h⟩
theorem wpRow_op {L : Act → World → Prop} {is : List (Nat × Bool)} {i : Nat} {a : Act} {w : World} {o : Oper} (ho : ops[i]? = some o) (hw : Region.wanted o (yielded ops a.tmps) = true)
    (h : ∀ K : Act → World → Prop, (∀ a' w', S w' ∧ wpRow P ops Q S L is a' w' → K a' w') → o.wp P a w K Q) : wpRow P ops Q S L ((i, false) :: is) a w := by
  show wpOp P ops Q i _ a w
  unfold wpOp
  simp only [ho, hw, if_true]
  exact .inl (h _ fun _ _ h => h)
theorem wpAny_row {n : Nat} {l : List Oper} {is : List (Nat × Bool)} {a : Act} {w : World} (hsel : Region.noSelect l.toArray = true) (hs : Region.sinkB md l.toArray n = true) (hc : Region.chainB md l.toArray n = true) (hn : n < l.length) (hlen : is.length = n)
    (hQ : ∀ c a d v w, Q (.panic c) (a.put d v) w → Q (.panic c) a w) (hB : rowB md l.toArray n (l.length - n) is (Array.replicate l.length false) = true) (hS : S w)
    (h : wpRow P l.toArray Q S (fun a' w' => wpList P l.toArray Q (l.drop n) a' w') is a w) : wpAny P md l.toArray Q l.length (Array.replicate l.length false) a w := by
  have inv0 : HeadInv md l.toArray n (Array.replicate l.length false) :=
    ⟨by simp, fun j oj _ hl => (by rw [getD_replicate_false] at hl; cases hl), fun t _ ht => getD_in (by simpa using ht) (getD_replicate_false _ _)⟩
  have H := wpHeadH_row (g := l.length - n) hsel hs hc (by simpa using hn) hQ is _ a w inv0 hB hS h
  have := wpAny_of_headH (g := l.length - n) (fun listed a' w' hL => by
    have := wpAny_of_seq (md := md) (Q' := Q) (l.drop n) n listed a' w' (fun j => by simp [List.getElem?_drop]) (by rw [List.length_drop]; exact hL.1) hL.2
    rwa [List.length_drop] at this) _ _ _ _ H
  rwa [hlen, show n + (l.length - n) = l.length by omega] at this
end
theorem wpIn_round_row {P : Program} {l id : Nat} {ops : List Oper} {Q : Exit → Act → World → Prop} {a : Act} {w : World} (n : Nat) (is : List (Nat × Bool)) (S : World → Prop) (hm : P.follows .mixedOrders = true) (hnd : noDefer ops.toArray = true) (hlo : ¬ LetsOut Q)
    (hsel : Region.noSelect ops.toArray = true) (hs : Region.sinkB .any ops.toArray n = true) (hc : Region.chainB .any ops.toArray n = true) (hn : n < ops.length) (hlen : is.length = n)
    (hQ : ∀ c a d v w, Q (.panic c) (a.put d v) w → Q (.panic c) a w) (hB : rowB .any ops.toArray n (ops.length - n) is (Array.replicate ops.length false) = true) (hS : S w.drew)
    (h : wpRow P ops.toArray Q S (fun a' w' => wpList P ops.toArray Q (ops.drop n) a' w') is a w.drew) : (Code.region id ops.toArray true).wpIn (Fence.wide.inRound l) 0 P Q a w := by
  refine wpIn_region_any hm (wpAnyIn_round_of_wpAny (noDefer_spec hnd) hlo _ _ _ _ ?_)
  exact wpAny_row hsel hs hc hn hlen hQ hB hS h
/-! Rows of the call's own, side by side. -/
theorem own_apart {W : World} {B1 B2 : Nat} {e1 e2 : TypeId} {s1 s2 : Nat} {v u : Value} {n m : Nat} {xs ys : List Value} (h1 : W.ownsRow B1 e1 s1 v n xs) (h2 : W.ownsRow B2 e2 s2 u m ys) (he : e1 ≠ e2) : ∀ b, v.ownBlock = some b → u.ownBlock ≠ some b := by
  intro b hv hu
  rcases h1.2 with ⟨rfl, _⟩ | ⟨g, cap, cur, rfl, _, h3, _⟩
  · simp [Value.ownBlock] at hv
  · rcases h2.2 with ⟨rfl, _⟩ | ⟨g2, cap2, cur2, rfl, _, h4, _⟩
    · simp [Value.ownBlock] at hu
    · simp [Value.ownBlock] at hv hu
      subst hv hu
      rw [h3] at h4
      simp only [Option.some.injEq, Obj.cells.injEq] at h4
      exact he h4.2.1
theorem own_grown {W W' : World} {blk : Option Nat} (hg : W.grownBy W' blk) {B : Nat} {e : TypeId} {size : Nat} {u : Value} {n : Nat} {xs : List Value} (h : W.ownsRow B e size u n xs) (hne : ∀ b, u.ownBlock = some b → blk ≠ some b) : W'.ownsRow B e size u n xs := by
  refine ⟨h.1, ?_⟩
  rcases h.2 with h2 | ⟨g, cap, cur, rfl, h3, h4, h5⟩
  · exact .inl h2
  · exact .inr ⟨g, cap, cur, rfl, h3, (hg.block g (Array.getElem?_eq_some_iff.1 h4).1 (fun hb => hne g rfl hb.symm)).trans h4, h5⟩
theorem turned_grown {W W' : World} {blk : Option Nat} (hg : W.grownBy W' blk) {pv : Nat → Prop} (hp : ∀ b, blk = some b → pv b) : Turned pv W W' :=
  ⟨hg.os, hg.tape, hg.output, hg.size, fun k hk hn => hg.block k hk fun e => hn (hp k e.symm)⟩
theorem own_nil {W : World} {B : Nat} {e : TypeId} {size : Nat} {A : Option Addr} {n c : Nat} {xs : List Value} (h : W.ownsRow B e size (.slice A n c) n xs) : A = none → c = 0 := by
  intro hA
  subst hA
  rcases h.2 with ⟨h2, _⟩ | ⟨g, cap, cur, h2, _⟩
  · simp only [Value.slice.injEq] at h2; exact h2.2.2
  · simp only [Value.slice.injEq] at h2; cases h2.1
end Go.Proofs.YtdpgpjileffekaaGreatDoor
