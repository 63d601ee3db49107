/- A range over a function whose own state may lie in cells: a law of my own over any program. What the iterator turns ('pv') and what the loop's body turns ('bw') are sets of blocks. -/
import Derived.RangeFuncBox
import Derived.RangeFuncNested
import Derived.RangeFuncLeaves
import Derived.RangeFuncBound
import Derived.RangeFuncCalls
import Derived.Shelf.Abstract
import Derived.Shelf.RegionOpen
import Derived.OwnWalkIn
import Derived.TacticsInMore
import Derived.LoopNIn
import Derived.LoopIn
import Derived.Test.YtdpgpjileffekaaGreatDoorKitC
namespace Go.Proofs.YtdpgpjileffekaaGreatDoor
open Go.RowKit Go.Shelf

@[go_sem] theorem wide_fn (k : FuncId) : Fence.wide.fn k = True := rfl
@[go_sem] theorem wide_depth : Fence.wide.depth = none := rfl
@[go_sem] theorem round_fn (l : Nat) (k : FuncId) : (Fence.wide.inRound l).fn k = True := rfl
@[go_sem] theorem round_depth (l : Nat) : (Fence.wide.inRound l).depth = none := rfl
/-- World W' is W with new blocks, and blocks of pv turned. -/
structure Turned (pv : Nat → Prop) (W W' : World) : Prop where
  os : W'.os = W.os
  tape : W'.tape = W.tape
  output : W'.output = W.output
  size : W.heap.size ≤ W'.heap.size
  block : ∀ k, k < W.heap.size → ¬ pv k → W'.heap[k]? = W.heap[k]?
theorem Turned.refl (pv : Nat → Prop) (W : World) : Turned pv W W := ⟨rfl, rfl, rfl, Nat.le_refl _, fun _ _ _ => rfl⟩
theorem Turned.trans {pv : Nat → Prop} {A B C : World} (h : Turned pv A B) (k : Turned pv B C) : Turned pv A C :=
  ⟨k.os.trans h.os, k.tape.trans h.tape, k.output.trans h.output, Nat.le_trans h.size k.size, fun i hi hn => (k.block i (Nat.lt_of_lt_of_le hi h.size) hn).trans (h.block i hi hn)⟩
theorem Turned.mono {pv pw : Nat → Prop} {A B : World} (h : Turned pv A B) (hp : ∀ k, pv k → pw k) : Turned pw A B :=
  ⟨h.os, h.tape, h.output, h.size, fun i hi hn => h.block i hi (fun e => hn (hp i e))⟩
theorem Turned.of_below {pv : Nat → Prop} {A B : World} (h : Below A.heap.size A B) : Turned pv A B := ⟨h.os, h.tape, h.output, h.size, fun k hk _ => h.block k hk⟩
theorem Turned.alloc {pv : Nat → Prop} {A B : World} (h : Turned pv A B) (o : Obj) : Turned pv A (B.alloc o) := h.trans (Turned.of_below ((Below.refl _ _).alloc (Nat.le_refl _) o))
theorem Turned.grow {pv : Nat → Prop} {A B : World} (h : Turned pv A B) (X : Gr) : Turned pv A (B.grow X) := h.trans (Turned.of_below (below_grow _ X))
theorem Turned.drew {pv : Nat → Prop} {A B : World} (h : Turned pv A B) : Turned pv A B.drew := ⟨h.os, h.tape, h.output, h.size, h.block⟩
theorem Turned.setCell {pv : Nat → Prop} {A B : World} (h : Turned pv A B) {p : Addr} (hp : A.heap.size ≤ p.block ∨ pv p.block) (v : Value) : Turned pv A (B.setCell p v) :=
  ⟨h.os, h.tape, h.output, by simpa using h.size, fun k hk hn => (Below.heap_setCell B p v k (fun e => by subst e; rcases hp with hp | hp; omega; exact hn hp)).trans (h.block k hk hn)⟩
theorem Turned.putObj {pv : Nat → Prop} {A B : World} (h : Turned pv A B) {l : Nat} (hp : A.heap.size ≤ l ∨ pv l) (o : Obj) : Turned pv A (B.putObj l o) :=
  ⟨h.os, h.tape, h.output, by simpa using h.size, fun k hk hn => (World.putObj_heap_other (fun e => by subst e; rcases hp with hp | hp; omega; exact hn hp)).trans (h.block k hk hn)⟩
theorem Turned.boxed {pv : Nat → Prop} {A B : World} (h : Turned pv A B) {b : Nat} {t : TypeId} {v : Value} (hb : Boxed A b t v) (hn : ¬ pv b) : Boxed B b t v := (h.block b hb.lt hn).trans hb
theorem Turned.below {pv : Nat → Prop} {A B : World} (h : Turned pv A B) {m : Nat} (hm : m ≤ A.heap.size) (hp : ∀ k, pv k → m ≤ k) : Below m A B :=
  ⟨h.os, h.tape, h.output, h.size, fun k hk => h.block k (Nat.lt_of_lt_of_le hk hm) (fun e => by have := hp k e; omega)⟩
theorem Turned.own {pv : Nat → Prop} {A C : World} (h : Turned pv A C) {B : Nat} {e : TypeId} {size : Nat} {v : Value} {n : Nat} {xs : List Value} (ho : A.ownsRow B e size v n xs) (hn : ∀ k, pv k → k < B) : C.ownsRow B e size v n xs := by
  refine ⟨ho.1, ?_⟩
  rcases ho.2 with ⟨h1, h2⟩ | ⟨g, cap, cur, h1, h2, h3, h4⟩
  · exact Or.inl ⟨h1, h2⟩
  · exact Or.inr ⟨g, cap, cur, h1, h2, (h.block g (Array.getElem?_eq_some_iff.1 h3).1 (fun e => by have := hn g e; omega)).trans h3, h4⟩

theorem Turned.of_own {W W' : World} {v : Value} {B : Nat} {e : TypeId} {size n : Nat} {xs : List Value} (hg : W.grownBy W' v.ownBlock) (ho : W.ownsRow B e size v n xs) : Turned (fun k => B ≤ k) W W' :=
  ⟨hg.os, hg.tape, hg.output, hg.size, fun k hk hn => hg.block k hk fun e => by
    rcases ho.2 with ⟨rfl, _⟩ | ⟨g, cap, cur, rfl, hb, _⟩
    · simp [Value.ownBlock] at e
    · simp [Value.ownBlock] at e; exact hn (by omega)⟩
/-- append in a round, onto a row of blocks from 'base' on. -/
theorem appendIn_turn {F : Fence} {n0 : Nat} {P : Program} {W : World} {ops : Array Oper} {rest : List Oper} {o : Oper} {a : Act} {Q : Exit → Act → World → Prop} (hgd : o.guard = none) (s x : Operand) (t : TypeId)
    (ho : o.op = .call { callee := .builtin .append, args := #[s, x], argTypes := #[t, t] })
    {e : TypeId} {z : Value} {size bytes : Nat} (row : SlT P t e z size bytes) (base : Nat) {v : Value} {n : Nat} {xs : List Value} (hs : a.eval s = v) (hown : W.ownsRow base e size v n xs)
    (hb : base ≤ W.heap.size) (ad : Addr) (m c : Nat) (news : List Value) (hx : a.eval x = .slice (some ad) (m + 1) c) (hl : news.length = (m + 1) * size)
    (hnews : ∀ j u, news[j]? = some u → W.cell? (ad.add j) = some u) (h1 : ∀ u ∈ news, u.oneCell' = true) (h63 : n + (m + 1) ≤ maxLen) (hbytes : (n + (m + 1)) * bytes ≤ 140737488355328)
    (h : ∀ g cap W', W'.ownsRow base e size (.slice (some ⟨g, 0, none⟩) (n + m + 1) cap) (n + m + 1) (xs ++ news) → Turned (fun k => base ≤ k) W W' → wpListIn F n0 P ops Q rest (a.put o.dst (.slice (some ⟨g, 0, none⟩) (n + m + 1) cap)) W') : wpListIn F n0 P ops Q (o :: rest) a W := by
  obtain ⟨i, hi, hz0, hz1, hz2⟩ := info_parts row.hi
  refine wpListIn_append_own W hgd s x t ho base e i z size bytes row.ht hi hz0 hz1 hz2 row.hzs row.hsz v n xs hs hown ad (m + 1) c news hx hl hnews h1 h63 hbytes hb ?_
  intro v' w' h2 h3 _
  obtain ⟨g, cap, rfl⟩ := ownsRow_succ (k := n + m) h2
  exact h g cap w' h2 (Turned.of_own h3 hown)

variable {P : Program} {α : Type}
/-- What an iterator's value does, called in W: it hands on xs, element by element; it turns pv alone, where the rounds turn bw alone. -/
def IterAt (P : Program) (gf : Nat) (lb : Array Value) (encs : α → Array Value) (pv bw : Nat → Prop) (xs : List α) (W : World) : Prop :=
  ∀ (l : Nat) (J Jx : List α → World → Prop), (∀ pre A B, J pre A → Turned pv A B → J pre B) →
    (∀ pre x A, (pre ++ [x]) <+: xs → J pre A → YieldAt Fence.wide 0 P l (encs x) A fun e A' => (e = .returned (.bool true) ∧ J (pre ++ [x]) A' ∧ Turned bw A A') ∨ (e = .returned (.bool false) ∧ Jx (pre ++ [x]) A')) →
    J [] W → CallsIn Fence.wide 0 P gf (#[.func (.yield l) #[] #[]] ++ lb) W fun e W' => (∃ v, e = .returned v) ∧ (J xs W' ∨ ∃ pre x, (pre ++ [x]) <+: xs ∧ Jx (pre ++ [x]) W')

/-- How a round is left. -/
def rpost (bw : Nat → Prop) (I : List α → World → Prop) (Ix : Code → List α → World → Prop) (xs : List α) (W : World) : Exit → Act → World → Prop
  | .normal, _, W' => Turned bw W W' ∧ I xs W'
  | .ret, _, W' => Turned bw W W' ∧ Ix .ret xs W'
  | .exit id, _, W' => Turned bw W W' ∧ Ix (.exit id) xs W'
  | _, _, _ => False

theorem wp_range {g : Operand} {ps : Array Tmp} {assign body : Code} {Q : Exit → Act → World → Prop} {a : Act} {w : World} {gf : Nat} {lb : Array Value} {B : Nat} (hB : w.heap.size = B)
    (hg : a.eval g = .func (.func gf) #[] lb) (eg : Enters P gf) {encs : α → Array Value} (hps : ∀ x, (encs x).size = ps.size) {xs : List α}
    (pv bw : Nat → Prop) (hpv : ∀ k, pv k → k < B) (hbw : ∀ k, bw k → k ≠ B ∧ k ≠ B + 1)
    (I : List α → World → Prop) (Ix : Code → List α → World → Prop)
    (hI : ∀ pre A C, I pre A → Turned (fun k => pv k ∨ k = B ∨ k = B + 1) A C → I pre C)
    (hIx : ∀ c pre A C, Ix c pre A → Turned (fun k => k = B ∨ k = B + 1) A C → Ix c pre C) (h0 : I [] w)
    (hiter : ∀ o1 o2, IterAt P gf lb encs pv (fun k => bw k ∨ k = B + 1) xs ((w.alloc o1).alloc o2))
    (hround : ∀ l pre x A, (pre ++ [x]) <+: xs → I pre A → B + 2 ≤ A.heap.size →
      assign.wpIn (Fence.wide.inRound l) 0 P (Exit.then (fun a1 A1 => Turned (fun _ => False) A A1 ∧ ∀ A2, Turned (fun k => k = B + 1) A1 A2 → I pre A2 → A2.heap.size = A1.heap.size →
        body.wpIn (Fence.wide.inRound l) 0 P (rpost bw I Ix (pre ++ [x]) A2) a1 A2) (fun _ _ _ => False))
        { tmps := (ps.zip (encs x)).foldl (fun t (p, v) => t.setIfInBounds p v) a.tmps, defers := [] } A)
    (hdone : ∀ W, I xs W → W.heap[B]? = some (.deferred (some [])) → Q .normal { a with defers := { target := .collected B, args := #[] } :: a.defers } W)
    (hstop : ∀ c pre x W, (pre ++ [x]) <+: xs → Ix c (pre ++ [x]) W → W.heap[B]? = some (.deferred (some [])) → c.wpIn Fence.wide 0 P Q { a with defers := { target := .collected B, args := #[] } :: a.defers } W) :
    (Code.rangeFunc g ps assign body).wpIn Fence.wide 0 P Q a w := by
  subst hB
  refine wpIn_rangeFunc fun fn hfn => ?_
  obtain ⟨rec, hrec⟩ : ∃ rec : LoopState → Option Code → Loop, rec = fun st pe => { state := st, pending := pe, fn, tmps := a.tmps, params := ps, assign, body, defers := w.heap.size } := ⟨_, rfl⟩
  obtain ⟨W1, hW1⟩ : ∃ W1, (w.alloc (.deferred (some []))).alloc (.loop (rec .ready none)) = W1 := ⟨_, rfl⟩
  have hlt1 : w.heap.size + 2 = W1.heap.size := by rw [← hW1]; simp
  have hL1 : W1.heap[w.heap.size + 1]? = some (.loop (rec .ready none)) := by
    rw [← hW1]
    have h := World.alloc_heap_new (w.alloc (.deferred (some []))) (.loop (rec .ready none))
    rwa [World.size_alloc] at h
  have hK1 : W1.heap[w.heap.size]? = some (.deferred (some [])) := by
    rw [← hW1, Below.heap_alloc _ _ _ (by simp)]
    exact World.alloc_heap_new w _
  have hT1 : Turned (fun k => pv k ∨ k = w.heap.size ∨ k = w.heap.size + 1) w W1 := by rw [← hW1]; exact ((Turned.refl _ _).alloc _).alloc _
  refine ⟨w.heap.size + 1, [{ target := .collected w.heap.size, args := #[] }], W1, { target := .fn (.func gf) lb, args := #[.func (.yield (w.heap.size + 1)) #[] #[]] }, W1, gf, #[.func (.yield (w.heap.size + 1)) #[] #[]] ++ lb, W1, ?_, ?_, ?_, ?_, (fun h => absurd h (by simp [Fence.wide])), ?_⟩
  · rw [← hW1, hrec]; exact run_enterLoop_outer _ _ _ _ _
  · simp only [resolve, hg]; simp [go_sem]
  · intro _ _; exact trivial
  · have := eg (#[.func (.yield (w.heap.size + 1)) #[] #[]] ++ lb) W1
    simp [invoke, go_sem, this]
  · have hit := hiter (.deferred (some [])) (.loop (rec .ready none)) (w.heap.size + 1)
      (fun pre A => I pre A ∧ A.heap[w.heap.size + 1]? = some (.loop (rec .ready none)) ∧ A.heap[w.heap.size]? = some (.deferred (some [])))
      (fun pre A => ∃ c, Ix c pre A ∧ A.heap[w.heap.size + 1]? = some (.loop (rec .done (some c))) ∧ A.heap[w.heap.size]? = some (.deferred (some [])))
      ?stable ?round (by rw [hW1]; exact ⟨hI _ _ _ h0 hT1, hL1, hK1⟩)
    · rw [hW1] at hit
      refine hit.mono ?_
      rintro e W2 ⟨⟨v, rfl⟩, (⟨hi, hl, hk⟩ | ⟨pre, x, hx, c, hi, hl, hk⟩)⟩
      · refine ⟨none, _, by have := run_endLoop (P := P) hl (by rw [hrec]; simp); rw [hrec] at this; exact this, ?_⟩
        exact hdone _ (hI _ _ _ hi ((Turned.refl _ _).putObj (Or.inr (Or.inr (Or.inr rfl))) _)) ((World.putObj_heap_other (by omega)).trans hk)
      · refine ⟨some c, _, by have := run_endLoop (P := P) hl (by rw [hrec]; simp); rw [hrec] at this; exact this, ?_⟩
        exact hstop _ _ _ _ hx (hIx _ _ _ _ hi ((Turned.refl _ _).putObj (Or.inr (Or.inr rfl)) _)) ((World.putObj_heap_other (by omega)).trans hk)
    case stable =>
      rintro pre A B ⟨hi, hl, hk⟩ ht
      have hlt : w.heap.size + 1 < A.heap.size := (Array.getElem?_eq_some_iff.1 hl).1
      refine ⟨hI _ _ _ hi (ht.mono fun k hk => Or.inl hk), (ht.block _ hlt fun h => ?_).trans hl, (ht.block _ (by omega) fun h => ?_).trans hk⟩
      · have := hpv _ h; omega
      · have := hpv _ h; omega
    case round =>
      rintro pre x A hx ⟨hi, hl, hk⟩
      have hlt : w.heap.size + 1 < A.heap.size := (Array.getElem?_eq_some_iff.1 hl).1
      have hy := run_yield (P := P) (args := encs x) hl (by rw [hrec]; exact hps x)
      rw [hrec] at hy
      refine ⟨fn, _, assign, body, hy, roundIn_of_wpIn hfn (wpIn_mono (hround (w.heap.size + 1) pre x A hx hi (by omega)) ?_)⟩
      intro e a1 A1 hq
      cases e with
      | normal =>
        obtain ⟨ht1, hbody⟩ := hq
        have hl1 : A1.heap[w.heap.size + 1]? = some (.loop (rec .ready none)) := (ht1.block _ hlt (fun h => h)).trans hl
        have hk1 : A1.heap[w.heap.size]? = some (.deferred (some [])) := (ht1.block _ (by omega) (fun h => h)).trans hk
        have hltA1 : w.heap.size + 1 < A1.heap.size := (Array.getElem?_eq_some_iff.1 hl1).1
        refine ⟨_, run_beginRound hl1 (by rw [hrec]), ?_⟩
        have ht2 : Turned (fun k => k = w.heap.size + 1) A1 (A1.putObj (w.heap.size + 1) (.loop { rec .ready none with state := .busy })) := Turned.putObj (pv := fun k => k = w.heap.size + 1) (Turned.refl _ _) (Or.inr rfl) _
        have ht12 : Turned (fun k => k = w.heap.size + 1) A (A1.putObj (w.heap.size + 1) (.loop { rec .ready none with state := .busy })) := (ht1.mono (fun k h => h.elim)).trans ht2
        have hl2 : (A1.putObj (w.heap.size + 1) (.loop { rec .ready none with state := .busy })).heap[w.heap.size + 1]? = some (.loop { rec .ready none with state := .busy }) := World.putObj_heap_same hltA1
        have hk2 : (A1.putObj (w.heap.size + 1) (.loop { rec .ready none with state := .busy })).heap[w.heap.size]? = some (.deferred (some [])) := (World.putObj_heap_other (by omega)).trans hk1
        have hb := hbody _ ht2 (hI _ _ _ hi (ht12.mono fun k h => Or.inr (Or.inr h))) (by simp)
        refine wpIn_mono hb ?_
        have fin : ∀ (jump : Option Code) (A3 : World), Turned bw (A1.putObj (w.heap.size + 1) (.loop { rec .ready none with state := .busy })) A3 →
            (Instr.endRound (w.heap.size + 1) jump).run P A3 = .ok (.bool jump.isNone) (A3.putObj (w.heap.size + 1) (.loop (rec (if jump.isNone then .ready else .done) jump))) ∧
            (A3.putObj (w.heap.size + 1) (.loop (rec (if jump.isNone then .ready else .done) jump))).heap[w.heap.size + 1]? = some (.loop (rec (if jump.isNone then .ready else .done) jump)) ∧
            (A3.putObj (w.heap.size + 1) (.loop (rec (if jump.isNone then .ready else .done) jump))).heap[w.heap.size]? = some (.deferred (some [])) := fun jump A3 ht3 => by
          have hl3 := (ht3.block _ (by simpa using hltA1) (fun h => (hbw _ h).2 rfl)).trans hl2
          have hk3 := (ht3.block _ (by simp; omega) (fun h => (hbw _ h).1 rfl)).trans hk2
          have := run_endRound (P := P) jump hl3
          rw [hrec] at this ⊢
          exact ⟨this, World.putObj_heap_same (Array.getElem?_eq_some_iff.1 hl3).1, (World.putObj_heap_other (by omega)).trans hk3⟩
        have fill : ∀ (A3 : World) (o : Obj), Turned (fun k => k = w.heap.size ∨ k = w.heap.size + 1) A3 (A3.putObj (w.heap.size + 1) o) := fun A3 o => (Turned.refl _ _).putObj (Or.inr (Or.inr rfl)) _
        intro e a3 A3 hp
        cases e with
        | normal =>
          obtain ⟨ht3, hi3⟩ := hp
          obtain ⟨hr, hl4, hk4⟩ := fin none A3 ht3
          refine ⟨_, _, hr, Or.inl ⟨rfl, ⟨hI _ _ _ hi3 ((fill _ _).mono fun k h => Or.inr h), hl4, hk4⟩, ?_⟩⟩
          exact (ht12.mono fun k h => Or.inr h).trans ((ht3.mono fun k h => Or.inl h).trans ((Turned.refl _ _).putObj (Or.inr (Or.inr rfl)) _))
        | ret =>
          obtain ⟨ht3, hi3⟩ := hp
          obtain ⟨hr, hl4, hk4⟩ := fin (some .ret) A3 ht3
          exact ⟨_, _, hr, Or.inr ⟨rfl, .ret, hIx _ _ _ _ hi3 (fill _ _), hl4, hk4⟩⟩
        | exit id =>
          obtain ⟨ht3, hi3⟩ := hp
          obtain ⟨hr, hl4, hk4⟩ := fin (some (.exit id)) A3 ht3
          exact ⟨_, _, hr, Or.inr ⟨rfl, .exit id, hIx _ _ _ _ hi3 (fill _ _), hl4, hk4⟩⟩
        | goto t => exact hp.elim
        | panic ch => exact hp.elim
        | outgrown => exact hp.elim
      | ret => exact hq.elim
      | exit id => exact hq.elim
      | goto t => exact hq.elim
      | panic ch => exact hq.elim
      | outgrown => exact hq.elim
end Go.Proofs.YtdpgpjileffekaaGreatDoor
