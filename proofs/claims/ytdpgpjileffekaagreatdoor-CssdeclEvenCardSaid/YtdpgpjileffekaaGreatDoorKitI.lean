/- Small laws over any program, more: append as one step of a region that draws its order; what a literal slice reads as. -/
import Derived.Deep.RegionHeld3
import Derived.Laws.OwnMore
import Derived.Test.YtdpgpjileffekaaGreatDoorKitE
namespace Go.Proofs.YtdpgpjileffekaaGreatDoor
open Go.RowKit
/-- append onto a row of the call's own, from whatever slice, where the region draws its order (the operation may be guarded). -/
theorem step_src {P : Program} {W : World} {ops : Array Oper} {o : Oper} {a : Act} {K : Act → World → Prop} {Q : Exit → Act → World → Prop} {E : Prop} (hw : Region.wanted o (yielded ops a.tmps) = true) (s x : Operand) (t : TypeId)
    (ho : o.op = .call { callee := .builtin .append, args := #[s, x], argTypes := #[t, t] })
    {e : TypeId} {z : Value} {size bytes : Nat} (row : SlT P t e z size bytes) (base : Nat) {v : Value} {n : Nat} {xs : List Value} (hs : a.eval s = v) (hown : W.ownsRow base e size v n xs)
    (hb : base ≤ W.heap.size) (m : Nat) (news : List Value)
    (hx : (a.eval x = .slice none 0 0 ∧ m = 0) ∨ ∃ ad c, a.eval x = .slice (some ad) m c ∧ ∀ j u, news[j]? = some u → W.cell? (ad.add j) = some u) (hl : news.length = m * size)
    (h1 : ∀ u ∈ news, u.oneCell' = true) (h63 : n + m ≤ maxLen) (hbytes : (n + m) * bytes ≤ 140737488355328)
    (h : ∀ v' W', W'.ownsRow base e size v' (n + m) (xs ++ news) → W.grownBy W' v.ownBlock → K (a.put o.dst v') W') :
    if Region.wanted o (yielded ops a.tmps) = true then Oper.wp P o a W K Q else E := by
  rw [if_pos hw]
  obtain ⟨i, hi, hz0, hz1, hz2⟩ := info_parts row.hi
  rcases hx with ⟨hx, rfl⟩ | ⟨ad, c, hx, hnews⟩
  · have : news = [] := List.eq_nil_of_length_eq_zero (by rw [hl, Nat.zero_mul])
    subst this
    have hrun := run_append_owned_none (P := P) (w := W) base t o.type e i size row.ht hi v n xs hown
    unfold Oper.wp
    simp [execOp, ho, resolve, invoke, builtin, hs, hx, hrun, Result.andThen]
    exact h v W (by simpa using hown) (World.grownBy.refl _ _)
  · exact wp_append_own W s x t ho base e i z size bytes row.ht hi hz0 hz1 hz2 row.hzs row.hsz v n xs hs hown ad m c news hx hl hnews h1 h63 hbytes hb fun v' w' h2 h3 _ => h v' w' h2 h3
/-- A block is as it was behind an append onto another one. -/
theorem heap_kept {W W' : World} {v : Value} {b : Nat} {o : Obj} (hg : W.grownBy W' v.ownBlock) (hb : W.heap[b]? = some o) (hne : v.ownBlock ≠ some b) : W'.heap[b]? = some o :=
  (hg.block b (Array.getElem?_eq_some_iff.1 hb).1 (fun h => hne h.symm)).trans hb
theorem own_alloc {w : World} {B : Nat} {e : TypeId} {size : Nat} {v : Value} {n : Nat} {xs : List Value} (h : w.ownsRow B e size v n xs) (o : Obj) : (w.alloc o).ownsRow B e size v n xs := by
  rw [alloc_grow]; exact own_grow h _
theorem own_base {w : World} {B B2 : Nat} {e : TypeId} {size : Nat} {v : Value} {n : Nat} {xs : List Value} (h : w.ownsRow B2 e size v n xs) (hB : B ≤ B2) : w.ownsRow B e size v n xs := by
  obtain ⟨h1, h2 | ⟨g, cap, cur, h2, h3, h4⟩⟩ := h
  · exact ⟨h1, .inl h2⟩
  · exact ⟨h1, .inr ⟨g, cap, cur, h2, Nat.le_trans hB h3, h4⟩⟩
/-- The same, and where it leads. -/
theorem step_src2 {P : Program} {W : World} {ops : Array Oper} {o : Oper} {a : Act} {K : Act → World → Prop} {Q : Exit → Act → World → Prop} {E : Prop} (hw : Region.wanted o (yielded ops a.tmps) = true) (s x : Operand) (t : TypeId)
    (ho : o.op = .call { callee := .builtin .append, args := #[s, x], argTypes := #[t, t] })
    {e : TypeId} {z : Value} {size bytes : Nat} (row : SlT P t e z size bytes) (w0 : World) {v : Value} {n : Nat} {xs : List Value} (hs : a.eval s = v) (hown : W.ownsRow w0.heap.size e size v n xs)
    (hb : Below w0.heap.size w0 W) (m : Nat) (news : List Value)
    (hx : (a.eval x = .slice none 0 0 ∧ m = 0) ∨ ∃ ad c, a.eval x = .slice (some ad) m c ∧ ∀ j u, news[j]? = some u → W.cell? (ad.add j) = some u) (hl : news.length = m * size)
    (h1 : ∀ u ∈ news, u.oneCell' = true) (h63 : n + m ≤ maxLen) (hbytes : (n + m) * bytes ≤ 140737488355328)
    (h : ∀ v' W', W'.ownsRow w0.heap.size e size v' (n + m) (xs ++ news) → W.grownBy W' v.ownBlock → Hid (Below w0.heap.size w0 W') → K (a.put o.dst v') W') :
    if Region.wanted o (yielded ops a.tmps) = true then Oper.wp P o a W K Q else E :=
  step_src hw s x t ho row w0.heap.size hs hown hb.size m news hx hl h1 h63 hbytes fun v' W' h2 h3 => h v' W' h2 h3 (own_step h3 hown hb)
theorem at_world (W : World) {P : Program} {ops : Array Oper} {o : Oper} {a : Act} {K : Act → World → Prop} {Q : Exit → Act → World → Prop} {E : Prop} (h : if Region.wanted o (yielded ops a.tmps) = true then Oper.wp P o a W K Q else E) :
    if Region.wanted o (yielded ops a.tmps) = true then Oper.wp P o a W K Q else E := h
theorem own_emp {W : World} {e : TypeId} {size base B : Nat} (hB : B = W.heap.size) (hb : base ≤ W.heap.size) : (W.alloc (.cells #[] e)).ownsRow base e size (.slice (some ⟨B, 0, none⟩) 0 0) 0 [] := by
  subst hB
  exact own_base (own_lit (c := #[]) (n := 0) (by simp) (by simp)) hb
theorem news_block {W : World} {b : Nat} {c : Array Value} {e : TypeId} {fr : Nat × Nat} {ad : Addr} (hb : W.heap[b]? = some (.cells c e fr)) (he : ad = ⟨b, 0, none⟩) : ∀ j u, c.toList[j]? = some u → W.cell? (ad.add j) = some u := by
  subst he
  intro j u hu
  have hadd : (⟨b, 0, none⟩ : Addr).add j = ⟨b, j, none⟩ := by unfold Addr.add; split <;> simp_all
  rw [hadd]
  simp only [World.cell?, hb]
  simpa using hu
/-- What a list that came in offers to an append. -/
theorem news_rd {w0 W : World} {A : Option Addr} {n c size : Nat} {xs : List Value} (h : Rd w0 (.slice A n c) n size xs) (hn : A = none → c = 0) (hb : Below w0.heap.size w0 W) :
    (Value.slice A n c = .slice none 0 0 ∧ n = 0) ∨ ∃ ad c', Value.slice A n c = .slice (some ad) n c' ∧ ∀ j u, xs[j]? = some u → W.cell? (ad.add j) = some u := by
  obtain ⟨h1, _, A', c', h2, h3⟩ := h
  cases h2
  cases A with
  | none =>
    have h0 : n = 0 := by
      rcases Nat.eq_zero_or_pos n with h0 | h0
      · exact h0
      · obtain ⟨b, off, h4, _⟩ := h3 h0; cases h4
    exact .inl ⟨by rw [h0, hn rfl], h0⟩
  | some ad =>
    refine .inr ⟨ad, c, rfl, fun j u hu => ?_⟩
    rcases Nat.eq_zero_or_pos n with h0 | h0
    · rw [h0, Nat.zero_mul] at h1
      rw [List.eq_nil_of_length_eq_zero h1] at hu; simp at hu
    · obtain ⟨b, off, h4, h5, h6⟩ := h3 h0
      cases h4
      have hadd : (⟨b, off, none⟩ : Addr).add j = ⟨b, off + j, none⟩ := by unfold Addr.add; split <;> simp_all
      rw [hadd]
      exact (hb.cell h5).trans (h6 j u hu)
/-- One growth for two. -/
theorem Ret.flat {P : Program} {f : FuncId} {args : Array Value} {w1 : World} {X : Gr} {v : Value} (h : Calls P f args (w1.grow X) (Ret v (w1.grow X))) : Calls P f args (w1.grow X) (Ret v w1) :=
  h.mono fun _ _ ⟨h1, Y, h2⟩ => ⟨h1, _, h2.trans (grow_grow w1 X Y)⟩
theorem Ret.flatA {P : Program} {f : FuncId} {args : Array Value} {w1 : World} {X : Gr} {o : Obj} {v : Value} (h : Calls P f args ((w1.grow X).alloc o) (Ret v ((w1.grow X).alloc o))) : Calls P f args ((w1.grow X).alloc o) (Ret v w1) :=
  h.mono fun _ _ hh => by
    obtain ⟨h1, Y, rfl⟩ := hh
    exact ⟨h1, _, by rw [alloc_grow, grow_grow, grow_grow]⟩
end Go.Proofs.YtdpgpjileffekaaGreatDoor
