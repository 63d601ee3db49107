/- Small laws over any program, more: the bytes of a string in a block of their own, beside a row that grows. -/
import Derived.RangeFuncBox
import Derived.Test.YtdpgpjileffekaaGreatDoorKitC
namespace Go.Proofs.YtdpgpjileffekaaGreatDoor
open Go.RowKit
/-- Block nb holds a string's bytes, as '[]byte(s)' lays them. -/
def BytesAt (W : World) (nb : Nat) (e : TypeId) (s : ByteArray) : Prop :=
  ∃ C m, W.heap[nb]? = some (.cells C e (m, m + 1)) ∧ ∀ k (h : k < s.size), C[k]? = some (.int .u8 (s[k].toNat : Int))
theorem BytesAt.cell {W : World} {nb : Nat} {e : TypeId} {s : ByteArray} (h : BytesAt W nb e s) (k : Nat) (hk : k < s.size) : W.cell? ⟨nb, k, none⟩ = some (.int .u8 (s[k].toNat : Int)) := by
  obtain ⟨C, m, h1, h2⟩ := h
  simp [World.cell?, h1, h2 k hk]
theorem BytesAt.lt {W : World} {nb : Nat} {e : TypeId} {s : ByteArray} (h : BytesAt W nb e s) : nb < W.heap.size := by
  obtain ⟨C, m, h1, _⟩ := h
  exact (Array.getElem?_eq_some_iff.1 h1).1
theorem BytesAt.new (W : World) (e : TypeId) (s : ByteArray) : BytesAt (W.grow (bytesGr W e s)) W.heap.size e s := by
  refine ⟨_, _, by simp only [World.grow]; rw [Array.getElem?_append_right (Nat.le_refl _), Nat.sub_self]; rfl, fun k hk => ?_⟩
  have h := bytes_cells W e s k hk
  unfold World.cell? at h
  have hb : (W.grow (bytesGr W e s)).heap[W.heap.size]? = some (.cells (Lib.bytesCells W e s) e ((Lib.bytesCells W e s).size, (Lib.bytesCells W e s).size + 1)) := by
    simp only [World.grow]
    rw [Array.getElem?_append_right (Nat.le_refl _), Nat.sub_self]; rfl
  simpa [hb] using h
theorem BytesAt.grow {W : World} {nb : Nat} {e : TypeId} {s : ByteArray} (h : BytesAt W nb e s) (X : Gr) : BytesAt (W.grow X) nb e s := by
  have hl := h.lt
  obtain ⟨C, m, h1, h2⟩ := h
  exact ⟨C, m, ((below_grow W X).block nb hl).trans h1, h2⟩
theorem BytesAt.alloc {W : World} {nb : Nat} {e : TypeId} {s : ByteArray} (h : BytesAt W nb e s) (o : Obj) : BytesAt (W.alloc o) nb e s := by
  rw [alloc_grow]; exact h.grow _
/-- A row's block is none of theirs. -/
theorem BytesAt.kept {W W' : World} {nb : Nat} {e : TypeId} {s : ByteArray} (h : BytesAt W nb e s) {v : Value} {B : Nat} {e' : TypeId} {size n : Nat} {xs : List Value} (ho : W.ownsRow B e' size v n xs) (hg : W.grownBy W' v.ownBlock) : BytesAt W' nb e s := by
  have hl := h.lt
  obtain ⟨C, m, h1, h2⟩ := h
  refine ⟨C, m, (hg.block nb hl fun e => ?_).trans h1, h2⟩
  rcases ho.2 with ⟨rfl, _⟩ | ⟨g, cap, cur, rfl, _, hh, _⟩
  · simp [Value.ownBlock] at e
  · simp [Value.ownBlock] at e
    subst e
    rw [h1] at hh
    simp at hh
theorem below_own {B0 : Nat} {W W' : World} {v : Value} {B : Nat} {e : TypeId} {size n : Nat} {xs : List Value} (ho : W.ownsRow B e size v n xs) (hg : W.grownBy W' v.ownBlock) (hB : B0 ≤ B) (hw : B0 ≤ W.heap.size) : Below B0 W W' :=
  (Below.refl B0 W).grown hg hw fun k hk => by have := (ho.lt k hk).1; omega
theorem own_step {w V W' : World} {v : Value} {e : TypeId} {size n : Nat} {xs : List Value} (hg : V.grownBy W' v.ownBlock) (ho : V.ownsRow w.heap.size e size v n xs) (h : Below w.heap.size w V) : Hid (Below w.heap.size w W') :=
  h.trans (below_own ho hg (Nat.le_refl _) h.size)
/-- append onto a row of the call's own, worlds left open. -/
theorem append_abs {P : Program} {W : World} {ops : Array Oper} {rest : List Oper} {o : Oper} {a : Act} {Q : Exit → Act → World → Prop} (hgd : o.guard = none) (s x : Operand) (t : TypeId)
    (ho : o.op = .call { callee := .builtin .append, args := #[s, x], argTypes := #[t, t] })
    {e : TypeId} {z : Value} {size bytes : Nat} (row : SlT P t e z size bytes) (base : Nat) {v : Value} {n : Nat} {xs : List Value} (hs : a.eval s = v) (hown : W.ownsRow base e size v n xs)
    (hb : base ≤ W.heap.size) (ad : Addr) (m c : Nat) (news : List Value) (hx : a.eval x = .slice (some ad) m c) (hl : news.length = m * size)
    (hnews : ∀ j u, news[j]? = some u → W.cell? (ad.add j) = some u) (h1 : ∀ u ∈ news, u.oneCell' = true) (h63 : n + m ≤ maxLen) (hbytes : (n + m) * bytes ≤ 140737488355328)
    (h : ∀ v' W', W'.ownsRow base e size v' (n + m) (xs ++ news) → W.grownBy W' v.ownBlock → wpList P ops Q rest (a.put o.dst v') W') : wpList P ops Q (o :: rest) a W := by
  obtain ⟨i, hi, hz0, hz1, hz2⟩ := info_parts row.hi
  exact wpList_append_own W hgd s x t ho base e i z size bytes row.ht hi hz0 hz1 hz2 row.hzs row.hsz v n xs hs hown ad m c news hx hl hnews h1 h63 hbytes hb fun v' w' h2 h3 _ => h v' w' h2 h3
theorem own_lit {W : World} {e : TypeId} {c : Array Value} {n size : Nat} (hc : c.size = n * size) (hn : n ≤ maxLen) : (W.alloc (.cells c e)).ownsRow W.heap.size e size (.slice (some ⟨W.heap.size, 0, none⟩) n n) n c.toList :=
  ⟨by simp [hc], .inr ⟨W.heap.size, n, c, rfl, Nat.le_refl _, heap_alloc_new W _, Nat.le_refl _, hn, hc, by rw [List.take_of_length_le]; simp [hc]⟩⟩
theorem below_next {w a b : World} (h : Below w.heap.size w a) (k : Below a.heap.size a b) : Below w.heap.size w b := h.trans (k.mono h.size)
theorem below_start (w : World) (X : Gr) : Below w.heap.size w (w.grow X) := below_grow w X
end Go.Proofs.YtdpgpjileffekaaGreatDoor
