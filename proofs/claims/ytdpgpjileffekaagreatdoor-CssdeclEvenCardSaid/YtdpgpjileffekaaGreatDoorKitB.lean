/- Small laws over any program, more: append from whatever slice. -/
import Derived.Laws.AppendOwnNone
import Derived.Test.YtdpgpjileffekaaGreatDoorKit
namespace Go.Proofs.YtdpgpjileffekaaGreatDoor
open Go.RowKit

/-- The same from whatever slice, a nil one too. -/
theorem append_src {P : Program} {W : World} {ops : Array Oper} {rest : List Oper} {o : Oper} {a : Act} {Q : Exit → Act → World → Prop} (hgd : o.guard = none) (s x : Operand) (t : TypeId)
    (ho : o.op = .call { callee := .builtin .append, args := #[s, x], argTypes := #[t, t] })
    {e : TypeId} {z : Value} {size bytes : Nat} (row : SlT P t e z size bytes) (w0 : World) {v : Value} {n : Nat} {xs : List Value} (hs : a.eval s = v) (hown : W.ownsRow w0.heap.size e size v n xs)
    (hb : Below w0.heap.size w0 W) (m : Nat) (news : List Value)
    (hx : (a.eval x = .slice none 0 0 ∧ m = 0) ∨ ∃ ad c, a.eval x = .slice (some ad) m c ∧ ∀ j u, news[j]? = some u → W.cell? (ad.add j) = some u) (hl : news.length = m * size)
    (h1 : ∀ u ∈ news, u.oneCell' = true) (h63 : n + m ≤ maxLen) (hbytes : (n + m) * bytes ≤ 140737488355328)
    (h : ∀ v' X, (w0.grow X).ownsRow w0.heap.size e size v' (n + m) (xs ++ news) → wpList P ops Q rest (a.put o.dst v') (w0.grow X)) : wpList P ops Q (o :: rest) a W := by
  rcases hx with ⟨hx, rfl⟩ | ⟨ad, c, hx, hnews⟩
  · obtain ⟨i, hi, hz0, hz1, hz2⟩ := info_parts row.hi
    have : news = [] := List.eq_nil_of_length_eq_zero (by rw [hl, Nat.zero_mul])
    subst this
    refine wpList_append_own_none hgd s x t ho w0.heap.size e i size row.ht hi v n xs hs hown hx ?_
    obtain ⟨X, hX⟩ := grow_of_below hb
    subst hX
    exact h v X (by simpa using hown)
  · exact append_grow hgd s x t ho row w0 hs hown hb ad m c news hx hl hnews h1 h63 hbytes fun v' X h2 _ => h v' X h2
end Go.Proofs.YtdpgpjileffekaaGreatDoor
