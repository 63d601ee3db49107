/- Small laws over any program: worlds that have grown, and regions whose order is open and whose calls make memory. -/
import Derived.WalkKit
import Derived.WalkSpells
import Derived.WalkLawsBesides
import Derived.Deep.QuietTactic
import Derived.BigQuiet
import Derived.StillTail
import Derived.Lib.Hide
namespace Go.Proofs.YtdpgpjileffekaaGreatDoor
open Go.RowKit

/-- What a world has got: new blocks, and a count of draws. -/
structure Gr where
  blocks : Array Obj
  drawn : Nat

instance : Inhabited Gr := ⟨⟨#[], 0⟩⟩

/-- The world w behind whatever makes memory and writes to none that was there. -/
def _root_.Go.World.grow (w : World) (X : Gr) : World := { w with heap := w.heap ++ X.blocks, drawn := X.drawn }

theorem below_grow (w : World) (X : Gr) : Below w.heap.size w (w.grow X) :=
  ⟨rfl, rfl, rfl, by simp [World.grow], fun k hk => by simp [World.grow, Array.getElem?_append, hk]⟩

theorem grow_of_below {w w' : World} (h : Below w.heap.size w w') : ∃ X, w' = w.grow X := by
  refine ⟨⟨w'.heap.extract w.heap.size w'.heap.size, w'.drawn⟩, ?_⟩
  obtain ⟨hos, ht, ho, hs, hb⟩ := h
  cases w with
  | mk heap tape drawn os output =>
  cases w' with
  | mk heap' tape' drawn' os' output' =>
    simp only at hos ht ho hs hb
    subst hos ht ho
    have he : heap' = heap ++ heap'.extract heap.size heap'.size := by
      apply Array.ext_getElem?
      intro k
      rw [Array.getElem?_append]
      split
      · rename_i hk; exact hb k hk
      · rename_i hk
        rw [Array.getElem?_extract]
        split
        · congr 1; omega
        · rename_i hk2; rw [Array.getElem?_eq_none]; omega
    show World.mk heap' _ _ _ _ = World.mk (heap ++ heap'.extract heap.size heap'.size) _ _ _ _
    rw [← he]

theorem grow_grow (w : World) (X Y : Gr) : (w.grow X).grow Y = w.grow ⟨X.blocks ++ Y.blocks, Y.drawn⟩ := by
  simp [World.grow, Array.append_assoc]
theorem grow_refl (w : World) : w.grow ⟨#[], w.drawn⟩ = w := by
  cases w; simp [World.grow]
theorem alloc_grow (w : World) (o : Obj) : w.alloc o = w.grow ⟨#[o], w.drawn⟩ := by
  show World.mk (w.heap.push o) _ _ _ _ = World.mk (w.heap ++ #[o]) _ _ _ _
  rw [Array.push_eq_append]
theorem drew_grow (w : World) : w.drew = w.grow ⟨#[], w.drawn + 1⟩ := by
  show World.mk w.heap _ _ _ _ = World.mk (w.heap ++ #[]) _ _ _ _
  rw [Array.append_empty]

@[go_sem] theorem size_grow (w : World) (X : Gr) : (w.grow X).heap.size = w.heap.size + X.blocks.size := by simp [World.grow]
@[go_sem] theorem tape_grow (w : World) (X : Gr) : (w.grow X).tape = w.tape := rfl
@[go_sem] theorem os_grow (w : World) (X : Gr) : (w.grow X).os = w.os := rfl
@[go_sem] theorem output_grow (w : World) (X : Gr) : (w.grow X).output = w.output := rfl
@[go_sem] theorem drew_of_grow (w : World) (X : Gr) : (w.grow X).drew = w.grow ⟨X.blocks, X.drawn + 1⟩ := rfl
/-- A cell of the new part, which lies behind n blocks. -/
def newCell (X : Gr) (n : Nat) (a : Addr) : Option Value :=
  match X.blocks[a.block - n]? with
  | some (.cells c _ _) => if a.spot.isSome then none else c[a.off]?
  | _ => none
def newFrozen (X : Gr) (n : Nat) (a : Addr) : Bool :=
  match X.blocks[a.block - n]? with
  | some (.cells _ _ (lo, hi)) => lo ≤ a.off && a.off < hi
  | _ => false
theorem heap_grow_new (w : World) (X : Gr) (k : Nat) (h : w.heap.size ≤ k) : (w.grow X).heap[k]? = X.blocks[k - w.heap.size]? := by
  show (w.heap ++ X.blocks)[k]? = _
  rw [Array.getElem?_append, if_neg (by omega)]
@[go_sem] theorem cell?_grow (w : World) (X : Gr) (a : Addr) : (w.grow X).cell? a = if a.block < w.heap.size then w.cell? a else newCell X w.heap.size a := by
  split
  · rename_i h; exact (below_grow w X).cell h
  · rename_i h; unfold World.cell? newCell; rw [heap_grow_new w X _ (by omega)]; generalize X.blocks[a.block - w.heap.size]? = o; rcases o with _ | o <;> first | rfl | (cases o <;> rfl)
@[go_sem] theorem frozen?_grow (w : World) (X : Gr) (a : Addr) : (w.grow X).frozen? a = if a.block < w.heap.size then w.frozen? a else newFrozen X w.heap.size a := by
  split
  · rename_i h; exact (below_grow w X).frozen h
  · rename_i h; unfold World.frozen? newFrozen; rw [heap_grow_new w X _ (by omega)]; generalize X.blocks[a.block - w.heap.size]? = o; rcases o with _ | o <;> first | rfl | (cases o <;> rfl)
@[go_sem] theorem lt_grown {a b : Nat} {X : Gr} (h : a < b) : (a < b + X.blocks.size) = True := eq_true (by omega)
@[go_sem] theorem le_grown {a b : Nat} {X : Gr} (h : a ≤ b) : (a ≤ b + X.blocks.size) = True := eq_true (by omega)
@[go_sem] theorem eq_grown {a b : Nat} {X : Gr} (h : a < b) : (a = b + X.blocks.size) = False := eq_false (by omega)
@[go_sem] theorem grown_eq {a b : Nat} {X : Gr} (h : a < b) : (b + X.blocks.size = a) = False := eq_false (by omega)
@[go_sem] theorem lt_p1 (a : Nat) : (a < a + 1) = True := eq_true (by omega)
@[go_sem] theorem le_p1 (a : Nat) : (a ≤ a + 1) = True := eq_true (by omega)
@[go_sem] theorem eq_p1 (a : Nat) : (a = a + 1) = False := eq_false (by omega)
@[go_sem] theorem p1_eq (a : Nat) : (a + 1 = a) = False := eq_false (by omega)
@[go_sem] theorem lt_p2 (a : Nat) : (a < a + 1 + 1) = True := eq_true (by omega)
@[go_sem] theorem le_p2 (a : Nat) : (a ≤ a + 1 + 1) = True := eq_true (by omega)
@[go_sem] theorem eq_p2 (a : Nat) : (a = a + 1 + 1) = False := eq_false (by omega)
@[go_sem] theorem p2_eq (a : Nat) : (a + 1 + 1 = a) = False := eq_false (by omega)
@[go_sem] theorem lt_p3 (a : Nat) : (a < a + 1 + 1 + 1) = True := eq_true (by omega)
@[go_sem] theorem le_p3 (a : Nat) : (a ≤ a + 1 + 1 + 1) = True := eq_true (by omega)
@[go_sem] theorem eq_p3 (a : Nat) : (a = a + 1 + 1 + 1) = False := eq_false (by omega)
@[go_sem] theorem p3_eq (a : Nat) : (a + 1 + 1 + 1 = a) = False := eq_false (by omega)
@[go_sem] theorem lt_p4 (a : Nat) : (a < a + 1 + 1 + 1 + 1) = True := eq_true (by omega)
@[go_sem] theorem le_p4 (a : Nat) : (a ≤ a + 1 + 1 + 1 + 1) = True := eq_true (by omega)
@[go_sem] theorem eq_p4 (a : Nat) : (a = a + 1 + 1 + 1 + 1) = False := eq_false (by omega)
@[go_sem] theorem p4_eq (a : Nat) : (a + 1 + 1 + 1 + 1 = a) = False := eq_false (by omega)
@[go_sem] theorem lt_p5 (a : Nat) : (a < a + 1 + 1 + 1 + 1 + 1) = True := eq_true (by omega)
@[go_sem] theorem le_p5 (a : Nat) : (a ≤ a + 1 + 1 + 1 + 1 + 1) = True := eq_true (by omega)
@[go_sem] theorem eq_p5 (a : Nat) : (a = a + 1 + 1 + 1 + 1 + 1) = False := eq_false (by omega)
@[go_sem] theorem p5_eq (a : Nat) : (a + 1 + 1 + 1 + 1 + 1 = a) = False := eq_false (by omega)
@[go_sem] theorem lt_p6 (a : Nat) : (a < a + 1 + 1 + 1 + 1 + 1 + 1) = True := eq_true (by omega)
@[go_sem] theorem le_p6 (a : Nat) : (a ≤ a + 1 + 1 + 1 + 1 + 1 + 1) = True := eq_true (by omega)
@[go_sem] theorem eq_p6 (a : Nat) : (a = a + 1 + 1 + 1 + 1 + 1 + 1) = False := eq_false (by omega)
@[go_sem] theorem p6_eq (a : Nat) : (a + 1 + 1 + 1 + 1 + 1 + 1 = a) = False := eq_false (by omega)
@[go_sem] theorem lt_p7 (a : Nat) : (a < a + 1 + 1 + 1 + 1 + 1 + 1 + 1) = True := eq_true (by omega)
@[go_sem] theorem le_p7 (a : Nat) : (a ≤ a + 1 + 1 + 1 + 1 + 1 + 1 + 1) = True := eq_true (by omega)
@[go_sem] theorem eq_p7 (a : Nat) : (a = a + 1 + 1 + 1 + 1 + 1 + 1 + 1) = False := eq_false (by omega)
@[go_sem] theorem p7_eq (a : Nat) : (a + 1 + 1 + 1 + 1 + 1 + 1 + 1 = a) = False := eq_false (by omega)
@[go_sem] theorem lt_p8 (a : Nat) : (a < a + 1 + 1 + 1 + 1 + 1 + 1 + 1 + 1) = True := eq_true (by omega)
@[go_sem] theorem le_p8 (a : Nat) : (a ≤ a + 1 + 1 + 1 + 1 + 1 + 1 + 1 + 1) = True := eq_true (by omega)
@[go_sem] theorem eq_p8 (a : Nat) : (a = a + 1 + 1 + 1 + 1 + 1 + 1 + 1 + 1) = False := eq_false (by omega)
@[go_sem] theorem p8_eq (a : Nat) : (a + 1 + 1 + 1 + 1 + 1 + 1 + 1 + 1 = a) = False := eq_false (by omega)
@[go_sem] theorem lt_p9 (a : Nat) : (a < a + 1 + 1 + 1 + 1 + 1 + 1 + 1 + 1 + 1) = True := eq_true (by omega)
@[go_sem] theorem le_p9 (a : Nat) : (a ≤ a + 1 + 1 + 1 + 1 + 1 + 1 + 1 + 1 + 1) = True := eq_true (by omega)
@[go_sem] theorem eq_p9 (a : Nat) : (a = a + 1 + 1 + 1 + 1 + 1 + 1 + 1 + 1 + 1) = False := eq_false (by omega)
@[go_sem] theorem p9_eq (a : Nat) : (a + 1 + 1 + 1 + 1 + 1 + 1 + 1 + 1 + 1 = a) = False := eq_false (by omega)
@[go_sem] theorem lt_p10 (a : Nat) : (a < a + 1 + 1 + 1 + 1 + 1 + 1 + 1 + 1 + 1 + 1) = True := eq_true (by omega)
@[go_sem] theorem le_p10 (a : Nat) : (a ≤ a + 1 + 1 + 1 + 1 + 1 + 1 + 1 + 1 + 1 + 1) = True := eq_true (by omega)
@[go_sem] theorem eq_p10 (a : Nat) : (a = a + 1 + 1 + 1 + 1 + 1 + 1 + 1 + 1 + 1 + 1) = False := eq_false (by omega)
@[go_sem] theorem p10_eq (a : Nat) : (a + 1 + 1 + 1 + 1 + 1 + 1 + 1 + 1 + 1 + 1 = a) = False := eq_false (by omega)
@[go_sem] theorem lt_p11 (a : Nat) : (a < a + 1 + 1 + 1 + 1 + 1 + 1 + 1 + 1 + 1 + 1 + 1) = True := eq_true (by omega)
@[go_sem] theorem le_p11 (a : Nat) : (a ≤ a + 1 + 1 + 1 + 1 + 1 + 1 + 1 + 1 + 1 + 1 + 1) = True := eq_true (by omega)
@[go_sem] theorem eq_p11 (a : Nat) : (a = a + 1 + 1 + 1 + 1 + 1 + 1 + 1 + 1 + 1 + 1 + 1) = False := eq_false (by omega)
@[go_sem] theorem p11_eq (a : Nat) : (a + 1 + 1 + 1 + 1 + 1 + 1 + 1 + 1 + 1 + 1 + 1 = a) = False := eq_false (by omega)
@[go_sem] theorem lt_p12 (a : Nat) : (a < a + 1 + 1 + 1 + 1 + 1 + 1 + 1 + 1 + 1 + 1 + 1 + 1) = True := eq_true (by omega)
@[go_sem] theorem le_p12 (a : Nat) : (a ≤ a + 1 + 1 + 1 + 1 + 1 + 1 + 1 + 1 + 1 + 1 + 1 + 1) = True := eq_true (by omega)
@[go_sem] theorem eq_p12 (a : Nat) : (a = a + 1 + 1 + 1 + 1 + 1 + 1 + 1 + 1 + 1 + 1 + 1 + 1) = False := eq_false (by omega)
@[go_sem] theorem p12_eq (a : Nat) : (a + 1 + 1 + 1 + 1 + 1 + 1 + 1 + 1 + 1 + 1 + 1 + 1 = a) = False := eq_false (by omega)
@[go_sem] theorem setCell_grow (w : World) (X : Gr) (a : Addr) (v : Value) (h : a.block < w.heap.size) : (w.grow X).setCell a v = (w.setCell a v).grow X := by
  unfold World.grow World.setCell
  simp only [World.mk.injEq, and_true]
  apply Array.ext_getElem?
  intro k
  simp only [Array.getElem?_modify, Array.getElem?_append, Array.size_modify]
  by_cases hk : k < w.heap.size
  · simp [hk]
  · have : ¬ a.block = k := by omega
    simp [hk, this]
@[go_sem] theorem setCell_alloc_old (w : World) (o : Obj) (a : Addr) (v : Value) (h : a.block < w.heap.size) : (w.alloc o).setCell a v = (w.setCell a v).alloc o := by
  rw [alloc_grow, setCell_grow w _ a v h, alloc_grow]
  rfl
theorem cell_grow {w : World} {X : Gr} {a : Addr} {v : Value} (h : w.cell? a = some v) : (w.grow X).cell? a = some v := by
  rw [cell?_grow w X a, if_pos (World.block_lt_of_cell? w a h)]; exact h

theorem newCell_is {w : World} {X : Gr} {g o : Nat} {r : Option Value} (hg : w.heap.size ≤ g) (h : (w.grow X).cell? ⟨g, o, none⟩ = r) : newCell X w.heap.size ⟨g, o, none⟩ = r := by
  rw [cell?_grow, if_neg (by show ¬ g < _; omega)] at h; exact h
theorem newFrozen_is {w : World} {X : Gr} {g o : Nat} {r : Bool} (hg : w.heap.size ≤ g) (h : (w.grow X).frozen? ⟨g, o, none⟩ = r) : newFrozen X w.heap.size ⟨g, o, none⟩ = r := by
  rw [frozen?_grow, if_neg (by show ¬ g < _; omega)] at h; exact h
theorem heap_alloc_at {w : World} {o : Obj} {n : Nat} (h : n = w.heap.size) : (w.alloc o).heap[n]? = some o := by rw [h]; exact heap_alloc_new w o
theorem heap_grow_old (w : World) (X : Gr) {g : Nat} {o : Obj} (h : w.heap[g]? = some o) : (w.grow X).heap[g]? = some o := by
  rw [(below_grow w X).block g (Array.getElem?_eq_some_iff.1 h).1]; exact h
theorem Below.grow {B : Nat} {a w : World} (h : Below B a w) (hB : B ≤ w.heap.size) (X : Gr) : Below B a (w.grow X) :=
  h.trans ((below_grow w X).mono hB)

theorem Below.drewN {B : Nat} {a w : World} (h : Below B a w) (n : Nat) : Below B a (w.drewN n) := h.trans ⟨rfl, rfl, rfl, Nat.le_refl _, fun _ _ => rfl⟩

/-- The end of a call that makes memory and writes to none that was there. -/
def Ret (v : Value) (w : World) (e : Ending) (w' : World) : Prop := e = .returned v ∧ ∃ X, w' = w.grow X

theorem Ret.of {v u : Value} {w w' : World} (hv : u = v) (h : Below w.heap.size w w') : Ret v w (.returned u) w' := ⟨by rw [hv], grow_of_below h⟩
theorem Ret.same {v u : Value} {w : World} (hv : u = v) : Ret v w (.returned u) w := ⟨by rw [hv], _, (grow_refl w).symm⟩

theorem Calls.grow_of {P : Program} {f : FuncId} {args : Array Value} {w : World} {X : Gr} {v : Value}
    (h : Calls P f args (w.grow X) (Ret v (w.grow X))) : Calls P f args (w.grow X) fun e w'' => e = .returned v ∧ ∃ Y, w'' = w.grow Y :=
  h.mono fun _ _ ⟨he, m, hm⟩ => ⟨he, _, hm.trans (grow_grow w X m)⟩
theorem Calls.grow_same {P : Program} {f : FuncId} {args : Array Value} {w : World} {X : Gr} {v : Value}
    (h : Calls P f args (w.grow X) fun e w' => e = .returned v ∧ w.grow X = w') : Calls P f args (w.grow X) fun e w'' => e = .returned v ∧ ∃ Y, w'' = w.grow Y :=
  h.mono fun _ _ ⟨he, hm⟩ => ⟨he, _, hm.symm⟩

/-- A region whose order is open: every operation only reads, or is a call that makes memory and hands back one value. -/
theorem wp_region_grow {P : Program} {id : Nat} {Q : Exit → Act → World → Prop} {a : Act} {w : World} {l : List Oper} (hm : P.follows .mixedOrders = true) (hB : Region.lexB .any l.toArray = true)
    (h : wpQuiet P l.toArray (fun w' => ∃ X, w' = w.grow X) (fun a' => ∀ w', (∃ X, w' = w.grow X) → Q .normal a' w') l a) : (Code.region id l.toArray true).wp P Q a w :=
  wp_region_quiet (C := fun w' => ∃ X, w' = w.grow X) hm hB ⟨⟨#[], w.drawn + 1⟩, by simp [World.grow]⟩ (by simpa using h)

/-! Slices that a call makes itself, by append. -/

/-- What the walk wants of a slice type: its number, the element's, the element's zero, cells and bytes. -/
structure SlT (P : Program) (t e : TypeId) (z : Value) (size bytes : Nat) : Prop where
  ht : P.underlying t = some (.slice e)
  hi : (P.info? e).map (fun i => (i.zero, i.size, i.bytes)) = some (some z, size, bytes)
  hzs : z.cells.size = size
  hsz : 0 < size

theorem append_grow {P : Program} {W : World} {ops : Array Oper} {rest : List Oper} {o : Oper} {a : Act} {Q : Exit → Act → World → Prop} (hgd : o.guard = none) (s x : Operand) (t : TypeId)
    (ho : o.op = .call { callee := .builtin .append, args := #[s, x], argTypes := #[t, t] })
    {e : TypeId} {z : Value} {size bytes : Nat} (row : SlT P t e z size bytes) (w0 : World) {v : Value} {n : Nat} {xs : List Value} (hs : a.eval s = v) (hown : W.ownsRow w0.heap.size e size v n xs)
    (hb : Below w0.heap.size w0 W) (ad : Addr) (m c : Nat) (news : List Value) (hx : a.eval x = .slice (some ad) m c) (hl : news.length = m * size)
    (hnews : ∀ j u, news[j]? = some u → W.cell? (ad.add j) = some u) (h1 : ∀ u ∈ news, u.oneCell' = true) (h63 : n + m ≤ maxLen) (hbytes : (n + m) * bytes ≤ 140737488355328)
    (h : ∀ v' X, (w0.grow X).ownsRow w0.heap.size e size v' (n + m) (xs ++ news) → (v' = .slice none 0 0 ↔ v = .slice none 0 0 ∧ m = 0) → wpList P ops Q rest (a.put o.dst v') (w0.grow X)) : wpList P ops Q (o :: rest) a W := by
  obtain ⟨i, hi, hz0, hz1, hz2⟩ := info_parts row.hi
  refine wpList_append_own W hgd s x t ho w0.heap.size e i z size bytes row.ht hi hz0 hz1 hz2 row.hzs row.hsz v n xs hs hown ad m c news hx hl hnews h1 h63 hbytes hb.size ?_
  intro v' w' h2 h3 h4
  have hbw : Below w0.heap.size w0 w' := hb.grown h3 hb.size (fun k hk => (hown.lt k hk).1)
  obtain ⟨X, rfl⟩ := grow_of_below hbw
  exact h v' X h2 h4

/-- A row that the call owns stays when more memory is made. -/
theorem own_grow {w : World} {B : Nat} {e : TypeId} {size : Nat} {v : Value} {n : Nat} {xs : List Value} (h : w.ownsRow B e size v n xs) (X : Gr) : (w.grow X).ownsRow B e size v n xs :=
  h.kept (row := none) ⟨rfl, rfl, rfl, by simp [World.grow], fun k hk _ => (below_grow w X).block k hk⟩ (by cases hv : v.ownBlock <;> simp)
/-- Its cells. -/
theorem own_cells {w : World} {B : Nat} {e : TypeId} {size : Nat} {v : Value} {n : Nat} {xs : List Value} (h : w.ownsRow B e size v n xs) :
    xs.length = n * size ∧ ∃ a cap, v = .slice a n cap ∧ n ≤ maxLen ∧ (n = 0 ∨ ∃ b, a = some ⟨b, 0, none⟩ ∧ B ≤ b ∧ b < w.heap.size ∧ ∀ j u, xs[j]? = some u → w.cell? ⟨b, j, none⟩ = some u) := by
  refine ⟨h.1, ?_⟩
  rcases h.2 with ⟨rfl, rfl⟩ | ⟨g, cap, cur, rfl, hb, hg, hn, hm, hs, ht⟩
  · exact ⟨none, 0, rfl, by unfold maxLen; omega, Or.inl rfl⟩
  · refine ⟨_, cap, rfl, by omega, Or.inr ⟨g, rfl, hb, (Array.getElem?_eq_some_iff.1 hg).1, fun j u hu => ?_⟩⟩
    have := h.cells (g := g) rfl j u hu
    have e : (⟨g, 0, none⟩ : Addr).add j = ⟨g, j, none⟩ := by unfold Addr.add; split <;> simp_all
    rwa [e] at this
theorem news_one {W : World} {b : Nat} {c : Array Value} {k : Nat} {ad : Addr} (hc : ∀ i, i < k → W.cell? ⟨b, i, none⟩ = c[i]?) (hk : c.size = k) (he : ad = ⟨b, 0, none⟩) : ∀ j u, c.toList[j]? = some u → W.cell? (ad.add j) = some u := by
  intro j u hu
  subst he
  have e : (⟨b, 0, none⟩ : Addr).add j = ⟨b, j, none⟩ := by unfold Addr.add; split <;> simp_all
  have hj : j < k := by have := (List.getElem?_eq_some_iff.1 hu).1; simpa [hk] using this
  rw [e, hc j hj]; simpa using hu
theorem new_cells {W : World} {c : Array Value} {t : TypeId} {ad : Addr} (he : ad = ⟨W.heap.size, 0, none⟩) : ∀ j u, c.toList[j]? = some u → (W.alloc (.cells c t)).cell? (ad.add j) = some u :=
  news_one (k := c.size) (fun i _ => by simp [go_sem]) rfl he

/-! A region whose order is open, whose last operations come in one order behind all others (a store, say), and whose other operations are as in 'wp_region_grow'. -/
section
variable {P : Program} {ops : Array Oper} {md : Region.Mode} {C : World → Prop}

def wpHeadQ (P : Program) (md : Region.Mode) (ops : Array Oper) (C : World → Prop) (n : Nat) (L : Array Bool → Act → Prop) : Nat → Array Bool → Act → Prop
  | 0, listed, a => L listed a
  | f + 1, listed, a =>
    Region.ready md ops listed ≠ [] ∧ ∀ i ∈ Region.ready md ops listed, i < n ∧ qOp P ops C i (wpHeadQ P md ops C n L f (listed.setIfInBounds i true)) a

theorem wpAny_of_headQ {n g : Nat} {L : Array Bool → Act → Prop} {Q' : Exit → Act → World → Prop} (hL : ∀ listed a w, C w → L listed a → wpAny P md ops Q' g listed a w) :
    ∀ (f : Nat) (listed : Array Bool) (a : Act) (w : World), C w → wpHeadQ P md ops C n L f listed a → wpAny P md ops Q' (f + g) listed a w
  | 0, listed, a, w, hw, h => by rw [Nat.zero_add]; exact hL _ _ _ hw h
  | f + 1, listed, a, w, hw, h => by
    rw [show f + 1 + g = (f + g) + 1 by omega]
    exact ⟨fun h0 => absurd h0 h.1, fun i hi => wpOp_of_qOp hw (fun a' w' hw' h' => wpAny_of_headQ hL f _ a' w' hw' h') (h.2 i hi).2⟩

theorem wpHeadQ_first {n i : Nat} {oi : Oper} {v : Value} {L : Array Bool → Act → Prop} (hi : ops[i]? = some oi) (hsel : ∀ (j : Nat) (o : Oper) cs b, ops[j]? = some o → o.op ≠ .select cs b)
    (hs : Region.sinkB md ops n = true) (hc : Region.chainB md ops n = true) (hn : n < ops.size) (hin : i < n)
    (hdone : ∀ listed a, L listed a → ∀ j ∈ Region.ready md ops listed, n ≤ j) :
    ∀ (f : Nat) (listed : Array Bool) (a : Act), HeadInv md ops n listed →
      (∀ j oj, ops[j]? = some oj → j ≠ i → listed.getD j true = false → (∀ e ∈ oj.after, Region.binds md e = true → e.on ≠ i) → oi.apart ops oj = true) →
      i ∈ Region.ready md ops listed → YieldsIn P ops C oi v a →
      wpHeadQ P md ops C n L f (listed.setIfInBounds i true) (a.put oi.dst v) → wpHeadQ P md ops C n L (f + 1) listed a := by
  intro f
  induction f with
  | zero =>
    intro listed a inv _ hr hy H
    have hun := (mem_ready.1 hr).1
    refine ⟨fun h => (by rw [h] at hr; cases hr), fun j hj => ?_⟩
    have hjn : j < n := by
      rcases Nat.lt_or_ge j n with h | h
      · exact h
      · exact absurd hj (tail_waits hs hc hn inv _ i rfl hin hun j h)
    refine ⟨hjn, ?_⟩
    by_cases hji : j = i
    · subst hji; exact hy.qOp hi H
    · have := hdone _ _ H j (ready_mono hj hji)
      omega
  | succ f ih =>
    intro listed a inv hfree hr hy H
    have hun := (mem_ready.1 hr).1
    refine ⟨fun h => (by rw [h] at hr; cases hr), fun j hj => ?_⟩
    have hjn : j < n := by
      rcases Nat.lt_or_ge j n with h | h
      · exact h
      · exact absurd hj (tail_waits hs hc hn inv _ i rfl hin hun j h)
    refine ⟨hjn, ?_⟩
    by_cases hji : j = i
    · subst hji; exact hy.qOp hi H
    · have h1 := (H.2 j (ready_mono hj hji)).2
      obtain ⟨hjun, oj, hoj, hall⟩ := mem_ready.1 hj
      have hnot : ∀ e ∈ oj.after, Region.binds md e = true → e.on ≠ i := fun e he hb heq => by
        have h1 := hall e he hb
        rw [heq, getD_both hun] at h1
        cases h1
      have h2 := qOp_put hoj (hfree j oj hoj hji hjun hnot) (fun cs b => hsel i oi cs b hi) (fun cs b => hsel j oj cs b hoj) hy h1
      have hfree' : ∀ k ok, ops[k]? = some ok → k ≠ i → (listed.setIfInBounds j true).getD k true = false →
          (∀ e ∈ ok.after, Region.binds md e = true → e.on ≠ i) → oi.apart ops ok = true := fun k ok hk hki hun hno => by
        refine hfree k ok hk hki ?_ hno
        by_cases hjk : j = k
        · subst hjk; exact hjun
        · rw [getD_set_ne true hjk] at hun; exact hun
      refine qOp_mono (fun a' h3 => ih (listed.setIfInBounds j true) a' (inv.set hj hjn) hfree' (ready_mono hr (Ne.symm hji)) h3.1 ?_) h2
      rw [Array.setIfInBounds_comm _ _ hji]
      exact h3.2

theorem wpHeadQ_lex {n g : Nat} {Lq : Act → Prop} (hsel : Region.noSelect ops = true) (hs : Region.sinkB md ops n = true) (hc : Region.chainB md ops n = true) (hn : n < ops.size) :
    ∀ (l : List Oper) (k : Nat) (listed : Array Bool) (a : Act), (∀ j, j < l.length → l[j]? = ops[k + j]?) → k + l.length = n → HeadInv md ops n listed →
    Region.lexHead md ops g l.length k listed = true → wpQuiet P ops C Lq l a →
    wpHeadQ P md ops C n (fun listed' a' => Region.seqB md ops g n listed' = true ∧ Lq a') l.length listed a
  | [], k, listed, a, _, hk, _, hB, h => by
    have : k = n := by simpa using hk
    subst this
    exact ⟨by simpa [Region.lexHead] using hB, h⟩
  | o :: l, k, listed, a, hl, hk, inv, hB, h => by
    have h0 : ops[k]? = some o := by simpa using (hl 0 (by simp)).symm
    simp only [List.length_cons, Region.lexHead, Bool.and_eq_true] at hB
    obtain ⟨⟨hr, hf⟩, hB'⟩ := hB
    have hkn : k < n := by simp only [List.length_cons] at hk; omega
    have hr' : k ∈ Region.ready md ops listed := by simpa using hr
    have hst : qOp P ops C k (wpQuiet P ops C Lq l) a := by unfold qOp; simp only [h0]; exact h
    obtain ⟨v, hy, hK⟩ := yieldsIn_of_qOp h0 hst
    exact wpHeadQ_first h0 (Region.noSelect_spec hsel) hs hc hn hkn (fun listed' a' hL => seqB_ready hL.1) l.length listed a inv (Region.free_spec h0 hf) hr' hy
      (wpHeadQ_lex hsel hs hc hn l (k + 1) _ _ (fun j hj => by have := hl (j + 1) (by simp; omega); simpa [Nat.add_assoc, Nat.add_comm 1 j] using this) (by simp only [List.length_cons] at hk; omega) (inv.set hr' hkn) hB' hK)
end

theorem wp_region_grow_tail {P : Program} {id : Nat} {Q : Exit → Act → World → Prop} {a : Act} {w : World} {l : List Oper} (n : Nat) (hm : P.follows .mixedOrders = true) (hB : Region.lexTailB .any l.toArray n = true)
    (h : wpQuiet P l.toArray (fun w' => ∃ X, w' = w.grow X) (fun a' => ∀ w', (∃ X, w' = w.grow X) → wpList P l.toArray Q (l.drop n) a' w') (l.take n) a) : (Code.region id l.toArray true).wp P Q a w := by
  simp only [Region.lexTailB, Bool.and_eq_true, decide_eq_true_eq] at hB
  obtain ⟨⟨⟨⟨hsel, hn⟩, hs⟩, hc⟩, hlex⟩ := hB
  have hn' : n < l.length := by simpa using hn
  have htl : (l.take n).length = n := by simp; omega
  have hdl : (l.drop n).length = l.toArray.size - n := by simp
  have inv0 : HeadInv .any l.toArray n (Array.replicate l.toArray.size false) :=
    ⟨by simp, fun j oj _ hl => (by rw [getD_replicate_false] at hl; cases hl), fun t _ ht => getD_in (by simpa using ht) (getD_replicate_false _ _)⟩
  have H := wpHeadQ_lex (md := .any) (g := l.toArray.size - n) hsel hs hc hn (l.take n) 0 _ a (fun j hj => by
    have hj' : j < n := by rw [htl] at hj; exact hj
    simp [hj']) (by simpa using htl) inv0 (by rw [htl]; exact hlex) h
  refine wp_region_any hm ?_
  have := wpAny_of_headQ (Q' := Q) (g := l.toArray.size - n) (fun listed a' w' hw' hL => by
    have := wpAny_of_seq (md := .any) (Q' := Q) (l.drop n) n listed a' w' (fun j => by simp [List.getElem?_drop]) (by rw [hdl]; exact hL.1) (hL.2 w' hw')
    rwa [hdl] at this) _ _ _ { w with drawn := w.drawn + 1 } ⟨⟨#[], w.drawn + 1⟩, by simp [World.grow]⟩ H
  rw [htl, show n + (l.toArray.size - n) = l.toArray.size by omega] at this
  exact this
end Go.Proofs.YtdpgpjileffekaaGreatDoor
