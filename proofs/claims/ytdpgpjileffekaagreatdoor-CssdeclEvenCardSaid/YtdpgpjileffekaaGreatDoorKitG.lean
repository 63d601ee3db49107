/- Small laws over any program, more: what a range over a function collects in a row of the caller's own. -/
import Derived.Test.YtdpgpjileffekaaGreatDoorKitD
import Derived.Test.YtdpgpjileffekaaGreatDoorKitS
import Derived.Test.YtdpgpjileffekaaGreatDoorLexPlain
namespace Go.Proofs.YtdpgpjileffekaaGreatDoor
open Go.RowKit Go.Shelf
def sv (t : Bs) : Value := .string ⟨t.toArray⟩
@[go_sem] theorem run_store_fn {P : Program} {w : World} {a : Addr} {md : Mode} (fn : Fn) (first captured : Array Value) : (store a (.func fn first captured) md).run P w = stored P w a (.func fn first captured) md := run_store P w a _ md rfl
@[go_sem] theorem run_store_nilfn {P : Program} {w : World} {a : Addr} {md : Mode} : (store a .nilFunc md).run P w = stored P w a .nilFunc md := run_store P w a _ md rfl
/-- The end of a call that hands back a slice that reads as cells, and makes memory alone. -/
def RetS (w : World) (n size : Nat) (cells : List Value) (e : Ending) (w' : World) : Prop :=
  ∃ A c X, e = .returned (.slice A n c) ∧ w' = w.grow X ∧ n ≤ c ∧ Rd (w.grow X) (.slice A n c) n size cells
theorem RetS.of {w w' : World} {A : Option Addr} {c n size : Nat} {cells : List Value} (hb : Below w.heap.size w w') (hc : n ≤ c) (hr : Rd w' (.slice A n c) n size cells) : RetS w n size cells (.returned (.slice A n c)) w' := by
  obtain ⟨X, rfl⟩ := grow_of_below hb
  exact ⟨A, c, X, rfl, rfl, hc, hr⟩
theorem own_cap {W : World} {B : Nat} {e : TypeId} {size : Nat} {v : Value} {n : Nat} {xs : List Value} (h : W.ownsRow B e size v n xs) : ∃ A c, v = .slice A n c ∧ n ≤ c := by
  rcases h.2 with ⟨rfl, rfl⟩ | ⟨g, cap, cur, rfl, hb, hg, hn, hm, hs, ht⟩
  · exact ⟨_, _, rfl, by omega⟩
  · exact ⟨_, _, rfl, by omega⟩
theorem RetS.own {w w' : World} {v : Value} {n size B : Nat} {e : TypeId} {cells : List Value} (hb : Below w.heap.size w w') (ho : w'.ownsRow B e size v n cells) : RetS w n size cells (.returned v) w' := by
  have hr := Rd.own ho
  obtain ⟨A, c, rfl, hc⟩ := own_cap ho
  exact RetS.of hb hc hr
/-- The end of a call that hands back a row of its own. -/
def RetO (w : World) (n size : Nat) (e : TypeId) (cells : List Value) (en : Ending) (w' : World) : Prop := ∃ v X, en = .returned v ∧ w' = w.grow X ∧ (w.grow X).ownsRow w.heap.size e size v n cells
theorem RetO.s {w w' : World} {n size : Nat} {e : TypeId} {cells : List Value} {en : Ending} (h : RetO w n size e cells en w') : RetS w n size cells en w' := by
  obtain ⟨v, X, rfl, rfl, ho⟩ := h
  exact RetS.own (below_grow w X) ho
theorem RetO.own {w w' : World} {v : Value} {n size B : Nat} {e : TypeId} {cells : List Value} (hb : Below w.heap.size w w') (ho : w'.ownsRow B e size v n cells) (hB : w.heap.size ≤ B) : RetO w n size e cells (.returned v) w' := by
  obtain ⟨X, rfl⟩ := grow_of_below hb
  refine ⟨v, X, rfl, rfl, ho.1, ?_⟩
  rcases ho.2 with h | ⟨g, cap, cur, h2, h3, h4⟩
  · exact .inl h
  · exact .inr ⟨g, cap, cur, h2, Nat.le_trans hB h3, h4⟩
/-- An iterator hands on one element. -/
theorem upon_yield {P : Program} {o : Oper} {a : Act} {next : Act → World → Prop} {Q : Exit → Act → World → Prop} {l : Nat} {args args' : Array Value} {W : World} {R : Ending → World → Prop}
    (h : YieldAt Fence.wide 0 P l args W R) (he : args' = args)
    (hk : ∀ e W', R e W' → (∃ v, e = .returned v ∧ next (a.put o.dst v) W')) : Oper.uponIn Fence.wide 0 P o a next Q ((Instr.yield l args').run P W) := by
  obtain ⟨fn, tmps, assign, body, hy, hR⟩ := h
  rw [he, hy]
  refine ⟨fun h => absurd h (by simp [Fence.wide]), hR.mono fun e W' h => ?_⟩
  obtain ⟨v, rfl, hn⟩ := hk e W' h
  exact hn
theorem Boxed.grow' {W : World} {B : Nat} {t : TypeId} {v : Value} (h : Boxed W B t v) (X : Gr) : Boxed (W.grow X) B t v := ((Turned.refl (fun _ => False) W).grow X).boxed h (fun h => h)
theorem Boxed.drew' {W : World} {B : Nat} {t : TypeId} {v : Value} (h : Boxed W B t v) : Boxed W.drew B t v := h
theorem Boxed.oth {W : World} {B : Nat} {t : TypeId} {v : Value} (h : Boxed W B t v) {p : Addr} (hne : B ≠ p.block) (u : Value) : Boxed (W.setCell p u) B t v := (Below.heap_setCell W p u B hne).trans h
/-- What stands between two rounds: the row so far, in the cell ob. -/
structure CollI {α : Type} (w : World) (ob base : Nat) (tS tE : TypeId) (size : Nat) (cells : α → List Value) (pre : List α) (W : World) : Prop where
  row : ∃ v, Boxed W ob tS v ∧ W.ownsRow base tE size v pre.length (pre.flatMap cells)
  below : Below w.heap.size w W
theorem CollI.turned {α : Type} {w : World} {ob base : Nat} {tS tE : TypeId} {size : Nat} {cells : α → List Value} {pre : List α} {A C : World} {pv : Nat → Prop}
    (h : CollI w ob base tS tE size cells pre A) (ht : Turned pv A C) (h1 : ¬ pv ob) (h2 : ∀ k, pv k → k < base) (h3 : ∀ k, pv k → w.heap.size ≤ k) : CollI w ob base tS tE size cells pre C := by
  obtain ⟨⟨v, bv, ho⟩, hB⟩ := h
  exact ⟨⟨v, ht.boxed bv h1, ht.own ho h2⟩, hB.trans (ht.below hB.size h3)⟩
/-- One element more. -/
theorem CollI.put {α : Type} {w : World} {ob base : Nat} {tS tE : TypeId} {size n' : Nat} {cells : α → List Value} {pre : List α} {x : α} {V W' : World} {v v' : Value}
    (hB : Below w.heap.size w V) (bv : Boxed V ob tS v) (ho : W'.ownsRow base tE size v' n' (pre.flatMap cells ++ cells x)) (hn : n' = pre.length + 1) (ht : Turned (fun k => base ≤ k) V W') (h1 : ob < base) (h2 : w.heap.size ≤ ob) :
    Turned (fun k => k = ob ∨ base ≤ k) V (W'.setCell ⟨ob, 0, none⟩ v') ∧ CollI w ob base tS tE size cells (pre ++ [x]) (W'.setCell ⟨ob, 0, none⟩ v') := by
  have hT : Turned (fun k => k = ob ∨ base ≤ k) V (W'.setCell ⟨ob, 0, none⟩ v') := Turned.setCell (pv := fun k => k = ob ∨ base ≤ k) (ht.mono fun k hk => Or.inr hk) (p := ⟨ob, 0, none⟩) (Or.inr (Or.inl rfl)) _
  refine ⟨hT, ⟨_, (ht.boxed bv (by omega)).set _, ?_⟩, hB.trans (hT.below hB.size (fun k hk => by omega))⟩
  have h3 := (Turned.setCell (pv := fun k => k = ob) (Turned.refl _ W') (p := ⟨ob, 0, none⟩) (Or.inr rfl) v').own ho (fun k hk => by omega)
  rw [List.flatMap_append, List.length_append]
  subst hn
  simpa using h3
theorem Turned.next {pv pw : Nat → Prop} {w A C : World} (h : Turned pv w A) (k : Turned pw A C) (hp : ∀ i, pw i → i < w.heap.size → pv i) : Turned pv w C :=
  ⟨k.os.trans h.os, k.tape.trans h.tape, k.output.trans h.output, Nat.le_trans h.size k.size, fun i hi hn => (k.block i (Nat.lt_of_lt_of_le hi h.size) (fun e => hn (hp i e hi))).trans (h.block i hi hn)⟩
/-- What stands between two rounds, where the iterator has a state of its own. -/
structure CollT {α : Type} (pv : Nat → Prop) (w : World) (ob base : Nat) (tS tE : TypeId) (size : Nat) (cells : α → List Value) (pre : List α) (W : World) : Prop where
  row : ∃ v, Boxed W ob tS v ∧ W.ownsRow base tE size v pre.length (pre.flatMap cells)
  turned : Turned pv w W
theorem CollT.turn {α : Type} {pv : Nat → Prop} {w : World} {ob base : Nat} {tS tE : TypeId} {size : Nat} {cells : α → List Value} {pre : List α} {A C : World} {pw : Nat → Prop}
    (h : CollT pv w ob base tS tE size cells pre A) (ht : Turned pw A C) (h1 : ¬ pw ob) (h2 : ∀ k, pw k → k < base) (h3 : ∀ i, pw i → i < w.heap.size → pv i) : CollT pv w ob base tS tE size cells pre C := by
  obtain ⟨⟨v, bv, ho⟩, hB⟩ := h
  exact ⟨⟨v, ht.boxed bv h1, ht.own ho h2⟩, hB.next ht h3⟩
/-- One element more. -/
theorem CollT.put {α : Type} {pv : Nat → Prop} {w : World} {ob base : Nat} {tS tE : TypeId} {size n' : Nat} {cells : α → List Value} {pre : List α} {x : α} {V W' : World} {v v' : Value}
    (hB : Turned pv w V) (bv : Boxed V ob tS v) (ho : W'.ownsRow base tE size v' n' (pre.flatMap cells ++ cells x)) (hn : n' = pre.length + 1) (ht : Turned (fun k => base ≤ k) V W') (h1 : ob < base) (h2 : w.heap.size ≤ ob) :
    Turned (fun k => k = ob ∨ base ≤ k) V (W'.setCell ⟨ob, 0, none⟩ v') ∧ CollT pv w ob base tS tE size cells (pre ++ [x]) (W'.setCell ⟨ob, 0, none⟩ v') := by
  have hT : Turned (fun k => k = ob ∨ base ≤ k) V (W'.setCell ⟨ob, 0, none⟩ v') := Turned.setCell (pv := fun k => k = ob ∨ base ≤ k) (ht.mono fun k hk => Or.inr hk) (p := ⟨ob, 0, none⟩) (Or.inr (Or.inl rfl)) _
  refine ⟨hT, ⟨_, (ht.boxed bv (by omega)).set _, ?_⟩, hB.next hT (fun k hk => by omega)⟩
  have h3 := (Turned.setCell (pv := fun k => k = ob) (Turned.refl _ W') (p := ⟨ob, 0, none⟩) (Or.inr rfl) v').own ho (fun k hk => by omega)
  rw [List.flatMap_append, List.length_append]
  subst hn
  simpa using h3
end Go.Proofs.YtdpgpjileffekaaGreatDoor
