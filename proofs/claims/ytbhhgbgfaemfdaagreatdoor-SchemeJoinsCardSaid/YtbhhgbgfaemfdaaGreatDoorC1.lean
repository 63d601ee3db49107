/- Maps that a call makes; a policy, ready to be asked, in plain words; the walks of sets. -/
import Derived.WalkKit
import Derived.Maps.OwnOps
import Derived.Maps.OwnSet
import Derived.Maps.AppendAt
import Derived.StringKeys
import Derived.DeepKeys4
import Derived.BigRegion
import Derived.Deep.CutBlock
import Derived.Deep.DeepCutAuto
import Derived.Test.YtbhhgbgfaemfdaaGreatDoorKB
import Derived.Test.YtbhhgbgfaemfdaaGreatDoorPA
namespace Go.Proofs.YtbhhgbgfaemfdaaGreatDoor
open Go.RowKit
open Go.ChangeMaps Go.MapKept
open Go.WideMaps (KeyLaw)
section
variable {P : Program} {k e t : TypeId} {W : World} {b clock : Nat} {es : Array MapEntry} {key val : Value} {kl : Lit}
theorem map_look (K : KeyLaw P k) (ht : P.underlying t = some (.map k e)) {z : Value} (hz : (zeroValue e).run P W = .ok z W) (hb : W.heap[b]? = some (.map es clock)) (hks : ∀ x ∈ es.toList, ∃ l, keyOf P k x.key = some l) (hkey : keyOf P k key = some kl) :
  ((∀ x ∈ es.toList, x.key ≠ key) ∧ (Instr.lookup t (.map (some b)) key true).run P W = .ok (.tuple #[z, .bool false]) W ∧ (Instr.lookup t (.map (some b)) key false).run P W = .ok z W) ∨
  ∃ x ∈ es.toList, x.key = key ∧ (Instr.lookup t (.map (some b)) key true).run P W = .ok (.tuple #[x.val, .bool true]) W ∧ (Instr.lookup t (.map (some b)) key false).run P W = .ok x.val W := by
 rcases K.find W hkey es.toList hks with ⟨h1, h2⟩ | ⟨j, e0, h1, h2, h3⟩
 ·exact .inl ⟨h2, by simp [Instr.lookup, run_underlying ht, MapKept.run_getObj_map hb, K.check W _ hkey, h1, hz, Result.andThen], by simp [Instr.lookup, run_underlying ht, MapKept.run_getObj_map hb, K.check W _ hkey, h1, hz, Result.andThen]⟩
 ·exact .inr ⟨e0, List.mem_of_getElem? h2, h3, by simp [Instr.lookup, run_underlying ht, MapKept.run_getObj_map hb, K.check W _ hkey, h1, Result.andThen], by simp [Instr.lookup, run_underlying ht, MapKept.run_getObj_map hb, K.check W _ hkey, h1, Result.andThen]⟩
theorem map_store (K : KeyLaw P k) (ht : P.underlying t = some (.map k e)) (hb : W.heap[b]? = some (.map es clock)) (hks : ∀ x ∈ es.toList, ∃ l, keyOf P k x.key = some l) (hkey : keyOf P k key = some kl) :
  ∃ es' clock', (Instr.mapUpdate t (.map (some b)) key val).run P W = .ok () (setBlock W b (.map es' clock')) ∧
   (((∀ x ∈ es.toList, x.key ≠ key) ∧ ∃ n, es'.toList = es.toList ++ [⟨key, val, n⟩]) ∨ ∃ (j : Nat) (e0 : MapEntry), es.toList[j]? = some e0 ∧ e0.key = key ∧ es'.toList = es.toList.set j { e0 with key := key, val := val }) := by
 rcases K.find W hkey es.toList hks with ⟨h1, h2⟩ | ⟨j, e0, h1, h2, h3⟩
 ·exact ⟨es.push ⟨key, val, clock⟩, clock + 1, by simp [Instr.mapUpdate, run_underlying ht, MapKept.run_getObj_map hb, K.check W false hkey, h1, MapKept.run_setObj_map _ hb, Result.andThen, setBlock], .inl ⟨h2, clock, by simp⟩⟩
 ·have hj : es[j]? = some e0 := by simpa using h2
  exact ⟨es.modify j (fun e' => { e' with key := key, val := val }), clock, by simp [Instr.mapUpdate, run_underlying ht, MapKept.run_getObj_map hb, K.check W false hkey, h1, hj, h3, K.stays W hkey, MapKept.run_setObj_map _ hb, Result.andThen, setBlock], .inr ⟨j, e0, h2, h3, by rw [Array.toList_modify, modify_eq_set _ _ _ _ h2]⟩⟩
theorem set_grown (hb : W.heap[b]? = some (.map es clock)) (o : Obj) : W.grownBy (setBlock W b o) (some b) :=
 ⟨rfl, rfl, rfl, by simp [setBlock], fun i _ hi => heap_setBlock_other hb _ (fun e1 => hi (by rw [e1]))⟩
def KeysM (P : Program) (k : TypeId) (W : World) (b : Nat) (ks : List Value) : Prop := ∃ es clock, W.heap[b]? = some (.map es clock) ∧ (∀ x ∈ es.toList, x.val = .agg #[]) ∧ (∀ x ∈ es.toList, ∃ l, keyOf P k x.key = some l) ∧ ∀ v, (∃ x ∈ es.toList, x.key = v) ↔ v ∈ ks
theorem KeysM.new {ks : List Value} (h : W.heap[b]? = some (.map #[] 0)) (hk : ks = []) : KeysM P k W b ks := ⟨#[], 0, h, by simp, by simp, by simp [hk]⟩
theorem KeysM.kept {ks : List Value} {W' : World} (h : KeysM P k W b ks) (hb : W'.heap[b]? = W.heap[b]?) : KeysM P k W' b ks := by
 obtain ⟨es, c, h1, h2⟩ := h
 exact ⟨es, c, hb.trans h1, h2⟩
theorem KeysM.lt {ks : List Value} (h : KeysM P k W b ks) : b < W.heap.size := by
 obtain ⟨es, c, h1, _⟩ := h
 exact (Array.getElem?_eq_some_iff.1 h1).1
theorem KeysM.below {ks : List Value} {W' : World} (h : KeysM P k W b ks) (hb : Below W.heap.size W W') : KeysM P k W' b ks := h.kept (hb.block b h.lt)
theorem KeysM.look {ks : List Value} (h : KeysM P k W b ks) (K : KeyLaw P k) (ht : P.underlying t = some (.map k e)) (hz : (zeroValue e).run P W = .ok (.agg #[]) W) (hkey : keyOf P k key = some kl) {B : Bool} (hB : B = true ↔ key ∈ ks) :
  (Instr.lookup t (.map (some b)) key true).run P W = .ok (.tuple #[.agg #[], .bool B]) W := by
 obtain ⟨es, c, h1, h2, h3, h4⟩ := h
 rcases map_look K ht hz h1 h3 hkey with ⟨h5, h6, _⟩ | ⟨x, hx, h5, h6, _⟩
 ·have : B = false := by
   cases B
   ·rfl
   ·obtain ⟨x, hx, e1⟩ := (h4 key).2 (hB.1 rfl)
    exact absurd e1 (h5 x hx)
  rw [h6, this]
 ·have : B = true := hB.2 ((h4 key).1 ⟨x, hx, h5⟩)
  rw [h6, this, h2 x hx]
theorem KeysM.put {ks : List Value} (h : KeysM P k W b ks) (K : KeyLaw P k) (ht : P.underlying t = some (.map k e)) (hkey : keyOf P k key = some kl) :
  ∃ W', (Instr.mapUpdate t (.map (some b)) key (.agg #[])).run P W = .ok () W' ∧ KeysM P k W' b (ks ++ [key]) ∧ W.grownBy W' (some b) := by
 obtain ⟨es, c, h1, h2, h3, h4⟩ := h
 obtain ⟨es', c', h5, h6⟩ := map_store (val := .agg #[]) K ht h1 h3 hkey
 refine ⟨_, h5, ⟨es', c', heap_setBlock_same h1 _, ?_⟩, set_grown h1 _⟩
 rcases h6 with ⟨_, n, e1⟩ | ⟨j, e0, hj, ek, e1⟩
 ·rw [e1]
  refine ⟨?_, ?_, fun v => ?_⟩
  ·intro x hx
   rcases List.mem_append.1 hx with hx | hx
   ·exact h2 x hx
   ·rw [List.mem_singleton.1 hx]
  ·intro x hx
   rcases List.mem_append.1 hx with hx | hx
   ·exact h3 x hx
   ·rw [List.mem_singleton.1 hx]; exact ⟨_, hkey⟩
  ·rw [List.mem_append, List.mem_singleton, ← h4 v]
   constructor
   ·rintro ⟨x, hx, e2⟩
    rcases List.mem_append.1 hx with hx | hx
    ·exact .inl ⟨x, hx, e2⟩
    ·rw [List.mem_singleton.1 hx] at e2; exact .inr e2.symm
   ·rintro (⟨x, hx, e2⟩ | e2)
    ·exact ⟨x, List.mem_append.2 (.inl hx), e2⟩
    ·exact ⟨_, List.mem_append.2 (.inr (List.mem_singleton.2 rfl)), e2.symm⟩
 ·have hsame : es'.toList = es.toList := by
   rw [e1]
   have he0 : ({ e0 with key := key, val := .agg #[] } : MapEntry) = e0 := by
    have := h2 e0 (List.mem_of_getElem? hj)
    cases e0
    simp only at this ek
    subst this ek
    rfl
   rw [he0]
   apply List.ext_getElem?
   intro i
   rw [List.getElem?_set]
   split
   ·next hi => subst hi; rw [hj, if_pos (List.getElem?_eq_some_iff.1 hj).1]
   ·rfl
  rw [hsame]
  refine ⟨h2, h3, fun v => ?_⟩
  rw [h4 v, List.mem_append, List.mem_singleton]
  constructor
  ·exact .inl
  ·rintro (h | h)
   ·exact h
   ·rw [h]; exact (h4 key).1 ⟨e0, List.mem_of_getElem? hj, ek⟩
end
theorem wpList_put {P : Program} {k e : TypeId} {w : World} {ops : Array Oper} {rest : List Oper} {o : Oper} {a : Act} {Q : Exit → Act → World → Prop} (hg : o.guard = none) (m x v : Operand) (t : TypeId) (hop : o.op = Op.mapUpdate t m x v)
  (b : Nat) (ks : List Value) (h : KeysM P k w b ks) (K : KeyLaw P k) (ht : P.underlying t = some (.map k e)) (hm : a.eval m = .map (some b)) {key : Value} {kl : Lit} (hx : a.eval x = key) (hv : a.eval v = .agg #[]) (hkey : keyOf P k key = some kl)
  (hK : ∀ w', KeysM P k w' b (ks ++ [key]) → w.grownBy w' (some b) → wpList P ops Q rest (a.put o.dst undef) w') : wpList P ops Q (o :: rest) a w := by
 refine wpList_plain hg fun K' hK' => ?_
 obtain ⟨w', hrun, r1, r2⟩ := h.put K ht hkey
 unfold Oper.wp
 simp [execOp, hop, hm, hx, hv, hrun, Result.andThen]
 exact hK' _ _ (hK w' r1 r2)
theorem below_by {B b : Nat} {a w w' : World} (h : Below B a w) (hg : w.grownBy w' (some b)) (hb : B ≤ b) (hB : B ≤ w.heap.size) : Below B a w' :=
 h.trans ⟨hg.os, hg.tape, hg.output, hg.size, fun j hj => hg.block j (by omega) (fun e => by have := Option.some.inj e; omega)⟩
theorem wpOp_append_at {P : Program} {W : World} {o : Oper} {a : Act} {K : Act → World → Prop} {Q : Exit → Act → World → Prop} (s x : Operand) (t : TypeId)
  (ho : o.op = .call { callee := .builtin .append, args := #[s, x], argTypes := #[t, t] })
  {e : TypeId} {z : Value} {size bytes : Nat} (row : SlT P t e z size bytes) (base : Nat) {v : Value} {n : Nat} {xs : List Value} (hs : a.eval s = v) (hown : W.ownsRow base e size v n xs)
  (hb : base ≤ W.heap.size) (ad : Addr) (m c : Nat) (news : List Value) (hx : a.eval x = .slice (some ad) m c) (hl : news.length = m * size)
  (hnews : ∀ j u, news[j]? = some u → W.cell? (ad.add j) = some u) (h1 : ∀ u ∈ news, u.oneCell' = true) (h63 : n + m ≤ maxLen) (hbytes : (n + m) * bytes ≤ 140737488355328)
  (h : ∀ v' W', W'.ownsRow base e size v' (n + m) (xs ++ news) → W.grownBy W' v.ownBlock → (v'.ownBlock = v.ownBlock ∨ v'.ownBlock = some W.heap.size) → K (a.put o.dst v') W') : o.wp P a W K Q := by
 obtain ⟨i, hi, hz0, hz1, hz2⟩ := info_parts row.hi
 obtain ⟨v', w', hr, h2, h3, _, h5⟩ := run_append_own_at (P := P) W base t o.type e i z size bytes row.ht hi hz0 hz1 hz2 row.hzs row.hsz v n xs hown ad m c news hl hnews h1 h63 hbytes hb
 unfold Oper.wp execOp
 simp only [ho, resolve, invoke, builtin, Sem.run_bind, Sem.run_pure, Result.andThen_ok, List.map_toArray, List.map_cons, List.map_nil, hs, hx, hr]
 exact h v' w' h2 h3 h5
theorem wpList_store_run {P : Program} {w : World} {ops : Array Oper} {rest : List Oper} {o : Oper} {a : Act} {Q : Exit → Act → World → Prop} (hg : o.guard = none) (m x v : Operand) (t : TypeId) (hop : o.op = Op.mapUpdate t m x v)
  {mv key val : Value} {w' : World} (hm : a.eval m = mv) (hx : a.eval x = key) (hv : a.eval v = val) (hrun : (Instr.mapUpdate t mv key val).run P w = .ok () w') (hK : wpList P ops Q rest (a.put o.dst undef) w') : wpList P ops Q (o :: rest) a w := by
 refine wpList_plain hg fun K' hK' => ?_
 unfold Oper.wp
 simp [execOp, hop, hm, hx, hv, hrun, Result.andThen]
 exact hK' _ _ hK
section
variable {P : Program} {k e t tA : TypeId} {W : World} {b base size : Nat} {α : Type} {kf : α → Bs} {cells : α → List Value}
def grpL (kf : α → Bs) (l : List α) (u : Bs) : List α := l.filter fun x => decide (kf x = u)
theorem grp_snoc (l : List α) (x : α) (u : Bs) : grpL kf (l ++ [x]) u = if kf x = u then grpL kf l u ++ [x] else grpL kf l u := by
 unfold grpL
 rw [List.filter_append]
 by_cases h : kf x = u
 ·rw [if_pos h, List.filter_cons_of_pos (by simp [h]), List.filter_nil]
 ·rw [if_neg h, List.filter_cons_of_neg (by simp [h]), List.filter_nil, List.append_nil]
structure GrpEs (P : Program) (k tA : TypeId) (size : Nat) (kf : α → Bs) (cells : α → List Value) (W : World) (base : Nat) (l : List α) (es : List MapEntry) : Prop where
 keys : ∀ x ∈ es, ∃ l, keyOf P k x.key = some l
 rows : ∀ x ∈ es, ∃ u, x.key = sv u ∧ grpL kf l u ≠ [] ∧ W.ownsRow base tA size x.val (grpL kf l u).length ((grpL kf l u).flatMap cells)
 all : ∀ u, grpL kf l u ≠ [] → ∃ x ∈ es, x.key = sv u
 apart : es.Pairwise fun x y => x.key ≠ y.key ∧ ∀ g, x.val.ownBlock = some g → y.val.ownBlock ≠ some g
def GrpM (P : Program) (k tA : TypeId) (size : Nat) (kf : α → Bs) (cells : α → List Value) (W : World) (b base : Nat) (l : List α) : Prop := b < base ∧ ∃ es clock, W.heap[b]? = some (.map es clock) ∧ GrpEs P k tA size kf cells W base l es.toList
theorem sv_inj {a c : Bs} (h : sv a = sv c) : a = c := by
 have h1 := congrArg (fun v => match v with | .string s => s.data.toList | _ => []) h
 simpa [sv] using h1
theorem GrpM.new (h : W.heap[b]? = some (.map #[] 0)) (hb : b < base) : GrpM P k tA size kf cells W b base [] := ⟨hb, #[], 0, h, ⟨by simp, by simp, fun u h => absurd rfl h, by simp⟩⟩
theorem GrpM.lt {l : List α} (h : GrpM P k tA size kf cells W b base l) : b < W.heap.size := by
 obtain ⟨_, es, c, h1, _⟩ := h
 exact (Array.getElem?_eq_some_iff.1 h1).1
theorem GrpEs.grown {l : List α} {es : List MapEntry} {W' : World} (h : GrpEs P k tA size kf cells W base l es) (hg : W.grownBy W' none) : GrpEs P k tA size kf cells W' base l es :=
 ⟨h.keys, fun x hx => by obtain ⟨u, h1, h2, h3⟩ := h.rows x hx; exact ⟨u, h1, h2, h3.kept hg (Classical.em _)⟩, h.all, h.apart⟩
theorem GrpM.grown {l : List α} {W' : World} (h : GrpM P k tA size kf cells W b base l) (hg : W.grownBy W' none) : GrpM P k tA size kf cells W' b base l := by
 have hl := h.lt
 obtain ⟨h0, es, c, h1, h2⟩ := h
 exact ⟨h0, es, c, (hg.block b hl (by simp)).trans h1, h2.grown hg⟩
theorem GrpM.below {l : List α} {W' : World} (h : GrpM P k tA size kf cells W b base l) (hb : Below W.heap.size W W') : GrpM P k tA size kf cells W' b base l :=
 h.grown ⟨hb.os, hb.tape, hb.output, hb.size, fun i hi _ => hb.block i hi⟩
theorem GrpM.look {l : List α} (h : GrpM P k tA size kf cells W b base l) (_hn : ∀ x, (cells x).length = size) (K : KeyLaw P k) (ht : P.underlying t = some (.map k e)) (hz : ∀ W', (zeroValue e).run P W' = .ok (.slice none 0 0) W') (u : Bs) {kl : Lit} (hkey : keyOf P k (sv u) = some kl) :
  ∃ v, (∀ W' : World, W'.heap[b]? = W.heap[b]? → (Instr.lookup t (.map (some b)) (sv u) false).run P W' = .ok v W') ∧ W.ownsRow base tA size v (grpL kf l u).length ((grpL kf l u).flatMap cells) ∧
   ∀ (x : α) (v' : Value) (W1 : World), kf x = u → W1.ownsRow base tA size v' ((grpL kf l u).length + 1) ((grpL kf l u).flatMap cells ++ cells x) → W.grownBy W1 v.ownBlock → (v'.ownBlock = v.ownBlock ∨ ∃ g, v'.ownBlock = some g ∧ W.heap.size ≤ g) →
    ∃ W2, (Instr.mapUpdate t (.map (some b)) (sv u) v').run P W1 = .ok () W2 ∧ GrpM P k tA size kf cells W2 b base (l ++ [x]) ∧ W1.grownBy W2 (some b) := by
 have hlt := h.lt
 obtain ⟨h0, es, c, h1, h2⟩ := h
 have hflat : ∀ x, (grpL kf l u ++ [x]).flatMap cells = (grpL kf l u).flatMap cells ++ cells x := fun x => by rw [List.flatMap_append, List.flatMap_cons, List.flatMap_nil, List.append_nil]
 -- the step, whatever was found
 have step : ∀ v, W.ownsRow base tA size v (grpL kf l u).length ((grpL kf l u).flatMap cells) → (∀ y ∈ es.toList, y.key ≠ sv u → ∀ g, v.ownBlock = some g → y.val.ownBlock ≠ some g) →
   ∀ (x : α) (v' : Value) (W1 : World), kf x = u → W1.ownsRow base tA size v' ((grpL kf l u).length + 1) ((grpL kf l u).flatMap cells ++ cells x) → W.grownBy W1 v.ownBlock → (v'.ownBlock = v.ownBlock ∨ ∃ g, v'.ownBlock = some g ∧ W.heap.size ≤ g) →
    ∃ W2, (Instr.mapUpdate t (.map (some b)) (sv u) v').run P W1 = .ok () W2 ∧ GrpM P k tA size kf cells W2 b base (l ++ [x]) ∧ W1.grownBy W2 (some b) := by
  intro v hv hap x v' W1 hx hv' hg hat
  have hvb : v.ownBlock ≠ some b := fun e1 => by have := (hv.lt b e1).1; omega
  have hb1 : W1.heap[b]? = some (.map es c) := (hg.block b hlt (fun e1 => hvb e1.symm)).trans h1
  obtain ⟨es', c', h5, h6⟩ := map_store (val := v') K ht hb1 h2.keys hkey
  have hg2 := set_grown hb1 (.map es' c')
  refine ⟨_, h5, ⟨h0, es', c', heap_setBlock_same hb1 _, ?_⟩, hg2⟩
  have hgx : grpL kf (l ++ [x]) u = grpL kf l u ++ [x] := by rw [grp_snoc, if_pos hx]
  have hgo : ∀ u', u' ≠ u → grpL kf (l ++ [x]) u' = grpL kf l u' := fun u' hu => by rw [grp_snoc, if_neg (by rw [hx]; exact fun e1 => hu e1.symm)]
  have hnew : (setBlock W1 b (.map es' c')).ownsRow base tA size v' (grpL kf (l ++ [x]) u).length ((grpL kf (l ++ [x]) u).flatMap cells) := by
   rw [hgx, hflat, List.length_append]
   refine hv'.kept hg2 (.inr fun e1 => ?_)
   have := (hv'.lt b e1).1
   omega
  have hold : ∀ y ∈ es.toList, y.key ≠ sv u → ∃ u', y.key = sv u' ∧ grpL kf (l ++ [x]) u' ≠ [] ∧ (setBlock W1 b (.map es' c')).ownsRow base tA size y.val (grpL kf (l ++ [x]) u').length ((grpL kf (l ++ [x]) u').flatMap cells) := by
   intro y hy hyk
   obtain ⟨u', e1, e2, e3⟩ := h2.rows y hy
   have hu : u' ≠ u := fun e4 => hyk (by rw [e1, e4])
   refine ⟨u', e1, by rw [hgo u' hu]; exact e2, ?_⟩
   rw [hgo u' hu]
   refine (e3.kept hg (.inr fun e4 => ?_)).kept hg2 (.inr fun e4 => ?_)
   ·cases hvo : v.ownBlock with
    | none =>
     rw [hvo] at e4
     obtain ⟨_, hc⟩ := e3
     rcases hc with ⟨_, hc⟩ | ⟨g, cap, cur, hc, _⟩
     ·exact e2 (List.length_eq_zero_iff.1 hc)
     ·rw [hc] at e4; cases e4
    | some g => exact hap y hy hyk g hvo (by rw [e4, hvo])
   ·have := (e3.lt b e4).1
    omega
  have hap' : ∀ y ∈ es.toList, y.key ≠ sv u → ∀ g, v'.ownBlock = some g → y.val.ownBlock ≠ some g := by
   intro y hy hyk g hg' hy'
   obtain ⟨u', e1, e2, e3⟩ := h2.rows y hy
   rcases hat with e4 | ⟨g2, e4, e5⟩
   ·exact hap y hy hyk g (by rw [← e4]; exact hg') hy'
   ·rw [hg'] at e4
    cases e4
    have := (e3.lt g hy').2
    omega
  rcases h6 with ⟨hno, n, e1⟩ | ⟨j, e0, hj, ek, e1⟩
  ·rw [e1]
   refine ⟨?_, ?_, ?_, ?_⟩
   ·intro y hy
    rcases List.mem_append.1 hy with hy | hy
    ·exact h2.keys y hy
    ·rw [List.mem_singleton.1 hy]; exact ⟨_, hkey⟩
   ·intro y hy
    rcases List.mem_append.1 hy with hy | hy
    ·exact hold y hy (hno y hy)
    ·rw [List.mem_singleton.1 hy]
     exact ⟨u, rfl, by rw [hgx]; simp, hnew⟩
   ·intro u' hu'
    by_cases hu : u' = u
    ·exact ⟨_, List.mem_append.2 (.inr (List.mem_singleton.2 rfl)), by rw [hu]⟩
    ·rw [hgo u' hu] at hu'
     obtain ⟨y, hy, e2⟩ := h2.all u' hu'
     exact ⟨y, List.mem_append.2 (.inl hy), e2⟩
   ·refine List.pairwise_append.2 ⟨h2.apart, List.pairwise_singleton _ _, fun y hy z hz => ?_⟩
    rw [List.mem_singleton.1 hz]
    exact ⟨hno y hy, fun g hg1 hg2 => hap' y hy (hno y hy) g hg2 hg1⟩
  ·rw [e1]
   have hjl : j < es.toList.length := (List.getElem?_eq_some_iff.1 hj).1
   have hpw := List.pairwise_iff_getElem.1 h2.apart
   have hej : es.toList[j] = e0 := (List.getElem?_eq_some_iff.1 hj).2
   have hne : ∀ i (hi : i < es.toList.length), i ≠ j → es.toList[i].key ≠ sv u := by
    intro i hi hij e2
    rcases Nat.lt_or_gt_of_ne hij with h7 | h7
    ·have := (hpw i j hi hjl h7).1
     rw [hej, e2, ek] at this
     exact this rfl
    ·have := (hpw j i hjl hi h7).1
     rw [hej, e2, ek] at this
     exact this rfl
   have who : ∀ y ∈ es.toList.set j { e0 with key := sv u, val := v' }, y = { e0 with key := sv u, val := v' } ∨ (y ∈ es.toList ∧ y.key ≠ sv u) := by
    intro y hy
    obtain ⟨i, hi, ex⟩ := List.getElem_of_mem hy
    rw [List.getElem_set] at ex
    split at ex
    ·exact Or.inl ex.symm
    ·rename_i hij
     have hi' : i < es.toList.length := by simpa using hi
     exact Or.inr ⟨ex ▸ List.getElem_mem hi', ex ▸ hne i hi' (fun e2 => hij e2.symm)⟩
   refine ⟨?_, ?_, ?_, ?_⟩
   ·intro y hy
    rcases who y hy with rfl | ⟨hy, _⟩
    ·exact ⟨_, hkey⟩
    ·exact h2.keys y hy
   ·intro y hy
    rcases who y hy with rfl | ⟨hy, hk⟩
    ·exact ⟨u, rfl, by rw [hgx]; simp, hnew⟩
    ·exact hold y hy hk
   ·intro u' hu'
    by_cases hu : u' = u
    ·exact ⟨_, List.mem_set hjl _, by rw [hu]⟩
    ·rw [hgo u' hu] at hu'
     obtain ⟨y, hy, e2⟩ := h2.all u' hu'
     obtain ⟨i, hi, ex⟩ := List.getElem_of_mem hy
     have hij : i ≠ j := fun e3 => by
      subst e3
      rw [hej] at ex
      rw [← ex, ek] at e2
      exact hu (sv_inj e2).symm
     refine ⟨y, ?_, e2⟩
     rw [← ex]
     have := List.getElem_mem (l := es.toList.set j { e0 with key := sv u, val := v' }) (n := i) (by simpa using hi)
     rwa [List.getElem_set_ne (fun e3 => hij e3.symm)] at this
   ·refine List.pairwise_iff_getElem.2 fun i i2 hi hi2 hlt2 => ?_
    have hi' : i < es.toList.length := by simpa using hi
    have hi2' : i2 < es.toList.length := by simpa using hi2
    rw [List.getElem_set, List.getElem_set]
    by_cases hij : j = i
    ·subst hij
     rw [if_pos rfl, if_neg (by omega)]
     have hk := hne i2 hi2' (by omega)
     exact ⟨fun e2 => hk e2.symm, fun g hg1 hg2 => hap' _ (List.getElem_mem hi2') hk g hg1 hg2⟩
    ·by_cases hij2 : j = i2
     ·subst hij2
      rw [if_neg hij, if_pos rfl]
      have hk := hne i hi' (by omega)
      exact ⟨hk, fun g hg1 hg2 => hap' _ (List.getElem_mem hi') hk g hg2 hg1⟩
     ·rw [if_neg hij, if_neg hij2]
      exact hpw i i2 hi' hi2' hlt2
 -- entries of one key are one
 have one : ∀ y ∈ es.toList, ∀ z ∈ es.toList, y.key = z.key → y = z := by
  intro y hy z hz' hk
  have hpw := List.pairwise_iff_getElem.1 h2.apart
  obtain ⟨i, hi, ex⟩ := List.getElem_of_mem hy
  obtain ⟨i2, hi2, ex2⟩ := List.getElem_of_mem hz'
  rcases Nat.lt_trichotomy i i2 with h7 | h7 | h7
  ·have := (hpw i i2 hi hi2 h7).1
   rw [ex, ex2] at this
   exact absurd hk this
  ·subst h7
   exact ex.symm.trans ex2
  ·have := (hpw i2 i hi2 hi h7).1
   rw [ex, ex2] at this
   exact absurd hk.symm this
 rcases map_look K ht (hz W) h1 h2.keys hkey with ⟨h5, _, _⟩ | ⟨y, hy, h5, _, _⟩
 ·have hem : grpL kf l u = [] := by
   cases hg : grpL kf l u with
   | nil => rfl
   | cons x r =>
    obtain ⟨y, hy, e2⟩ := h2.all u (by rw [hg]; exact List.cons_ne_nil _ _)
    exact absurd e2 (h5 y hy)
  have hv : W.ownsRow base tA size (.slice none 0 0) (grpL kf l u).length ((grpL kf l u).flatMap cells) := by rw [hem]; exact World.ownsRow_nil _ _ _ _
  refine ⟨_, fun W' hb' => ?_, hv, step _ hv fun y _ _ g hg => (by cases hg)⟩
  rcases map_look K ht (hz W') (hb'.trans h1) h2.keys hkey with ⟨_, _, h6⟩ | ⟨y, hy, h6, _, _⟩
  ·exact h6
  ·exact absurd h6 (h5 y hy)
 ·obtain ⟨u', e1, e2, e3⟩ := h2.rows y hy
  have hu : u' = u := sv_inj (e1.symm.trans h5)
  subst hu
  refine ⟨y.val, fun W' hb' => ?_, e3, step _ e3 fun z hz hk g hg hg' => ?_⟩
  ·rcases map_look K ht (hz W') (hb'.trans h1) h2.keys hkey with ⟨h6, _, _⟩ | ⟨y2, hy2, h6, _, h7⟩
   ·exact absurd h5 (h6 y hy)
   ·rw [h7, one y2 hy2 y hy (h6.trans h5.symm)]
  have hpw := List.pairwise_iff_getElem.1 h2.apart
  obtain ⟨i, hi, ex⟩ := List.getElem_of_mem hy
  obtain ⟨i2, hi2, ex2⟩ := List.getElem_of_mem hz
  rcases Nat.lt_trichotomy i i2 with h7 | h7 | h7
  ·have := (hpw i i2 hi hi2 h7).2 g
   rw [ex, ex2] at this
   exact this hg hg'
  ·subst h7
   rw [ex] at ex2
   exact hk (by rw [← ex2]; exact h5)
  ·have := (hpw i2 i hi2 hi h7).2 g
   rw [ex, ex2] at this
   exact this hg' hg
theorem GrpM.own_none {l : List α} {u : Bs} (h : grpL kf l u = []) : W.ownsRow base tA size (.slice none 0 0) (grpL kf l u).length ((grpL kf l u).flatMap cells) := by rw [h]; exact World.ownsRow_nil _ _ _ _
end
end Go.Proofs.YtbhhgbgfaemfdaaGreatDoor
namespace Go.Proofs.YtbhhgbgfaemfdaaGreatDoor
open Go.RowKit
section
variable {P : Program} {ops : Array Oper} {md : Region.Mode} {Q : Exit → Act → World → Prop} {S : World → Prop}
def nots (is : List Nat) : List (Nat × Bool) := is.map fun i => (i, false)
def wpFl (P : Program) (ops : Array Oper) (Q : Exit → Act → World → Prop) (S : World → Prop) (L : Act → World → Prop) (j : Nat) : List Nat → Act → World → Prop
 | [], a, w => wpOp P ops Q j (fun a' w' => S w' ∧ L a' w') a w
 | i :: is, a, w => wpOp P ops Q i (fun a' w' => S w' ∧ wpFl P ops Q S L j is a' w') a w ∧ wpOp P ops Q j (fun a' w' => S w' ∧ wpRow P ops Q S L (nots (i :: is)) a' w') a w
def flB (md : Region.Mode) (ops : Array Oper) (n g j : Nat) : List Nat → Array Bool → Bool
 | [], listed => decide (j < n) && decide (Region.ready md ops listed = [j]) && rowB md ops n g [] (listed.setIfInBounds j true)
 | i :: is, listed => decide (i < n) && decide (j < n) && ((Region.ready md ops listed).all (fun x => x == i || x == j) && !(Region.ready md ops listed).isEmpty) && (flB md ops n g j is (listed.setIfInBounds i true) && rowB md ops n g (nots (i :: is)) (listed.setIfInBounds j true))
theorem wpHeadH_fl {n g j : Nat} {L : Act → World → Prop} (hsel : Region.noSelect ops = true) (hs : Region.sinkB md ops n = true) (hc : Region.chainB md ops n = true) (hn : n < ops.size)
  (hQ : ∀ c a d v w, Q (.panic c) (a.put d v) w → Q (.panic c) a w) :
  ∀ (is : List Nat) (listed : Array Bool) (a : Act) (w : World), HeadInv md ops n listed → flB md ops n g j is listed = true → S w → wpFl P ops Q S L j is a w →
   wpHeadH P md ops Q S n (fun listed' a' w' => Region.seqB md ops g n listed' = true ∧ L a' w') (is.length + 1) listed a w
 | [], listed, a, w, inv, hB, hS, h => by
  simp only [flB, Bool.and_eq_true, decide_eq_true_eq] at hB
  obtain ⟨⟨hjn, hr⟩, hB⟩ := hB
  refine ⟨by rw [hr]; simp, fun x hx => ?_⟩
  have hxj : x = j := by rw [hr] at hx; simpa using hx
  subst hxj
  exact ⟨hjn, wpOp_mono (fun a' w' h' => ⟨h'.1, hB, h'.2⟩) h⟩
 | i :: is, listed, a, w, inv, hB, hS, h => by
  simp only [flB, Bool.and_eq_true, decide_eq_true_eq, List.all_eq_true, Bool.or_eq_true, beq_iff_eq, Bool.not_eq_true', List.isEmpty_eq_false_iff] at hB
  obtain ⟨⟨⟨hin, hjn⟩, hall, hne⟩, hB1, hB2⟩ := hB
  refine ⟨hne, fun x hx => ?_⟩
  rcases hall x hx with rfl | rfl
  ·exact ⟨hin, wpOp_mono (fun a' w' h' => ⟨h'.1, wpHeadH_fl hsel hs hc hn hQ is _ _ _ (inv.set hx hin) hB1 h'.1 h'.2⟩) h.1⟩
  ·refine ⟨hjn, wpOp_mono (fun a' w' h' => ⟨h'.1, ?_⟩) h.2⟩
   have := wpHeadH_row hsel hs hc hn hQ (nots (i :: is)) _ a' w' (inv.set hx hjn) hB2 h'.1 h'.2
   simpa [nots] using this
def wpRowF (P : Program) (ops : Array Oper) (Q : Exit → Act → World → Prop) (S : World → Prop) (L : Act → World → Prop) (j : Nat) (is : List Nat) : List Nat → Act → World → Prop
 | [], a, w => wpFl P ops Q S L j is a w
 | i :: rs, a, w => ∃ o v, ops[i]? = some o ∧ YieldsIf P ops S o v a ∧ wpRowF P ops Q S L j is rs (a.put o.dst v) w
def rowFB (md : Region.Mode) (ops : Array Oper) (n g j : Nat) (is : List Nat) : List Nat → Array Bool → Bool
 | [], listed => flB md ops n g j is listed
 | i :: rs, listed => decide (i < n) && Region.free md ops listed i && (Region.ready md ops listed).contains i && rowFB md ops n g j is rs (listed.setIfInBounds i true)
theorem wpHeadH_rowF {n g j : Nat} {L : Act → World → Prop} (is : List Nat) (hsel : Region.noSelect ops = true) (hs : Region.sinkB md ops n = true) (hc : Region.chainB md ops n = true) (hn : n < ops.size)
  (hQ : ∀ c a d v w, Q (.panic c) (a.put d v) w → Q (.panic c) a w) :
  ∀ (rs : List Nat) (listed : Array Bool) (a : Act) (w : World), HeadInv md ops n listed → rowFB md ops n g j is rs listed = true → S w → wpRowF P ops Q S L j is rs a w →
   wpHeadH P md ops Q S n (fun listed' a' w' => Region.seqB md ops g n listed' = true ∧ L a' w') (rs.length + (is.length + 1)) listed a w
 | [], listed, a, w, inv, hB, hS, h => by
  rw [List.length_nil, Nat.zero_add]
  exact wpHeadH_fl hsel hs hc hn hQ is listed a w inv hB hS h
 | i :: rs, listed, a, w, inv, hB, hS, h => by
  simp only [rowFB, Bool.and_eq_true, decide_eq_true_eq] at hB
  obtain ⟨⟨⟨hin, hf⟩, hr⟩, hB⟩ := hB
  have hr : i ∈ Region.ready md ops listed := by simpa using hr
  obtain ⟨o, v, ho, hy, h⟩ := h
  rw [List.length_cons, show rs.length + 1 + (is.length + 1) = rs.length + (is.length + 1) + 1 by omega]
  exact wpHeadH_first ho (Region.noSelect_spec hsel) (fun c a w => hQ c a _ _ w) hs hc hn hin (fun listed' a' w' hL => seqB_ready hL.1) _ listed a w inv (Region.free_spec ho hf) hr hy hS
   (wpHeadH_rowF is hsel hs hc hn hQ rs _ _ _ (inv.set hr hin) hB hS h)
theorem wpAny_rowF {n j : Nat} {l : List Oper} {is rs : List Nat} {L : Act → World → Prop} {a : Act} {w : World} (hsel : Region.noSelect l.toArray = true) (hs : Region.sinkB md l.toArray n = true) (hc : Region.chainB md l.toArray n = true) (hn : n < l.length) (hlen : rs.length + (is.length + 1) = n)
  (hQ : ∀ c a d v w, Q (.panic c) (a.put d v) w → Q (.panic c) a w) (hB : rowFB md l.toArray n (l.length - n) j is rs (Array.replicate l.length false) = true) (hS : S w)
  (hL : ∀ a' w', L a' w' → wpList P l.toArray Q (l.drop n) a' w')
  (h : wpRowF P l.toArray Q S L j is rs a w) : wpAny P md l.toArray Q l.length (Array.replicate l.length false) a w := by
 have inv0 : HeadInv md l.toArray n (Array.replicate l.length false) :=
  ⟨by simp, fun j oj _ hl => (by rw [getD_replicate_false] at hl; cases hl), fun t _ ht => getD_in (by simpa using ht) (getD_replicate_false _ _)⟩
 have H := wpHeadH_rowF (g := l.length - n) is hsel hs hc (by simpa using hn) hQ rs _ a w inv0 hB hS h
 have := wpAny_of_headH (g := l.length - n) (fun listed a' w' hL' => by
  have := wpAny_of_seq (md := md) (Q' := Q) (l.drop n) n listed a' w' (fun j => by simp [List.getElem?_drop]) (by rw [List.length_drop]; exact hL'.1) (hL _ _ hL'.2)
  rwa [List.length_drop] at this) _ _ _ _ H
 rwa [hlen, show n + (l.length - n) = l.length by omega] at this
theorem wpFl_op {L : Act → World → Prop} {j i : Nat} {is : List Nat} {a : Act} {w : World} {o oj : Oper} (ho : ops[i]? = some o) (hw : Region.wanted o (yielded ops a.tmps) = true) (hj : ops[j]? = some oj) (hwj : Region.wanted oj (yielded ops a.tmps) = true)
  (h : ∀ K : Act → World → Prop, (∀ a' w', S w' ∧ wpFl P ops Q S L j is a' w' → K a' w') → o.wp P a w K Q)
  (hf : ∀ K : Act → World → Prop, (∀ a' w', S w' ∧ wpRow P ops Q S L (nots (i :: is)) a' w' → K a' w') → oj.wp P a w K Q) : wpFl P ops Q S L j (i :: is) a w := by
 constructor
 ·unfold wpOp
  simp only [ho, hw, if_true]
  exact .inl (h _ fun _ _ h => h)
 ·unfold wpOp
  simp only [hj, hwj, if_true]
  exact .inl (hf _ fun _ _ h => h)
theorem wpFl_last {L : Act → World → Prop} {j : Nat} {a : Act} {w : World} {oj : Oper} (hj : ops[j]? = some oj) (hwj : Region.wanted oj (yielded ops a.tmps) = true)
  (hf : ∀ K : Act → World → Prop, (∀ a' w', S w' ∧ L a' w' → K a' w') → oj.wp P a w K Q) : wpFl P ops Q S L j [] a w := by
 unfold wpFl wpOp
 simp only [hj, hwj, if_true]
 exact .inl (hf _ fun _ _ h => h)
theorem wpRow_rdD {L : Act → World → Prop} {is : List (Nat × Bool)} {i : Nat} {a : Act} {w : World} {o : Oper} {v : Value} (d : Nat) (ho : ops[i]? = some o) (hd : o.dst = some d) (hw : Region.wanted o (yielded ops a.tmps) = true)
  (hv : ∀ W, S W → (execOp a.eval o).run P W = .ok (.value v) W) (h : wpRow P ops Q S L is (a.put (some d) v) w) : wpRow P ops Q S L ((i, true) :: is) a w := wpRow_read ho hw hv (hd ▸ h)
theorem wpRow_skp {L : Act → World → Prop} {is : List (Nat × Bool)} {i : Nat} {a : Act} {w : World} {o : Oper} (d : Nat) (ho : ops[i]? = some o) (hd : o.dst = some d) (hw : Region.wanted o (yielded ops a.tmps) = false) (h : wpRow P ops Q S L is (a.put (some d) undef) w) : wpRow P ops Q S L ((i, true) :: is) a w := ⟨o, undef, ho, .inr ⟨hw, rfl⟩, hd ▸ h⟩
theorem wpRowF_readD {L : Act → World → Prop} {j : Nat} {is rs : List Nat} {i : Nat} {a : Act} {w : World} {o : Oper} {v : Value} (d : Nat) (ho : ops[i]? = some o) (hd : o.dst = some d) (hw : Region.wanted o (yielded ops a.tmps) = true)
  (hv : ∀ W, S W → (execOp a.eval o).run P W = .ok (.value v) W) (h : wpRowF P ops Q S L j is rs (a.put (some d) v) w) : wpRowF P ops Q S L j is (i :: rs) a w := ⟨o, v, ho, .inl ⟨hw, hv⟩, hd ▸ h⟩
end
theorem wp_region_rowF {P : Program} {id : Nat} {ops : List Oper} {Q : Exit → Act → World → Prop} {a : Act} {w : World} (n j : Nat) (is rs : List Nat) (S : World → Prop) (hm : P.follows .mixedOrders = true)
  (hsel : Region.noSelect ops.toArray = true) (hs : Region.sinkB .any ops.toArray n = true) (hc : Region.chainB .any ops.toArray n = true) (hn : n < ops.length) (hlen : rs.length + (is.length + 1) = n)
  (hQ : ∀ c a d v w, Q (.panic c) (a.put d v) w → Q (.panic c) a w) (hB : rowFB .any ops.toArray n (ops.length - n) j is rs (Array.replicate ops.length false) = true) (hS : S w.drew)
  (h : wpRowF P ops.toArray Q S (fun a' w' => wpList P ops.toArray Q (ops.drop n) a' w') j is rs a w.drew) : (Code.region id ops.toArray true).wp P Q a w :=
 wp_region_any hm (wpAny_rowF hsel hs hc hn hlen hQ hB hS (fun _ _ h => h) h)
end Go.Proofs.YtbhhgbgfaemfdaaGreatDoor
namespace Go.Proofs.YtbhhgbgfaemfdaaGreatDoor
def deniedL : List Bs := ["script", "style", "xmp", "iframe", "noembed", "noframes", "noscript", "plaintext", "svg", "math", "template", "textarea", "title", "frameset", "frame", "object", "embed", "base"].map (fun s => s.toUTF8.data.toList)
def voidL : List Bs := ["area", "br", "col", "hr", "img", "input", "link", "meta", "source", "track", "wbr"].map (fun s => s.toUTF8.data.toList)
def jsT : Bs := [106, 97, 118, 97, 115, 99, 114, 105, 112, 116]
def vbT : Bs := [118, 98, 115, 99, 114, 105, 112, 116]
def dataT : Bs := [100, 97, 116, 97]
def runsL : List Bs := [jsT, vbT, dataT]
def srcdocT : Bs := [115, 114, 99, 100, 111, 99]
def deniedB (t : Bs) : Bool := decide (t ∈ deniedL)
def voidB (t : Bs) : Bool := decide (t ∈ voidL)
def runsB (t : Bs) : Bool := decide (t ∈ runsL)
def onB : Bs → Bool
 | a :: b :: _ => decide (a = 111 ∧ b = 110)
 | _ => false
def unsafeB (t : Bs) : Bool := decide (t = srcdocT) || onB t
def tagR (p : Pol) (t : Bs) : Bool := decide (t ∈ p.tags)
def schR (p : Pol) (t : Bs) : Bool := decide (t ∈ p.schemes)
def cssR (p : Pol) (t : Bs) : Bool := decide (t ∈ p.css)
def dropR (p : Pol) (t : Bs) : Bool := decide (t ∈ p.drops)
def attrR (p : Pol) (t n : Bs) : Bool := tagR p t && (decide ((⟨t, n⟩ : Alw) ∈ p.attrs) || decide ((⟨[42], n⟩ : Alw) ∈ p.attrs))
def forcedR (p : Pol) (t : Bs) : List (Bs × Bs) := (p.forces.filter (fun f => decide (f.tag = t))).map fun f => (f.name, f.value)
def attrQ (p : Pol) (t n : Bs) : Bool := p.attrs.any (fun a => decide (a.name = n) && (decide (a.tag = [42]) || decide (a.tag = t))) && tagR p t
theorem attr_ref (p : Pol) (t n : Bs) : attrQ p t n = attrR p t n := by
 unfold attrQ attrR
 rw [Bool.and_comm]
 congr 1
 rw [Bool.eq_iff_iff, List.any_eq_true]
 simp only [Bool.and_eq_true, Bool.or_eq_true, decide_eq_true_eq]
 constructor
 ·rintro ⟨⟨a, m⟩, ha, h1, h2⟩
  simp only at h1 h2
  subst h1
  rcases h2 with h2 | h2
  ·subst h2; exact .inr ha
  ·subst h2; exact .inl ha
 ·rintro (h | h)
  ·exact ⟨_, h, rfl, .inr rfl⟩
  ·exact ⟨_, h, rfl, .inl rfl⟩
def overB (p : Pol) (f : Frc) : Bool := decide (p.name < (f.name.length : Int)) || decide (p.value < (f.value.length : Int))
def longB (p : Pol) (t : Bs) : Bool := decide (p.name < (t.length : Int))
def badB (p : Pol) : Bool := p.tags.any deniedB || (p.attrs.any (fun a => unsafeB a.name) || (p.forces.any (fun f => unsafeB f.name) || p.schemes.any runsB))
def wrongR (p : Pol) : Nat :=
 if badB p = true then 6
 else if p.tags.any (dropR p) = true then 5
 else if (p.forces.any (fun f => !tagR p f.tag) || p.attrs.any (fun a => !decide (a.tag = [42]) && !tagR p a.tag)) = true then 4
 else if (p.forces.any (overB p) || p.tags.any (longB p)) = true then 1
 else 0
def newR (p : Pol) : Nat := if rightP p = true then wrongR p else 1
def compR (s : Bs) : Rs Pol := match parsePl s with
 | .error f => .error f
 | .ok p => if wrongR p = 0 then .ok p else .error ⟨s.length, wrongR p⟩
theorem compR_new {s : Bs} {p : Pol} (h : parsePl s = .ok p) : compR s = if newR p = 0 then .ok p else .error ⟨s.length, newR p⟩ := by
 unfold compR newR
 rw [h, if_pos (parse_right h)]
theorem wrong_zero {p : Pol} (h : wrongR p = 0) : badB p = false ∧ p.tags.any (dropR p) = false ∧ p.forces.any (fun f => !tagR p f.tag) = false ∧ p.attrs.any (fun a => !decide (a.tag = [42]) && !tagR p a.tag) = false ∧ p.forces.any (overB p) = false ∧ p.tags.any (longB p) = false := by
 unfold wrongR at h
 split at h
 ·cases h
 ·next h1 =>
  split at h
  ·cases h
  ·next h2 =>
   split at h
   ·cases h
   ·next h3 =>
    split at h
    ·cases h
    ·next h4 =>
     rw [Bool.not_eq_true] at h1 h2 h3 h4
     rw [Bool.or_eq_false_iff] at h3 h4
     exact ⟨h1, h2, h3.1, h3.2, h4.1, h4.2⟩
theorem any_no {α : Type} {l : List α} {f : α → Bool} (h : l.any f = false) {x : α} (hx : x ∈ l) : f x = false := by
 cases hf : f x
 ·rfl
 ·rw [List.any_eq_true.2 ⟨x, hx, hf⟩] at h
  cases h
theorem safe_tag {p : Pol} (h : wrongR p = 0) {t : Bs} (ht : tagR p t = true) : deniedB t = false ∧ dropR p t = false := by
 obtain ⟨h1, h2, _⟩ := wrong_zero h
 have hm : t ∈ p.tags := by simpa [tagR] using ht
 unfold badB at h1
 rw [Bool.or_eq_false_iff] at h1
 exact ⟨any_no h1.1 hm, any_no h2 hm⟩
theorem safe_attr {p : Pol} (h : wrongR p = 0) {t n : Bs} (ha : attrR p t n = true) : unsafeB n = false ∧ tagR p t = true := by
 obtain ⟨h1, _⟩ := wrong_zero h
 unfold badB at h1
 simp only [Bool.or_eq_false_iff] at h1
 unfold attrR at ha
 simp only [Bool.and_eq_true, Bool.or_eq_true, decide_eq_true_eq] at ha
 refine ⟨?_, ha.1⟩
 rcases ha.2 with hm | hm
 ·exact any_no h1.2.1 hm
 ·exact any_no h1.2.1 hm
theorem safe_sch {p : Pol} (h : wrongR p = 0) {t : Bs} (ht : t ∈ runsL) : schR p t = false := by
 obtain ⟨h1, _⟩ := wrong_zero h
 unfold badB at h1
 simp only [Bool.or_eq_false_iff] at h1
 cases hs : schR p t
 ·rfl
 ·have hm : t ∈ p.schemes := by simpa [schR] using hs
  have := any_no h1.2.2.2 hm
  simp [runsB, ht] at this
theorem safe_forced {p : Pol} (h : wrongR p = 0) {t : Bs} {x : Bs × Bs} (hx : x ∈ forcedR p t) : tagR p t = true ∧ unsafeB x.1 = false ∧ (x.2.length : Int) ≤ p.value := by
 obtain ⟨h1, _, h3, _, h5, _⟩ := wrong_zero h
 unfold badB at h1
 simp only [Bool.or_eq_false_iff] at h1
 unfold forcedR at hx
 obtain ⟨f, hf, rfl⟩ := List.mem_map.1 hx
 obtain ⟨hm, ht⟩ := List.mem_filter.1 hf
 simp only [decide_eq_true_eq] at ht
 subst ht
 have a1 := any_no h3 hm
 have a2 := any_no h1.2.2.1 hm
 have a3 := any_no h5 hm
 refine ⟨by simpa using a1, a2, ?_⟩
 unfold overB at a3
 simp only [Bool.or_eq_false_iff, decide_eq_false_iff_not] at a3
 simp only
 omega
theorem right_parts {p : Pol} (h : rightP p = true) : (∀ t ∈ p.tags, wordB t = true) ∧ (∀ t ∈ p.schemes, wordB t = true) ∧ (∀ a ∈ p.attrs, alwB a = true) ∧ (∀ f ∈ p.forces, frcB f = true) ∧ neatP p = p := by
 unfold rightP at h
 simp only [Bool.and_eq_true, List.all_eq_true, decide_eq_true_eq] at h
 exact ⟨h.1.1.1.1.1.1.1.1, h.1.1.1.1.1.1.1.2, h.1.1.1.1.2, h.1.1.1.2, h.2⟩
theorem forced_rise {p : Pol} (h : rightP p = true) (t : Bs) : (forcedR p t).Pairwise (fun x y => ltB x.1 y.1 = true) := by
 obtain ⟨_, _, _, _, hn⟩ := right_parts h
 have hf : neatL ltF p.forces = p.forces := congrArg Pol.forces hn
 have hr := neat_rise swoF p.forces
 rw [hf] at hr
 unfold forcedR
 rw [List.pairwise_map]
 refine (hr.filter _).imp_of_mem fun {a b} ha hb hab => ?_
 have ha := (List.mem_filter.1 ha).2
 have hb := (List.mem_filter.1 hb).2
 rw [decide_eq_true_eq] at ha hb
 have e1 : ltF a b = (ltB a.tag b.tag || (decide (a.tag = b.tag) && ltB a.name b.name)) := rfl
 rw [e1, ha, hb, ltB_irrefl] at hab
 simpa using hab
def refWrong (p : Pol) : Nat :=
 if p.tags.any deniedB = true then 6 else if p.attrs.any (fun a => unsafeB a.name) = true then 6
 else if p.forces.any (fun f => unsafeB f.name) = true then 6 else if p.schemes.any runsB = true then 6
 else if p.tags.any (dropR p) = true then 5
 else if p.forces.any (fun f => !tagR p f.tag) = true then 4 else if p.attrs.any (fun a => !decide (a.tag = [42]) && !tagR p a.tag) = true then 4
 else if p.tags.any (longB p) = true then 1 else if p.forces.any (overB p) = true then 1 else 0
theorem refWrong_eq (p : Pol) : refWrong p = wrongR p := by
 unfold refWrong wrongR badB
 cases p.tags.any deniedB <;> cases p.attrs.any (fun a => unsafeB a.name) <;> cases p.forces.any (fun f => unsafeB f.name) <;> cases p.schemes.any runsB <;> try rfl
 cases p.tags.any (dropR p) <;> try rfl
 cases p.forces.any (fun f => !tagR p f.tag) <;> cases p.attrs.any (fun a => !decide (a.tag = [42]) && !tagR p a.tag) <;> try rfl
 cases p.tags.any (longB p) <;> cases p.forces.any (overB p) <;> rfl
end Go.Proofs.YtbhhgbgfaemfdaaGreatDoor
namespace Go.Proofs.YtbhhgbgfaemfdaaGreatDoor
open Go.RowKit
open Go.WideMaps (KeyLaw)
attribute [local go_sem] Oper.semAt_some
theorem laidOut10 : laidOutB Tryz.prog = true := by kernel_rfl
theorem str_law : KeyLaw Tryz.prog 9 := WideMaps.string_law (by kernel_rfl)
theorem alw_law : KeyLaw Tryz.prog 80 := deep_law_laid laidOut10 (m := 2) (by omega) (of_decide_eq_true (by kernel_rfl)) (by kernel_rfl) (by kernel_rfl)
theorem str_key {t : Bs} (h : t.length ≤ maxLen) : keyOf Tryz.prog 9 (sv t) = some (.string t) := by
 have := WideMaps.keyOf_string_mk (P := Tryz.prog) (k := 9) (by kernel_rfl) (s := ⟨t.toArray⟩) (by show t.toArray.size ≤ _; simpa using h)
 simpa [sv] using this
theorem alw_lits (d : Nat) (x y : ByteArray) (hx : x.size ≤ maxLen) (hy : y.size ≤ maxLen) : Tryz.prog.keyLits (d + 2) 80 [.string x, .string y] = some [.string x.data.toList, .string y.data.toList] := by
 have hs : ∀ z : ByteArray, z.size ≤ maxLen → Tryz.prog.keyLits (d + 1) 9 [.string z] = some [.string z.data.toList] := fun z hz => by
  unfold Program.keyLits
  rw [Tryz.underlying9]
  simp [hz]
 have c1 : Tryz.prog.cellsOf 9 = 1 := by kernel_rfl
 have c2 : Tryz.prog.cellsOf 80 = 2 := by kernel_rfl
 unfold Program.keyLits
 rw [Tryz.underlying80]
 simp [c1, c2, hs x hx, hs y hy]
theorem alw_key (a n : Bs) (ha : a.length ≤ maxLen) (hn : n.length ≤ maxLen) : ∃ l, keyOf Tryz.prog 80 (.agg #[sv a, sv n]) = some l := by
 have h := fun d => alw_lits d ⟨a.toArray⟩ ⟨n.toArray⟩ (by show a.toArray.size ≤ _; simpa using ha) (by show n.toArray.size ≤ _; simpa using hn)
 have hk : Tryz.prog.keyType 80 = true := by kernel_rfl
 have hc : Tryz.prog.cellsOf 80 = 2 := by kernel_rfl
 have hf : Value.formed Tryz.prog 80 (.agg #[sv a, sv n]) = true := by
  unfold Value.formed
  simp [Tryz.underlying80, hc]
 obtain ⟨d, hd⟩ : ∃ d, Tryz.prog.types.size + 1 = d + 2 := ⟨Tryz.prog.types.size - 1, by have : 0 < Tryz.prog.types.size := of_decide_eq_true (by kernel_rfl); omega⟩
 unfold keyOf
 rw [Tryz.underlying80]
 simp only [hk, hf, hd, Bool.and_self, if_true]
 refine ⟨.string (keyBytes [.string a, .string n]), ?_⟩
 have e : (Value.agg #[sv a, sv n]).cells.toList = [.string ⟨a.toArray⟩, .string ⟨n.toArray⟩] := rfl
 rw [e, h d]
 rfl
theorem yes_zero (W : World) : (zeroValue 124).run Tryz.prog W = .ok (.agg #[]) W := by kernel_rfl
set_option maxHeartbeats 800000 in
theorem hasS_any (b : Nat) (ks : List Bs) (t : Bs) (w : World) (h : KeysM Tryz.prog 9 w b (ks.map sv)) (ht : t.length ≤ maxLen) : Calls Tryz.prog 55 #[.map (some b), sv t] w (Ret (.bool (decide (t ∈ ks))) w) := by
 obtain ⟨D, hD⟩ : ∃ D, decide (t ∈ ks) = D := ⟨_, rfl⟩
 have hB : D = true ↔ sv t ∈ ks.map sv := by
  rw [← hD, decide_eq_true_eq, List.mem_map]
  exact ⟨fun h => ⟨t, h, rfl⟩, fun ⟨u, hu, e⟩ => sv_inj e ▸ hu⟩
 have HL := Lib.hid (show (Instr.lookup 66 (.map (some b)) (sv t) true).run Tryz.prog w = .ok (.tuple #[.agg #[], .bool D]) w from h.look str_law Tryz.underlying66 (yes_zero w) (str_key ht) hB)
 rw [hD]
 clear hD hB h ht
 generalize sv t = v at *
 go_enter Tryz.func55, Tryz.ntmps55
 go_wp2_with (simp [go_sem, HL.out])
 go_ret
 exact Ret.of rfl (by (repeat with_reducible first | exact Below.refl _ _ | refine Below.drew ?_ | refine Below.drewN ?_ _ | refine Below.alloc ?_ ?_ _ | refine Below.grow ?_ ?_ _ | refine Below.setCell ?_ ?_ _); all_goals first | omega | (simp [go_sem] <;> omega))
end Go.Proofs.YtbhhgbgfaemfdaaGreatDoor
namespace Go.Proofs.YtbhhgbgfaemfdaaGreatDoor
open Go.RowKit
attribute [local go_sem] Oper.semAt_some
theorem alw_inj {x y : Alw} (h : x.agg = y.agg) : x = y := by
 cases x; cases y
 have h1 := congrArg (fun v => match v with | .agg cs => cs.toList | _ => []) h
 simp only [Alw.agg, List.cons.injEq, and_true] at h1
 obtain ⟨h1, h2⟩ := h1
 rw [sv_inj h1, sv_inj h2]
def RetM (k : TypeId) (w : World) (ks : List Value) (e : Ending) (w' : World) : Prop := ∃ b, e = .returned (.map (some b)) ∧ Below w.heap.size w w' ∧ w.heap.size ≤ b ∧ KeysM Tryz.prog k w' b ks
set_option maxHeartbeats 1600000 in
theorem setS_any (v : Value) (l : List Bs) (w : World) (h : Rd w v l.length 1 (l.map sv)) (hl : ∀ t ∈ l, t.length ≤ maxLen) : Calls Tryz.prog 89 #[v] w (RetM 9 w (l.map sv)) := by
 have hmm := @run_makeMap Tryz.prog
 obtain ⟨_, hm, A, c, rfl, h4⟩ := h
 obtain ⟨n, hn⟩ : ∃ n, l.length = n := ⟨_, rfl⟩
 have HN := Lib.hid hn
 rw [hn] at hm h4 ⊢
 clear hn
 have H4 := Lib.hid h4
 have HL := Lib.hid hl
 clear h4 hl
 go_enter Tryz.func89, Tryz.ntmps89
 go_wp2_with fail
 refine name_world fun W0 hW0 => ?_
 obtain ⟨B, hB⟩ : ∃ B, w.heap.size = B := ⟨_, rfl⟩
 rw [hB]
 have HK0 : Hid (KeysM Tryz.prog 9 W0 B ((l.take 0).map sv)) := by rw [hW0]; exact KeysM.new (by rw [← hB]; exact heap_alloc_new w _) (by simp)
 have HB0 : Hid (Below w.heap.size w W0) := by show Below _ _ _; rw [hW0]; exact (by (repeat with_reducible first | exact Below.refl _ _ | refine Below.drew ?_ | refine Below.drewN ?_ _ | refine Below.alloc ?_ ?_ _ | refine Below.grow ?_ ?_ _ | refine Below.setCell ?_ ?_ _); all_goals first | omega | (simp [go_sem] <;> omega))
 clear hW0
 go_loopw [9] (fun i wr => ∃ k : Nat, k ≤ n ∧ i = .int .i64 (k : Nat) ∧ Hid (KeysM Tryz.prog 9 wr B ((l.take k).map sv)) ∧ Hid (Below w.heap.size w wr)) (fun i _ => n - (intOf i).toNat)
 case atStart => exact ⟨0, by omega, rfl, HK0.out, HB0.out⟩
 case round =>
  clear HK0 HB0
  obtain ⟨k, hk, rfl, HK, HBw⟩ := hrel
  by_cases hlt : k < n
  ·obtain ⟨b, off, rfl, hb, hc⟩ := H4.out (by omega)
   have hkl : k < l.length := by rw [HN.out]; exact hlt
   have hcw := (HBw.out.cell (p := ⟨b, off + k, none⟩) hb).trans (hc k (sv l[k]) (by simp [hkl]))
   have hbr : b < wr.heap.size := Nat.lt_of_lt_of_le hb HBw.out.size
   have HT : Hid (l.take (k + 1) = l.take k ++ [l[k]]) := List.take_succ_eq_append_getElem hkl
   have HKey := Lib.hid (str_key (HL.out l[k] (List.getElem_mem hkl)))
   clear hc
   generalize l[k] = t at *
   have hwB : w.heap.size ≤ wr.heap.size := HBw.out.size
   generalize hv : sv t = u at *
   go_wp2_with (at_mapUpdate; (refine wpList_put rfl _ _ _ 66 rfl B _ HK.out str_law Tryz.underlying66 rfl rfl rfl HKey.out ?_); intro W2 hk2 hg2; have HK2 := Lib.hid hk2; have HB2 := Lib.hid (below_by HBw.out hg2 (Nat.le_of_eq hB) hwB); clear hk2 hg2)
   go_roundw
   case rel => exact ⟨k + 1, by omega, by go_num, by show KeysM _ _ _ _ _; rw [HT.out, List.map_append, List.map_singleton, hv]; exact HK2.out, HB2.out⟩
   case measure => simp [intOf]; omega
  ·have hkn : k = n := by omega
   have HT : Hid (l.take k = l) := List.take_of_length_le (by rw [HN.out]; omega)
   go_wp2_with fail
   go_ret
   exact ⟨B, rfl, HBw.out, Nat.le_of_eq hB, by have := HK.out; rwa [HT.out] at this⟩
end Go.Proofs.YtbhhgbgfaemfdaaGreatDoor
namespace Go.Proofs.YtbhhgbgfaemfdaaGreatDoor
open Go.RowKit
attribute [local go_sem] Oper.semAt_some
theorem flat_atC {α : Type} (cells : α → List Value) (n : Nat) (hn : ∀ x, (cells x).length = n) (l : List α) (k j : Nat) (hk : k < l.length) (hj : j < n) : (l.flatMap cells)[k * n + j]? = (cells l[k])[j]? := by
 induction l generalizing k with
 | nil => simp at hk
 | cons x r ih =>
  cases k with
  | zero => simp only [List.flatMap_cons, Nat.zero_mul, Nat.zero_add, List.getElem_cons_zero]; rw [List.getElem?_append_left (by rw [hn]; exact hj)]
  | succ k =>
   simp only [List.flatMap_cons, List.getElem_cons_succ]
   rw [List.getElem?_append_right (by rw [hn, Nat.add_mul]; omega), hn, show (k + 1) * n + j - n = k * n + j by rw [Nat.add_mul]; omega]
   exact ih k (by simpa using hk)
set_option maxRecDepth 100000 in
set_option maxHeartbeats 1600000 in
theorem setA_any (v : Value) (l : List Alw) (w : World) (h : Rd w v l.length 2 (l.flatMap Alw.cells)) (hl : ∀ x ∈ l, x.tag.length ≤ maxLen ∧ x.name.length ≤ maxLen) : Calls Tryz.prog 90 #[v] w (RetM 80 w (l.map Alw.agg)) := by
 have hmm := @run_makeMap Tryz.prog
 obtain ⟨_, hm, A, c, rfl, h4⟩ := h
 obtain ⟨n, hn⟩ : ∃ n, l.length = n := ⟨_, rfl⟩
 have HN := Lib.hid hn
 rw [hn] at hm h4 ⊢
 clear hn
 have H4 := Lib.hid h4
 have HL := Lib.hid hl
 clear h4 hl
 go_enter Tryz.func90, Tryz.ntmps90
 go_wp2_with fail
 refine name_world fun W0 hW0 => ?_
 obtain ⟨B, hB⟩ : ∃ B, w.heap.size = B := ⟨_, rfl⟩
 rw [hB]
 have HK0 : Hid (KeysM Tryz.prog 80 W0 B ((l.take 0).map Alw.agg)) := by rw [hW0]; exact KeysM.new (by rw [← hB]; exact heap_alloc_new w _) (by simp)
 have HB0 : Hid (Below w.heap.size w W0) := by show Below _ _ _; rw [hW0]; exact (by (repeat with_reducible first | exact Below.refl _ _ | refine Below.drew ?_ | refine Below.drewN ?_ _ | refine Below.alloc ?_ ?_ _ | refine Below.grow ?_ ?_ _ | refine Below.setCell ?_ ?_ _); all_goals first | omega | (simp [go_sem] <;> omega))
 clear hW0
 go_loopw [9] (fun i wr => ∃ k : Nat, k ≤ n ∧ i = .int .i64 (k : Nat) ∧ Hid (KeysM Tryz.prog 80 wr B ((l.take k).map Alw.agg)) ∧ Hid (Below w.heap.size w wr)) (fun i _ => n - (intOf i).toNat)
 case atStart => exact ⟨0, by omega, rfl, HK0.out, HB0.out⟩
 case round =>
  clear HK0 HB0
  obtain ⟨k, hk, rfl, HK, HBw⟩ := hrel
  by_cases hlt : k < n
  ·obtain ⟨b, off, rfl, hb, hc⟩ := H4.out (by omega)
   have hkl : k < l.length := by rw [HN.out]; exact hlt
   obtain ⟨x, hx⟩ : ∃ x, l[k] = x := ⟨_, rfl⟩
   have x0 : wr.cell? ⟨b, off + k * 2, none⟩ = some (.string ⟨x.tag.toArray⟩) := (HBw.out.cell (p := ⟨b, off + k * 2, none⟩) hb).trans (hc (k * 2 + 0) (sv x.tag) (by rw [flat_atC Alw.cells 2 (fun _ => rfl) l k 0 hkl (by omega), hx]; rfl))
   have x1 : wr.cell? ⟨b, off + k * 2 + 1, none⟩ = some (.string ⟨x.name.toArray⟩) := (HBw.out.cell (p := ⟨b, off + k * 2 + 1, none⟩) hb).trans ((congrArg (fun i => w.cell? ⟨b, i, none⟩) (by omega)).trans (hc (k * 2 + 1) (sv x.name) (by rw [flat_atC Alw.cells 2 (fun _ => rfl) l k 1 hkl (by omega), hx]; rfl)))
   have hbr : b < wr.heap.size := Nat.lt_of_lt_of_le hb HBw.out.size
   have HT : Hid (l.take (k + 1) = l.take k ++ [x]) := by show _ = _; rw [List.take_succ_eq_append_getElem hkl, hx]
   obtain ⟨kl, hkl2⟩ := alw_key x.tag x.name (HL.out x (hx ▸ List.getElem_mem hkl)).1 (HL.out x (hx ▸ List.getElem_mem hkl)).2
   have HKey := Lib.hid (show keyOf Tryz.prog 80 (.agg #[.string ⟨x.tag.toArray⟩, .string ⟨x.name.toArray⟩]) = some kl from hkl2)
   have HAg : Hid (x.agg = .agg #[.string ⟨x.tag.toArray⟩, .string ⟨x.name.toArray⟩]) := rfl
   clear hc hx hkl hkl2
   have hwB : w.heap.size ≤ wr.heap.size := HBw.out.size
   generalize (⟨x.tag.toArray⟩ : ByteArray) = a1 at *
   generalize (⟨x.name.toArray⟩ : ByteArray) = a2 at *
   go_upto_region 5 with fail
   refine name_world fun W1 hW1 => ?_
   have hb1 : Below wr.heap.size wr W1 := by rw [hW1]; exact (by (repeat with_reducible first | exact Below.refl _ _ | refine Below.drew ?_ | refine Below.drewN ?_ _ | refine Below.alloc ?_ ?_ _ | refine Below.grow ?_ ?_ _ | refine Below.setCell ?_ ?_ _); all_goals first | omega | (simp [go_sem] <;> omega))
   obtain ⟨B1, hB1⟩ : ∃ B, wr.heap.size = B := ⟨_, rfl⟩
   have c0 : W1.cell? ⟨B1, 0, none⟩ = some (.string a1) := by rw [hW1, ← hB1]; simp [go_sem]
   have c1 : W1.cell? ⟨B1, 1, none⟩ = some (.string a2) := by rw [hW1, ← hB1]; simp [go_sem]
   have hBW : B1 < W1.heap.size := by rw [hW1, ← hB1]; simp
   have HK1 := Lib.hid (HK.out.below hb1)
   have HB1 := Lib.hid (HBw.out.trans (hb1.mono hwB))
   have hw1 := HB1.out.size
   rw [hB1]
   clear hW1 hb1 HK HBw
   go_wp2_with (at_mapUpdate; (refine wpList_put rfl _ _ _ 67 rfl B _ HK1.out alw_law Tryz.underlying67 rfl rfl rfl HKey.out ?_); intro W2 hk2 hg2; have HK2 := Lib.hid hk2; have HB2 := Lib.hid (below_by HB1.out hg2 (Nat.le_of_eq hB) hw1); clear hk2 hg2)
   go_roundw
   case rel => exact ⟨k + 1, by omega, by go_num, by show KeysM _ _ _ _ _; rw [HT.out, List.map_append, List.map_singleton, HAg.out]; exact HK2.out, HB2.out⟩
   case measure => simp [intOf]; omega
  ·have hkn : k = n := by omega
   have HT : Hid (l.take k = l) := List.take_of_length_le (by rw [HN.out]; omega)
   go_wp2_with fail
   go_ret
   exact ⟨B, rfl, HBw.out, Nat.le_of_eq hB, by have := HK.out; rwa [HT.out] at this⟩
end Go.Proofs.YtbhhgbgfaemfdaaGreatDoor

