/- The walk of the lexer: Scan. -/
import Derived.Test.YtglnadikhcidnaaLexF
namespace Go.Proofs.Ytglnadikhcidnaa
open Go.RowKit Go.Shelf
attribute [local go_sem] Oper.semAt_some
theorem lex_row : SlT Try.prog 23 30 (.agg #[.int .i64 0, .int .i64 0, .string ⟨#[]⟩]) 3 32 := ⟨by kernel_rfl, by kernel_rfl, by kernel_rfl, by decide⟩
def Lx.cells (x : Lx) : List Value := [.int .i64 x.kind, .int .i64 x.at_, .string ⟨x.text.toArray⟩]
def lxCells (l : List Lx) : List Value := l.flatMap Lx.cells
theorem pieces_any (s : ByteArray) (w : World) : Calls Try.prog 18 #[.string s] w fun e w' => e = .returned (.func (.func 26) #[] #[.pointer (some ⟨w.heap.size, 0, none⟩)]) ∧ w.alloc (.cells #[.string s] 9) = w' := by
  go_enter Try.func18, Try.ntmps18
  go_wp2
  go_ret
  exact ⟨rfl, rfl⟩
def LE.lx (x : LE) : Lx := ⟨x.kind, x.at_, x.text⟩
theorem yldS_err {k : Nat → Bs → List LE} (h : ∀ b l, ∀ x ∈ k b l, x.err = 0 ∨ x.err = 2) (a : Nat) (r : Bs) : ∀ x ∈ yldS k a r, x.err = 0 ∨ x.err = 2 := by
  intro x hx
  cases r with
  | nil => cases hx
  | cons c r =>
    simp only [yldS] at hx
    cases hp : pieceL (c :: r) with
    | ok kd t n =>
      rw [hp] at hx
      simp only [List.mem_cons] at hx
      rcases hx with rfl | hx
      · exact Or.inl rfl
      · exact h _ _ x hx
    | bad n =>
      rw [hp] at hx
      simp only [List.mem_singleton] at hx
      subst hx; exact Or.inr rfl
theorem yldF_err (f : Nat) : ∀ a l, ∀ x ∈ yldF f a l, x.err = 0 ∨ x.err = 2 := by
  induction f with
  | zero => intro a l x hx; cases hx
  | succ f ih => intro a l; exact yldS_err ih _ _
theorem yldL_err (a : Nat) (l : Bs) : ∀ x ∈ yldL a l, x.err = 0 ∨ x.err = 2 := yldF_err _ a l
theorem toSR_ok {l : List LE} (h : ∀ x ∈ l, x.err = 0) : toSR l = .ok (l.map LE.lx) := by
  induction l with
  | nil => rfl
  | cons x l ih =>
    rw [toSR, if_pos (h x (List.mem_cons_self ..)), ih fun y hy => h y (List.mem_cons_of_mem _ hy)]; rfl
theorem toSR_bad {p : List LE} {x : LE} {l : List LE} (h : (p ++ [x]) <+: l) (hp : ∀ y ∈ p, y.err = 0) (hx : x.err ≠ 0) : toSR l = .bad x.at_ := by
  obtain ⟨r, rfl⟩ := h
  induction p with
  | nil => simp [toSR, hx]
  | cons y p ih =>
    rw [List.cons_append, List.cons_append, toSR, if_pos (hp y (List.mem_cons_self ..)), ih fun z hz => hp z (List.mem_cons_of_mem _ hz)]; rfl
/-- What Scan answers: pieces, or an error with its byte. -/
def scanP (R : SR) (w : World) (e : Ending) (w' : World) : Prop :=
  ∃ v, Below w.heap.size w w' ∧ match R with
    | .ok l => e = .returned (.tuple #[v, .int .i64 0, .int .i64 0]) ∧ Rd w' v l.length 3 (lxCells l)
    | .bad n => e = .returned (.tuple #[.slice none 0 0, .int .i64 n, .int .i64 2])
def ScanPost (s : Bs) (w : World) (e : Ending) (w' : World) : Prop := scanP (scanL 0 s) w e w'
theorem lxCells_snoc (l : List Lx) (x : Lx) : lxCells (l ++ [x]) = lxCells l ++ x.cells := by simp [lxCells]
theorem lxCells_len (l : List Lx) : (lxCells l).length = l.length * 3 := by
  induction l with
  | nil => rfl
  | cons x l ih => simp only [lxCells, List.flatMap_cons, List.length_append, List.length_cons] at *; rw [ih]; simp [Lx.cells]; omega
/-- Between two rounds. -/
def ScanI (w : World) (pre : List LE) (W : World) : Prop :=
  (Boxed W w.heap.size 23 (.slice none 0 0) ∧ Boxed W (w.heap.size + 1) 3 (.int .i64 0) ∧ Boxed W (w.heap.size + 1 + 1) 24 (.int .i64 0)) ∧
  (∃ v, Boxed W (w.heap.size + 1 + 1 + 1) 23 v ∧ W.ownsRow (w.heap.size + 7) 30 3 v pre.length (lxCells (pre.map LE.lx))) ∧ (∀ x ∈ pre, x.err = 0) ∧ Below w.heap.size w W
def ScanX (w : World) (c : Code) (pre : List LE) (W : World) : Prop :=
  c = .ret ∧ Boxed W w.heap.size 23 (.slice none 0 0) ∧ (∃ p x, pre = p ++ [x] ∧ (∀ y ∈ p, y.err = 0) ∧ x.err ≠ 0 ∧ Boxed W (w.heap.size + 1) 3 (.int .i64 x.at_) ∧ Boxed W (w.heap.size + 1 + 1) 24 (.int .i64 x.err)) ∧ Below w.heap.size w W
set_option maxRecDepth 100000 in
set_option maxHeartbeats 4000000 in
theorem scan_any (s : ByteArray) (w : World) (hm : s.size ≤ 8192) : Calls Try.prog 10 #[.string s] w (ScanPost s.data.toList w) := by
  refine (callsIn_wide (n := 0)).1 ?_
  refine callsIn_of_wp_marks (n := 0) Try.func10 rfl trivial ?_ rfl
  have h8 : ¬ (8192 < (s.size : Int)) := by omega
  simp only [Try.ntmps10, List.size_toArray, List.length_cons, List.length_nil, Nat.reduceAdd, Nat.reduceSub, Array.replicate_succ, Array.replicate_zero, List.push_toArray, List.append_toArray, List.nil_append, List.cons_append]
  gi_wp2_with (gi_at_call 18; refine (callsIn_wide.2 (pieces_any s _)).mono ?_; rintro e w' ⟨rfl, rfl⟩)
  refine wp_range (B := w.heap.size + 5) (by simp) rfl (enters_of Try.func26 (by kernel_rfl) rfl) (encs := LE.vals) (fun _ => rfl) (xs := yldL 0 s.data.toList) (fun _ => False)
    (fun k => w.heap.size ≤ k ∧ k < w.heap.size + 4 ∨ w.heap.size + 7 ≤ k) (fun _ h => h.elim) (by intro k hk; omega) (ScanI w) (ScanX w) ?hI ?hIx ?h0 ?hiter ?hround ?hdone ?hstop
  case hI =>
    rintro pre A C ⟨⟨b1, b2, b3⟩, ⟨v, bv, ho⟩, he, hB⟩ ht
    refine ⟨⟨ht.boxed b1 (by simp <;> omega), ht.boxed b2 (by simp <;> omega), ht.boxed b3 (by simp <;> omega)⟩, ⟨v, ht.boxed bv (by simp <;> omega), ht.own ho (fun k hk => by rcases hk with hk | hk | hk; exact hk.elim; omega; omega)⟩, he, hB.trans (ht.below hB.size (fun k hk => by rcases hk with hk | hk | hk; exact hk.elim; omega; omega))⟩
  case hIx =>
    rintro c pre A C ⟨hc, b1, ⟨p, x, h1, h2, h3, b2, b3⟩, hB⟩ ht
    exact ⟨hc, ht.boxed b1 (by simp <;> omega), ⟨p, x, h1, h2, h3, ht.boxed b2 (by simp <;> omega), ht.boxed b3 (by simp <;> omega)⟩, hB.trans (ht.below hB.size (fun k hk => by rcases hk with hk | hk; omega; omega))⟩
  case h0 =>
    have b1 := (((Boxed.new w 23 (.slice none 0 0)).alloc (.cells #[.int .i64 0] 3)).alloc (.cells #[.int .i64 0] 24)).alloc (.cells #[.slice none 0 0] 23) |>.alloc (.cells #[.string s] 9)
    have b2 := ((Boxed.new (w.alloc (.cells #[.slice none 0 0] 23)) 3 (.int .i64 0)).alloc (.cells #[.int .i64 0] 24)).alloc (.cells #[.slice none 0 0] 23) |>.alloc (.cells #[.string s] 9)
    have b3 := (Boxed.new ((w.alloc (.cells #[.slice none 0 0] 23)).alloc (.cells #[.int .i64 0] 3)) 24 (.int .i64 0)).alloc (.cells #[.slice none 0 0] 23) |>.alloc (.cells #[.string s] 9)
    have b4 := (Boxed.new (((w.alloc (.cells #[.slice none 0 0] 23)).alloc (.cells #[.int .i64 0] 3)).alloc (.cells #[.int .i64 0] 24)) 23 (.slice none 0 0)).alloc (.cells #[.string s] 9)
    simp only [World.size_alloc] at b2 b3 b4
    exact ⟨⟨b1, b2, b3⟩, ⟨_, b4, World.ownsRow_nil _ _ _ _⟩, (fun x hx => by cases hx), (by repeat (first | with_reducible exact Below.refl _ _ | (with_reducible refine Below.alloc ?_ (by first | omega | (simp [go_sem] <;> omega)) _) | (with_reducible refine Below.drew ?_) | (with_reducible refine Below.drewN ?_ _) | (with_reducible refine Below.grow ?_ (by first | omega | (simp [go_sem] <;> omega)) _) | (with_reducible refine Below.setCell ?_ (by first | omega | (simp [go_sem] <;> omega)) _)))⟩
  case hiter =>
    intro o1 o2
    have b5 := (Boxed.new ((((w.alloc (.cells #[.slice none 0 0] 23)).alloc (.cells #[.int .i64 0] 3)).alloc (.cells #[.int .i64 0] 24)).alloc (.cells #[.slice none 0 0] 23)) 9 (.string s)).alloc o1 |>.alloc o2
    simp only [World.size_alloc] at b5
    exact pieces1_iter s _ _ _ b5 (by omega) (by omega)
  case hround =>
    rintro l pre ⟨kd, xa, xt, xe⟩ A hx ⟨_, _, _, hBA⟩ hsz
    simp only [LE.vals]
    gi_wp2
    refine ⟨(Turned.refl _ _).alloc _, fun A2 ht hI2 hs2 => ?_⟩
    have hx2 : A2.heap[A.heap.size]? = some (.cells #[.int .i64 kd, .int .i64 xa, .string ⟨xt.toArray⟩] 30) := (ht.block _ (by simp) (by omega)).trans (World.alloc_heap_new A _)
    have c0 : A2.cell? ⟨A.heap.size, 0, none⟩ = some (.int .i64 kd) := by simp [World.cell?, hx2]
    have c1 : A2.cell? ⟨A.heap.size, 1, none⟩ = some (.int .i64 xa) := by simp [World.cell?, hx2]
    have c2 : A2.cell? ⟨A.heap.size, 2, none⟩ = some (.string ⟨xt.toArray⟩) := by simp [World.cell?, hx2]
    clear hx2 ht
    obtain ⟨⟨b1, b2, b3⟩, ⟨v, bv, ho⟩, he, hB⟩ := hI2
    have d1 := b1.cell
    have d2 := b2.cell
    have d3 := b3.cell
    have d4 := bv.cell
    have e1 := b1.frozen
    have e2 := b2.frozen
    have e3 := b3.frozen
    have hxe := yldL_err 0 s.data.toList _ (hx.subset (List.mem_append_right _ (List.mem_singleton.2 rfl)))
    simp only at hxe
    have HX := Lib.hid hx
    have HE := Lib.hid he
    have HB := Lib.hid hB
    have hlen : pre.length ≤ 1000000000 := by
      have h1 := hx.length_le
      have h2 := yldL_len 0 s.data.toList
      rw [len_data] at h2
      simp at h1; omega
    have hs3 : w.heap.size + 8 ≤ A2.heap.size := by rw [hs2]; simp; omega
    clear hx he hB hs2
    rcases hxe with rfl | rfl
    · simp only [Int.natCast_zero]
      gi_wp2_with (gi_at_builtin; go_loud (refine appendIn_turn rfl _ _ 23 rfl lex_row (w.heap.size + 7) rfl (ho.alloc _) (by simp; omega) ⟨_, 0, none⟩ 0 1 [.int .i64 kd, .int .i64 xa, .string ⟨xt.toArray⟩] rfl rfl (new_cells (c := #[.int .i64 kd, .int .i64 xa, .string ⟨xt.toArray⟩]) (by simp [go_sem])) (by simp [Value.oneCell']) (by unfold maxLen; omega) (by omega) ?_); intro g cap W' ho' ht'; have bv' := ht'.boxed (bv.alloc _) (by omega); have d5 := bv'.cell; have e5 := bv'.frozen)
      have hT : Turned (fun k => w.heap.size ≤ k ∧ k < w.heap.size + 4 ∨ w.heap.size + 7 ≤ k) A2 (W'.setCell ⟨w.heap.size + 1 + 1 + 1, 0, none⟩ (.slice (some ⟨g, 0, none⟩) (pre.length + 0 + 1) cap)) :=
        (((Turned.refl _ _).alloc _).trans (ht'.mono fun k hk => Or.inr hk)).setCell (Or.inr (by show _ ∨ _; simp <;> omega)) _
      refine ⟨hT, ⟨(ht'.boxed (b1.alloc _) (by omega)).other (by omega) _, (ht'.boxed (b2.alloc _) (by omega)).other (by omega) _, (ht'.boxed (b3.alloc _) (by omega)).other (by omega) _⟩, ⟨_, bv'.set _, ?_⟩, ?_, HB.out.trans (hT.below HB.out.size (fun k hk => by rcases hk with hk | hk <;> omega))⟩
      · have h1 := (Turned.setCell (pv := fun k => k = w.heap.size + 1 + 1 + 1) (Turned.refl _ W') (p := ⟨w.heap.size + 1 + 1 + 1, 0, none⟩) (Or.inr rfl) (.slice (some ⟨g, 0, none⟩) (pre.length + 0 + 1) cap)).own ho' (fun k hk => by omega)
        rw [List.map_append, List.map_singleton, lxCells_snoc, List.length_append]
        exact h1
      · intro y hy
        rcases List.mem_append.1 hy with hy | hy
        · exact HE.out y hy
        · rw [List.mem_singleton] at hy; subst hy; rfl
    · simp only [Int.cast_ofNat_Int]
      gi_wp2
      have hmx : Try.prog.follows .mixedOrders = true := by kernel_rfl
      gi_region_with_o (fail)
      all_goals gi_wp2
      all_goals
        have hT : Turned (fun k => w.heap.size ≤ k ∧ k < w.heap.size + 4 ∨ w.heap.size + 7 ≤ k) A2 (((A2.setCell ⟨w.heap.size, 0, none⟩ (.slice none 0 0)).setCell ⟨w.heap.size + 1, 0, none⟩ (.int .i64 xa)).setCell ⟨w.heap.size + 1 + 1, 0, none⟩ (.int .i64 2)).drew :=
          ((((Turned.refl _ _).setCell (Or.inr (by show _ ∨ _; simp <;> omega)) _).setCell (Or.inr (by show _ ∨ _; simp <;> omega)) _).setCell (Or.inr (by show _ ∨ _; simp <;> omega)) _).drew
        exact ⟨hT, rfl, ((b1.set _).other (by omega) _).other (by omega) _, ⟨pre, ⟨kd, xa, xt, 2⟩, rfl, HE.out, by simp, ((b2.other (by omega) _).set _).other (by omega) _, ((b3.other (by omega) _).other (by omega) _).set _⟩, HB.out.trans (hT.below HB.out.size (fun k hk => by rcases hk with hk | hk <;> omega))⟩
  case hdone =>
    rintro W ⟨⟨b1, b2, b3⟩, ⟨v, bv, ho⟩, he, hB⟩ hK
    have d1 := b1.cell
    have d2 := b2.cell
    have d3 := b3.cell
    have d4 := bv.cell
    have e1 := b1.frozen
    have e2 := b2.frozen
    have e3 := b3.frozen
    have hrd := Rd.own ho
    obtain ⟨_, _, A', c', hv, _⟩ := hrd
    subst hv
    gi_wp2
    have hT : Turned (fun k => w.heap.size ≤ k ∧ k < w.heap.size + 3) W (((W.setCell ⟨w.heap.size, 0, none⟩ (.slice A' (yldL 0 s.data.toList).length c')).setCell ⟨w.heap.size + 1, 0, none⟩ (.int .i64 0)).setCell ⟨w.heap.size + 1 + 1, 0, none⟩ (.int .i64 0)) :=
      (((Turned.refl _ _).setCell (Or.inr (by show _ ∧ _; simp <;> omega)) _).setCell (Or.inr (by show _ ∧ _; simp <;> omega)) _).setCell (Or.inr (by show _ ∧ _; simp <;> omega)) _
    have hK2 := (hT.block (w.heap.size + 5) (Array.getElem?_eq_some_iff.1 hK).1 (by omega)).trans hK
    have f1 := ((b1.set (.slice A' (yldL 0 s.data.toList).length c')).other (B' := w.heap.size + 1) (by omega) (.int .i64 0)).other (B' := w.heap.size + 1 + 1) (by omega) (.int .i64 0)
    have f2 := ((b2.other (B' := w.heap.size) (by omega) (.slice A' (yldL 0 s.data.toList).length c')).set (.int .i64 0)).other (B' := w.heap.size + 1 + 1) (by omega) (.int .i64 0)
    have f3 := ((b3.other (B' := w.heap.size) (by omega) (.slice A' (yldL 0 s.data.toList).length c')).other (B' := w.heap.size + 1) (by omega) (.int .i64 0)).set (.int .i64 0)
    have ho2 := hT.own ho (fun k hk => by omega)
    have hB2 := hB.trans (hT.below hB.size (fun k hk => by omega))
    clear b1 b2 b3 bv ho hB hK hT d1 d2 d3 d4 e1 e2 e3
    generalize (((W.setCell ⟨w.heap.size, 0, none⟩ (.slice A' (yldL 0 s.data.toList).length c')).setCell ⟨w.heap.size + 1, 0, none⟩ (.int .i64 0)).setCell ⟨w.heap.size + 1 + 1, 0, none⟩ (.int .i64 0)) = V at *
    have hT : Turned (fun k => k = w.heap.size + 5) V (V.putObj (w.heap.size + 5) (.deferred none)) := Turned.putObj (pv := fun k => k = w.heap.size + 5) (Turned.refl _ _) (Or.inr rfl) _
    have g1 := (hT.boxed f1 (by omega)).cell
    have g2 := (hT.boxed f2 (by omega)).cell
    have g3 := (hT.boxed f3 (by omega)).cell
    refine ⟨by simp, .inl ⟨_, _, rfl, run_takeDeferred hK2, ?_⟩⟩
    refine ⟨.tuple #[.slice A' (yldL 0 s.data.toList).length c', .int .i64 0, .int .i64 0], ?_, ⟨.slice A' (yldL 0 s.data.toList).length c', hB2.trans (hT.below hB2.size (fun k hk => by omega)), ?_⟩⟩
    · simp [results, Try.results10, go_sem, g1, g2, g3]
    · rw [scanL_yld, toSR_ok he]
      refine ⟨rfl, ?_⟩
      rw [List.length_map]
      exact Rd.own (hT.own ho2 (fun k hk => by omega))
  case hstop =>
    rintro c pre x W hx ⟨rfl, b1, ⟨p, y, hp, he, hne, b2, b3⟩, hB⟩ hK
    gi_wp2
    have hT : Turned (fun k => k = w.heap.size + 5) W (W.putObj (w.heap.size + 5) (.deferred none)) := Turned.putObj (pv := fun k => k = w.heap.size + 5) (Turned.refl _ _) (Or.inr rfl) _
    have g1 := (hT.boxed b1 (by omega)).cell
    have g2 := (hT.boxed b2 (by omega)).cell
    have g3 := (hT.boxed b3 (by omega)).cell
    have h2 : y.err = 2 := by
      rcases yldL_err 0 s.data.toList y (hx.subset (by rw [hp]; simp)) with h | h
      · exact absurd h hne
      · exact h
    rw [h2] at g3
    refine ⟨by simp, .inl ⟨_, _, rfl, run_takeDeferred hK, ?_⟩⟩
    refine ⟨.tuple #[.slice none 0 0, .int .i64 y.at_, .int .i64 2], ?_, ⟨.slice none 0 0, hB.trans (hT.below hB.size (fun k hk => by omega)), ?_⟩⟩
    · simp [results, Try.results10, go_sem, g1, g2, g3]
    · rw [scanL_yld, toSR_bad (hp ▸ hx) he hne]
end Go.Proofs.Ytglnadikhcidnaa
