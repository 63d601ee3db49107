/- The walk of Scan: a style's pieces, collected. -/
import Derived.Test.YtgcccpdadponiaaGreatDoorCssJ
namespace Go.Proofs.YtgcccpdadponiaaGreatDoor
open Go.RowKit Go.Shelf
attribute [local go_sem] Oper.semAt_some
theorem css_row : SlT Tryz.prog 22 37 (.agg #[.int .i64 0, .string ⟨#[]⟩, .int .i64 0, .string ⟨#[]⟩]) 4 48 := ⟨by kernel_rfl, by kernel_rfl, by kernel_rfl, by decide⟩
def Css.cells (x : Css) : List Value := [.int .i64 x.kind, sv x.text, .int .i64 x.num, sv x.unit]
def cssCells (l : List Css) : List Value := l.flatMap Css.cells
theorem scan_few : ∀ (f : Nat) (s : Bs), s.length < f → (cssF f s).length ≤ s.length := by
  intro f
  induction f with
  | zero => intro s h; omega
  | succ f ih =>
    intro s h
    simp only [cssF]
    have hl := blk_len s 0
    cases hb : blkM 0 s with
    | nil => simp
    | cons c r =>
      have hk := (piece_kinds (s := c :: r) (by simp) (x := (pieceC (c :: r)).1) (n := (pieceC (c :: r)).2) rfl).1
      rw [hb] at hl
      have he : (c :: r).length = r.length + 1 := rfl
      have := ih ((c :: r).drop (pieceC (c :: r)).2) (by rw [List.length_drop]; omega)
      rw [List.length_drop] at this
      simp only [List.length_cons]
      omega
abbrev ScanI (w : World) := CollI w w.heap.size (w.heap.size + 4) 22 37 4 Css.cells
theorem pieces0_any (s : ByteArray) (w : World) : Calls Tryz.prog 45 #[.string s] w fun e w' => e = .returned (.func (.func 68) #[] #[.pointer (some ⟨w.heap.size, 0, none⟩)]) ∧ w.alloc (.cells #[.string s] 9) = w' := by
  go_enter Tryz.func45, Tryz.ntmps45
  go_wp2
  go_ret
  exact ⟨rfl, rfl⟩
set_option maxRecDepth 100000 in
set_option maxHeartbeats 4000000 in
theorem scanO_any (s : Bs) (w : World) (hw : Mx w) (hm : s.length ≤ 1000000000) : Calls Tryz.prog 22 #[.string ⟨s.toArray⟩] w (RetO w (cssL s).length 4 37 (cssCells (cssL s))) := by
  refine (callsIn_wide (n := 0)).1 ?_
  refine callsIn_of_wp_marks (n := 0) Tryz.func22 rfl trivial ?_ rfl
  simp only [Tryz.ntmps22, List.size_toArray, List.length_cons, List.length_nil, Nat.reduceAdd, Nat.reduceSub, Array.replicate_succ, Array.replicate_zero, List.push_toArray, List.append_toArray, List.nil_append, List.cons_append]
  have hfew := scan_few _ s (Nat.lt_succ_self _)
  change (cssL s).length ≤ _ at hfew
  have h1 := hw.lt
  have HW := Lib.hid hw
  gi_wp2_with (gi_at_call 45; refine (callsIn_wide.2 (pieces0_any _ _)).mono ?_; rintro e w' ⟨rfl, rfl⟩)
  refine wp_range (B := w.heap.size + 2) (by simp) rfl (enters_of Tryz.func68 (by kernel_rfl) rfl) (encs := fun x => #[Css.agg x]) (fun _ => rfl) (xs := cssL s) (fun k => k = w.heap.size + 1)
    (fun k => k = w.heap.size ∨ w.heap.size + 4 ≤ k) (by intro k hk; omega) (by intro k hk; omega) (ScanI w) (fun _ _ _ => False) ?hI ?hIx ?h0 ?hiter ?hround ?hdone ?hstop
  case hI =>
    intro pre A C h ht
    exact h.turned ht (by omega) (by intro k hk; omega) (by intro k hk; omega)
  case hIx => intro c pre A C h _; exact h.elim
  case h0 => exact ⟨⟨_, (Boxed.new w 22 (.slice none 0 0)).alloc (.cells #[.string ⟨s.toArray⟩] 9), World.ownsRow_nil _ _ _ _⟩, (by repeat (first | with_reducible exact Below.refl _ _ | (with_reducible refine Below.alloc ?_ (by first | omega | (simp [go_sem] <;> omega)) _) | (with_reducible refine Below.drew ?_) | (with_reducible refine Below.drewN ?_ _) | (with_reducible refine Below.grow ?_ (by first | omega | (simp [go_sem] <;> omega)) _) | (with_reducible refine Below.setCell ?_ (by first | omega | (simp [go_sem] <;> omega)) _)))⟩
  case hiter =>
    intro o1 o2
    have b5 := (Boxed.new (w.alloc (.cells #[.slice none 0 0] 22)) 9 (.string ⟨s.toArray⟩)).alloc o1 |>.alloc o2
    simp only [World.size_alloc] at b5
    exact pieces1_iter s _ _ _ b5 (by omega) (by omega) (by omega) (Mx.turned (pv := fun _ => False) HW.out (by repeat (first | with_reducible exact Turned.refl _ _ | with_reducible assumption | with_reducible refine Turned.alloc ?_ _ | with_reducible refine Turned.grow ?_ _ | with_reducible refine Turned.drew ?_ | (with_reducible refine Turned.setCell ?_ (by first | (refine Or.inr ?_; show _ ∨ _; simp <;> omega) | (refine Or.inr ?_; show _ = _; rfl) | (refine Or.inl ?_; simp [go_sem] <;> omega)) _))) (fun h => h)) hm
  case hround =>
    rintro l pre x A hx ⟨_, hBA⟩ hsz
    have HAx : Hid (#[Css.agg x] = #[.agg #[.int .i64 x.kind, .string ⟨x.text.toArray⟩, .int .i64 x.num, .string ⟨x.unit.toArray⟩]]) := rfl
    rw [HAx.out]
    gi_wp2
    refine ⟨(Turned.refl _ _).alloc _, fun A2 ht hI2 hs2 => ?_⟩
    have hx2 : A2.heap[A.heap.size]? = some (.cells #[.int .i64 x.kind, .string ⟨x.text.toArray⟩, .int .i64 x.num, .string ⟨x.unit.toArray⟩] 37) := (ht.block _ (by simp) (by omega)).trans (World.alloc_heap_new A _)
    have c0 : A2.cell? ⟨A.heap.size, 0, none⟩ = some (.int .i64 x.kind) := by simp [World.cell?, hx2]
    have c1 : A2.cell? ⟨A.heap.size, 1, none⟩ = some (.string ⟨x.text.toArray⟩) := by simp [World.cell?, hx2]
    have c2 : A2.cell? ⟨A.heap.size, 2, none⟩ = some (.int .i64 x.num) := by simp [World.cell?, hx2]
    have c3 : A2.cell? ⟨A.heap.size, 3, none⟩ = some (.string ⟨x.unit.toArray⟩) := by simp [World.cell?, hx2]
    obtain ⟨⟨v, bv, ho⟩, hB⟩ := hI2
    have d4 := bv.cell
    have e4 := bv.frozen
    have HX := Lib.hid hx
    have HB := Lib.hid hB
    have hlen2 : pre.length + 1 ≤ 1000000000 := by
      have h1 := hx.length_le
      simp at h1; omega
    have hs3 : w.heap.size + 4 ≤ A2.heap.size := by rw [hs2]; simp; omega
    clear hx hB hs2 ht hx2
    gi_wp2_with (gi_at_builtin; go_loud (refine appendIn_turn rfl _ _ 22 rfl css_row (w.heap.size + 4) rfl (ho.alloc _) (by simp; omega) ⟨_, 0, none⟩ 0 1 (Css.cells x) rfl rfl (new_cells (c := #[.int .i64 x.kind, sv x.text, .int .i64 x.num, sv x.unit]) (by simp [go_sem])) (by simp [Css.cells, sv, Value.oneCell']) (by unfold maxLen; omega) (by omega) ?_); intro g cap W' ho' ht'; have bv' := ht'.boxed (bv.alloc _) (by omega); have d5 := bv'.cell; have e5 := bv'.frozen)
    have h3 := CollI.put (x := x) (HB.out.trans ((Below.refl _ _).alloc HB.out.size _)) (bv.alloc _) ho' rfl ht' (by omega) (Nat.le_refl _)
    exact ⟨(((Turned.refl _ _).alloc _).trans h3.1), h3.2⟩
  case hdone =>
    rintro W ⟨⟨v, bv, ho⟩, hB⟩ hK
    have d1 := bv.cell
    gi_wp2
    have hT : Turned (fun k => k = w.heap.size + 2) W (W.putObj (w.heap.size + 2) (.deferred none)) := Turned.putObj (pv := fun k => k = w.heap.size + 2) (Turned.refl _ _) (Or.inr rfl) _
    refine ⟨by simp, .inl ⟨_, _, rfl, run_takeDeferred hK, ?_⟩⟩
    refine ⟨v, by simp [results, Tryz.results22, go_sem], ?_⟩
    exact RetO.own (hB.trans (hT.below hB.size (fun k hk => by omega))) (hT.own ho (fun k hk => by omega)) (by omega)
  case hstop => intro c pre x W _ h; exact h.elim
theorem scan_any (s : Bs) (w : World) (hw : Mx w) (hm : s.length ≤ 1000000000) : Calls Tryz.prog 22 #[.string ⟨s.toArray⟩] w (RetS w (cssL s).length 4 (cssCells (cssL s))) := (scanO_any s w hw hm).mono fun _ _ h => h.s
end Go.Proofs.YtgcccpdadponiaaGreatDoor
