/- The walk of a text's words, as a list. -/
import Derived.Test.YtgoioaobknjmcaaDoorSrcF
namespace Go.Proofs.YtgoioaobknjmcaaDoor
open Go.RowKit Go.Shelf
attribute [local go_sem] Oper.semAt_some
theorem strs_row : SlT Tryd.prog 39 9 (.string ⟨#[]⟩) 1 16 := ⟨by kernel_rfl, by kernel_rfl, by kernel_rfl, by decide⟩
theorem fields0_any (s : ByteArray) (w : World) : Calls Tryd.prog 52 #[.string s] w fun e w' => e = .returned (.func (.func 59) #[] #[.pointer (some ⟨w.heap.size, 0, none⟩)]) ∧ w.alloc (.cells #[.string s] 9) = w' := by
  go_enter Tryd.func52, Tryd.ntmps52
  go_wp2
  go_ret
  exact ⟨rfl, rfl⟩
theorem words_few (l : Bs) : (wordsL l).length ≤ l.length := by
  suffices H : ∀ l acc, (wordsA acc l).length ≤ l.length + (if acc = [] then 0 else 1) by simpa [wordsL] using H l []
  intro l
  induction l with
  | nil => intro acc; rw [wordsA]; split <;> simp
  | cons c l ih =>
    intro acc
    rw [wordsA]
    have h1 := ih []
    have h2 := ih (acc ++ [c])
    rw [if_pos rfl] at h1
    rw [if_neg (by simp)] at h2
    split
    · split <;> simp <;> omega
    · simp only [List.length_cons]; split <;> omega
def svL (u : Bs) : List Value := [sv u]
theorem svL_map (us : List Bs) : us.flatMap svL = us.map sv := by
  induction us with
  | nil => rfl
  | cons u us ih => rw [List.flatMap_cons, ih]; rfl
abbrev FieldsI (w : World) := CollI w w.heap.size (w.heap.size + 4) 39 9 1 svL
set_option maxRecDepth 100000 in
set_option maxHeartbeats 4000000 in
theorem fields_any (s : ByteArray) (w : World) (hm : s.size ≤ 140737488355) : Calls Tryd.prog 34 #[.string s] w (RetS w (wordsL s.data.toList).length 1 ((wordsL s.data.toList).map sv)) := by
  refine (callsIn_wide (n := 0)).1 ?_
  refine callsIn_of_wp_marks (n := 0) Tryd.func34 rfl trivial ?_ rfl
  simp only [Tryd.ntmps34, List.size_toArray, List.length_cons, List.length_nil, Nat.reduceAdd, Nat.reduceSub, Array.replicate_succ, Array.replicate_zero, List.push_toArray, List.append_toArray, List.nil_append, List.cons_append]
  have hfew := words_few s.data.toList
  rw [len_data] at hfew
  gi_wp2_with (gi_at_call 52; refine (callsIn_wide.2 (fields0_any s _)).mono ?_; rintro e w' ⟨rfl, rfl⟩)
  refine wp_range (B := w.heap.size + 2) (by simp) rfl (enters_of Tryd.func59 (by kernel_rfl) rfl) (encs := fun u => #[sv u]) (fun _ => rfl) (xs := wordsL s.data.toList) (fun k => k = w.heap.size + 1)
    (fun k => k = w.heap.size ∨ w.heap.size + 4 ≤ k) (by intro k hk; omega) (by intro k hk; omega) (FieldsI w) (fun _ _ _ => False) ?hI ?hIx ?h0 ?hiter ?hround ?hdone ?hstop
  case hI =>
    intro pre A C h ht
    exact h.turned ht (by omega) (by intro k hk; omega) (by intro k hk; omega)
  case hIx => intro c pre A C h _; exact h.elim
  case h0 => exact ⟨⟨_, (Boxed.new w 39 (.slice none 0 0)).alloc (.cells #[.string s] 9), World.ownsRow_nil _ _ _ _⟩, (by repeat (first | with_reducible exact Below.refl _ _ | (with_reducible refine Below.alloc ?_ (by first | omega | (simp [go_sem] <;> omega)) _) | (with_reducible refine Below.drew ?_) | (with_reducible refine Below.drewN ?_ _) | (with_reducible refine Below.grow ?_ (by first | omega | (simp [go_sem] <;> omega)) _) | (with_reducible refine Below.setCell ?_ (by first | omega | (simp [go_sem] <;> omega)) _)))⟩
  case hiter =>
    intro o1 o2
    have b5 := (Boxed.new (w.alloc (.cells #[.slice none 0 0] 39)) 9 (.string s)).alloc o1 |>.alloc o2
    simp only [World.size_alloc] at b5
    exact fields1_iter s _ _ _ b5 (by omega) (by omega)
  case hround =>
    rintro l pre x A hx ⟨_, hBA⟩ hsz
    simp only [sv]
    gi_wp2
    refine ⟨Turned.refl _ _, fun A2 ht hI2 hs2 => ?_⟩
    obtain ⟨⟨v, bv, ho⟩, hB⟩ := hI2
    have d4 := bv.cell
    have e4 := bv.frozen
    have HX := Lib.hid hx
    have HB := Lib.hid hB
    have hlen : pre.length ≤ 140737488355 := by
      have h1 := hx.length_le
      simp at h1; omega
    have hs3 : w.heap.size + 4 ≤ A2.heap.size := by omega
    clear hx hB hs2 ht
    gi_wp2_with (gi_at_builtin; go_loud (refine appendIn_turn rfl _ _ 39 rfl strs_row (w.heap.size + 4) rfl (ho.alloc _) (by simp; omega) ⟨_, 0, none⟩ 0 1 (svL x) rfl rfl (new_cells (c := #[sv x]) (by simp [go_sem])) (by simp [svL, sv, Value.oneCell']) (by unfold maxLen; omega) (by omega) ?_); intro g cap W' ho' ht'; have bv' := ht'.boxed (bv.alloc _) (by omega); have d5 := bv'.cell; have e5 := bv'.frozen)
    have h3 := CollI.put (x := x) (HB.out.trans ((Below.refl _ _).alloc HB.out.size _)) (bv.alloc _) ho' rfl ht' (by omega) (Nat.le_refl _)
    exact ⟨(((Turned.refl _ _).alloc _).trans h3.1), h3.2⟩
  case hdone =>
    rintro W ⟨⟨v, bv, ho⟩, hB⟩ hK
    have d1 := bv.cell
    gi_wp2
    have hT : Turned (fun k => k = w.heap.size + 2) W (W.putObj (w.heap.size + 2) (.deferred none)) := Turned.putObj (pv := fun k => k = w.heap.size + 2) (Turned.refl _ _) (Or.inr rfl) _
    refine ⟨by simp, .inl ⟨_, _, rfl, run_takeDeferred hK, ?_⟩⟩
    refine ⟨v, by simp [results, Tryd.results34, go_sem], ?_⟩
    rw [← svL_map]
    exact RetS.own (hB.trans (hT.below hB.size (fun k hk => by omega))) (hT.own ho (fun k hk => by omega))
  case hstop => intro c pre x W _ h; exact h.elim
end Go.Proofs.YtgoioaobknjmcaaDoor
