/- The walk of Parse: pictures, collected. -/
import Derived.Test.YtgoioaobknjmcaaDoorSrcJ
namespace Go.Proofs.YtgoioaobknjmcaaDoor
open Go.RowKit Go.Shelf
attribute [local go_sem] Oper.semAt_some
theorem src_row : SlT Tryd.prog 24 28 (.agg #[.string ⟨#[]⟩, .string ⟨#[]⟩]) 2 32 := ⟨by kernel_rfl, by kernel_rfl, by kernel_rfl, by decide⟩
def Pic.cells (p : Pic) : List Value := [sv p.url, sv p.size]
def picCells (l : List Pic) : List Value := l.flatMap Pic.cells
abbrev ColI (pv : Nat → Prop) (w : World) := CollT pv w w.heap.size (w.heap.size + 3) 24 28 2 Pic.cells
set_option maxRecDepth 100000 in
set_option maxHeartbeats 4000000 in
theorem appendSeq_any (gf : Nat) (lb : Array Value) (xs : List Pic) (pv : Nat → Prop) (w : World) (hpv : ∀ k, pv k → k < w.heap.size) (eg : Enters Tryd.prog gf) (hlen : xs.length ≤ 140737488355)
    (hiter : ∀ W bw, Turned (fun _ => False) w W → (∀ k, bw k → w.heap.size ≤ k) → IterAt Tryd.prog gf lb (fun p => #[Pic.agg p]) pv bw xs W) :
    Calls Tryd.prog 29 #[.slice none 0 0, .func (.func gf) #[] lb] w fun e w' => ∃ v, e = .returned v ∧ Turned pv w w' ∧ w'.ownsRow (w.heap.size + 3) 28 2 v xs.length (picCells xs) := by
  refine (callsIn_wide (n := 0)).1 ?_
  refine callsIn_of_wp_marks (n := 0) Tryd.func29 rfl trivial ?_ rfl
  simp only [Tryd.ntmps29, List.size_toArray, List.length_cons, List.length_nil, Nat.reduceAdd, Nat.reduceSub, Array.replicate_succ, Array.replicate_zero, List.push_toArray, List.append_toArray, List.nil_append, List.cons_append]
  have HI := Lib.hid hiter
  clear hiter
  gi_wp2
  refine wp_range (B := w.heap.size + 1) (by simp) rfl eg (encs := fun p => #[Pic.agg p]) (fun _ => rfl) (xs := xs) pv
    (fun k => k = w.heap.size ∨ w.heap.size + 3 ≤ k) (by intro k hk; have := hpv k hk; omega) (by intro k hk; omega) (ColI pv w) (fun _ _ _ => False) ?hI ?hIx ?h0 ?hiter ?hround ?hdone ?hstop
  case hI =>
    intro pre A C h ht
    exact h.turn ht (by intro hk; rcases hk with hk | hk; have := hpv _ hk; omega; omega) (by intro k hk; rcases hk with hk | hk; have := hpv _ hk; omega; omega) (by intro k hk hl; rcases hk with hk | hk; exact hk; omega)
  case hIx => intro c pre A C h _; exact h.elim
  case h0 => exact ⟨⟨_, Boxed.new w 24 (.slice none 0 0), World.ownsRow_nil _ _ _ _⟩, (Turned.refl _ _).alloc _⟩
  case hiter =>
    intro o1 o2
    exact HI.out _ _ (((Turned.refl _ _).alloc _).alloc _ |>.alloc _) (by intro k hk; omega)
  case hround =>
    rintro l pre ⟨xu, xz⟩ A hx ⟨_, hBA⟩ hsz
    simp only [Pic.agg, sv]
    gi_wp2
    refine ⟨(Turned.refl _ _).alloc _, fun A2 ht hI2 hs2 => ?_⟩
    have hx2 : A2.heap[A.heap.size]? = some (.cells #[.string ⟨xu.toArray⟩, .string ⟨xz.toArray⟩] 28) := (ht.block _ (by simp) (by omega)).trans (World.alloc_heap_new A _)
    have c0 : A2.cell? ⟨A.heap.size, 0, none⟩ = some (.string ⟨xu.toArray⟩) := by simp [World.cell?, hx2]
    have c1 : A2.cell? ⟨A.heap.size, 1, none⟩ = some (.string ⟨xz.toArray⟩) := by simp [World.cell?, hx2]
    obtain ⟨⟨v, bv, ho⟩, hB⟩ := hI2
    have d4 := bv.cell
    have e4 := bv.frozen
    have HX := Lib.hid hx
    have HB := Lib.hid hB
    have hlen2 : pre.length + 1 ≤ 140737488355 := by
      have h1 := hx.length_le
      simp at h1; omega
    have hs3 : w.heap.size + 3 ≤ A2.heap.size := by rw [hs2]; simp; omega
    clear hx hB hs2 ht hx2
    gi_wp2_with (gi_at_builtin; go_loud (refine appendIn_turn rfl _ _ 24 rfl src_row (w.heap.size + 3) rfl (ho.alloc _) (by simp; omega) ⟨_, 0, none⟩ 0 1 (Pic.cells ⟨xu, xz⟩) rfl rfl (new_cells (c := #[sv xu, sv xz]) (by simp [go_sem])) (by simp [Pic.cells, sv, Value.oneCell']) (by unfold maxLen; omega) (by omega) ?_); intro g cap W' ho' ht'; have bv' := ht'.boxed (bv.alloc _) (by omega); have d5 := bv'.cell; have e5 := bv'.frozen)
    have h3 := CollT.put (x := (⟨xu, xz⟩ : Pic)) (HB.out.alloc _) (bv.alloc _) ho' rfl ht' (by omega) (Nat.le_refl _)
    exact ⟨(((Turned.refl _ _).alloc _).trans h3.1), h3.2⟩
  case hdone =>
    rintro W ⟨⟨v, bv, ho⟩, hB⟩ hK
    have d1 := bv.cell
    gi_wp2
    have hT : Turned (fun k => k = w.heap.size + 1) W (W.putObj (w.heap.size + 1) (.deferred none)) := Turned.putObj (pv := fun k => k = w.heap.size + 1) (Turned.refl _ _) (Or.inr rfl) _
    refine ⟨by simp, .inl ⟨_, _, rfl, run_takeDeferred hK, ?_⟩⟩
    exact ⟨v, by simp [results, Tryd.results29, go_sem], v, rfl, hB.next hT (fun k hk => by omega), hT.own ho (fun k hk => by omega)⟩
  case hstop => intro c pre x W _ h; exact h.elim
theorem collect_any (gf : Nat) (lb : Array Value) (xs : List Pic) (pv : Nat → Prop) (w : World) (hpv : ∀ k, pv k → k < w.heap.size) (eg : Enters Tryd.prog gf) (hlen : xs.length ≤ 140737488355)
    (hiter : ∀ W bw, Turned (fun _ => False) w W → (∀ k, bw k → w.heap.size ≤ k) → IterAt Tryd.prog gf lb (fun p => #[Pic.agg p]) pv bw xs W) :
    Calls Tryd.prog 17 #[.func (.func gf) #[] lb] w fun e w' => ∃ v, e = .returned v ∧ Turned pv w w' ∧ w'.ownsRow (w.heap.size + 3) 28 2 v xs.length (picCells xs) := by
  have HA := Lib.hid (appendSeq_any gf lb xs pv w hpv eg hlen hiter)
  clear hiter
  go_enter Tryd.func17, Tryd.ntmps17
  go_wp2_with (go_at_call 29; (with_reducible refine HA.out.mono ?_); rintro e w' ⟨v, rfl, ht, ho⟩; have HT := Lib.hid ht; have HO := Lib.hid ho; clear ht ho)
  go_ret
  exact ⟨_, rfl, HT.out, HO.out⟩
theorem pic_few : ∀ (n : Nat) (l : Bs), l.length ≤ n → (picL l).length ≤ l.length := by
  intro n
  induction n with
  | zero => intro l h; obtain rfl : l = [] := List.eq_nil_of_length_eq_zero (by omega); simp [pic_nil]
  | succ n ih =>
    intro l h
    cases l with
    | nil => simp [pic_nil]
    | cons c r =>
      cases hs : sepB c
      · have h1 := tail_len (r := r) (sep_sp hs)
        have hr : r.length ≤ n := by simpa using h
        rw [pic_round hs]
        split
        · have := ih _ (Nat.le_trans h1 hr); simp at *; omega
        · have h2 : (((c :: r).dropWhile (fun c => !spB c)).drop (szL 0 ((c :: r).dropWhile (fun c => !spB c)))).length ≤ r.length := by rw [List.length_drop]; omega
          have := ih _ (Nat.le_trans h2 hr); simp at *; omega
      · rw [pic_sep hs]; have := ih r (by simpa using h); simp; omega
theorem sources_any (s : Bs) (W : World) : Calls Tryd.prog 18 #[.string ⟨s.toArray⟩] W fun e w' => e = .returned (.func (.func 31) #[] #[.pointer (some ⟨W.heap.size, 0, none⟩), .pointer (some ⟨W.heap.size + 1, 0, none⟩)]) ∧ (W.alloc (.cells #[.string ⟨s.toArray⟩] 9)).alloc (.cells #[.func (.func 30) #[] #[]] 37) = w' := by
  go_enter Tryd.func18, Tryd.ntmps18
  go_wp2
  go_ret
  exact ⟨rfl, rfl⟩
set_option maxHeartbeats 800000 in
theorem parse_any (s : Bs) (w : World) (hm : s.length ≤ 140737488355) : Calls Tryd.prog 9 #[.string ⟨s.toArray⟩] w (RetS w (picL s).length 2 (picCells (picL s))) := by
  have HS := Lib.hid (sources_any s)
  have hfew := pic_few _ s (Nat.le_refl _)
  have b1 := (Boxed.new w 9 (.string ⟨s.toArray⟩)).alloc (.cells #[.func (.func 30) #[] #[]] 37)
  have b2 := Boxed.new (w.alloc (.cells #[.string ⟨s.toArray⟩] 9)) 37 (.func (.func 30) #[] #[])
  rw [World.size_alloc] at b2
  have HC := Lib.hid (collect_any 31 #[.pointer (some ⟨w.heap.size, 0, none⟩), .pointer (some ⟨w.heap.size + 1, 0, none⟩)] (picL s) (fun k => k = w.heap.size)
    ((w.alloc (.cells #[.string ⟨s.toArray⟩] 9)).alloc (.cells #[.func (.func 30) #[] #[]] 37)) (by intro k hk; simp; omega) (enters_of Tryd.func31 (by kernel_rfl) rfl) (by omega)
    (fun W bw ht hb => sources2_iter s w.heap.size bw W (ht.boxed b1 (fun h => h)) (ht.boxed b2 (fun h => h)) (by intro h; have := hb _ h; simp at this; omega) (by intro h; have := hb _ h; simp at this; omega) hm))
  go_enter Tryd.func9, Tryd.ntmps9
  go_wp2_with (first | (go_at_call 18; (with_reducible refine (HS.out _).mono ?_); rintro e w' ⟨rfl, rfl⟩) | (go_at_call 17; (with_reducible refine HC.out.mono ?_); rintro e w' ⟨v, rfl, ht, ho⟩; have HT := Lib.hid ht; have HO := Lib.hid ho; clear ht ho))
  go_ret
  exact RetS.own ((Below.refl _ _).alloc (Nat.le_refl _) _ |>.alloc (by simp) _ |>.trans (HT.out.below (by simp; omega) (by intro k hk; omega))) HO.out
end Go.Proofs.YtgoioaobknjmcaaDoor
