/- The walks of values of styles: the steps that pieces tell. -/
import Derived.Test.YtgcccpdadponiaaGreatDoorValF
namespace Go.Proofs.YtgcccpdadponiaaGreatDoor
open Go.RowKit Go.Shelf
attribute [local go_sem] Oper.semAt_some
theorem handV_len : ∀ (n : Nat) (l : List Css), l.length ≤ n → (handV l).length ≤ l.length
  | 0, [], _ => by rw [handV_nil]; simp
  | _ + 1, [], _ => by rw [handV_nil]; simp
  | 0, _ :: _, h => by simp at h
  | n + 1, x :: l, h => by
    have h1 := rest_len x l
    simp only [List.length_cons] at h
    cases hf : fitT (x :: l)
    · rw [handV_no hf]; simp
    · rw [handV_yes hf]
      have := handV_len n (restT (x :: l)) (by omega)
      simp only [List.length_cons]; omega
theorem handV_all (l : List Css) : (handV l).all SB.ok = (handT l.length l).all (·.2) ∧ (handV l).map SB.st = (handT l.length l).map (·.1) := by
  unfold handV
  constructor
  · rw [List.all_map]; rfl
  · rw [List.map_map]; rfl
theorem stepsT_yes {l : List Css} (h : ∀ x ∈ handV l, x.ok = true) : stepsT l = if rightB ((handV l).map SB.st) then some ((handV l).map SB.st) else none := by
  have h1 : (handT l.length l).all (·.2) = true := by rw [← (handV_all l).1, List.all_eq_true]; exact h
  unfold stepsT
  rw [hand_parse l.length l (Nat.le_refl _), if_pos h1, ← (handV_all l).2]
theorem stepsT_no {l : List Css} {x : SB} (hx : x ∈ handV l) (h : x.ok = false) : stepsT l = none := by
  have h1 : (handT l.length l).all (·.2) = false := by
    rw [← (handV_all l).1, List.all_eq_false]
    exact ⟨x, hx, by simp [h]⟩
  unfold stepsT
  rw [hand_parse l.length l (Nat.le_refl _), if_neg (by simp [h1])]
/-- The end of a call that hands back steps, or none. -/
def RetT (w : World) (r : Option (List St)) (e : Ending) (w' : World) : Prop := ∃ v X, e = .returned (.tuple #[v, .bool r.isSome]) ∧ w' = w.grow X ∧ Sl (w.grow X) v (r.getD [])
theorem sl_nil (w : World) : Sl w (.slice none 0 0) [] := ⟨none, 0, rfl, by simp, .inl rfl⟩
theorem RetT.of {w w' : World} {v : Value} {r : Option (List St)} {b : Bool} (hb : Below w.heap.size w w') (hr : b = r.isSome) (hs : Sl w' v (r.getD [])) : RetT w r (.returned (.tuple #[v, .bool b])) w' := by
  obtain ⟨X, rfl⟩ := grow_of_below hb
  exact ⟨v, X, by rw [hr], rfl, hs⟩
def StepsI (w : World) (pre : List SB) (W : World) : Prop :=
  (Boxed W w.heap.size 29 (.slice none 0 0) ∧ Boxed W (w.heap.size + 1) 4 (.bool false)) ∧
  (∃ v, Boxed W (w.heap.size + 1 + 1) 29 v ∧ W.ownsRow (w.heap.size + 6) 58 3 v pre.length (cells3 (pre.map SB.st))) ∧ (∀ x ∈ pre, x.ok = true) ∧ Below w.heap.size w W
def StepsX (w : World) (c : Code) (pre : List SB) (W : World) : Prop :=
  c = .ret ∧ Boxed W w.heap.size 29 (.slice none 0 0) ∧ Boxed W (w.heap.size + 1) 4 (.bool false) ∧ (∃ x ∈ pre, x.ok = false) ∧ Below w.heap.size w W
set_option maxRecDepth 100000 in
set_option maxHeartbeats 2000000 in
theorem steps_any (A : Option Addr) (n c : Nat) (l : List Css) (w : World) (h : Rd w (.slice A n c) l.length 4 (cssCells l)) (hc : l.length ≤ c) (hp : ∀ x ∈ l, CssOk x) (hl : l.length ≤ 100000000) : Calls Tryz.prog 14 #[.slice A n c] w (RetT w (stepsT l)) := by
  have hn0 : n = l.length := by obtain ⟨_, _, _, _, he, _⟩ := h; cases he; rfl
  subst hn0
  have hA : l ≠ [] → ∀ b off s, A = some ⟨b, off, s⟩ → s = none ∧ b < w.heap.size := fun h0 b off s hA => by
    obtain ⟨_, _, _, _, he, h4⟩ := h
    cases he
    obtain ⟨b2, off2, h5, h6, _⟩ := h4 (List.length_pos_iff.2 h0)
    rw [hA] at h5; cases h5; exact ⟨rfl, h6⟩
  have hA0 : A = none → l = [] := fun h0 => by
    obtain ⟨_, _, _, _, he, h4⟩ := h
    cases he
    refine List.eq_nil_of_length_eq_zero (Nat.eq_zero_of_not_pos fun hp => ?_)
    obtain ⟨b2, off2, h5, h6, _⟩ := h4 hp
    rw [h0] at h5; cases h5
  have hmx : Tryz.prog.follows .mixedOrders = true := by kernel_rfl
  have HRd := Lib.hid h
  have HP := Lib.hid hp
  have HA := Lib.hid hA
  have HA0 := Lib.hid hA0
  clear h hp hA hA0
  refine (callsIn_wide (n := 0)).1 ?_
  refine callsIn_of_wp_marks (n := 0) Tryz.func14 rfl trivial ?_ rfl
  simp only [Tryz.ntmps14, List.size_toArray, List.length_cons, List.length_nil, Nat.reduceAdd, Nat.reduceSub, Array.replicate_succ, Array.replicate_zero, List.push_toArray, List.append_toArray, List.nil_append, List.cons_append]
  gi_wp2_with (gi_at_call 32; refine (callsIn_wide.2 (steps0_any A l.length c _)).mono ?_; rintro e w' ⟨rfl, rfl⟩)
  refine wp_range (B := w.heap.size + 4) (by simp) rfl (enters_of Tryz.func55 (by kernel_rfl) rfl) (encs := fun x : SB => #[x.st.val, .bool x.ok]) (fun _ => rfl) (xs := handV l) (fun k => k = w.heap.size + 3)
    (fun k => w.heap.size ≤ k ∧ k < w.heap.size + 3 ∨ w.heap.size + 6 ≤ k) (by intro k hk; omega) (by intro k hk; omega) (StepsI w) (StepsX w) ?hI ?hIx ?h0 ?hiter ?hround ?hdone ?hstop
  case hI =>
    rintro pre A C ⟨⟨b1, b2⟩, ⟨v, bv, ho⟩, he, hB⟩ ht
    refine ⟨⟨ht.boxed b1 (by omega), ht.boxed b2 (by omega)⟩, ⟨v, ht.boxed bv (by omega), ht.own ho (fun k hk => by omega)⟩, he, hB.trans (ht.below hB.size (fun k hk => by omega))⟩
  case hIx =>
    rintro c pre A C ⟨hc, b1, b2, h1, hB⟩ ht
    exact ⟨hc, ht.boxed b1 (by omega), ht.boxed b2 (by omega), h1, hB.trans (ht.below hB.size (fun k hk => by omega))⟩
  case h0 =>
    have b1 := (((Boxed.new w 29 (.slice none 0 0)).alloc (.cells #[.bool false] 4)).alloc (.cells #[.slice none 0 0] 29)).alloc (.cells #[.slice A l.length c] 22)
    have b2 := ((Boxed.new (w.alloc (.cells #[.slice none 0 0] 29)) 4 (.bool false)).alloc (.cells #[.slice none 0 0] 29)).alloc (.cells #[.slice A l.length c] 22)
    have b3 := (Boxed.new ((w.alloc (.cells #[.slice none 0 0] 29)).alloc (.cells #[.bool false] 4)) 29 (.slice none 0 0)).alloc (.cells #[.slice A l.length c] 22)
    simp only [World.size_alloc] at b2 b3
    exact ⟨⟨b1, b2⟩, ⟨_, b3, World.ownsRow_nil _ _ _ _⟩, (fun x hx => by cases hx), (by repeat (first | with_reducible exact Below.refl _ _ | (with_reducible refine Below.alloc ?_ (by first | omega | (simp [go_sem] <;> omega)) _) | (with_reducible refine Below.drew ?_) | (with_reducible refine Below.drewN ?_ _) | (with_reducible refine Below.grow ?_ (by first | omega | (simp [go_sem] <;> omega)) _) | (with_reducible refine Below.setCell ?_ (by first | omega | (simp [go_sem] <;> omega)) _)))⟩
  case hiter =>
    intro o1 o2
    have b5 := (Boxed.new (((w.alloc (.cells #[.slice none 0 0] 29)).alloc (.cells #[.bool false] 4)).alloc (.cells #[.slice none 0 0] 29)) 22 (.slice A l.length c)).alloc o1 |>.alloc o2
    simp only [World.size_alloc] at b5
    exact steps1_iter _ _ A c l _ b5 (by omega) (((((HRd.out.alloc _).alloc _).alloc _).alloc _).alloc _ |>.alloc _) (fun h0 b off s hA => by obtain ⟨h1, h2⟩ := HA.out h0 b off s hA; exact ⟨h1, by omega, by omega⟩) HA0.out hc HP.out (by omega)
  case hround =>
    rintro ll pre ⟨⟨k, xx, yy⟩, ok⟩ A hx ⟨_, _, _, hBA⟩ hsz
    simp only [St.val]
    gi_wp2
    refine ⟨(Turned.refl _ _).alloc _, fun A2 ht hI2 hs2 => ?_⟩
    have hx2 : A2.heap[A.heap.size]? = some (.cells #[.int .i64 k, .int .i64 xx, .int .i64 yy] 58) := (ht.block _ (by simp) (by omega)).trans (World.alloc_heap_new A _)
    have c0 : A2.cell? ⟨A.heap.size, 0, none⟩ = some (.int .i64 k) := by simp [World.cell?, hx2]
    have c1 : A2.cell? ⟨A.heap.size, 1, none⟩ = some (.int .i64 xx) := by simp [World.cell?, hx2]
    have c2 : A2.cell? ⟨A.heap.size, 2, none⟩ = some (.int .i64 yy) := by simp [World.cell?, hx2]
    clear hx2 ht
    obtain ⟨⟨b1, b2⟩, ⟨v, bv, ho⟩, he, hB⟩ := hI2
    have d1 := b1.cell
    have d2 := b2.cell
    have d4 := bv.cell
    have e1 := b1.frozen
    have e2 := b2.frozen
    have HX := Lib.hid hx
    have HE := Lib.hid he
    have HB := Lib.hid hB
    have hlen : pre.length ≤ 1000000000 := by
      have h1 := hx.length_le
      have h2 := handV_len l.length l (Nat.le_refl _)
      simp at h1; omega
    have hs3 : w.heap.size + 7 ≤ A2.heap.size := by rw [hs2]; simp; omega
    clear hx he hB hs2
    cases ok
    · gi_wp2
      have hT : Turned (fun k => w.heap.size ≤ k ∧ k < w.heap.size + 3 ∨ w.heap.size + 6 ≤ k) A2 ((A2.setCell ⟨w.heap.size, 0, none⟩ (.slice none 0 0)).setCell ⟨w.heap.size + 1, 0, none⟩ (.bool false)) :=
        ((Turned.refl _ _).setCell (Or.inr (by show _ ∨ _; simp <;> omega)) _).setCell (Or.inr (by show _ ∨ _; simp <;> omega)) _
      exact ⟨hT, rfl, (b1.set _).other (by omega) _, (b2.other (by omega) _).set _, ⟨_, List.mem_append_right _ (List.mem_singleton.2 rfl), rfl⟩, HB.out.trans (hT.below HB.out.size (fun k hk => by omega))⟩
    · gi_wp2_with (gi_at_builtin; go_loud (refine appendIn_turn rfl _ _ 29 rfl steps_row (w.heap.size + 6) rfl (ho.alloc _) (by simp; omega) ⟨_, 0, none⟩ 0 1 [.int .i64 k, .int .i64 xx, .int .i64 yy] rfl rfl (new_cells (c := #[.int .i64 k, .int .i64 xx, .int .i64 yy]) (by simp [go_sem])) (by simp [Value.oneCell']) (by unfold maxLen; omega) (by omega) ?_); intro g cap W' ho' ht'; have bv' := ht'.boxed (bv.alloc _) (by omega); have d5 := bv'.cell; have e5 := bv'.frozen)
      have hT : Turned (fun k => w.heap.size ≤ k ∧ k < w.heap.size + 3 ∨ w.heap.size + 6 ≤ k) A2 (W'.setCell ⟨w.heap.size + 1 + 1, 0, none⟩ (.slice (some ⟨g, 0, none⟩) (pre.length + 0 + 1) cap)) :=
        (((Turned.refl _ _).alloc _).trans (ht'.mono fun k hk => Or.inr hk)).setCell (Or.inr (by show _ ∨ _; simp <;> omega)) _
      refine ⟨hT, ⟨(ht'.boxed (b1.alloc _) (by omega)).other (by omega) _, (ht'.boxed (b2.alloc _) (by omega)).other (by omega) _⟩, ⟨_, bv'.set _, ?_⟩, ?_, HB.out.trans (hT.below HB.out.size (fun k hk => by omega))⟩
      · have h1 := (Turned.setCell (pv := fun k => k = w.heap.size + 1 + 1) (Turned.refl _ W') (p := ⟨w.heap.size + 1 + 1, 0, none⟩) (Or.inr rfl) (.slice (some ⟨g, 0, none⟩) (pre.length + 0 + 1) cap)).own ho' (fun k hk => by omega)
        rw [List.map_append, List.map_singleton, cells3_snoc, List.length_append]
        exact h1
      · intro y hy
        rcases List.mem_append.1 hy with hy | hy
        · exact HE.out y hy
        · rw [List.mem_singleton] at hy; subst hy; rfl
  case hdone =>
    rintro W ⟨⟨b1, b2⟩, ⟨v, bv, ho⟩, he, hB⟩ hK
    have d1 := b1.cell
    have d2 := b2.cell
    have d4 := bv.cell
    have e1 := b1.frozen
    have e2 := b2.frozen
    have hlen := handV_len l.length l (Nat.le_refl _)
    have hml : ((handV l).map SB.st).length = (handV l).length := List.length_map ..
    rw [← hml] at ho
    have HSl := Lib.hid (sl_own (by rw [hml]; omega) ho)
    have HST := Lib.hid (stepsT_yes he)
    have HB := Lib.hid hB
    have HK := Lib.hid hK
    have HO := Lib.hid ho
    have hlt : w.heap.size + 2 < W.heap.size := bv.lt
    clear hB hK ho he hml
    generalize (handV l).map SB.st = SS at *
    obtain ⟨Ar, cr, rfl, hcr⟩ := own_cap HO.out
    have hl0 : w.heap.size < W.heap.size := by omega
    have hl1 : w.heap.size + 1 < W.heap.size := by omega
    have hlK := (Array.getElem?_eq_some_iff.1 HK.out).1
    cases hr : rightB SS
    · have HN : Hid (stepsT l = none) := by show _ = _; rw [HST.out, hr]; rfl
      have HRt : Hid (Calls Tryz.prog 19 #[.slice Ar SS.length cr] W (Ret (.bool false) W)) := by
        have h8 := tright_any _ _ W HSl.out
        rwa [hr] at h8
      clear hr
      gi_wp2_with (gi_at_call 19; (with_reducible refine (callsIn_wide' HRt.out).mono ?_); rintro e w' ⟨rfl, X1, rfl⟩)
      have hT : Turned (fun k => w.heap.size ≤ k ∧ k < w.heap.size + 2) W (((W.setCell ⟨w.heap.size, 0, none⟩ (.slice none 0 0)).setCell ⟨w.heap.size + 1, 0, none⟩ (.bool false)).grow X1) :=
        (((Turned.refl _ _).setCell (Or.inr (by show _ ∧ _; simp <;> omega)) _).setCell (Or.inr (by show _ ∧ _; simp <;> omega)) _).grow X1
      have hK2 := (hT.block (w.heap.size + 4) hlK (by omega)).trans HK.out
      have f1 := Boxed.grow' ((b1.set (.slice none 0 0)).other (B' := w.heap.size + 1) (by omega) (.bool false)) X1
      have f2 := Boxed.grow' ((b2.other (B' := w.heap.size) (by omega) (.slice none 0 0)).set (.bool false)) X1
      have hB2 := HB.out.trans (hT.below HB.out.size (fun k hk => by omega))
      have ho2 := hT.own HO.out (fun k hk => by omega)
      generalize (((W.setCell ⟨w.heap.size, 0, none⟩ (.slice none 0 0)).setCell ⟨w.heap.size + 1, 0, none⟩ (.bool false)).grow X1) = V at *
      have hTV : Turned (fun k => k = w.heap.size + 4) V (V.putObj (w.heap.size + 4) (.deferred none)) := Turned.putObj (pv := fun k => k = w.heap.size + 4) (Turned.refl _ _) (Or.inr rfl) _
      have g1 := (hTV.boxed f1 (by omega)).cell
      have g2 := (hTV.boxed f2 (by omega)).cell
      refine ⟨by simp, .inl ⟨_, _, rfl, run_takeDeferred hK2, ?_⟩⟩
      refine ⟨.tuple #[(.slice none 0 0), .bool false], ?_, ?_⟩
      · simp [results, Tryz.results14, go_sem, g1, g2]
      · rw [HN.out]
        exact RetT.of (hB2.trans (hTV.below hB2.size (fun k hk => by omega))) rfl (sl_nil _)
    · have HN : Hid (stepsT l = some SS) := by show _ = _; rw [HST.out, hr]; rfl
      have HRt : Hid (Calls Tryz.prog 19 #[.slice Ar SS.length cr] W (Ret (.bool true) W)) := by
        have h8 := tright_any _ _ W HSl.out
        rwa [hr] at h8
      clear hr
      gi_wp2_with (gi_at_call 19; (with_reducible refine (callsIn_wide' HRt.out).mono ?_); rintro e w' ⟨rfl, X1, rfl⟩)
      have hT : Turned (fun k => w.heap.size ≤ k ∧ k < w.heap.size + 2) W (((W.setCell ⟨w.heap.size, 0, none⟩ (.slice Ar SS.length cr)).setCell ⟨w.heap.size + 1, 0, none⟩ (.bool true)).grow X1) :=
        (((Turned.refl _ _).setCell (Or.inr (by show _ ∧ _; simp <;> omega)) _).setCell (Or.inr (by show _ ∧ _; simp <;> omega)) _).grow X1
      have hK2 := (hT.block (w.heap.size + 4) hlK (by omega)).trans HK.out
      have f1 := Boxed.grow' ((b1.set (.slice Ar SS.length cr)).other (B' := w.heap.size + 1) (by omega) (.bool true)) X1
      have f2 := Boxed.grow' ((b2.other (B' := w.heap.size) (by omega) (.slice Ar SS.length cr)).set (.bool true)) X1
      have hB2 := HB.out.trans (hT.below HB.out.size (fun k hk => by omega))
      have ho2 := hT.own HO.out (fun k hk => by omega)
      generalize (((W.setCell ⟨w.heap.size, 0, none⟩ (.slice Ar SS.length cr)).setCell ⟨w.heap.size + 1, 0, none⟩ (.bool true)).grow X1) = V at *
      have hTV : Turned (fun k => k = w.heap.size + 4) V (V.putObj (w.heap.size + 4) (.deferred none)) := Turned.putObj (pv := fun k => k = w.heap.size + 4) (Turned.refl _ _) (Or.inr rfl) _
      have g1 := (hTV.boxed f1 (by omega)).cell
      have g2 := (hTV.boxed f2 (by omega)).cell
      refine ⟨by simp, .inl ⟨_, _, rfl, run_takeDeferred hK2, ?_⟩⟩
      refine ⟨.tuple #[(.slice Ar SS.length cr), .bool true], ?_, ?_⟩
      · simp [results, Tryz.results14, go_sem, g1, g2]
      · rw [HN.out]
        exact RetT.of (hB2.trans (hTV.below hB2.size (fun k hk => by omega))) rfl (sl_own HSl.out.choose_spec.choose_spec.2.1 (hTV.own ho2 (fun k hk => by omega)))
  case hstop =>
    rintro c pre x W hx ⟨rfl, b1, b2, ⟨y, hy, hno⟩, hB⟩ hK
    gi_wp2
    have hT : Turned (fun k => k = w.heap.size + 4) W (W.putObj (w.heap.size + 4) (.deferred none)) := Turned.putObj (pv := fun k => k = w.heap.size + 4) (Turned.refl _ _) (Or.inr rfl) _
    have g1 := (hT.boxed b1 (by omega)).cell
    have g2 := (hT.boxed b2 (by omega)).cell
    refine ⟨by simp, .inl ⟨_, _, rfl, run_takeDeferred hK, ?_⟩⟩
    refine ⟨.tuple #[.slice none 0 0, .bool false], ?_, ?_⟩
    · simp [results, Tryz.results14, go_sem, g1, g2]
    · have hmem : y ∈ handV l := hx.subset hy
      rw [stepsT_no hmem hno]
      exact RetT.of (hB.trans (hT.below hB.size (fun k hk => by omega))) rfl (sl_nil _)
end Go.Proofs.YtgcccpdadponiaaGreatDoor
