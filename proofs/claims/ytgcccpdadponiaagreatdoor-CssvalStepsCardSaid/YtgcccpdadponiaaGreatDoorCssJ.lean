/- The walk of a style's pieces, one behind the other. -/
import Derived.Test.YtgcccpdadponiaaGreatDoorKB
import Derived.Test.YtgcccpdadponiaaGreatDoorCssI
namespace Go.Proofs.YtgcccpdadponiaaGreatDoor
open Go.RowKit Go.Shelf
attribute [local go_sem] Oper.semAt_some
/-- The text that a cell holds: how long it is. -/
def lenAt (w : World) (b : Nat) : Nat := match w.cell? ⟨b, 0, none⟩ with
  | some (.string t) => t.size
  | _ => 0
theorem lenAt_boxed {w : World} {b : Nat} {t : TypeId} {s : ByteArray} (h : Boxed w b t (.string s)) : lenAt w b = s.size := by
  unfold lenAt; rw [h.cell]
theorem blk_blk (s : Bs) : blkM 0 (blkM 0 s) = blkM 0 s := by
  cases h : blkM 0 s with
  | nil => rfl
  | cons c r => exact solid_blk (blk_solid s 0 h)
set_option maxRecDepth 100000 in
set_option maxHeartbeats 8000000 in
theorem pieces1_iter (s : Bs) (bs : Nat) (bw : Nat → Prop) (W : World) (hb : Boxed W bs 9 (.string ⟨s.toArray⟩)) (hbw : ¬ bw bs) (hbw1 : ¬ bw 0) (hbs : bs ≠ 0) (hx : Mx W) (hm : s.length ≤ 1000000000) :
    IterAt Tryz.prog 68 #[.pointer (some ⟨bs, 0, none⟩)] (fun x => #[Css.agg x]) (fun k => k = bs) bw (cssL s) W := by
  intro l J Jx hJ hY h0
  refine callsIn_of_wp Tryz.func68 rfl trivial ?_ rfl
  have hc := hb.cell
  have hf := hb.frozen
  have hlt1 := hb.lt
  have HB0 := Lib.hid (blank_any s W hx hm)
  have HX0 := Lib.hid hx
  simp only [Tryz.ntmps68, List.size_toArray, List.length_cons, List.length_nil, Nat.reduceAdd, Nat.reduceSub, Array.replicate_succ, Array.replicate_zero, List.push_toArray, List.append_toArray, List.nil_append, List.cons_append]
  gi_wp2_with (gi_at_call 69; (with_reducible refine (callsIn_wide.2 HB0.out).mono ?_); rintro e w' ⟨rfl, X0, rfl⟩)
  clear hc hf
  gi_loopw [4] (fun _ wr => ∃ (t u : Bs) (pre : List Css), u.length ≤ s.length ∧ t = blkM 0 u ∧ Boxed wr bs 9 (.string ⟨t.toArray⟩) ∧ Mx wr ∧ J pre wr ∧ Hid (pre ++ cssL u = cssL s)) (fun _ wr => lenAt wr bs)
  case atStart =>
    exact ⟨_, s, [], Nat.le_refl _, rfl, Boxed.grow' (hb.set _) _, Mx.grow (Mx.turned (pv := fun k => k = bs) HX0.out (Turned.setCell (pv := fun k => k = bs) (Turned.refl _ _) (Or.inr rfl) _) (by omega)) _, hJ _ _ _ h0 (by repeat (first | with_reducible exact Turned.refl _ _ | with_reducible assumption | with_reducible refine Turned.alloc ?_ _ | with_reducible refine Turned.grow ?_ _ | with_reducible refine Turned.drew ?_ | (with_reducible refine Turned.setCell ?_ (by first | (refine Or.inr ?_; show _ ∨ _; simp <;> omega) | (refine Or.inr ?_; show _ = _; rfl) | (refine Or.inl ?_; simp [go_sem] <;> omega)) _))), rfl⟩
  case round =>
    obtain ⟨t, u, pre, hu, ht, hbx, hMx, hJs, HK⟩ := hrel
    have hc := hbx.cell
    have hf := hbx.frozen
    have hl1 := hbx.lt
    have hbl := blk_len u 0
    rw [← ht] at hbl
    cases t with
    | nil =>
      have HE : Hid (pre = cssL s) := by
        show _ = _
        rw [← HK.out, scan_nil ht.symm, List.append_nil]
      clear HK
      gi_wp2
      go_end0
      exact ⟨⟨_, rfl⟩, .inl (HE.out ▸ hJs)⟩
    | cons c r =>
      have HS := Lib.hid (scan_cons ht.symm)
      obtain ⟨n1, n2, _⟩ := piece_kinds (s := c :: r) (by simp) (x := (pieceC (c :: r)).1) (n := (pieceC (c :: r)).2) rfl
      have HP := Lib.hid (fun W => piece_any (c :: r) W (by omega) (by simp))
      generalize pieceC (c :: r) = xn at *
      obtain ⟨x, n⟩ := xn
      simp only at HS HP n1 n2
      obtain ⟨U, hU⟩ : ∃ U : ByteArray, ⟨(c :: r).toArray⟩ = U := ⟨_, rfl⟩
      have hUs : U.size = (c :: r).length := by rw [← hU]; rfl
      have hUd : U.data.toList = c :: r := by rw [← hU]
      have hUe := ba_full (a := U) (by rw [hUs]; simp)
      have hnU : n ≤ U.size := by omega
      obtain ⟨v, hv⟩ : ∃ v, (c :: r).drop n = v := ⟨_, rfl⟩
      have hvl : v.length + 1 ≤ (c :: r).length := by rw [← hv, List.length_drop]; omega
      obtain ⟨V, hV⟩ : ∃ V : ByteArray, ⟨v.toArray⟩ = V := ⟨_, rfl⟩
      have he1 : U.extract n U.size = V := by rw [str_drop, hUd, hv, hV]
      have HX : Hid (pre ++ [x] ++ cssL v = cssL s) := by
        show _ = _
        rw [← HK.out, HS.out, List.append_assoc, ← hv]; rfl
      rw [hU] at hbx hc HP
      simp only [Css.agg, sv] at HP
      have HA : Hid (#[Css.agg x] = #[.agg #[.int .i64 x.kind, .string ⟨x.text.toArray⟩, .int .i64 x.num, .string ⟨x.unit.toArray⟩]]) := rfl
      have HVv := Lib.hid hV
      have HL : Hid (v.length + 1 ≤ (c :: r).length ∧ (c :: r).length ≤ u.length) := ⟨hvl, hbl⟩
      have HUs := Lib.hid hUs
      have hbx0 := hbx
      have HM := Lib.hid hMx
      have HUm : Hid (u.length ≤ 1000000000) := by show _ ≤ _; omega
      clear hU hUs hUd hv hV HS ht hMx hbl hvl n2
      gi_wp2_with (gi_at_call 70; (with_reducible refine (callsIn_wide.2 (HP.out _)).mono ?_); rintro e w' ⟨rfl, X1, rfl⟩)
      clear hc hf
      refine upon_yield (hY pre x _ ⟨_, HX.out⟩ (hJ _ _ _ hJs (by repeat (first | with_reducible exact Turned.refl _ _ | with_reducible assumption | with_reducible refine Turned.alloc ?_ _ | with_reducible refine Turned.grow ?_ _ | with_reducible refine Turned.drew ?_ | (with_reducible refine Turned.setCell ?_ (by first | (refine Or.inr ?_; show _ ∨ _; simp <;> omega) | (refine Or.inr ?_; show _ = _; rfl) | (refine Or.inl ?_; simp [go_sem] <;> omega)) _))))) (by rw [HA.out]) ?_
      rintro e W3 (⟨rfl, hJ3, ht3⟩ | ⟨rfl, hJx⟩)
      · refine ⟨_, rfl, ?_⟩
        have hb3 := ht3.boxed (t := 9) (v := .string U) (by repeat (first | with_reducible assumption | (with_reducible refine @Boxed.set _ _ _ ?_ _ ?_; rotate_left) | (with_reducible refine Boxed.oth ?_ (by first | omega | (simp [go_sem] <;> omega)) _) | with_reducible refine Boxed.grow' ?_ _ | with_reducible refine Boxed.alloc ?_ _ | with_reducible refine Boxed.drew' ?_)) hbw
        have hM3 : Mx W3 := Mx.turned (Mx.turned (pv := fun k => k = bs) HM.out (by repeat (first | with_reducible exact Turned.refl _ _ | with_reducible assumption | with_reducible refine Turned.alloc ?_ _ | with_reducible refine Turned.grow ?_ _ | with_reducible refine Turned.drew ?_ | (with_reducible refine Turned.setCell ?_ (by first | (refine Or.inr ?_; show _ ∨ _; simp <;> omega) | (refine Or.inr ?_; show _ = _; rfl) | (refine Or.inl ?_; simp [go_sem] <;> omega)) _))) (by omega)) ht3 hbw1
        have hc3 := hb3.cell
        have hf3 := hb3.frozen
        have hl3 := hb3.lt
        have hM4 : Mx (W3.setCell ⟨bs, 0, none⟩ (.string V)) := Mx.turned (pv := fun k => k = bs) hM3 (Turned.setCell (pv := fun k => k = bs) (Turned.refl _ _) (Or.inr rfl) _) (by omega)
        have HB4 := Lib.hid (HVv.out ▸ blank_any v (W3.setCell ⟨bs, 0, none⟩ (.string V)) hM4 (by have := HL.out; have := HUm.out; omega))
        have HM4 := Lib.hid hM4
        clear hbx hM3 hM4
        go_simp
        gi_wp2_with (gi_at_call 69; (with_reducible refine (callsIn_wide.2 HB4.out).mono ?_); rintro e w' ⟨rfl, X4, rfl⟩)
        go_roundw
        case rel =>
          refine ⟨_, v, pre ++ [x], by have := HL.out; omega, rfl, (by repeat (first | with_reducible assumption | (with_reducible refine @Boxed.set _ _ _ ?_ _ ?_; rotate_left) | (with_reducible refine Boxed.oth ?_ (by first | omega | (simp [go_sem] <;> omega)) _) | with_reducible refine Boxed.grow' ?_ _ | with_reducible refine Boxed.alloc ?_ _ | with_reducible refine Boxed.drew' ?_)), ?_, hJ _ _ _ hJ3 (by repeat (first | with_reducible exact Turned.refl _ _ | with_reducible assumption | with_reducible refine Turned.alloc ?_ _ | with_reducible refine Turned.grow ?_ _ | with_reducible refine Turned.drew ?_ | (with_reducible refine Turned.setCell ?_ (by first | (refine Or.inr ?_; show _ ∨ _; simp <;> omega) | (refine Or.inr ?_; show _ = _; rfl) | (refine Or.inl ?_; simp [go_sem] <;> omega)) _))), HX⟩
          exact Mx.turned (pv := fun k => k = bs) HM4.out (by repeat (first | with_reducible exact Turned.refl _ _ | with_reducible assumption | with_reducible refine Turned.alloc ?_ _ | with_reducible refine Turned.grow ?_ _ | with_reducible refine Turned.drew ?_ | (with_reducible refine Turned.setCell ?_ (by first | (refine Or.inr ?_; show _ ∨ _; simp <;> omega) | (refine Or.inr ?_; show _ = _; rfl) | (refine Or.inl ?_; simp [go_sem] <;> omega)) _))) (by omega)
        case measure =>
          have h1 := lenAt_boxed (Boxed.grow' ((hb3.set (.string V)).set (.string ⟨(blkM 0 v).toArray⟩)) X4)
          have h2 := lenAt_boxed hbx0
          have h3 := blk_len v 0
          have h4 := HL.out
          rw [h1, h2, HUs.out]
          show (blkM 0 v).length < _
          omega
      · refine ⟨_, rfl, ?_⟩
        go_simp
        gi_wp2
        refine bodyPost_ret (results_none rfl _ _ _) rfl ?_
        exact ⟨⟨_, rfl⟩, .inr ⟨pre, _, ⟨_, HX.out⟩, hJx⟩⟩
end Go.Proofs.YtgcccpdadponiaaGreatDoor
