/- The walks of values of styles: a property's value. -/
import Derived.Test.YtgcccpdadponiaaGreatDoorCssP
import Derived.Test.YtgcccpdadponiaaGreatDoorValI
namespace Go.Proofs.YtgcccpdadponiaaGreatDoor
open Go.RowKit Go.Shelf
attribute [local go_sem] Oper.semAt_some
theorem val_at (o : Bool) (l : List Css) (k : Nat) (h : k < l.length) : valF o (l.drop k) = if plainC l[k] then valF o (l.drop (k + 1)) else if !o && colourC l[k] then valF true (l.drop (k + 1)) else if o && decide (l[k] = mark1 41) then valF false (l.drop (k + 1)) else false := by
  rw [List.drop_eq_getElem_cons h]; rfl
set_option maxRecDepth 100000 in
set_option maxHeartbeats 4000000 in
theorem value16_any (nm : Bs) (A : Option Addr) (n c : Nat) (l : List Css) (w : World) (hw : Tb w) (hx : Mx w) (h : Rd w (.slice A n c) l.length 4 (cssCells l)) (hA : A = none → c = 0) (hs : Short l) (hl : l.length ≤ 100000000) :
    Calls Tryz.prog 11 #[.string ⟨nm.toArray⟩, .slice A n c] w (RetV w (valueT nm l)) := by
  have hmx : Tryz.prog.follows .mixedOrders = true := by kernel_rfl
  have hn0 : n = l.length := by obtain ⟨_, _, _, _, he, _⟩ := h; cases he; rfl
  subst hn0
  have HCl := Lib.hid (cloneF_any A l.length c l w h hA (by omega))
  have hp : ∀ x ∈ l, CssOk x := fun x hx => (hs x hx).1
  have HP := Lib.hid hp
  have HSh := Lib.hid hs
  have HTM := Lib.hid (fun W (hB : Below w.heap.size w W) => And.intro (Tb.below hw hB) (Mx.below hx hB))
  clear h hA hs hw hx hp
  have hnz : ((⟨nm.toArray⟩ : ByteArray).toList == [116, 114, 97, 110, 115, 102, 111, 114, 109]) = decide (nm = transT) := by rw [ByteArray.toList_eq, Bool.eq_iff_iff]; exact beq_iff_eq.trans decide_eq_true_iff.symm
  by_cases h0 : l = []
  · have HN : Hid (valueT nm l = none) := by show _ = _; unfold valueT; rw [if_pos h0]
    have hl0 : l.length = 0 := by rw [h0]; rfl
    rw [hl0] at HCl
    generalize (⟨nm.toArray⟩ : ByteArray) = S at *
    rw [hl0]
    clear h0 hnz
    go_enter Tryz.func11, Tryz.ntmps11
    go_wp2_with (go_at_call 23; (with_reducible refine HCl.out.mono ?_); rintro e W1 ⟨A1, c1, rfl, hb1, _, _, _⟩; have HB1 := Lib.hid hb1; clear hb1)
    go_ret2
    rw [HN.out]
    exact RetV.no HB1.out rfl
  have hpos : 0 < l.length := List.length_pos_iff.2 h0
  have b0 : ((l.length : Int) == 0) = false := by rw [beq_eq_false_iff_ne]; omega
  by_cases ht : nm = transT
  · have HN : Hid (valueT nm l = movesT l) := by show _ = _; unfold valueT; rw [if_neg h0, if_pos ht]
    rw [decide_eq_true ht] at hnz
    have HMo := Lib.hid (fun W A1 c1 (hr : Rd W (.slice A1 l.length c1) l.length 4 (cssCells l)) (hA : A1 = none → c1 = 0) (hc : l.length ≤ c1) => moves16_any A1 l.length c1 l W hr hA hc HP.out hl)
    generalize (⟨nm.toArray⟩ : ByteArray) = S at *
    generalize movesT l = R at *
    clear h0 ht
    go_enter Tryz.func11, Tryz.ntmps11
    go_wp2_with (first
      | (go_at_call 23; (with_reducible refine HCl.out.mono ?_); rintro e W1 ⟨A1, c1, rfl, hb1, hA1, hc1, hr1⟩; have HB1 := Lib.hid hb1; have HM1 := Lib.hid (HMo.out W1 A1 c1 hr1 hA1 hc1); clear hb1 hA1 hr1)
      | (go_at_call 24; (with_reducible refine HM1.out.mono ?_); rintro e w' ⟨A2, c2, X2, rfl, rfl, hA2, hc2, hr2⟩; have HR2 := Lib.hid (And.intro hA2 (And.intro hc2 hr2)); clear hA2 hc2 hr2))
    go_ret2
    rw [HN.out]
    obtain ⟨Y, hY⟩ := grow_of_below (below_next HB1.out (below_grow _ X2))
    exact ⟨A2, c2, Y, rfl, hY, HR2.out.1, HR2.out.2.1, by rw [← hY]; exact HR2.out.2.2⟩
  have HN : Hid (valueT nm l = if valF false l then some l else none) := by show _ = _; unfold valueT; rw [if_neg h0, if_neg ht]
  rw [decide_eq_false ht] at hnz
  obtain ⟨D, hD⟩ : ∃ D, valF false l = D := ⟨_, rfl⟩
  have HD := Lib.hid hD
  rw [hD] at HN
  generalize (⟨nm.toArray⟩ : ByteArray) = S at *
  clear h0 ht hD
  go_enter Tryz.func11, Tryz.ntmps11
  go_wp2_with (go_at_call 23; (with_reducible refine HCl.out.mono ?_); rintro e W1 ⟨A1, c1, rfl, hb1, hA1, hc1, hr1⟩; have HBW := Lib.hid hb1; have HR1 := Lib.hid hr1; have HA1 := Lib.hid hA1; clear hb1 hA1 hr1)
  go_loopw [6, 24] (fun o i wr => ∃ (k : Nat) (ob : Bool), k ≤ l.length ∧ o = .bool ob ∧ i = .int .i64 k ∧ Hid (Below W1.heap.size W1 wr) ∧ Hid (D = valF ob (l.drop k))) (fun _ i _ => l.length - (intOf i).toNat)
  case atStart => exact ⟨0, false, by omega, rfl, rfl, Below.refl _ _, by show _ = _; rw [List.drop_zero]; exact HD.out.symm⟩
  case round =>
    obtain ⟨k, ob, hk, rfl, rfl, HB, HV⟩ := hrel
    by_cases hlt : k < l.length
    · have HRw : Hid (Rd wr (.slice A1 l.length c1) l.length 4 (cssCells l)) := by
        obtain ⟨Y, hY⟩ := grow_of_below HB.out
        show Rd _ _ _ _ _
        rw [hY]; exact HR1.out.grow Y
      obtain ⟨b, off, rfl, hb, y0, y1, y2, y3⟩ := HRw.out.css k hlt
      have HS := Lib.hid (HV.out.trans (val_at ob l k hlt))
      have hsx := HSh.out _ (List.getElem_mem hlt)
      generalize l[k] = x at *
      obtain ⟨hs1, hs2, hs3⟩ := hsx
      have HPl := Lib.hid (fun W (hB : Below W1.heap.size W1 W) => plain16_any x W (HTM.out W (below_next HBW.out hB)).1 (HTM.out W (below_next HBW.out hB)).2 hs1 hs2 hs3)
      have HCo := Lib.hid (fun W => colour16_any x W)
      have HMk := Lib.hid (fun W => mark16_any [41] W)
      have HMx : Hid (decide (x = mark1 41) = ((x.kind == 6) && ((⟨x.text.toArray⟩ : ByteArray).toList == [41]) && (x.num == 0) && (⟨x.unit.toArray⟩ : ByteArray).toList.isEmpty)) := by
        show _ = _
        rw [css_eq, ba_emp]
        have z1 : ((⟨(mark1 41).text.toArray⟩ : ByteArray).toList) = [41] := by rw [ByteArray.toList_eq]; rfl
        have z2 : ((⟨x.unit.toArray⟩ : ByteArray).toList == (⟨(mark1 41).unit.toArray⟩ : ByteArray).toList) = decide (x.unit = []) := by rw [ba_bq]; rfl
        rw [z1, z2]; rfl
      simp only [Css.agg, sv] at HPl HCo HMk y0 y1 y2 y3
      generalize (⟨x.text.toArray⟩ : ByteArray) = a1 at *
      generalize (⟨x.unit.toArray⟩ : ByteArray) = a2 at *
      generalize x.num = nn at *
      generalize x.kind = kk at *
      have hsz := HB.out.size
      clear hs1 hs2 hs3
      cases hpl : plainC x
      rotate_left
      · rw [hpl] at HS HPl
        have HPl := Lib.hid HPl.out
        clear hpl HCo HMk HMx
        go_wp2_with (go_at_call 25; (refine (HPl.out _ (below_next HB.out (by (repeat (first | with_reducible exact Below.refl _ _ | (with_reducible refine Below.alloc ?_ (by first | omega | (simp [go_sem] <;> omega)) _) | (with_reducible refine Below.drew ?_) | (with_reducible refine Below.drewN ?_ _) | (with_reducible refine Below.grow ?_ (by first | omega | (simp [go_sem] <;> omega)) _) | (with_reducible refine Below.setCell ?_ (by first | omega | (simp [go_sem] <;> omega)) _))); done))).mono ?_); rintro e w' ⟨rfl, X1, rfl⟩)
        have HV2 : Hid (D = valF ob (l.drop (k + 1))) := by show _ = _; rw [HS.out]; rfl
        go_roundw
        case rel => exact ⟨k + 1, ob, by omega, rfl, by go_num, below_next HB.out (by (repeat (first | with_reducible exact Below.refl _ _ | (with_reducible refine Below.alloc ?_ (by first | omega | (simp [go_sem] <;> omega)) _) | (with_reducible refine Below.drew ?_) | (with_reducible refine Below.drewN ?_ _) | (with_reducible refine Below.grow ?_ (by first | omega | (simp [go_sem] <;> omega)) _) | (with_reducible refine Below.setCell ?_ (by first | omega | (simp [go_sem] <;> omega)) _))); done), HV2⟩
        case measure => simp [intOf]; omega
      rw [hpl] at HS HPl
      have HPl := Lib.hid HPl.out
      clear hpl
      cases ob
      · cases hco : colourC x
        · rw [hco] at HS HCo
          have HCo := Lib.hid HCo.out
          clear hco HMk HMx
          go_wp2_with (first | (go_at_call 25; (refine (HPl.out _ (below_next HB.out (by (repeat (first | with_reducible exact Below.refl _ _ | (with_reducible refine Below.alloc ?_ (by first | omega | (simp [go_sem] <;> omega)) _) | (with_reducible refine Below.drew ?_) | (with_reducible refine Below.drewN ?_ _) | (with_reducible refine Below.grow ?_ (by first | omega | (simp [go_sem] <;> omega)) _) | (with_reducible refine Below.setCell ?_ (by first | omega | (simp [go_sem] <;> omega)) _))); done))).mono ?_); rintro e w' ⟨rfl, X1, rfl⟩) | (go_at_call 26; (with_reducible refine (HCo.out _).mono ?_); rintro e w' ⟨rfl, X2, rfl⟩))
          refine wp_region_grow (by kernel_rfl) (by kernel_rfl) ?_
          repeat (go_big_quiet_step (fail))
          refine wpQuiet_nil ?_
          intro _ hw'; obtain ⟨nq, hw''⟩ := hw'; subst hw''
          go_wp2_with fail
          have HV2 : Hid (D = false) := by show _ = _; rw [HS.out]; rfl
          go_ret2
          rw [HN.out, HV2.out]
          exact RetV.no (below_next HBW.out (below_next HB.out (by (repeat (first | with_reducible exact Below.refl _ _ | (with_reducible refine Below.alloc ?_ (by first | omega | (simp [go_sem] <;> omega)) _) | (with_reducible refine Below.drew ?_) | (with_reducible refine Below.drewN ?_ _) | (with_reducible refine Below.grow ?_ (by first | omega | (simp [go_sem] <;> omega)) _) | (with_reducible refine Below.setCell ?_ (by first | omega | (simp [go_sem] <;> omega)) _))); done))) rfl
        · rw [hco] at HS HCo
          have HCo := Lib.hid HCo.out
          clear hco HMk HMx
          go_wp2_with (first | (go_at_call 25; (refine (HPl.out _ (below_next HB.out (by (repeat (first | with_reducible exact Below.refl _ _ | (with_reducible refine Below.alloc ?_ (by first | omega | (simp [go_sem] <;> omega)) _) | (with_reducible refine Below.drew ?_) | (with_reducible refine Below.drewN ?_ _) | (with_reducible refine Below.grow ?_ (by first | omega | (simp [go_sem] <;> omega)) _) | (with_reducible refine Below.setCell ?_ (by first | omega | (simp [go_sem] <;> omega)) _))); done))).mono ?_); rintro e w' ⟨rfl, X1, rfl⟩) | (go_at_call 26; (with_reducible refine (HCo.out _).mono ?_); rintro e w' ⟨rfl, X2, rfl⟩))
          have HV2 : Hid (D = valF true (l.drop (k + 1))) := by show _ = _; rw [HS.out]; rfl
          go_roundw
          case rel => exact ⟨k + 1, true, by omega, rfl, by go_num, below_next HB.out (by (repeat (first | with_reducible exact Below.refl _ _ | (with_reducible refine Below.alloc ?_ (by first | omega | (simp [go_sem] <;> omega)) _) | (with_reducible refine Below.drew ?_) | (with_reducible refine Below.drewN ?_ _) | (with_reducible refine Below.grow ?_ (by first | omega | (simp [go_sem] <;> omega)) _) | (with_reducible refine Below.setCell ?_ (by first | omega | (simp [go_sem] <;> omega)) _))); done), HV2⟩
          case measure => simp [intOf]; omega
      · clear HCo
        go_upto_region 14 with (go_at_call 25; (refine (HPl.out _ (below_next HB.out (by (repeat (first | with_reducible exact Below.refl _ _ | (with_reducible refine Below.alloc ?_ (by first | omega | (simp [go_sem] <;> omega)) _) | (with_reducible refine Below.drew ?_) | (with_reducible refine Below.drewN ?_ _) | (with_reducible refine Below.grow ?_ (by first | omega | (simp [go_sem] <;> omega)) _) | (with_reducible refine Below.setCell ?_ (by first | omega | (simp [go_sem] <;> omega)) _))); done))).mono ?_); rintro e w' ⟨rfl, X1, rfl⟩)
        refine name_world fun W5 hW5 => ?_
        have HB5 : Hid (Below wr.heap.size wr W5) := by show Below _ _ _; rw [hW5]; exact (by repeat (first | with_reducible exact Below.refl _ _ | (with_reducible refine Below.alloc ?_ (by first | omega | (simp [go_sem] <;> omega)) _) | (with_reducible refine Below.drew ?_) | (with_reducible refine Below.drewN ?_ _) | (with_reducible refine Below.grow ?_ (by first | omega | (simp [go_sem] <;> omega)) _) | (with_reducible refine Below.setCell ?_ (by first | omega | (simp [go_sem] <;> omega)) _)))
        have hlt5 : wr.heap.size < W5.heap.size := by rw [hW5]; simp [go_sem] <;> omega
        have x0 : W5.cell? ⟨wr.heap.size, 0, none⟩ = some (.int .i64 kk) := by rw [hW5]; simp [go_sem]
        have x1 : W5.cell? ⟨wr.heap.size, 1, none⟩ = some (.string a1) := by rw [hW5]; simp [go_sem]
        have x2 : W5.cell? ⟨wr.heap.size, 2, none⟩ = some (.int .i64 nn) := by rw [hW5]; simp [go_sem]
        have x3 : W5.cell? ⟨wr.heap.size, 3, none⟩ = some (.string a2) := by rw [hW5]; simp [go_sem]
        clear hW5
        cases m0 : (kk == 6)
        · have HMf : Hid (decide (x = mark1 41) = false) := by show _ = _; rw [HMx.out, m0]; try simp
          refine wp_region_grow (by kernel_rfl) (by kernel_rfl) ?_
          repeat (go_big_quiet_step (first | (go_at_call 27; with_reducible exact Calls.grow_of (HMk.out _))))
          refine wpQuiet_nil ?_
          intro _ hw'; obtain ⟨nq, hw''⟩ := hw'; subst hw''
          go_wp2_with fail
          have HV2 : Hid (D = false) := by show _ = _; rw [HS.out, HMf.out]; rfl
          go_ret2
          rw [HN.out, HV2.out]
          exact RetV.no (below_next HBW.out (below_next HB.out (below_next HB5.out (by (repeat (first | with_reducible exact Below.refl _ _ | (with_reducible refine Below.alloc ?_ (by first | omega | (simp [go_sem] <;> omega)) _) | (with_reducible refine Below.drew ?_) | (with_reducible refine Below.drewN ?_ _) | (with_reducible refine Below.grow ?_ (by first | omega | (simp [go_sem] <;> omega)) _) | (with_reducible refine Below.setCell ?_ (by first | omega | (simp [go_sem] <;> omega)) _))); done)))) rfl
        cases m1 : (a1.toList == [41])
        · have HMf : Hid (decide (x = mark1 41) = false) := by show _ = _; rw [HMx.out, m0, m1]; try simp
          refine wp_region_grow (by kernel_rfl) (by kernel_rfl) ?_
          repeat (go_big_quiet_step (first | (go_at_call 27; with_reducible exact Calls.grow_of (HMk.out _))))
          refine wpQuiet_nil ?_
          intro _ hw'; obtain ⟨nq, hw''⟩ := hw'; subst hw''
          go_wp2_with fail
          have HV2 : Hid (D = false) := by show _ = _; rw [HS.out, HMf.out]; rfl
          go_ret2
          rw [HN.out, HV2.out]
          exact RetV.no (below_next HBW.out (below_next HB.out (below_next HB5.out (by (repeat (first | with_reducible exact Below.refl _ _ | (with_reducible refine Below.alloc ?_ (by first | omega | (simp [go_sem] <;> omega)) _) | (with_reducible refine Below.drew ?_) | (with_reducible refine Below.drewN ?_ _) | (with_reducible refine Below.grow ?_ (by first | omega | (simp [go_sem] <;> omega)) _) | (with_reducible refine Below.setCell ?_ (by first | omega | (simp [go_sem] <;> omega)) _))); done)))) rfl
        cases m2 : (nn == 0)
        · have HMf : Hid (decide (x = mark1 41) = false) := by show _ = _; rw [HMx.out, m0, m1, m2]; try simp
          refine wp_region_grow (by kernel_rfl) (by kernel_rfl) ?_
          repeat (go_big_quiet_step (first | (go_at_call 27; with_reducible exact Calls.grow_of (HMk.out _))))
          refine wpQuiet_nil ?_
          intro _ hw'; obtain ⟨nq, hw''⟩ := hw'; subst hw''
          go_wp2_with fail
          have HV2 : Hid (D = false) := by show _ = _; rw [HS.out, HMf.out]; rfl
          go_ret2
          rw [HN.out, HV2.out]
          exact RetV.no (below_next HBW.out (below_next HB.out (below_next HB5.out (by (repeat (first | with_reducible exact Below.refl _ _ | (with_reducible refine Below.alloc ?_ (by first | omega | (simp [go_sem] <;> omega)) _) | (with_reducible refine Below.drew ?_) | (with_reducible refine Below.drewN ?_ _) | (with_reducible refine Below.grow ?_ (by first | omega | (simp [go_sem] <;> omega)) _) | (with_reducible refine Below.setCell ?_ (by first | omega | (simp [go_sem] <;> omega)) _))); done)))) rfl
        cases m3 : a2.toList.isEmpty
        · have HMf : Hid (decide (x = mark1 41) = false) := by show _ = _; rw [HMx.out, m0, m1, m2, m3]; try simp
          refine wp_region_grow (by kernel_rfl) (by kernel_rfl) ?_
          repeat (go_big_quiet_step (first | (go_at_call 27; with_reducible exact Calls.grow_of (HMk.out _))))
          refine wpQuiet_nil ?_
          intro _ hw'; obtain ⟨nq, hw''⟩ := hw'; subst hw''
          go_wp2_with fail
          have HV2 : Hid (D = false) := by show _ = _; rw [HS.out, HMf.out]; rfl
          go_ret2
          rw [HN.out, HV2.out]
          exact RetV.no (below_next HBW.out (below_next HB.out (below_next HB5.out (by (repeat (first | with_reducible exact Below.refl _ _ | (with_reducible refine Below.alloc ?_ (by first | omega | (simp [go_sem] <;> omega)) _) | (with_reducible refine Below.drew ?_) | (with_reducible refine Below.drewN ?_ _) | (with_reducible refine Below.grow ?_ (by first | omega | (simp [go_sem] <;> omega)) _) | (with_reducible refine Below.setCell ?_ (by first | omega | (simp [go_sem] <;> omega)) _))); done)))) rfl
        have HMt : Hid (decide (x = mark1 41) = true) := by show _ = _; rw [HMx.out, m0, m1, m2, m3]; rfl
        refine wp_region_grow (by kernel_rfl) (by kernel_rfl) ?_
        repeat (go_big_quiet_step (first | (go_at_call 27; with_reducible exact Calls.grow_of (HMk.out _))))
        refine wpQuiet_nil ?_
        intro _ hw'; obtain ⟨nq, hw''⟩ := hw'; subst hw''
        go_wp2_with fail
        have HV2 : Hid (D = valF false (l.drop (k + 1))) := by show _ = _; rw [HS.out, HMt.out]; rfl
        go_roundw
        case rel => exact ⟨k + 1, false, by omega, rfl, by go_num, below_next HB.out (below_next HB5.out (by (repeat (first | with_reducible exact Below.refl _ _ | (with_reducible refine Below.alloc ?_ (by first | omega | (simp [go_sem] <;> omega)) _) | (with_reducible refine Below.drew ?_) | (with_reducible refine Below.drewN ?_ _) | (with_reducible refine Below.grow ?_ (by first | omega | (simp [go_sem] <;> omega)) _) | (with_reducible refine Below.setCell ?_ (by first | omega | (simp [go_sem] <;> omega)) _))); done)), HV2⟩
        case measure => simp [intOf]; omega
    · have hkl : k = l.length := by omega
      subst hkl
      have HE : Hid (D = !ob) := by show _ = _; rw [HV.out, List.drop_length]; rfl
      cases ob
      · have HD1 : Hid (D = true) := HE.out
        go_wp2_with fail
        go_ret2
        rw [HN.out, HD1.out]
        obtain ⟨Y, hY⟩ := grow_of_below HB.out
        exact RetV.rd (below_next HBW.out HB.out) rfl rfl HA1.out hc1 (by rw [hY]; exact HR1.out.grow Y)
      · have HD1 : Hid (D = false) := HE.out
        go_wp2_with fail
        go_ret2
        rw [HN.out, HD1.out]
        exact RetV.no (below_next HBW.out HB.out) rfl
end Go.Proofs.YtgcccpdadponiaaGreatDoor
