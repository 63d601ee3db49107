/- The walks of values of styles by the reference: the steps that pieces tell; what is plain; values. -/
import Derived.Test.YtgcccpdadponiaaGreatDoorValH
import Derived.Test.YtgcccpdadponiaaGreatDoorRV
import Derived.Test.YtgcccpdadponiaaGreatDoorValJ
namespace Go.Proofs.YtgcccpdadponiaaGreatDoor
open Go.RowKit Go.Shelf
attribute [local go_sem] Oper.semAt_some
theorem parse_cons (x : Css) (r : List Css) : parseT (x :: r).length (x :: r) = if fitT (x :: r) then (parseT (restT (x :: r)).length (restT (x :: r))).map (guessT (x :: r) :: ·) else none := by
  have h := rest_len x r
  show parseT (r.length + 1) (x :: r) = _
  simp only [parseT]
  rw [parse_fuel r.length (restT (x :: r)).length (restT (x :: r)) h (Nat.le_refl _)]
theorem parse_step {l r : List Css} {ss : List St} {x : Css} (h : parseT l.length l = (parseT (x :: r).length (x :: r)).map (ss ++ ·)) (hf : fitT (x :: r) = true) : parseT l.length l = (parseT (restT (x :: r)).length (restT (x :: r))).map ((ss ++ [guessT (x :: r)]) ++ ·) := by
  rw [h, parse_cons, if_pos hf, Option.map_map]
  congr 1
  funext z; simp
theorem parse_stop {l r : List Css} {ss : List St} {x : Css} (h : parseT l.length l = (parseT (x :: r).length (x :: r)).map (ss ++ ·)) (hf : fitT (x :: r) = false) : stepsT l = none := by
  unfold stepsT; rw [h, parse_cons, if_neg (by simp [hf])]; rfl
theorem parse_end {l : List Css} {ss : List St} (h : parseT l.length l = (parseT ([] : List Css).length []).map (ss ++ ·)) : stepsT l = if rightB ss then some ss else none := by
  unfold stepsT; rw [h]; simp [parseT]
def sLen : Value → Nat
  | .slice _ n _ => n
  | _ => 0
theorem fit_take (l : List Css) : fitT l = decide (l.take (toldT (guessT l)).length = toldT (guessT l)) := rfl
theorem Rd.advance {W : World} {b off n c k : Nat} {l : List Css} (h : Rd W (.slice (some ⟨b, off, none⟩) n c) l.length 4 (cssCells l)) (hc : l.length ≤ c) (hk : k ≤ l.length) : ∃ Av, (if c = k then some (⟨b, off, none⟩ : Addr) else some ⟨b, off + k * 4, none⟩) = Av ∧ Rd W (.slice Av (l.drop k).length (c - k)) (l.drop k).length 4 (cssCells (l.drop k)) := by
  refine ⟨_, rfl, ?_⟩
  have h4 := Rd.drop4 h k hk
  split
  · refine ⟨flat_len Css.cells 4 (fun _ => rfl) _, h4.2.1, _, _, rfl, fun hn0 => ?_⟩
    rw [List.length_drop] at hn0; omega
  · exact h4
set_option maxRecDepth 100000 in
set_option maxHeartbeats 4000000 in
theorem rsteps16_any (A : Option Addr) (n c : Nat) (l : List Css) (w : World) (h : Rd w (.slice A n c) l.length 4 (cssCells l)) (hc : l.length ≤ c) (hp : ∀ x ∈ l, CssOk x) (hl : l.length ≤ 100000000) : Calls Tryz.prog 15 #[.slice A n c] w (RetT w (stepsT l)) := by
  have hmx : Tryz.prog.follows .mixedOrders = true := by kernel_rfl
  have hn0 : n = l.length := by obtain ⟨_, _, _, _, he, _⟩ := h; cases he; rfl
  subst hn0
  have HR0 := Lib.hid h
  have HP0 := Lib.hid hp
  clear h hp
  go_enter Tryz.func15, Tryz.ntmps15
  go_wp2_with fail
  go_loopw [0, 4] (fun x vo wr => ∃ (A' : Option Addr) (c' : Nat) (r : List Css) (ss : List St), r.length + ss.length ≤ l.length ∧ x = .slice A' r.length c' ∧ r.length ≤ c' ∧ Hid (Rd w (.slice A' r.length c') r.length 4 (cssCells r)) ∧ Hid (Below w.heap.size w wr) ∧ Hid (wr.ownsRow w.heap.size 58 3 vo ss.length (cells3 ss)) ∧ Hid (∀ y ∈ r, CssOk y) ∧ Hid (parseT l.length l = (parseT r.length r).map (ss ++ ·))) (fun x _ _ => sLen x)
  case atStart => exact ⟨A, c, l, [], by simp, rfl, hc, HR0.out, Below.refl _ _, World.ownsRow_nil _ _ _ _, HP0.out, by show _ = _; simp⟩
  case round =>
    obtain ⟨A', c', r, ss, hle, rfl, hcr, HR0, HB, HO, HP, HK⟩ := hrel
    have HR : Hid (Rd wr (.slice A' r.length c') r.length 4 (cssCells r)) := by
      obtain ⟨Y, hY⟩ := grow_of_below HB.out
      show Rd _ _ _ _ _
      rw [hY]; exact HR0.out.grow Y
    cases r with
    | nil =>
      have HN := Lib.hid (parse_end HK.out)
      have HSl := Lib.hid (sl_own (by simp at hle; omega) HO.out)
      obtain ⟨Ar, cr, rfl, hcr2⟩ := own_cap HO.out
      cases hr : rightB ss
      · have HN2 : Hid (stepsT l = none) := by show _ = _; rw [HN.out, hr]; rfl
        have HRt : Hid (Calls Tryz.prog 35 #[.slice Ar ss.length cr] wr (Ret (.bool false) wr)) := by
          have h8 := trright_any _ _ wr HSl.out
          rwa [hr] at h8
        clear hr
        go_wp2_with (go_at_call 35; (with_reducible refine HRt.out.mono ?_); rintro e w' ⟨rfl, X1, rfl⟩)
        go_ret2
        rw [HN2.out]
        exact RetT.of (below_next HB.out (by (repeat (first | with_reducible exact Below.refl _ _ | (with_reducible refine Below.alloc ?_ (by first | omega | (simp [go_sem] <;> omega)) _) | (with_reducible refine Below.drew ?_) | (with_reducible refine Below.drewN ?_ _) | (with_reducible refine Below.grow ?_ (by first | omega | (simp [go_sem] <;> omega)) _) | (with_reducible refine Below.setCell ?_ (by first | omega | (simp [go_sem] <;> omega)) _))); done)) rfl (sl_nil _)
      · have HN2 : Hid (stepsT l = some ss) := by show _ = _; rw [HN.out, hr]; rfl
        have HRt : Hid (Calls Tryz.prog 35 #[.slice Ar ss.length cr] wr (Ret (.bool true) wr)) := by
          have h8 := trright_any _ _ wr HSl.out
          rwa [hr] at h8
        clear hr
        go_wp2_with (go_at_call 35; (with_reducible refine HRt.out.mono ?_); rintro e w' ⟨rfl, X1, rfl⟩)
        go_ret2
        rw [HN2.out]
        exact RetT.of (below_next HB.out (by (repeat (first | with_reducible exact Below.refl _ _ | (with_reducible refine Below.alloc ?_ (by first | omega | (simp [go_sem] <;> omega)) _) | (with_reducible refine Below.drew ?_) | (with_reducible refine Below.drewN ?_ _) | (with_reducible refine Below.grow ?_ (by first | omega | (simp [go_sem] <;> omega)) _) | (with_reducible refine Below.setCell ?_ (by first | omega | (simp [go_sem] <;> omega)) _))); done)) rfl (HSl.out.grow X1)
    | cons x r =>
      obtain ⟨b, off, rfl, hb, _, _, _, _⟩ := HR.out.css 0 (by simp)
      have hN9 : (x :: r).length ≤ 100000000 := by omega
      have HGu0 := rguess16_any (some ⟨b, off, none⟩) _ c' x r wr HR.out (by omega) HP.out
      have hs := guess_ok HP.out
      have hfit := fit_take (x :: r)
      have HFl := Lib.hid (fun hf : fitT (x :: r) = true => fit_len hf)
      have HSt := Lib.hid (fun hf => parse_step HK.out hf)
      have HSn := Lib.hid (fun hf => parse_stop HK.out hf)
      have HRs : Hid (restT (x :: r) = (x :: r).drop (toldT (guessT (x :: r))).length) := rfl
      obtain ⟨⟨gk, gx, gy⟩, hg⟩ : ∃ g, guessT (x :: r) = g := ⟨_, rfl⟩
      rw [hg] at HGu0 hs hfit HSt HRs HFl
      have HTo0 := fun W => rtold16_any ⟨gk, gx, gy⟩ W hs
      have htl := told_len3 ⟨gk, gx, gy⟩
      generalize toldT ⟨gk, gx, gy⟩ = TS at *
      simp only [St.val] at HGu0 HTo0
      have HGu := Lib.hid HGu0
      have HTo := Lib.hid HTo0
      have HFit := Lib.hid hfit
      have hslen : ss.length ≤ 100000000 := by omega
      have hpos : 0 < (x :: r).length := by simp
      generalize hN : (x :: r).length = N at *
      have HNe := Lib.hid hN
      clear hg HGu0 HTo0 hfit hN hs
      go_upto_region 4 with (go_at_call 33; (with_reducible refine HGu.out.mono ?_); rintro e w' ⟨rfl, X1, rfl⟩)
      refine name_world fun W1 hW1 => ?_
      have HB1 : Hid (Below wr.heap.size wr W1) := by show Below _ _ _; rw [hW1]; exact (by repeat (first | with_reducible exact Below.refl _ _ | (with_reducible refine Below.alloc ?_ (by first | omega | (simp [go_sem] <;> omega)) _) | (with_reducible refine Below.drew ?_) | (with_reducible refine Below.drewN ?_ _) | (with_reducible refine Below.grow ?_ (by first | omega | (simp [go_sem] <;> omega)) _) | (with_reducible refine Below.setCell ?_ (by first | omega | (simp [go_sem] <;> omega)) _)))
      obtain ⟨b1, hb1⟩ : ∃ b1, wr.heap.size + X1.blocks.size = b1 := ⟨_, rfl⟩
      rw [hb1]
      have hlt1 : b1 < W1.heap.size := by rw [hW1, ← hb1]; simp [size_grow]
      have hb1e : b1 = (wr.grow X1).heap.size := by rw [← hb1, size_grow]
      have c0 : W1.cell? ⟨b1, 0, none⟩ = some (.int .i64 gk) := by rw [hW1, hb1e]; simp [go_sem]
      have c1 : W1.cell? ⟨b1, 1, none⟩ = some (.int .i64 gx) := by rw [hW1, hb1e]; simp [go_sem]
      have c2 : W1.cell? ⟨b1, 2, none⟩ = some (.int .i64 gy) := by rw [hW1, hb1e]; simp [go_sem]
      clear hW1 hb1e hb1
      by_cases hlt : N < TS.length
      · have hf : fitT (x :: r) = false := by
          cases hf : fitT (x :: r)
          · rfl
          · have := HFl.out hf; have := HNe.out; omega
        have HN := Lib.hid (HSn.out hf)
        clear hf
        go_wp2_with (go_at_call 34; (with_reducible refine (HTo.out _).mono ?_); rintro e w' ⟨v3, X3, rfl, rfl, ho3⟩; obtain ⟨g3, cap3, rfl⟩ := Go.Joins.ownsRow_form ho3 (by omega); have HR3 := Lib.hid (Rd.own ho3); clear ho3)
        go_ret2
        rw [HN.out]
        exact RetT.of (below_next HB.out (below_next HB1.out (by (repeat (first | with_reducible exact Below.refl _ _ | (with_reducible refine Below.alloc ?_ (by first | omega | (simp [go_sem] <;> omega)) _) | (with_reducible refine Below.drew ?_) | (with_reducible refine Below.drewN ?_ _) | (with_reducible refine Below.grow ?_ (by first | omega | (simp [go_sem] <;> omega)) _) | (with_reducible refine Below.setCell ?_ (by first | omega | (simp [go_sem] <;> omega)) _))); done))) rfl (sl_nil _)
      have hlt2 : ¬ (N : Int) < TS.length := by omega
      have hle2 : TS.length ≤ N := by omega
      have HSa := Lib.hid (fun W (hB : Below wr.heap.size wr W) (A2 : Option Addr) (c2 : Nat) (hb : Rd W (.slice A2 TS.length c2) TS.length 4 (cssCells TS)) => show Calls Tryz.prog 13 #[.slice (some ⟨b, off, none⟩) TS.length c', .slice A2 TS.length c2] W (Ret (.bool (fitT (x :: r))) W) from by
        have hq1 := HR.out
        rw [← HNe.out] at hq1
        have hq := Rd.take4 hq1 TS.length (by rw [HNe.out]; exact hle2)
        have h8 : ((x :: r).take TS.length).length = TS.length := by rw [List.length_take, HNe.out]; omega
        obtain ⟨Y, rfl⟩ := grow_of_below hB
        have h9 := same_any (some ⟨b, off, none⟩) A2 _ _ c' c2 _ TS (wr.grow Y) (hq.grow Y) hb
        rw [h8, ← HFit.out] at h9
        exact h9)
      cases hf : fitT (x :: r)
      · have HN := Lib.hid (HSn.out hf)
        rw [hf] at HSa
        have HSa2 := Lib.hid HSa.out
        clear hf HSa
        go_wp2_with (first
          | (go_at_call 34; (with_reducible refine (HTo.out _).mono ?_); rintro e w' ⟨v3, X3, rfl, rfl, ho3⟩; obtain ⟨g3, cap3, rfl⟩ := Go.Joins.ownsRow_form ho3 (by omega); have HR3 := Lib.hid (Rd.own ho3); clear ho3)
          | (go_at_call 13; (refine (HSa2.out _ (below_next HB1.out (by (repeat (first | with_reducible exact Below.refl _ _ | (with_reducible refine Below.alloc ?_ (by first | omega | (simp [go_sem] <;> omega)) _) | (with_reducible refine Below.drew ?_) | (with_reducible refine Below.drewN ?_ _) | (with_reducible refine Below.grow ?_ (by first | omega | (simp [go_sem] <;> omega)) _) | (with_reducible refine Below.setCell ?_ (by first | omega | (simp [go_sem] <;> omega)) _))); done)) _ _ HR3.out).mono ?_); rintro e w' ⟨rfl, X4, rfl⟩))
        go_ret2
        rw [HN.out]
        exact RetT.of (below_next HB.out (below_next HB1.out (by (repeat (first | with_reducible exact Below.refl _ _ | (with_reducible refine Below.alloc ?_ (by first | omega | (simp [go_sem] <;> omega)) _) | (with_reducible refine Below.drew ?_) | (with_reducible refine Below.drewN ?_ _) | (with_reducible refine Below.grow ?_ (by first | omega | (simp [go_sem] <;> omega)) _) | (with_reducible refine Below.setCell ?_ (by first | omega | (simp [go_sem] <;> omega)) _))); done))) rfl (sl_nil _)
      · have HK2 : Hid (parseT l.length l = (parseT ((x :: r).drop TS.length).length ((x :: r).drop TS.length)).map ((ss ++ [⟨gk, gx, gy⟩]) ++ ·)) := by
          show _ = _
          rw [HSt.out hf, HRs.out]
        rw [hf] at HSa
        have HSa2 := Lib.hid HSa.out
        have HO1 : Hid (W1.ownsRow w.heap.size 58 3 u4 ss.length (cells3 ss)) := by
          obtain ⟨Y, hY⟩ := grow_of_below HB1.out
          show World.ownsRow _ _ _ _ _ _ _
          rw [hY]; exact own_grow HO.out Y
        obtain ⟨Av, hAv, hr5⟩ := Rd.advance (k := TS.length) (show Rd w (.slice (some ⟨b, off, none⟩) N c') (x :: r).length 4 (cssCells (x :: r)) by rw [HNe.out]; exact HR0.out) (by rw [HNe.out]; exact hcr) (by rw [HNe.out]; exact hle2)
        have HR5 := Lib.hid hr5
        have hdk : ((x :: r).drop TS.length).length = N - TS.length := by rw [List.length_drop, HNe.out]
        have HDK := Lib.hid hdk
        have HP5 : Hid (∀ y ∈ (x :: r).drop TS.length, CssOk y) := fun y hy => HP.out y (List.mem_of_mem_drop hy)
        have hkc : TS.length ≤ c' := by omega
        have hw1 := (below_next HB.out HB1.out).size
        clear hf HSa hr5 hdk HSn HSt
        go_wp2_with (first
          | (go_at_call 34; (with_reducible refine (HTo.out _).mono ?_); rintro e w' ⟨v3, X3, rfl, rfl, ho3⟩; obtain ⟨g3, cap3, rfl⟩ := Go.Joins.ownsRow_form ho3 (by omega); have HR3 := Lib.hid (Rd.own ho3); clear ho3)
          | (go_at_call 13; (refine (HSa2.out _ (below_next HB1.out (by (repeat (first | with_reducible exact Below.refl _ _ | (with_reducible refine Below.alloc ?_ (by first | omega | (simp [go_sem] <;> omega)) _) | (with_reducible refine Below.drew ?_) | (with_reducible refine Below.drewN ?_ _) | (with_reducible refine Below.grow ?_ (by first | omega | (simp [go_sem] <;> omega)) _) | (with_reducible refine Below.setCell ?_ (by first | omega | (simp [go_sem] <;> omega)) _))); done)) _ _ HR3.out).mono ?_); rintro e w' ⟨rfl, X4, rfl⟩)
          | (at_builtin; refine append_abs rfl _ _ 29 rfl steps_row w.heap.size rfl ((own_grow (own_grow HO1.out X3) X4).alloc _) (by simp [go_sem] <;> omega) ⟨_, 0, none⟩ 1 1 [.int .i64 gk, .int .i64 gx, .int .i64 gy] rfl rfl (new_cells (c := #[.int .i64 gk, .int .i64 gx, .int .i64 gy]) (by simp [go_sem])) (by simp [Value.oneCell']) (by unfold maxLen; omega) (by omega) ?_; intro v5 W5 ho5 hg5; have HB5 := own_step hg5 ((own_grow (own_grow HO1.out X3) X4).alloc _) (below_next HB.out (below_next HB1.out (by (repeat (first | with_reducible exact Below.refl _ _ | (with_reducible refine Below.alloc ?_ (by first | omega | (simp [go_sem] <;> omega)) _) | (with_reducible refine Below.drew ?_) | (with_reducible refine Below.drewN ?_ _) | (with_reducible refine Below.grow ?_ (by first | omega | (simp [go_sem] <;> omega)) _) | (with_reducible refine Below.setCell ?_ (by first | omega | (simp [go_sem] <;> omega)) _))); done))); have HO5 := Lib.hid ho5; clear ho5 hg5))
        go_roundw
        case rel =>
          refine ⟨Av, c' - TS.length, (x :: r).drop TS.length, ss ++ [⟨gk, gx, gy⟩], ?_, ?_, ?_, HR5.out, HB5.out, ?_, HP5.out, HK2⟩
          · have := HDK.out; rw [List.length_append]; simp only [List.length_cons, List.length_nil]; omega
          · rw [HDK.out, ← hAv]
          · have := HDK.out; omega
          · show World.ownsRow _ _ _ _ _ _ _
            rw [cells3_snoc, List.length_append]; exact HO5.out
        case measure => simp [sLen]; omega
end Go.Proofs.YtgcccpdadponiaaGreatDoor
namespace Go.Proofs.YtgcccpdadponiaaGreatDoor
open Go.RowKit Go.Shelf
attribute [local go_sem] Oper.semAt_some
def unitsL : List Bs := [[], [37], [112, 120], [101, 109], [114, 101, 109], [112, 116], [118, 104], [118, 119], [100, 101, 103], [115], [109, 115]]
theorem unit_in (u : Bs) : unitB u = decide (u ∈ unitsL) := by
  unfold unitB unitsL pxT degT; rw [Bool.eq_iff_iff]; simp
theorem hex_step {t : Bs} {k : Nat} (h : k < t.length) (h1 : (t.take k).all hexB = true) (h2 : hexB t[k] = true) : (t.take (k + 1)).all hexB = true := by
  rw [List.take_succ_eq_append_getElem h, List.all_append, h1]; simp [h2]
theorem hex_not {t : Bs} {k : Nat} (h : k < t.length) (h2 : hexB t[k] = false) : hashB t = false := by
  unfold hashB
  rw [Bool.and_eq_false_iff]
  right
  rw [List.all_eq_false]
  exact ⟨t[k], List.getElem_mem h, by simp [h2]⟩
theorem hex_end {t : Bs} (h : (t.take t.length).all hexB = true) : hashB t = decide (t.length = 3 ∨ t.length = 4 ∨ t.length = 6 ∨ t.length = 8) := by
  rw [List.take_length] at h
  unfold hashB; rw [h, Bool.and_true]
set_option maxRecDepth 100000 in
set_option maxHeartbeats 4000000 in
theorem rplain16_any (x : Css) (w : World) (ho : CssOk x) (h1 : x.text.length ≤ 1000000) (h2 : x.unit.length ≤ 1000000) : Calls Tryz.prog 30 #[Css.agg x] w (Ret (.bool (plainC x)) w) := by
  have hmx : Tryz.prog.follows .mixedOrders = true := by kernel_rfl
  obtain ⟨R, hR⟩ : ∃ R, rightC x = R := ⟨_, rfl⟩
  obtain ⟨U, hU⟩ : ∃ U, unitB x.unit = U := ⟨_, rfl⟩
  obtain ⟨H, hH⟩ : ∃ H, hashB x.text = H := ⟨_, rfl⟩
  have HRt := Lib.hid (fun W => hR ▸ rright_any x W ho h1 h2)
  have HI := Lib.hid (fun b W (h : Rd W (.slice (some ⟨b, 0, none⟩) 11 11) 11 1 (unitsL.map sv)) => show Calls Tryz.prog 29 #[.string ⟨x.unit.toArray⟩, .slice (some ⟨b, 0, none⟩) 11 11] W (fun e w' => e = .returned (.bool U) ∧ W = w') from by
    have h9 := rin_any x.unit _ unitsL W h
    rwa [← unit_in, hU] at h9)
  have HN : Hid (plainC x = ((if x.kind = 1 then true else if x.kind = 5 then true else if x.kind = 3 then U else if x.kind = 4 then H else if x.kind = 6 then (((⟨x.text.toArray⟩ : ByteArray).toList == [44]) || ((⟨x.text.toArray⟩ : ByteArray).toList == [47])) else false) && R)) := by
    show _ = _
    have z1 : ((⟨x.text.toArray⟩ : ByteArray).toList == [44]) = decide (x.text = [44]) := by rw [ByteArray.toList_eq, Bool.eq_iff_iff]; simp
    have z2 : ((⟨x.text.toArray⟩ : ByteArray).toList == [47]) = decide (x.text = [47]) := by rw [ByteArray.toList_eq, Bool.eq_iff_iff]; simp
    rw [plainC, plain0_by, hR, hU, hH, z1, z2]
  obtain ⟨D, hD⟩ : ∃ D, plainC x = D := ⟨_, rfl⟩
  rw [hD] at HN ⊢
  have HH := Lib.hid hH
  have HTx : Hid ((⟨x.text.toArray⟩ : ByteArray).data.toList = x.text) := rfl
  clear hD hR hU hH ho h2
  simp only [Css.agg, sv] at HRt ⊢
  generalize x.text = tx at *
  obtain ⟨a1, ha1⟩ : ∃ S : ByteArray, (⟨tx.toArray⟩ : ByteArray) = S := ⟨_, rfl⟩
  have hsz : a1.size = tx.length := by rw [← ha1]; rfl
  rw [ha1] at HRt HN HTx ⊢
  clear ha1
  generalize (⟨x.unit.toArray⟩ : ByteArray) = a2 at *
  generalize x.num = nn at *
  cases R
  · have HN2 : Hid (D = false) := by show _ = _; rw [HN.out, Bool.and_false]
    generalize x.kind = kk at *
    have HRt2 := Lib.hid HRt.out
    clear HI hsz h1
    go_enter Tryz.func30, Tryz.ntmps30
    go_wp2_with (go_at_call 53; (with_reducible refine (HRt2.out _).mono ?_); rintro e w' ⟨rfl, X1, rfl⟩)
    go_ret
    exact Ret.of (by rw [HN2.out]; rfl) (by repeat (first | with_reducible exact Below.refl _ _ | (with_reducible refine Below.alloc ?_ (by first | omega | (simp [go_sem] <;> omega)) _) | (with_reducible refine Below.drew ?_) | (with_reducible refine Below.drewN ?_ _) | (with_reducible refine Below.grow ?_ (by first | omega | (simp [go_sem] <;> omega)) _) | (with_reducible refine Below.setCell ?_ (by first | omega | (simp [go_sem] <;> omega)) _)))
  by_cases k1 : x.kind = 1
  · have HN2 : Hid (D = true) := by show _ = _; rw [HN.out, if_pos k1]; rfl
    rw [k1] at HRt ⊢
    have HRt2 := Lib.hid HRt.out
    clear HI hsz h1 k1
    go_enter Tryz.func30, Tryz.ntmps30
    go_wp2_with (go_at_call 53; (with_reducible refine (HRt2.out _).mono ?_); rintro e w' ⟨rfl, X1, rfl⟩)
    go_ret
    exact Ret.of (by rw [HN2.out]; rfl) (by repeat (first | with_reducible exact Below.refl _ _ | (with_reducible refine Below.alloc ?_ (by first | omega | (simp [go_sem] <;> omega)) _) | (with_reducible refine Below.drew ?_) | (with_reducible refine Below.drewN ?_ _) | (with_reducible refine Below.grow ?_ (by first | omega | (simp [go_sem] <;> omega)) _) | (with_reducible refine Below.setCell ?_ (by first | omega | (simp [go_sem] <;> omega)) _)))
  by_cases k5 : x.kind = 5
  · have HN2 : Hid (D = true) := by show _ = _; rw [HN.out, if_neg k1, if_pos k5]; rfl
    rw [k5] at HRt ⊢
    have HRt2 := Lib.hid HRt.out
    clear HI hsz h1 k1 k5
    go_enter Tryz.func30, Tryz.ntmps30
    go_wp2_with (go_at_call 53; (with_reducible refine (HRt2.out _).mono ?_); rintro e w' ⟨rfl, X1, rfl⟩)
    go_ret
    exact Ret.of (by rw [HN2.out]; rfl) (by repeat (first | with_reducible exact Below.refl _ _ | (with_reducible refine Below.alloc ?_ (by first | omega | (simp [go_sem] <;> omega)) _) | (with_reducible refine Below.drew ?_) | (with_reducible refine Below.drewN ?_ _) | (with_reducible refine Below.grow ?_ (by first | omega | (simp [go_sem] <;> omega)) _) | (with_reducible refine Below.setCell ?_ (by first | omega | (simp [go_sem] <;> omega)) _)))
  by_cases k3 : x.kind = 3
  · have HN2 : Hid (D = U) := by show _ = _; rw [HN.out, if_neg k1, if_neg k5, if_pos k3, Bool.and_true]
    rw [k3] at HRt ⊢
    have HRt2 := Lib.hid HRt.out
    clear hsz h1 k1 k5 k3
    go_enter Tryz.func30, Tryz.ntmps30
    go_wp2_with (first
      | (go_at_call 53; (with_reducible refine (HRt2.out _).mono ?_); rintro e w' ⟨rfl, X1, rfl⟩)
      | (go_at_call 29; (refine (HI.out _ _ (by first | exact lit_rd (n := 11) (size := 1) rfl (by decide) rfl rfl | exact lit_rd (n := 11) (size := 1) rfl (by decide) (by simp [go_sem]) rfl)).mono ?_); rintro e w' ⟨rfl, rfl⟩))
    go_ret
    exact Ret.of (by rw [HN2.out]; rfl) (by repeat (first | with_reducible exact Below.refl _ _ | (with_reducible refine Below.alloc ?_ (by first | omega | (simp [go_sem] <;> omega)) _) | (with_reducible refine Below.drew ?_) | (with_reducible refine Below.drewN ?_ _) | (with_reducible refine Below.grow ?_ (by first | omega | (simp [go_sem] <;> omega)) _) | (with_reducible refine Below.setCell ?_ (by first | omega | (simp [go_sem] <;> omega)) _)))
  by_cases k4 : x.kind = 4
  · have HN2 : Hid (D = H) := by show _ = _; rw [HN.out, if_neg k1, if_neg k5, if_neg k3, if_pos k4, Bool.and_true]
    rw [k4] at HRt ⊢
    have HRt2 := Lib.hid HRt.out
    clear HI k1 k5 k3 k4
    have hszm : a1.size ≤ 1000000 := by omega
    have HSz := Lib.hid hsz
    clear hsz
    go_enter Tryz.func30, Tryz.ntmps30
    go_wp2_with (go_at_call 53; (with_reducible refine (HRt2.out _).mono ?_); rintro e w' ⟨rfl, X1, rfl⟩)
    go_loop [4] (fun i => ∃ k : Nat, k ≤ a1.size ∧ i = .int .i64 k ∧ Hid ((tx.take k).all hexB = true)) (fun i => a1.size - (intOf i).toNat)
    case atStart => exact ⟨0, by omega, rfl, by show _ = _; rfl⟩
    case round =>
      obtain ⟨k, hk, rfl, HK⟩ := hrel
      by_cases hlt : k < a1.size
      · have hkt : k < tx.length := by rw [← HSz.out]; exact hlt
        have HA : Hid (a1[k] = tx[k]) := at_bs a1 tx HTx.out k hlt
        have HHx : Hid (∀ W, Calls Tryz.prog 54 #[.int .u8 a1[k].toNat] W fun e w' => e = .returned (.bool (hexB a1[k])) ∧ W = w') := fun W => rhex_any a1[k] W
        cases hh : hexB a1[k]
        · have HF : Hid (H = false) := by show _ = _; rw [← HH.out]; exact hex_not hkt (by rw [← HA.out]; exact hh)
          rw [hh] at HHx
          clear hh
          go_wp2_with (go_at_call 54; (with_reducible refine (HHx.out _).mono ?_); rintro e w' ⟨rfl, rfl⟩)
          go_ret
          exact Ret.of (by rw [HN2.out, HF.out]; rfl) (by repeat (first | with_reducible exact Below.refl _ _ | (with_reducible refine Below.alloc ?_ (by first | omega | (simp [go_sem] <;> omega)) _) | (with_reducible refine Below.drew ?_) | (with_reducible refine Below.drewN ?_ _) | (with_reducible refine Below.grow ?_ (by first | omega | (simp [go_sem] <;> omega)) _) | (with_reducible refine Below.setCell ?_ (by first | omega | (simp [go_sem] <;> omega)) _)))
        · have HF : Hid ((tx.take (k + 1)).all hexB = true) := hex_step hkt HK.out (by rw [← HA.out]; exact hh)
          rw [hh] at HHx
          clear hh
          go_wp2_with (go_at_call 54; (with_reducible refine (HHx.out _).mono ?_); rintro e w' ⟨rfl, rfl⟩)
          go_round
          case rel => exact ⟨k + 1, by omega, by go_num, HF⟩
          case measure => simp [intOf]; omega
      · have HE : Hid (H = decide (a1.size = 3 ∨ a1.size = 4 ∨ a1.size = 6 ∨ a1.size = 8)) := by
          show _ = _
          have h8 := HK.out
          rw [show k = tx.length by have := HSz.out; omega] at h8
          rw [← HH.out, hex_end h8, HSz.out]
        clear HK
        by_cases h : a1.size = 3 ∨ a1.size = 4 ∨ a1.size = 6 ∨ a1.size = 8
        · rw [decide_eq_true h] at HE
          have HE2 := Lib.hid HE.out
          rcases h with h | h | h | h
          all_goals
            have e3 : ((a1.size : Int) == 3) = decide (a1.size = 3) := by rw [Bool.eq_iff_iff]; simp; omega
            have e4 : ((a1.size : Int) == 4) = decide (a1.size = 4) := by rw [Bool.eq_iff_iff]; simp; omega
            have e6 : ((a1.size : Int) == 6) = decide (a1.size = 6) := by rw [Bool.eq_iff_iff]; simp; omega
            have e8 : ((a1.size : Int) == 8) = decide (a1.size = 8) := by rw [Bool.eq_iff_iff]; simp; omega
            have d3 : decide (a1.size = 3) = _ := congrArg (fun n : Nat => decide (n = 3)) h
            have d4 : decide (a1.size = 4) = _ := congrArg (fun n : Nat => decide (n = 4)) h
            have d6 : decide (a1.size = 6) = _ := congrArg (fun n : Nat => decide (n = 6)) h
            have d8 : decide (a1.size = 8) = _ := congrArg (fun n : Nat => decide (n = 8)) h
            rw [d3] at e3
            rw [d4] at e4
            rw [d6] at e6
            rw [d8] at e8
            simp only [decide_true, Nat.reduceEqDiff, decide_false] at e3 e4 e6 e8
            clear h d3 d4 d6 d8 HE
            go_wp2_with fail
            go_ret
            exact Ret.of (by rw [HN2.out, HE2.out]; rfl) (by repeat (first | with_reducible exact Below.refl _ _ | (with_reducible refine Below.alloc ?_ (by first | omega | (simp [go_sem] <;> omega)) _) | (with_reducible refine Below.drew ?_) | (with_reducible refine Below.drewN ?_ _) | (with_reducible refine Below.grow ?_ (by first | omega | (simp [go_sem] <;> omega)) _) | (with_reducible refine Below.setCell ?_ (by first | omega | (simp [go_sem] <;> omega)) _)))
        · rw [decide_eq_false h] at HE
          have e3 : ((a1.size : Int) == 3) = false := by rw [beq_eq_false_iff_ne]; omega
          have e4 : ((a1.size : Int) == 4) = false := by rw [beq_eq_false_iff_ne]; omega
          have e6 : ((a1.size : Int) == 6) = false := by rw [beq_eq_false_iff_ne]; omega
          have e8 : ((a1.size : Int) == 8) = false := by rw [beq_eq_false_iff_ne]; omega
          have HE2 := Lib.hid HE.out
          clear h HE
          go_wp2_with fail
          go_ret
          exact Ret.of (by rw [HN2.out, HE2.out]; rfl) (by repeat (first | with_reducible exact Below.refl _ _ | (with_reducible refine Below.alloc ?_ (by first | omega | (simp [go_sem] <;> omega)) _) | (with_reducible refine Below.drew ?_) | (with_reducible refine Below.drewN ?_ _) | (with_reducible refine Below.grow ?_ (by first | omega | (simp [go_sem] <;> omega)) _) | (with_reducible refine Below.setCell ?_ (by first | omega | (simp [go_sem] <;> omega)) _)))
  by_cases k6 : x.kind = 6
  · have HN2 : Hid (D = ((a1.toList == [44]) || (a1.toList == [47]))) := by show _ = _; rw [HN.out, if_neg k1, if_neg k5, if_neg k3, if_neg k4, if_pos k6, Bool.and_true]
    rw [k6] at HRt ⊢
    have HRt2 := Lib.hid HRt.out
    clear HI hsz h1 k1 k5 k3 k4 k6 HN
    cases m1 : (a1.toList == [44]) <;> cases m2 : (a1.toList == [47])
    all_goals
      have HN3 : Hid (D = _) := HN2.out.trans (congr (congrArg or m1) m2)
      go_enter Tryz.func30, Tryz.ntmps30
      go_wp2_with (go_at_call 53; (with_reducible refine (HRt2.out _).mono ?_); rintro e w' ⟨rfl, X1, rfl⟩)
      go_ret
      exact Ret.of (by rw [HN3.out]; first | rfl | simp) (by repeat (first | with_reducible exact Below.refl _ _ | (with_reducible refine Below.alloc ?_ (by first | omega | (simp [go_sem] <;> omega)) _) | (with_reducible refine Below.drew ?_) | (with_reducible refine Below.drewN ?_ _) | (with_reducible refine Below.grow ?_ (by first | omega | (simp [go_sem] <;> omega)) _) | (with_reducible refine Below.setCell ?_ (by first | omega | (simp [go_sem] <;> omega)) _)))
  · have b1 : (x.kind == 1) = false := by simpa using k1
    have b5 : (x.kind == 5) = false := by simpa using k5
    have b3 : (x.kind == 3) = false := by simpa using k3
    have b4 : (x.kind == 4) = false := by simpa using k4
    have b6 : (x.kind == 6) = false := by simpa using k6
    have HN2 : Hid (D = false) := by show _ = _; rw [HN.out, if_neg k1, if_neg k5, if_neg k3, if_neg k4, if_neg k6]; rfl
    clear HN k1 k5 k3 k4 k6 HI hsz h1
    generalize x.kind = kk at *
    have HRt2 := Lib.hid HRt.out
    go_enter Tryz.func30, Tryz.ntmps30
    go_wp2_with (go_at_call 53; (with_reducible refine (HRt2.out _).mono ?_); rintro e w' ⟨rfl, X1, rfl⟩)
    go_ret
    exact Ret.of (by rw [HN2.out]; rfl) (by repeat (first | with_reducible exact Below.refl _ _ | (with_reducible refine Below.alloc ?_ (by first | omega | (simp [go_sem] <;> omega)) _) | (with_reducible refine Below.drew ?_) | (with_reducible refine Below.drewN ?_ _) | (with_reducible refine Below.grow ?_ (by first | omega | (simp [go_sem] <;> omega)) _) | (with_reducible refine Below.setCell ?_ (by first | omega | (simp [go_sem] <;> omega)) _)))
end Go.Proofs.YtgcccpdadponiaaGreatDoor
namespace Go.Proofs.YtgcccpdadponiaaGreatDoor
open Go.RowKit Go.Shelf
attribute [local go_sem] Oper.semAt_some
def colsL : List Bs := [[114, 103, 98], [114, 103, 98, 97], [104, 115, 108], [104, 115, 108, 97]]
theorem colour_in (x : Css) : colourC x = (decide (x.kind = 2) && decide (x.text ∈ colsL) && decide (x.num = 0) && decide (x.unit = [])) := by
  obtain ⟨k, t, m, u⟩ := x
  unfold colourC fnC colsL rgbT rgbaT hslT hslaT
  rw [Bool.eq_iff_iff]
  simp
  constructor
  · rintro (h | h | h | h) <;> simp [h]
  · rintro ⟨⟨⟨h1, h2⟩, h3⟩, h4⟩
    rcases h2 with h2 | h2 | h2 | h2 <;> simp [h1, h2, h3, h4]
theorem none_split (x : Css) : decide (x = noneC) = ((x.kind == 1) && ((⟨x.text.toArray⟩ : ByteArray).toList == [110, 111, 110, 101]) && (x.num == 0) && (⟨x.unit.toArray⟩ : ByteArray).toList.isEmpty) := by
  rw [css_eq, ba_emp]
  have z1 : ((⟨noneC.text.toArray⟩ : ByteArray).toList) = [110, 111, 110, 101] := by rw [ByteArray.toList_eq]; rfl
  have z2 : ((⟨x.unit.toArray⟩ : ByteArray).toList == (⟨noneC.unit.toArray⟩ : ByteArray).toList) = decide (x.unit = []) := by rw [ba_bq]; rfl
  rw [z1, z2]; rfl
theorem mark_split (x : Css) : decide (x = mark1 41) = ((x.kind == 6) && ((⟨x.text.toArray⟩ : ByteArray).toList == [41]) && (x.num == 0) && (⟨x.unit.toArray⟩ : ByteArray).toList.isEmpty) := by
  rw [css_eq, ba_emp]
  have z1 : ((⟨(mark1 41).text.toArray⟩ : ByteArray).toList) = [41] := by rw [ByteArray.toList_eq]; rfl
  have z2 : ((⟨x.unit.toArray⟩ : ByteArray).toList == (⟨(mark1 41).unit.toArray⟩ : ByteArray).toList) = decide (x.unit = []) := by rw [ba_bq]; rfl
  rw [z1, z2]; rfl
theorem Calls.name_world {P : Program} {f : FuncId} {args : Array Value} {w : World} {Q : Ending → World → Prop} (h : ∀ W, w = W → Calls P f args W Q) : Calls P f args w Q := h w rfl
theorem moves_not {l : List Css} (h : l ≠ [noneC]) : movesT l = match stepsT l with
    | none => none
    | some ss => if neatE ss = 0 then (if neatOf ss = [] then some [noneC] else some (piecesT (neatOf ss))) else none := by
  unfold movesT; rw [if_neg h]; rfl
set_option maxRecDepth 100000 in
set_option maxHeartbeats 8000000 in
theorem rvalue16_any (nm : Bs) (A : Option Addr) (n c : Nat) (l : List Css) (w : World) (h : Rd w (.slice A n c) l.length 4 (cssCells l)) (hA : A = none → c = 0) (hc : l.length ≤ c) (hs : Short l) (hl : l.length ≤ 100000000) :
    Calls Tryz.prog 12 #[.string ⟨nm.toArray⟩, .slice A n c] w (RetV w (valueT nm l)) := by
  have hmx : Tryz.prog.follows .mixedOrders = true := by kernel_rfl
  have hn0 : n = l.length := by obtain ⟨_, _, _, _, he, _⟩ := h; cases he; rfl
  subst hn0
  have hp : ∀ x ∈ l, CssOk x := fun x hx => (hs x hx).1
  have HRd := Lib.hid (fun W (hB : Below w.heap.size w W) => show Rd W (.slice A l.length c) l.length 4 (cssCells l) from by obtain ⟨X, rfl⟩ := grow_of_below hB; exact h.grow X)
  have HSh := Lib.hid hs
  have HA := Lib.hid hA
  have HSt := Lib.hid (fun W (hB : Below w.heap.size w W) => rsteps16_any A l.length c l W (HRd.out W hB) hc hp hl)
  have hnz : ((⟨nm.toArray⟩ : ByteArray).toList == [116, 114, 97, 110, 115, 102, 111, 114, 109]) = decide (nm = transT) := by rw [ByteArray.toList_eq, Bool.eq_iff_iff]; exact beq_iff_eq.trans decide_eq_true_iff.symm
  by_cases h0 : l = []
  · have HN : Hid (valueT nm l = none) := by show _ = _; unfold valueT; rw [if_pos h0]
    have hl0 : l.length = 0 := by rw [h0]; rfl
    generalize (⟨nm.toArray⟩ : ByteArray) = S at *
    rw [hl0]
    clear h0 hnz HSt HRd h hA hs
    go_enter Tryz.func12, Tryz.ntmps12
    go_wp2_with fail
    go_ret2
    rw [HN.out]
    exact RetV.no (by repeat (first | with_reducible exact Below.refl _ _ | (with_reducible refine Below.alloc ?_ (by first | omega | (simp [go_sem] <;> omega)) _) | (with_reducible refine Below.drew ?_) | (with_reducible refine Below.drewN ?_ _) | (with_reducible refine Below.grow ?_ (by first | omega | (simp [go_sem] <;> omega)) _) | (with_reducible refine Below.setCell ?_ (by first | omega | (simp [go_sem] <;> omega)) _))) rfl
  have hpos : 0 < l.length := List.length_pos_iff.2 h0
  have b0 : ((l.length : Int) == 0) = false := by rw [beq_eq_false_iff_ne]; omega
  by_cases ht : nm = transT
  · have HN : Hid (valueT nm l = movesT l) := by show _ = _; unfold valueT; rw [if_neg h0, if_pos ht]
    rw [decide_eq_true ht] at hnz
    generalize (⟨nm.toArray⟩ : ByteArray) = S at *
    obtain ⟨D, hD⟩ : ∃ D, decide (l = [noneC]) = D := ⟨_, rfl⟩
    have HD := Lib.hid hD
    obtain ⟨b, off, rfl, hb, y0, y1, y2, y3⟩ := h.css 0 hpos
    simp only [Nat.zero_mul, Nat.add_zero] at y0 y1 y2 y3
    have HDx : Hid (D = (decide (l.length = 1) && decide (l[0] = noneC))) := by
      show _ = _
      rw [← hD, Bool.eq_iff_iff]
      simp only [Bool.and_eq_true, decide_eq_true_eq]
      constructor
      · intro h; subst h; exact ⟨rfl, rfl⟩
      · rintro ⟨h1, h2⟩
        obtain ⟨y, rfl⟩ := List.length_eq_one_iff.1 h1
        rw [← h2]; rfl
    have HSp := Lib.hid (none_split l[0])
    clear h0 ht hD h hA hs hp
    simp only [sv] at y0 y1 y2 y3
    generalize l[0] = x at *
    generalize (⟨x.text.toArray⟩ : ByteArray) = a1 at *
    generalize (⟨x.unit.toArray⟩ : ByteArray) = a2 at *
    generalize x.num = nn at *
    generalize x.kind = kk at *
    go_enter Tryz.func12, Tryz.ntmps12
    go_upto_region 5 with fail
    refine name_world fun W0 hW0 => ?_
    have HB0 : Hid (Below w.heap.size w W0) := by show Below _ _ _; rw [hW0]; exact (by repeat (first | with_reducible exact Below.refl _ _ | (with_reducible refine Below.alloc ?_ (by first | omega | (simp [go_sem] <;> omega)) _) | (with_reducible refine Below.drew ?_) | (with_reducible refine Below.drewN ?_ _) | (with_reducible refine Below.grow ?_ (by first | omega | (simp [go_sem] <;> omega)) _) | (with_reducible refine Below.setCell ?_ (by first | omega | (simp [go_sem] <;> omega)) _)))
    have hlt0 : w.heap.size < W0.heap.size := by rw [hW0]; simp
    have k0 : W0.cell? ⟨w.heap.size, 0, none⟩ = some (.int .i64 1) := by rw [hW0]; simp [go_sem]
    have k1 : W0.cell? ⟨w.heap.size, 1, none⟩ = some (.string ⟨#[110, 111, 110, 101]⟩) := by rw [hW0]; simp [go_sem]
    have k2 : W0.cell? ⟨w.heap.size, 2, none⟩ = some (.int .i64 0) := by rw [hW0]; simp [go_sem]
    have k3 : W0.cell? ⟨w.heap.size, 3, none⟩ = some (.string ⟨#[]⟩) := by rw [hW0]; simp [go_sem]
    clear hW0
    have x0 := (HB0.out.cell hb).trans y0
    have x1 := (HB0.out.cell hb).trans y1
    have x2 := (HB0.out.cell hb).trans y2
    have x3 := (HB0.out.cell hb).trans y3
    have hb0 : b < W0.heap.size := Nat.lt_of_lt_of_le hb HB0.out.size
    clear y0 y1 y2 y3
    go_cut [30] (fun s30 wz => s30 = .bool D ∧ ∃ Wn, Hid (Below W0.heap.size W0 Wn) ∧ Wn = wz)
    case first =>
      by_cases hl1 : l.length = 1
      · have e1 : ((l.length : Int) == 1) = true := by simp; omega
        rw [decide_eq_true hl1, Bool.true_and, HSp.out] at HDx
        clear hl1 HSp HSt HRd HD
        cases m0 : (kk == 1)
        · have HF : Hid (D = false) := by show _ = _; rw [HDx.out, m0]; try simp
          refine wp_region_grow (by kernel_rfl) (by kernel_rfl) ?_
          repeat (go_big_quiet_step (fail))
          refine wpQuiet_nil ?_
          intro _ hw'; obtain ⟨nq, hw''⟩ := hw'; subst hw''
          go_wp2_with fail
          go_meet
          case rel => exact ⟨by rw [HF.out], _, (by show Below _ _ _; exact (by (repeat (first | with_reducible exact Below.refl _ _ | (with_reducible refine Below.alloc ?_ (by first | omega | (simp [go_sem] <;> omega)) _) | (with_reducible refine Below.drew ?_) | (with_reducible refine Below.drewN ?_ _) | (with_reducible refine Below.grow ?_ (by first | omega | (simp [go_sem] <;> omega)) _) | (with_reducible refine Below.setCell ?_ (by first | omega | (simp [go_sem] <;> omega)) _))); done)), rfl⟩
        cases m1 : (a1.toList == [110, 111, 110, 101])
        · have HF : Hid (D = false) := by show _ = _; rw [HDx.out, m0, m1]; try simp
          refine wp_region_grow (by kernel_rfl) (by kernel_rfl) ?_
          repeat (go_big_quiet_step (fail))
          refine wpQuiet_nil ?_
          intro _ hw'; obtain ⟨nq, hw''⟩ := hw'; subst hw''
          go_wp2_with fail
          go_meet
          case rel => exact ⟨by rw [HF.out], _, (by show Below _ _ _; exact (by (repeat (first | with_reducible exact Below.refl _ _ | (with_reducible refine Below.alloc ?_ (by first | omega | (simp [go_sem] <;> omega)) _) | (with_reducible refine Below.drew ?_) | (with_reducible refine Below.drewN ?_ _) | (with_reducible refine Below.grow ?_ (by first | omega | (simp [go_sem] <;> omega)) _) | (with_reducible refine Below.setCell ?_ (by first | omega | (simp [go_sem] <;> omega)) _))); done)), rfl⟩
        cases m2 : (nn == 0)
        · have HF : Hid (D = false) := by show _ = _; rw [HDx.out, m0, m1, m2]; try simp
          refine wp_region_grow (by kernel_rfl) (by kernel_rfl) ?_
          repeat (go_big_quiet_step (fail))
          refine wpQuiet_nil ?_
          intro _ hw'; obtain ⟨nq, hw''⟩ := hw'; subst hw''
          go_wp2_with fail
          go_meet
          case rel => exact ⟨by rw [HF.out], _, (by show Below _ _ _; exact (by (repeat (first | with_reducible exact Below.refl _ _ | (with_reducible refine Below.alloc ?_ (by first | omega | (simp [go_sem] <;> omega)) _) | (with_reducible refine Below.drew ?_) | (with_reducible refine Below.drewN ?_ _) | (with_reducible refine Below.grow ?_ (by first | omega | (simp [go_sem] <;> omega)) _) | (with_reducible refine Below.setCell ?_ (by first | omega | (simp [go_sem] <;> omega)) _))); done)), rfl⟩
        cases m3 : a2.toList.isEmpty
        · have HF : Hid (D = false) := by show _ = _; rw [HDx.out, m0, m1, m2, m3]; try simp
          refine wp_region_grow (by kernel_rfl) (by kernel_rfl) ?_
          repeat (go_big_quiet_step (fail))
          refine wpQuiet_nil ?_
          intro _ hw'; obtain ⟨nq, hw''⟩ := hw'; subst hw''
          go_wp2_with fail
          go_meet
          case rel => exact ⟨by rw [HF.out], _, (by show Below _ _ _; exact (by (repeat (first | with_reducible exact Below.refl _ _ | (with_reducible refine Below.alloc ?_ (by first | omega | (simp [go_sem] <;> omega)) _) | (with_reducible refine Below.drew ?_) | (with_reducible refine Below.drewN ?_ _) | (with_reducible refine Below.grow ?_ (by first | omega | (simp [go_sem] <;> omega)) _) | (with_reducible refine Below.setCell ?_ (by first | omega | (simp [go_sem] <;> omega)) _))); done)), rfl⟩
        have HF : Hid (D = true) := by show _ = _; rw [HDx.out, m0, m1, m2, m3]; rfl
        refine wp_region_grow (by kernel_rfl) (by kernel_rfl) ?_
        repeat (go_big_quiet_step (fail))
        refine wpQuiet_nil ?_
        intro _ hw'; obtain ⟨nq, hw''⟩ := hw'; subst hw''
        go_wp2_with fail
        go_meet
        case rel => exact ⟨by rw [HF.out], _, (by show Below _ _ _; exact (by (repeat (first | with_reducible exact Below.refl _ _ | (with_reducible refine Below.alloc ?_ (by first | omega | (simp [go_sem] <;> omega)) _) | (with_reducible refine Below.drew ?_) | (with_reducible refine Below.drewN ?_ _) | (with_reducible refine Below.grow ?_ (by first | omega | (simp [go_sem] <;> omega)) _) | (with_reducible refine Below.setCell ?_ (by first | omega | (simp [go_sem] <;> omega)) _))); done)), rfl⟩
      · have e1 : ((l.length : Int) == 1) = false := by rw [beq_eq_false_iff_ne]; omega
        rw [decide_eq_false hl1, Bool.false_and] at HDx
        have HF := Lib.hid HDx.out
        clear hl1 HSp HSt HRd HD
        refine wp_region_grow (by kernel_rfl) (by kernel_rfl) ?_
        repeat (go_big_quiet_step (fail))
        refine wpQuiet_nil ?_
        intro _ hw'; obtain ⟨nq, hw''⟩ := hw'; subst hw''
        go_wp2_with fail
        go_meet
        case rel => exact ⟨by rw [HF.out], _, (by show Below _ _ _; exact (by (repeat (first | with_reducible exact Below.refl _ _ | (with_reducible refine Below.alloc ?_ (by first | omega | (simp [go_sem] <;> omega)) _) | (with_reducible refine Below.drew ?_) | (with_reducible refine Below.drewN ?_ _) | (with_reducible refine Below.grow ?_ (by first | omega | (simp [go_sem] <;> omega)) _) | (with_reducible refine Below.setCell ?_ (by first | omega | (simp [go_sem] <;> omega)) _))); done)), rfl⟩
    case rest =>
      obtain ⟨rfl, wx, HBx, rfl⟩ := hcut
      have k0 := (HBx.out.cell hlt0).trans k0
      have k1 := (HBx.out.cell hlt0).trans k1
      have k2 := (HBx.out.cell hlt0).trans k2
      have k3 := (HBx.out.cell hlt0).trans k3
      have HB0 := Lib.hid (below_next HB0.out HBx.out)
      have hlt0 : w.heap.size < wx.heap.size := Nat.lt_of_lt_of_le hlt0 HBx.out.size
      clear x0 x1 x2 x3 HBx hb0
      cases D
      rotate_left
      · have HN2 : Hid (movesT l = some l) := by show _ = _; have h9 := of_decide_eq_true HD.out; unfold movesT; rw [if_pos h9, h9]
        go_wp2_with fail
        go_ret2
        rw [HN.out, HN2.out]
        exact RetV.rd (below_next HB0.out (by (repeat (first | with_reducible exact Below.refl _ _ | (with_reducible refine Below.alloc ?_ (by first | omega | (simp [go_sem] <;> omega)) _) | (with_reducible refine Below.drew ?_) | (with_reducible refine Below.drewN ?_ _) | (with_reducible refine Below.grow ?_ (by first | omega | (simp [go_sem] <;> omega)) _) | (with_reducible refine Below.setCell ?_ (by first | omega | (simp [go_sem] <;> omega)) _))); done)) rfl rfl HA.out hc (HRd.out _ (below_next HB0.out (by (repeat (first | with_reducible exact Below.refl _ _ | (with_reducible refine Below.alloc ?_ (by first | omega | (simp [go_sem] <;> omega)) _) | (with_reducible refine Below.drew ?_) | (with_reducible refine Below.drewN ?_ _) | (with_reducible refine Below.grow ?_ (by first | omega | (simp [go_sem] <;> omega)) _) | (with_reducible refine Below.setCell ?_ (by first | omega | (simp [go_sem] <;> omega)) _))); done)))
      have HM := Lib.hid (moves_not (of_decide_eq_false HD.out))
      clear HDx HSp HD
      cases hs : stepsT l with
      | none =>
        rw [hs] at HM
        have HSt2 := Lib.hid (fun W (hB : Below w.heap.size w W) => show Calls Tryz.prog 15 #[.slice (some ⟨b, off, none⟩) l.length c] W (fun e w' => ∃ v, e = .returned (.tuple #[v, .bool false]) ∧ Below W.heap.size W w' ∧ Sl w' v []) from by
          have h9 := HSt.out W hB
          rw [hs] at h9
          exact h9.mono fun e w' ⟨v, X, h1, h2, h3⟩ => ⟨v, h1, by rw [h2]; exact below_grow _ _, by rw [h2]; exact h3⟩)
        have HNe := Lib.hid (fun v W (hv : Sl W v []) => (rneat_any v [] W hv).mono fun e w' h => RetL.abs h)
        rw [nil_neat.1, nil_neat.2] at HNe
        have HN2 : Hid (movesT l = none) := HM.out
        clear hs HSt HM HRd k0 k1 k2 k3
        go_wp2_with (first
          | (go_at_call 15; (refine (HSt2.out _ (below_next HB0.out (by (repeat (first | with_reducible exact Below.refl _ _ | (with_reducible refine Below.alloc ?_ (by first | omega | (simp [go_sem] <;> omega)) _) | (with_reducible refine Below.drew ?_) | (with_reducible refine Below.drewN ?_ _) | (with_reducible refine Below.grow ?_ (by first | omega | (simp [go_sem] <;> omega)) _) | (with_reducible refine Below.setCell ?_ (by first | omega | (simp [go_sem] <;> omega)) _))); done))).mono ?_); rintro e W2 ⟨v2, rfl, hb2, hsl2⟩; have HS2 := Lib.hid hsl2; have HB2 := Lib.hid (below_next (show Below wx.heap.size wx _ from (by (repeat (first | with_reducible exact Below.refl _ _ | (with_reducible refine Below.alloc ?_ (by first | omega | (simp [go_sem] <;> omega)) _) | (with_reducible refine Below.drew ?_) | (with_reducible refine Below.drewN ?_ _) | (with_reducible refine Below.grow ?_ (by first | omega | (simp [go_sem] <;> omega)) _) | (with_reducible refine Below.setCell ?_ (by first | omega | (simp [go_sem] <;> omega)) _))); done)) hb2); clear hb2 hsl2)
          | (go_at_call 28; (refine (HNe.out _ _ HS2.out).mono ?_); rintro e W3 ⟨v3, rfl, hb3, hsl3⟩; have HB3 := Lib.hid (below_next HB2.out hb3); clear hsl3; clear hb3))
        go_ret2
        rw [HN.out, HN2.out]
        exact RetV.no (below_next HB0.out HB3.out) rfl
      | some ss =>
        rw [hs] at HM
        have HSt2 := Lib.hid (fun W (hB : Below w.heap.size w W) => show Calls Tryz.prog 15 #[.slice (some ⟨b, off, none⟩) l.length c] W (fun e w' => ∃ v, e = .returned (.tuple #[v, .bool true]) ∧ Below W.heap.size W w' ∧ Sl w' v ss) from by
          have h9 := HSt.out W hB
          rw [hs] at h9
          exact h9.mono fun e w' ⟨v, X, h1, h2, h3⟩ => ⟨v, h1, by rw [h2]; exact below_grow _ _, by rw [h2]; exact h3⟩)
        have HNe := Lib.hid (fun v W (hv : Sl W v ss) => (rneat_any v ss W hv).mono fun e w' h => RetL.abs h)
        have HM2 : Hid (movesT l = if neatE ss = 0 then (if neatOf ss = [] then some [noneC] else some (piecesT (neatOf ss))) else none) := HM.out
        clear hs HSt HM HRd
        by_cases he : neatE ss = 0
        · have hnl := (neat_law ss he).1
          rw [if_pos he] at HM2
          rw [he] at HNe
          by_cases hn0 : neatOf ss = []
          · have HN2 : Hid (movesT l = some [noneC]) := by show _ = _; rw [HM2.out, if_pos hn0]
            rw [hn0] at HNe
            clear HM2 hn0 hnl he
            go_wp2_with (first
              | (go_at_call 15; (refine (HSt2.out _ (below_next HB0.out (by (repeat (first | with_reducible exact Below.refl _ _ | (with_reducible refine Below.alloc ?_ (by first | omega | (simp [go_sem] <;> omega)) _) | (with_reducible refine Below.drew ?_) | (with_reducible refine Below.drewN ?_ _) | (with_reducible refine Below.grow ?_ (by first | omega | (simp [go_sem] <;> omega)) _) | (with_reducible refine Below.setCell ?_ (by first | omega | (simp [go_sem] <;> omega)) _))); done))).mono ?_); rintro e W2 ⟨v2, rfl, hb2, hsl2⟩; have HS2 := Lib.hid hsl2; have HB2 := Lib.hid (below_next (show Below wx.heap.size wx _ from (by (repeat (first | with_reducible exact Below.refl _ _ | (with_reducible refine Below.alloc ?_ (by first | omega | (simp [go_sem] <;> omega)) _) | (with_reducible refine Below.drew ?_) | (with_reducible refine Below.drewN ?_ _) | (with_reducible refine Below.grow ?_ (by first | omega | (simp [go_sem] <;> omega)) _) | (with_reducible refine Below.setCell ?_ (by first | omega | (simp [go_sem] <;> omega)) _))); done)) hb2); clear hb2 hsl2)
              | (go_at_call 28; (refine (HNe.out _ _ HS2.out).mono ?_); rintro e W3 ⟨v3, rfl, hb3, hsl3⟩; have HB3 := Lib.hid (below_next HB2.out hb3); obtain ⟨a3, cap3, rfl, _, _⟩ := hsl3; have r0 := (HB3.out.cell hlt0).trans k0; have r1 := (HB3.out.cell hlt0).trans k1; have r2 := (HB3.out.cell hlt0).trans k2; have r3 := (HB3.out.cell hlt0).trans k3; clear hb3))
            go_ret2
            rw [HN.out, HN2.out]
            exact RetV.own (e := 37) (n := 1) (below_next HB0.out (below_next HB3.out (by repeat (first | with_reducible exact Below.refl _ _ | (with_reducible refine Below.alloc ?_ (by first | omega | (simp [go_sem] <;> omega)) _) | (with_reducible refine Below.drew ?_) | (with_reducible refine Below.drewN ?_ _) | (with_reducible refine Below.grow ?_ (by first | omega | (simp [go_sem] <;> omega)) _) | (with_reducible refine Below.setCell ?_ (by first | omega | (simp [go_sem] <;> omega)) _))))) rfl rfl (own_lit (c := #[.int .i64 1, .string ⟨#[110, 111, 110, 101]⟩, .int .i64 0, .string ⟨#[]⟩]) (n := 1) (size := 4) rfl (by decide))
          · have HN2 : Hid (movesT l = some (piecesT (neatOf ss))) := by show _ = _; rw [HM2.out, if_neg hn0]
            have HPi := Lib.hid (fun v W (hv : Sl W v (neatOf ss)) => show Calls Tryz.prog 17 #[v] W (RetV W (some (piecesT (neatOf ss)))) from by
              have h9 := rpieces16_any v (neatOf ss) W hv
              rw [hnl, if_pos rfl] at h9; exact h9)
            have hpos2 : 0 < (neatOf ss).length := List.length_pos_iff.2 hn0
            have bz : (((neatOf ss).length : Int) == 0) = false := by rw [beq_eq_false_iff_ne]; omega
            clear HM2 hn0 hnl he k0 k1 k2 k3
            generalize neatOf ss = ns at *
            go_wp2_with (first
              | (go_at_call 15; (refine (HSt2.out _ (below_next HB0.out (by (repeat (first | with_reducible exact Below.refl _ _ | (with_reducible refine Below.alloc ?_ (by first | omega | (simp [go_sem] <;> omega)) _) | (with_reducible refine Below.drew ?_) | (with_reducible refine Below.drewN ?_ _) | (with_reducible refine Below.grow ?_ (by first | omega | (simp [go_sem] <;> omega)) _) | (with_reducible refine Below.setCell ?_ (by first | omega | (simp [go_sem] <;> omega)) _))); done))).mono ?_); rintro e W2 ⟨v2, rfl, hb2, hsl2⟩; have HS2 := Lib.hid hsl2; have HB2 := Lib.hid (below_next (show Below wx.heap.size wx _ from (by (repeat (first | with_reducible exact Below.refl _ _ | (with_reducible refine Below.alloc ?_ (by first | omega | (simp [go_sem] <;> omega)) _) | (with_reducible refine Below.drew ?_) | (with_reducible refine Below.drewN ?_ _) | (with_reducible refine Below.grow ?_ (by first | omega | (simp [go_sem] <;> omega)) _) | (with_reducible refine Below.setCell ?_ (by first | omega | (simp [go_sem] <;> omega)) _))); done)) hb2); clear hb2 hsl2)
              | (go_at_call 28; (refine (HNe.out _ _ HS2.out).mono ?_); rintro e W3 ⟨v3, rfl, hb3, hsl3⟩; have HB3 := Lib.hid (below_next HB2.out hb3); have HS3 := Lib.hid hsl3; obtain ⟨a3, cap3, rfl, _, _⟩ := hsl3; clear hb3)
              | (go_at_call 17; (refine (HPi.out _ _ HS3.out).mono ?_); rintro e w' ⟨A4, c4, X4, rfl, rfl, hA4, hc4, hr4⟩; have HA4 := Lib.hid hA4; have HR4 := Lib.hid hr4; clear hA4 hr4))
            go_ret2
            rw [HN.out, HN2.out]
            exact RetV.rd (below_next HB0.out (below_next HB3.out (below_grow _ _))) rfl rfl HA4.out hc4 HR4.out
        · have HN2 : Hid (movesT l = none) := by show _ = _; rw [HM2.out, if_neg he]
          have bz : (neatE ss != 0) = true := by simpa using he
          clear HM2 he k0 k1 k2 k3
          generalize neatE ss = er at *
          generalize neatOf ss = ns at *
          go_wp2_with (first
            | (go_at_call 15; (refine (HSt2.out _ (below_next HB0.out (by (repeat (first | with_reducible exact Below.refl _ _ | (with_reducible refine Below.alloc ?_ (by first | omega | (simp [go_sem] <;> omega)) _) | (with_reducible refine Below.drew ?_) | (with_reducible refine Below.drewN ?_ _) | (with_reducible refine Below.grow ?_ (by first | omega | (simp [go_sem] <;> omega)) _) | (with_reducible refine Below.setCell ?_ (by first | omega | (simp [go_sem] <;> omega)) _))); done))).mono ?_); rintro e W2 ⟨v2, rfl, hb2, hsl2⟩; have HS2 := Lib.hid hsl2; have HB2 := Lib.hid (below_next (show Below wx.heap.size wx _ from (by (repeat (first | with_reducible exact Below.refl _ _ | (with_reducible refine Below.alloc ?_ (by first | omega | (simp [go_sem] <;> omega)) _) | (with_reducible refine Below.drew ?_) | (with_reducible refine Below.drewN ?_ _) | (with_reducible refine Below.grow ?_ (by first | omega | (simp [go_sem] <;> omega)) _) | (with_reducible refine Below.setCell ?_ (by first | omega | (simp [go_sem] <;> omega)) _))); done)) hb2); clear hb2 hsl2)
            | (go_at_call 28; (refine (HNe.out _ _ HS2.out).mono ?_); rintro e W3 ⟨v3, rfl, hb3, hsl3⟩; have HB3 := Lib.hid (below_next HB2.out hb3); have HS3 := Lib.hid hsl3; obtain ⟨a3, cap3, rfl, _, _⟩ := hsl3; clear hb3))
          go_ret2
          rw [HN.out, HN2.out]
          exact RetV.no (below_next HB0.out HB3.out) rfl
  have HN : Hid (valueT nm l = if valF false l then some l else none) := by show _ = _; unfold valueT; rw [if_neg h0, if_neg ht]
  rw [decide_eq_false ht] at hnz
  obtain ⟨D, hD⟩ : ∃ D, valF false l = D := ⟨_, rfl⟩
  have HD := Lib.hid hD
  rw [hD] at HN
  generalize (⟨nm.toArray⟩ : ByteArray) = S at *
  clear h0 ht hD h hA hs hp HSt
  go_enter Tryz.func12, Tryz.ntmps12
  go_wp2_with fail
  go_loopw [11, 12] (fun o i wr => ∃ (k : Nat) (ob : Bool), k ≤ l.length ∧ o = .bool ob ∧ i = .int .i64 k ∧ Hid (Below w.heap.size w wr) ∧ Hid (D = valF ob (l.drop k))) (fun _ i _ => l.length - (intOf i).toNat)
  case atStart => exact ⟨0, false, by omega, rfl, rfl, (by show Below _ _ _; exact (by repeat (first | with_reducible exact Below.refl _ _ | (with_reducible refine Below.alloc ?_ (by first | omega | (simp [go_sem] <;> omega)) _) | (with_reducible refine Below.drew ?_) | (with_reducible refine Below.drewN ?_ _) | (with_reducible refine Below.grow ?_ (by first | omega | (simp [go_sem] <;> omega)) _) | (with_reducible refine Below.setCell ?_ (by first | omega | (simp [go_sem] <;> omega)) _)))), by show _ = _; rw [List.drop_zero]; exact HD.out.symm⟩
  case round =>
    obtain ⟨k, ob, hk, rfl, rfl, HB, HV⟩ := hrel
    by_cases hlt : k < l.length
    · obtain ⟨b, off, rfl, hb, y0, y1, y2, y3⟩ := (HRd.out wr HB.out).css k hlt
      have HS := Lib.hid (HV.out.trans (val_at ob l k hlt))
      obtain ⟨hs1, hs2, hs3⟩ := HSh.out _ (List.getElem_mem hlt)
      generalize l[k] = x at *
      have HPl := Lib.hid (fun W => rplain16_any x W hs1 hs2 hs3)
      have HMk := Lib.hid (fun W => rmark16_any [41] W)
      have HMx := Lib.hid (mark_split x)
      obtain ⟨IC, hIC⟩ : ∃ B, decide (x.text ∈ colsL) = B := ⟨_, rfl⟩
      have HI := Lib.hid (fun b W (h : Rd W (.slice (some ⟨b, 0, none⟩) 4 4) 4 1 (colsL.map sv)) => show Calls Tryz.prog 29 #[.string ⟨x.text.toArray⟩, .slice (some ⟨b, 0, none⟩) 4 4] W (fun e w' => e = .returned (.bool IC) ∧ W = w') from by
        have h9 := rin_any x.text _ colsL W h
        rwa [hIC] at h9)
      obtain ⟨CO, hCO⟩ : ∃ B, colourC x = B := ⟨_, rfl⟩
      have HCo : Hid (CO = ((x.kind == 2) && IC && (x.num == 0) && (⟨x.unit.toArray⟩ : ByteArray).toList.isEmpty)) := by
        show _ = _
        rw [← hCO, colour_in, hIC, ba_emp]
        rw [show (x.kind == 2) = decide (x.kind = 2) by rw [Bool.eq_iff_iff]; simp, show (x.num == 0) = decide (x.num = 0) by rw [Bool.eq_iff_iff]; simp]
      rw [hCO] at HS
      obtain ⟨PL, hPL⟩ : ∃ B, plainC x = B := ⟨_, rfl⟩
      rw [hPL] at HS HPl
      simp only [Css.agg, sv] at HPl HMk y0 y1 y2 y3
      generalize (⟨x.text.toArray⟩ : ByteArray) = a1 at *
      generalize (⟨x.unit.toArray⟩ : ByteArray) = a2 at *
      generalize x.num = nn at *
      generalize x.kind = kk at *
      have hsz := HB.out.size
      clear hs1 hs2 hs3 hIC hCO hPL
      go_upto_region 19 with fail
      refine name_world fun W5 hW5 => ?_
      have HB5 : Hid (Below wr.heap.size wr W5) := by show Below _ _ _; rw [hW5]; exact (by repeat (first | with_reducible exact Below.refl _ _ | (with_reducible refine Below.alloc ?_ (by first | omega | (simp [go_sem] <;> omega)) _) | (with_reducible refine Below.drew ?_) | (with_reducible refine Below.drewN ?_ _) | (with_reducible refine Below.grow ?_ (by first | omega | (simp [go_sem] <;> omega)) _) | (with_reducible refine Below.setCell ?_ (by first | omega | (simp [go_sem] <;> omega)) _)))
      have hlt5 : wr.heap.size < W5.heap.size := by rw [hW5]; simp [go_sem] <;> omega
      have x0 : W5.cell? ⟨wr.heap.size, 0, none⟩ = some (.int .i64 kk) := by rw [hW5]; simp [go_sem]
      have x1 : W5.cell? ⟨wr.heap.size, 1, none⟩ = some (.string a1) := by rw [hW5]; simp [go_sem]
      have x2 : W5.cell? ⟨wr.heap.size, 2, none⟩ = some (.int .i64 nn) := by rw [hW5]; simp [go_sem]
      have x3 : W5.cell? ⟨wr.heap.size, 3, none⟩ = some (.string a2) := by rw [hW5]; simp [go_sem]
      clear hW5 y0 y1 y2 y3
      go_cut [14] (fun s14 wz => s14 = .bool CO ∧ ∃ Wn, Hid (Below W5.heap.size W5 Wn) ∧ Wn = wz)
      case first =>
        clear HS HPl HMk HMx HV
        cases m0 : (kk == 2)
        · have HF : Hid (CO = false) := by show _ = _; rw [HCo.out, m0]; try simp
          go_wp2_with fail
          go_meet
          case rel => exact ⟨by rw [HF.out], _, (by show Below _ _ _; exact (by (repeat (first | with_reducible exact Below.refl _ _ | (with_reducible refine Below.alloc ?_ (by first | omega | (simp [go_sem] <;> omega)) _) | (with_reducible refine Below.drew ?_) | (with_reducible refine Below.drewN ?_ _) | (with_reducible refine Below.grow ?_ (by first | omega | (simp [go_sem] <;> omega)) _) | (with_reducible refine Below.setCell ?_ (by first | omega | (simp [go_sem] <;> omega)) _))); done)), rfl⟩
        cases IC
        · have HF : Hid (CO = false) := by show _ = _; rw [HCo.out, m0]; try simp
          have HI2 := Lib.hid HI.out
          go_wp2_with (go_at_call 29; (refine (HI2.out _ _ (by first | exact lit_rd (n := 4) (size := 1) rfl (by decide) rfl rfl | exact lit_rd (n := 4) (size := 1) rfl (by decide) (by simp [go_sem]) rfl)).mono ?_); rintro e w' ⟨rfl, rfl⟩)
          go_meet
          case rel => exact ⟨by rw [HF.out], _, (by show Below _ _ _; exact (by (repeat (first | with_reducible exact Below.refl _ _ | (with_reducible refine Below.alloc ?_ (by first | omega | (simp [go_sem] <;> omega)) _) | (with_reducible refine Below.drew ?_) | (with_reducible refine Below.drewN ?_ _) | (with_reducible refine Below.grow ?_ (by first | omega | (simp [go_sem] <;> omega)) _) | (with_reducible refine Below.setCell ?_ (by first | omega | (simp [go_sem] <;> omega)) _))); done)), rfl⟩
        have HI2 := Lib.hid HI.out
        cases m2 : (nn == 0)
        · have HF : Hid (CO = false) := by show _ = _; rw [HCo.out, m0, m2]; try simp
          go_wp2_with (go_at_call 29; (refine (HI2.out _ _ (by first | exact lit_rd (n := 4) (size := 1) rfl (by decide) rfl rfl | exact lit_rd (n := 4) (size := 1) rfl (by decide) (by simp [go_sem]) rfl)).mono ?_); rintro e w' ⟨rfl, rfl⟩)
          go_meet
          case rel => exact ⟨by rw [HF.out], _, (by show Below _ _ _; exact (by (repeat (first | with_reducible exact Below.refl _ _ | (with_reducible refine Below.alloc ?_ (by first | omega | (simp [go_sem] <;> omega)) _) | (with_reducible refine Below.drew ?_) | (with_reducible refine Below.drewN ?_ _) | (with_reducible refine Below.grow ?_ (by first | omega | (simp [go_sem] <;> omega)) _) | (with_reducible refine Below.setCell ?_ (by first | omega | (simp [go_sem] <;> omega)) _))); done)), rfl⟩
        cases m3 : a2.toList.isEmpty
        · have HF : Hid (CO = false) := by show _ = _; rw [HCo.out, m0, m2, m3]; try simp
          go_wp2_with (go_at_call 29; (refine (HI2.out _ _ (by first | exact lit_rd (n := 4) (size := 1) rfl (by decide) rfl rfl | exact lit_rd (n := 4) (size := 1) rfl (by decide) (by simp [go_sem]) rfl)).mono ?_); rintro e w' ⟨rfl, rfl⟩)
          go_meet
          case rel => exact ⟨by rw [HF.out], _, (by show Below _ _ _; exact (by (repeat (first | with_reducible exact Below.refl _ _ | (with_reducible refine Below.alloc ?_ (by first | omega | (simp [go_sem] <;> omega)) _) | (with_reducible refine Below.drew ?_) | (with_reducible refine Below.drewN ?_ _) | (with_reducible refine Below.grow ?_ (by first | omega | (simp [go_sem] <;> omega)) _) | (with_reducible refine Below.setCell ?_ (by first | omega | (simp [go_sem] <;> omega)) _))); done)), rfl⟩
        have HF : Hid (CO = true) := by show _ = _; rw [HCo.out, m0, m2, m3]; rfl
        go_wp2_with (go_at_call 29; (refine (HI2.out _ _ (by first | exact lit_rd (n := 4) (size := 1) rfl (by decide) rfl rfl | exact lit_rd (n := 4) (size := 1) rfl (by decide) (by simp [go_sem]) rfl)).mono ?_); rintro e w' ⟨rfl, rfl⟩)
        go_meet
        case rel => exact ⟨by rw [HF.out], _, (by show Below _ _ _; exact (by (repeat (first | with_reducible exact Below.refl _ _ | (with_reducible refine Below.alloc ?_ (by first | omega | (simp [go_sem] <;> omega)) _) | (with_reducible refine Below.drew ?_) | (with_reducible refine Below.drewN ?_ _) | (with_reducible refine Below.grow ?_ (by first | omega | (simp [go_sem] <;> omega)) _) | (with_reducible refine Below.setCell ?_ (by first | omega | (simp [go_sem] <;> omega)) _))); done)), rfl⟩
      case rest =>
        obtain ⟨rfl, wx, HBx, rfl⟩ := hcut
        have HB6 := Lib.hid (below_next HB5.out HBx.out)
        have hlt6 : wr.heap.size < wx.heap.size := Nat.lt_of_lt_of_le hlt5 HBx.out.size
        have x0 := (HBx.out.cell hlt5).trans x0
        have x1 := (HBx.out.cell hlt5).trans x1
        have x2 := (HBx.out.cell hlt5).trans x2
        have x3 := (HBx.out.cell hlt5).trans x3
        clear HBx HB5 hlt5 HI HCo
        cases PL
        rotate_left
        · have HPl2 := Lib.hid HPl.out
          clear HMk HMx
          go_wp2_with (go_at_call 30; (with_reducible refine (HPl2.out _).mono ?_); rintro e w' ⟨rfl, X1, rfl⟩)
          have HV2 : Hid (D = valF ob (l.drop (k + 1))) := by show _ = _; rw [HS.out]; rfl
          go_roundw
          case rel => exact ⟨k + 1, ob, by omega, rfl, by go_num, below_next HB.out (below_next HB6.out (by (repeat (first | with_reducible exact Below.refl _ _ | (with_reducible refine Below.alloc ?_ (by first | omega | (simp [go_sem] <;> omega)) _) | (with_reducible refine Below.drew ?_) | (with_reducible refine Below.drewN ?_ _) | (with_reducible refine Below.grow ?_ (by first | omega | (simp [go_sem] <;> omega)) _) | (with_reducible refine Below.setCell ?_ (by first | omega | (simp [go_sem] <;> omega)) _))); done)), HV2⟩
          case measure => simp [intOf]; omega
        have HPl2 := Lib.hid HPl.out
        clear HPl
        cases ob
        · cases CO
          · clear HMk HMx
            go_wp2_with (go_at_call 30; (with_reducible refine (HPl2.out _).mono ?_); rintro e w' ⟨rfl, X1, rfl⟩)
            refine wp_region_grow (by kernel_rfl) (by kernel_rfl) ?_
            repeat (go_big_quiet_step (fail))
            refine wpQuiet_nil ?_
            intro _ hw'; obtain ⟨nq, hw''⟩ := hw'; subst hw''
            go_wp2_with fail
            have HV2 : Hid (D = false) := by show _ = _; rw [HS.out]; rfl
            go_ret2
            rw [HN.out, HV2.out]
            exact RetV.no (below_next HB.out (below_next HB6.out (by (repeat (first | with_reducible exact Below.refl _ _ | (with_reducible refine Below.alloc ?_ (by first | omega | (simp [go_sem] <;> omega)) _) | (with_reducible refine Below.drew ?_) | (with_reducible refine Below.drewN ?_ _) | (with_reducible refine Below.grow ?_ (by first | omega | (simp [go_sem] <;> omega)) _) | (with_reducible refine Below.setCell ?_ (by first | omega | (simp [go_sem] <;> omega)) _))); done))) rfl
          · clear HMk HMx
            go_wp2_with (go_at_call 30; (with_reducible refine (HPl2.out _).mono ?_); rintro e w' ⟨rfl, X1, rfl⟩)
            have HV2 : Hid (D = valF true (l.drop (k + 1))) := by show _ = _; rw [HS.out]; rfl
            go_roundw
            case rel => exact ⟨k + 1, true, by omega, rfl, by go_num, below_next HB.out (below_next HB6.out (by (repeat (first | with_reducible exact Below.refl _ _ | (with_reducible refine Below.alloc ?_ (by first | omega | (simp [go_sem] <;> omega)) _) | (with_reducible refine Below.drew ?_) | (with_reducible refine Below.drewN ?_ _) | (with_reducible refine Below.grow ?_ (by first | omega | (simp [go_sem] <;> omega)) _) | (with_reducible refine Below.setCell ?_ (by first | omega | (simp [go_sem] <;> omega)) _))); done)), HV2⟩
            case measure => simp [intOf]; omega
        · have HS2 : Hid (D = if decide (x = mark1 41) then valF false (l.drop (k + 1)) else false) := by show _ = _; rw [HS.out]; rfl
          clear HS
          cases CO
          all_goals
            go_upto_region 24 with (go_at_call 30; (with_reducible refine (HPl2.out _).mono ?_); rintro e w' ⟨rfl, X1, rfl⟩)
            refine name_world fun W7 hW7 => ?_
            have HB7 : Hid (Below wx.heap.size wx W7) := by show Below _ _ _; rw [hW7]; exact (by repeat (first | with_reducible exact Below.refl _ _ | (with_reducible refine Below.alloc ?_ (by first | omega | (simp [go_sem] <;> omega)) _) | (with_reducible refine Below.drew ?_) | (with_reducible refine Below.drewN ?_ _) | (with_reducible refine Below.grow ?_ (by first | omega | (simp [go_sem] <;> omega)) _) | (with_reducible refine Below.setCell ?_ (by first | omega | (simp [go_sem] <;> omega)) _)))
            have hlt7 : wr.heap.size < W7.heap.size := Nat.lt_of_lt_of_le hlt6 HB7.out.size
            have x0 := (HB7.out.cell hlt6).trans x0
            have x1 := (HB7.out.cell hlt6).trans x1
            have x2 := (HB7.out.cell hlt6).trans x2
            have x3 := (HB7.out.cell hlt6).trans x3
            have HB6 := Lib.hid (below_next HB6.out HB7.out)
            clear hW7 HB7 hlt6
            have HS := HS2
            cases m0 : (kk == 6)
            · have HMf : Hid (decide (x = mark1 41) = false) := by show _ = _; rw [HMx.out, m0]; try simp
              refine wp_region_grow (by kernel_rfl) (by kernel_rfl) ?_
              repeat (go_big_quiet_step (first | (go_at_call 31; with_reducible exact Calls.grow_of (HMk.out _))))
              refine wpQuiet_nil ?_
              intro _ hw'; obtain ⟨nq, hw''⟩ := hw'; subst hw''
              go_wp2_with fail
              have HV2 : Hid (D = false) := by show _ = _; rw [HS.out, HMf.out]; rfl
              go_ret2
              rw [HN.out, HV2.out]
              exact RetV.no (below_next HB.out (below_next HB6.out (by (repeat (first | with_reducible exact Below.refl _ _ | (with_reducible refine Below.alloc ?_ (by first | omega | (simp [go_sem] <;> omega)) _) | (with_reducible refine Below.drew ?_) | (with_reducible refine Below.drewN ?_ _) | (with_reducible refine Below.grow ?_ (by first | omega | (simp [go_sem] <;> omega)) _) | (with_reducible refine Below.setCell ?_ (by first | omega | (simp [go_sem] <;> omega)) _))); done))) rfl
            cases m1 : (a1.toList == [41])
            · have HMf : Hid (decide (x = mark1 41) = false) := by show _ = _; rw [HMx.out, m0, m1]; try simp
              refine wp_region_grow (by kernel_rfl) (by kernel_rfl) ?_
              repeat (go_big_quiet_step (first | (go_at_call 31; with_reducible exact Calls.grow_of (HMk.out _))))
              refine wpQuiet_nil ?_
              intro _ hw'; obtain ⟨nq, hw''⟩ := hw'; subst hw''
              go_wp2_with fail
              have HV2 : Hid (D = false) := by show _ = _; rw [HS.out, HMf.out]; rfl
              go_ret2
              rw [HN.out, HV2.out]
              exact RetV.no (below_next HB.out (below_next HB6.out (by (repeat (first | with_reducible exact Below.refl _ _ | (with_reducible refine Below.alloc ?_ (by first | omega | (simp [go_sem] <;> omega)) _) | (with_reducible refine Below.drew ?_) | (with_reducible refine Below.drewN ?_ _) | (with_reducible refine Below.grow ?_ (by first | omega | (simp [go_sem] <;> omega)) _) | (with_reducible refine Below.setCell ?_ (by first | omega | (simp [go_sem] <;> omega)) _))); done))) rfl
            cases m2 : (nn == 0)
            · have HMf : Hid (decide (x = mark1 41) = false) := by show _ = _; rw [HMx.out, m0, m1, m2]; try simp
              refine wp_region_grow (by kernel_rfl) (by kernel_rfl) ?_
              repeat (go_big_quiet_step (first | (go_at_call 31; with_reducible exact Calls.grow_of (HMk.out _))))
              refine wpQuiet_nil ?_
              intro _ hw'; obtain ⟨nq, hw''⟩ := hw'; subst hw''
              go_wp2_with fail
              have HV2 : Hid (D = false) := by show _ = _; rw [HS.out, HMf.out]; rfl
              go_ret2
              rw [HN.out, HV2.out]
              exact RetV.no (below_next HB.out (below_next HB6.out (by (repeat (first | with_reducible exact Below.refl _ _ | (with_reducible refine Below.alloc ?_ (by first | omega | (simp [go_sem] <;> omega)) _) | (with_reducible refine Below.drew ?_) | (with_reducible refine Below.drewN ?_ _) | (with_reducible refine Below.grow ?_ (by first | omega | (simp [go_sem] <;> omega)) _) | (with_reducible refine Below.setCell ?_ (by first | omega | (simp [go_sem] <;> omega)) _))); done))) rfl
            cases m3 : a2.toList.isEmpty
            · have HMf : Hid (decide (x = mark1 41) = false) := by show _ = _; rw [HMx.out, m0, m1, m2, m3]; try simp
              refine wp_region_grow (by kernel_rfl) (by kernel_rfl) ?_
              repeat (go_big_quiet_step (first | (go_at_call 31; with_reducible exact Calls.grow_of (HMk.out _))))
              refine wpQuiet_nil ?_
              intro _ hw'; obtain ⟨nq, hw''⟩ := hw'; subst hw''
              go_wp2_with fail
              have HV2 : Hid (D = false) := by show _ = _; rw [HS.out, HMf.out]; rfl
              go_ret2
              rw [HN.out, HV2.out]
              exact RetV.no (below_next HB.out (below_next HB6.out (by (repeat (first | with_reducible exact Below.refl _ _ | (with_reducible refine Below.alloc ?_ (by first | omega | (simp [go_sem] <;> omega)) _) | (with_reducible refine Below.drew ?_) | (with_reducible refine Below.drewN ?_ _) | (with_reducible refine Below.grow ?_ (by first | omega | (simp [go_sem] <;> omega)) _) | (with_reducible refine Below.setCell ?_ (by first | omega | (simp [go_sem] <;> omega)) _))); done))) rfl
            have HMt : Hid (decide (x = mark1 41) = true) := by show _ = _; rw [HMx.out, m0, m1, m2, m3]; rfl
            refine wp_region_grow (by kernel_rfl) (by kernel_rfl) ?_
            repeat (go_big_quiet_step (first | (go_at_call 31; with_reducible exact Calls.grow_of (HMk.out _))))
            refine wpQuiet_nil ?_
            intro _ hw'; obtain ⟨nq, hw''⟩ := hw'; subst hw''
            go_wp2_with fail
            have HV2 : Hid (D = valF false (l.drop (k + 1))) := by show _ = _; rw [HS.out, HMt.out]; rfl
            go_roundw
            case rel => exact ⟨k + 1, false, by omega, rfl, by go_num, below_next HB.out (below_next HB6.out (by (repeat (first | with_reducible exact Below.refl _ _ | (with_reducible refine Below.alloc ?_ (by first | omega | (simp [go_sem] <;> omega)) _) | (with_reducible refine Below.drew ?_) | (with_reducible refine Below.drewN ?_ _) | (with_reducible refine Below.grow ?_ (by first | omega | (simp [go_sem] <;> omega)) _) | (with_reducible refine Below.setCell ?_ (by first | omega | (simp [go_sem] <;> omega)) _))); done)), HV2⟩
            case measure => simp [intOf]; omega
    · have hkl : k = l.length := by omega
      subst hkl
      have HE : Hid (D = !ob) := by show _ = _; rw [HV.out, List.drop_length]; rfl
      cases ob
      · have HD1 : Hid (D = true) := HE.out
        go_wp2_with fail
        go_ret2
        rw [HN.out, HD1.out]
        exact RetV.rd HB.out rfl rfl HA.out hc (HRd.out _ HB.out)
      · have HD1 : Hid (D = false) := HE.out
        go_wp2_with fail
        go_ret2
        rw [HN.out, HD1.out]
        exact RetV.no HB.out rfl
end Go.Proofs.YtgcccpdadponiaaGreatDoor
