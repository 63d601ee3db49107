/- The walks of styles: whether two lists are the same, whether they are short. -/
import Derived.Test.YtgcccpdadponiaaGreatDoorCssM
namespace Go.Proofs.YtgcccpdadponiaaGreatDoor
open Go.RowKit Go.Shelf
attribute [local go_sem] Oper.semAt_some
theorem eq_css (a : Int) (b : ByteArray) (c : Int) (d : ByteArray) (a2 : Int) (b2 : ByteArray) (c2 : Int) (d2 : ByteArray) (w : World) : (Op.equalIn 10000 37 (.agg #[.int .i64 a, .string b, .int .i64 c, .string d]) (.agg #[.int .i64 a2, .string b2, .int .i64 c2, .string d2])).run Tryz.prog w = .ok ((a == a2) && (b.toList == b2.toList) && (c == c2) && (d.toList == d2.toList)) w := by
  have h2 : Tryz.prog.underlying 37 = some (.struct (Tryz.prog.fieldsOf 37)) := by kernel_rfl
  have h3 : Tryz.prog.stoodInHeld 37 = false := by kernel_rfl
  rw [run_equalIn_agg _ _ _ _ _ h2 h3]
  simp only [Program.fieldsOf, Tryz.underlying37]
  cases e1 : (a == a2) <;> cases e2 : (b.toList == b2.toList) <;> cases e3 : (c == c2) <;> cases e4 : (d.toList == d2.toList) <;> simp [go_sem, Tryz.underlying9, Tryz.underlying3, e1, e2, e3, e4] <;> simp_all
@[go_sem high] theorem eql_css (a : Int) (b : ByteArray) (c : Int) (d : ByteArray) (a2 : Int) (b2 : ByteArray) (c2 : Int) (d2 : ByteArray) (w : World) : (binOp .eql 37 (.agg #[.int .i64 a, .string b, .int .i64 c, .string d]) (.agg #[.int .i64 a2, .string b2, .int .i64 c2, .string d2])).run Tryz.prog w = .ok (.bool ((a == a2) && (b.toList == b2.toList) && (c == c2) && (d.toList == d2.toList))) w := by
  rw [run_eql_struct, eq_css]; rfl
@[go_sem high] theorem neq_css (a : Int) (b : ByteArray) (c : Int) (d : ByteArray) (a2 : Int) (b2 : ByteArray) (c2 : Int) (d2 : ByteArray) (w : World) : (binOp .neq 37 (.agg #[.int .i64 a, .string b, .int .i64 c, .string d]) (.agg #[.int .i64 a2, .string b2, .int .i64 c2, .string d2])).run Tryz.prog w = .ok (.bool (!((a == a2) && (b.toList == b2.toList) && (c == c2) && (d.toList == d2.toList)))) w := by
  rw [run_neq_struct, eq_css]; rfl
@[go_sem] theorem guard_css : Tryz.prog.eqGuardType Tryz.prog.depth 37 = false := by kernel_rfl
theorem css_eq (p q : Css) : decide (p = q) = ((p.kind == q.kind) && ((⟨p.text.toArray⟩ : ByteArray).toList == (⟨q.text.toArray⟩ : ByteArray).toList) && (p.num == q.num) && ((⟨p.unit.toArray⟩ : ByteArray).toList == (⟨q.unit.toArray⟩ : ByteArray).toList)) := by
  rw [ba_bq, ba_bq]
  obtain ⟨a, b, c, d⟩ := p
  obtain ⟨a2, b2, c2, d2⟩ := q
  rw [Bool.eq_iff_iff]; simp [and_assoc]
theorem Rd.css {w : World} {A : Option Addr} {m c : Nat} {l : List Css} (h : Rd w (.slice A m c) l.length 4 (cssCells l)) (k : Nat) (hk : k < l.length) :
    ∃ b off, A = some ⟨b, off, none⟩ ∧ b < w.heap.size ∧ w.cell? ⟨b, off + k * 4, none⟩ = some (.int .i64 l[k].kind) ∧ w.cell? ⟨b, off + k * 4 + 1, none⟩ = some (sv l[k].text) ∧ w.cell? ⟨b, off + k * 4 + 2, none⟩ = some (.int .i64 l[k].num) ∧ w.cell? ⟨b, off + k * 4 + 3, none⟩ = some (sv l[k].unit) := by
  obtain ⟨b, off, rfl, hb, hc⟩ := Rd.flat (n := 4) (cells := Css.cells) (fun _ => rfl) h k hk
  exact ⟨b, off, rfl, hb, hc 0 _ (by omega) rfl, hc 1 _ (by omega) rfl, hc 2 _ (by omega) rfl, hc 3 _ (by omega) rfl⟩
theorem same_from {l m : List Css} {k : Nat} (h1 : k < l.length) (h2 : k < m.length) : decide (l.drop k = m.drop k) = (decide (l[k] = m[k]) && decide (l.drop (k + 1) = m.drop (k + 1))) := by
  rw [List.drop_eq_getElem_cons h1, List.drop_eq_getElem_cons h2, Bool.eq_iff_iff]; simp only [List.cons.injEq, decide_eq_true_eq, Bool.and_eq_true]
set_option maxRecDepth 100000 in
set_option maxHeartbeats 4000000 in
theorem same_any (A A2 : Option Addr) (n n2 c c2 : Nat) (l m : List Css) (w : World) (h : Rd w (.slice A n c) l.length 4 (cssCells l)) (h2 : Rd w (.slice A2 n2 c2) m.length 4 (cssCells m)) :
    Calls Tryz.prog 13 #[.slice A n c, .slice A2 n2 c2] w (Ret (.bool (decide (l = m))) w) := by
  have HR := Lib.hid h
  have HR2 := Lib.hid h2
  obtain ⟨_, hm, A', c', heq, _⟩ := h
  cases heq
  obtain ⟨_, hm2, A2', c2', heq, _⟩ := h2
  cases heq
  have hmx : Tryz.prog.follows .mixedOrders = true := by kernel_rfl
  obtain ⟨D, hD⟩ : ∃ D, decide (l = m) = D := ⟨_, rfl⟩
  have HD := Lib.hid hD
  rw [hD]
  clear hD
  by_cases hlen : l.length = m.length
  · have HL := Lib.hid hlen
    rw [hlen] at hm ⊢
    have b0 : ((m.length : Int) != (m.length : Int)) = false := by simp
    go_enter Tryz.func13, Tryz.ntmps13
    go_wp2_with fail
    go_loopw [5] (fun i wr => ∃ (k : Nat) (X : Gr), k ≤ m.length ∧ i = .int .i64 k ∧ wr = w.grow X ∧ Hid (D = decide (l.drop k = m.drop k))) (fun i _ => m.length - (intOf i).toNat)
    case atStart => exact ⟨0, _, by omega, rfl, (grow_refl w).symm, by show _ = _; rw [← HD.out]; rfl⟩
    case round =>
      obtain ⟨k, X, hk, rfl, rfl, HK⟩ := hrel
      by_cases hlt : k < m.length
      · have hlt' : k < l.length := by rw [HL.out]; exact hlt
        obtain ⟨b, off, rfl, hb, c0, c1, c2, c3⟩ := HR.out.css k hlt'
        obtain ⟨b2, off2, rfl, hb2, d0, d1, d2, d3⟩ := HR2.out.css k hlt
        have HS := Lib.hid (HK.out.trans (same_from hlt' hlt))
        have HP := Lib.hid (css_eq l[k] m[k])
        generalize l[k] = p at *
        generalize m[k] = q at *
        obtain ⟨p1, p2, p3, p4⟩ := p
        obtain ⟨q1, q2, q3, q4⟩ := q
        simp only [sv] at c0 c1 c2 c3 d0 d1 d2 d3 HP
        generalize (⟨p2.toArray⟩ : ByteArray) = a1 at *
        generalize (⟨p4.toArray⟩ : ByteArray) = a2 at *
        generalize (⟨q2.toArray⟩ : ByteArray) = a3 at *
        generalize (⟨q4.toArray⟩ : ByteArray) = a4 at *
        cases e1 : (p1 == q1)
        · have HN := Lib.hid (show D = false by rw [HS.out, HP.out, e1]; simp)
          go_wp2_with fail
          refine wp_region_grow (by kernel_rfl) (by kernel_rfl) ?_
          repeat (go_big_quiet_step (fail))
          refine wpQuiet_nil ?_
          intro _ hw'; obtain ⟨nq, hw''⟩ := hw'; subst hw''
          go_wp2
          go_ret
          exact Ret.of (by rw [HN.out]; rfl) (by repeat (first | with_reducible exact Below.refl _ _ | (with_reducible refine Below.alloc ?_ (by first | omega | (simp [go_sem] <;> omega)) _) | (with_reducible refine Below.drew ?_) | (with_reducible refine Below.drewN ?_ _) | (with_reducible refine Below.grow ?_ (by first | omega | (simp [go_sem] <;> omega)) _) | (with_reducible refine Below.setCell ?_ (by first | omega | (simp [go_sem] <;> omega)) _)))
        cases e2 : (a1.toList == a3.toList)
        · have HN := Lib.hid (show D = false by rw [HS.out, HP.out, e1, e2]; simp)
          go_wp2_with fail
          refine wp_region_grow (by kernel_rfl) (by kernel_rfl) ?_
          repeat (go_big_quiet_step (fail))
          refine wpQuiet_nil ?_
          intro _ hw'; obtain ⟨nq, hw''⟩ := hw'; subst hw''
          go_wp2
          go_ret
          exact Ret.of (by rw [HN.out]; rfl) (by repeat (first | with_reducible exact Below.refl _ _ | (with_reducible refine Below.alloc ?_ (by first | omega | (simp [go_sem] <;> omega)) _) | (with_reducible refine Below.drew ?_) | (with_reducible refine Below.drewN ?_ _) | (with_reducible refine Below.grow ?_ (by first | omega | (simp [go_sem] <;> omega)) _) | (with_reducible refine Below.setCell ?_ (by first | omega | (simp [go_sem] <;> omega)) _)))
        cases e3 : (p3 == q3)
        · have HN := Lib.hid (show D = false by rw [HS.out, HP.out, e1, e2, e3]; simp)
          go_wp2_with fail
          refine wp_region_grow (by kernel_rfl) (by kernel_rfl) ?_
          repeat (go_big_quiet_step (fail))
          refine wpQuiet_nil ?_
          intro _ hw'; obtain ⟨nq, hw''⟩ := hw'; subst hw''
          go_wp2
          go_ret
          exact Ret.of (by rw [HN.out]; rfl) (by repeat (first | with_reducible exact Below.refl _ _ | (with_reducible refine Below.alloc ?_ (by first | omega | (simp [go_sem] <;> omega)) _) | (with_reducible refine Below.drew ?_) | (with_reducible refine Below.drewN ?_ _) | (with_reducible refine Below.grow ?_ (by first | omega | (simp [go_sem] <;> omega)) _) | (with_reducible refine Below.setCell ?_ (by first | omega | (simp [go_sem] <;> omega)) _)))
        cases e4 : (a2.toList == a4.toList)
        · have HN := Lib.hid (show D = false by rw [HS.out, HP.out, e1, e2, e3, e4]; simp)
          go_wp2_with fail
          refine wp_region_grow (by kernel_rfl) (by kernel_rfl) ?_
          repeat (go_big_quiet_step (fail))
          refine wpQuiet_nil ?_
          intro _ hw'; obtain ⟨nq, hw''⟩ := hw'; subst hw''
          go_wp2
          go_ret
          exact Ret.of (by rw [HN.out]; rfl) (by repeat (first | with_reducible exact Below.refl _ _ | (with_reducible refine Below.alloc ?_ (by first | omega | (simp [go_sem] <;> omega)) _) | (with_reducible refine Below.drew ?_) | (with_reducible refine Below.drewN ?_ _) | (with_reducible refine Below.grow ?_ (by first | omega | (simp [go_sem] <;> omega)) _) | (with_reducible refine Below.setCell ?_ (by first | omega | (simp [go_sem] <;> omega)) _)))
        have HN := Lib.hid (show D = decide (l.drop (k + 1) = m.drop (k + 1)) by rw [HS.out, HP.out, e1, e2, e3, e4]; rfl)
        go_wp2_with fail
        refine wp_region_grow (by kernel_rfl) (by kernel_rfl) ?_
        repeat (go_big_quiet_step (fail))
        refine wpQuiet_nil ?_
        intro _ hw'; obtain ⟨nq, hw''⟩ := hw'; subst hw''
        go_wp2
        go_roundw
        case rel => exact ⟨k + 1, _, by omega, by go_num, grow_grow w X nq, HN⟩
        case measure => simp [intOf]; omega
      · have HN := Lib.hid (show D = true by rw [HK.out, List.drop_eq_nil_of_le (by rw [HL.out]; omega), List.drop_eq_nil_of_le (by omega)]; rfl)
        go_wp2
        go_ret
        exact Ret.of (by rw [HN.out]; rfl) (by repeat (first | with_reducible exact Below.refl _ _ | (with_reducible refine Below.alloc ?_ (by first | omega | (simp [go_sem] <;> omega)) _) | (with_reducible refine Below.drew ?_) | (with_reducible refine Below.drewN ?_ _) | (with_reducible refine Below.grow ?_ (by first | omega | (simp [go_sem] <;> omega)) _) | (with_reducible refine Below.setCell ?_ (by first | omega | (simp [go_sem] <;> omega)) _)))
  · have HN := Lib.hid (show D = false by rw [← HD.out]; simp; intro h; exact hlen (by rw [h]))
    have b0 : ((l.length : Int) != (m.length : Int)) = true := by simp; omega
    have b1 : ¬ ((l.length : Int) = m.length) := by omega
    clear hlen
    go_enter Tryz.func13, Tryz.ntmps13
    go_wp2
    go_ret
    exact Ret.of (by rw [HN.out]; rfl) (by repeat (first | with_reducible exact Below.refl _ _ | (with_reducible refine Below.alloc ?_ (by first | omega | (simp [go_sem] <;> omega)) _) | (with_reducible refine Below.drew ?_) | (with_reducible refine Below.drewN ?_ _) | (with_reducible refine Below.grow ?_ (by first | omega | (simp [go_sem] <;> omega)) _) | (with_reducible refine Below.setCell ?_ (by first | omega | (simp [go_sem] <;> omega)) _)))
set_option maxRecDepth 100000 in
set_option maxHeartbeats 4000000 in
theorem equal_any (A A2 : Option Addr) (n n2 c c2 : Nat) (l m : List Css) (w : World) (h : Rd w (.slice A n c) l.length 4 (cssCells l)) (h2 : Rd w (.slice A2 n2 c2) m.length 4 (cssCells m)) :
    Calls Tryz.prog 46 #[.slice A n c, .slice A2 n2 c2] w (Ret (.bool (decide (l = m))) w) := by
  have HR := Lib.hid h
  have HR2 := Lib.hid h2
  obtain ⟨_, hm, A', c', heq, _⟩ := h
  cases heq
  obtain ⟨_, hm2, A2', c2', heq, _⟩ := h2
  cases heq
  have hmx : Tryz.prog.follows .mixedOrders = true := by kernel_rfl
  obtain ⟨D, hD⟩ : ∃ D, decide (l = m) = D := ⟨_, rfl⟩
  have HD := Lib.hid hD
  rw [hD]
  clear hD
  by_cases hlen : l.length = m.length
  · have HL := Lib.hid hlen
    rw [hlen] at hm ⊢
    have b0 : ((m.length : Int) != (m.length : Int)) = false := by simp
    go_enter Tryz.func46, Tryz.ntmps46
    go_wp2_with fail
    go_loopw [13] (fun i wr => ∃ (k : Nat) (X : Gr), k ≤ m.length ∧ i = .int .i64 k ∧ wr = w.grow X ∧ Hid (D = decide (l.drop k = m.drop k))) (fun i _ => m.length - (intOf i).toNat)
    case atStart => exact ⟨0, _, by omega, rfl, (grow_refl w).symm, by show _ = _; rw [← HD.out]; rfl⟩
    case round =>
      obtain ⟨k, X, hk, rfl, rfl, HK⟩ := hrel
      by_cases hlt : k < m.length
      · have hlt' : k < l.length := by rw [HL.out]; exact hlt
        obtain ⟨b, off, rfl, hb, c0, c1, c2, c3⟩ := HR.out.css k hlt'
        obtain ⟨b2, off2, rfl, hb2, d0, d1, d2, d3⟩ := HR2.out.css k hlt
        have HS := Lib.hid (HK.out.trans (same_from hlt' hlt))
        have HP := Lib.hid (css_eq l[k] m[k])
        generalize l[k] = p at *
        generalize m[k] = q at *
        obtain ⟨p1, p2, p3, p4⟩ := p
        obtain ⟨q1, q2, q3, q4⟩ := q
        simp only [sv] at c0 c1 c2 c3 d0 d1 d2 d3 HP
        generalize (⟨p2.toArray⟩ : ByteArray) = a1 at *
        generalize (⟨p4.toArray⟩ : ByteArray) = a2 at *
        generalize (⟨q2.toArray⟩ : ByteArray) = a3 at *
        generalize (⟨q4.toArray⟩ : ByteArray) = a4 at *
        cases e1 : (p1 == q1)
        · have HN := Lib.hid (show D = false by rw [HS.out, HP.out, e1]; simp)
          go_wp2_with fail
          refine wp_region_grow (by kernel_rfl) (by kernel_rfl) ?_
          repeat (go_big_quiet_step (fail))
          refine wpQuiet_nil ?_
          intro _ hw'; obtain ⟨nq, hw''⟩ := hw'; subst hw''
          go_wp2
          go_ret
          exact Ret.of (by rw [HN.out]; rfl) (by repeat (first | with_reducible exact Below.refl _ _ | (with_reducible refine Below.alloc ?_ (by first | omega | (simp [go_sem] <;> omega)) _) | (with_reducible refine Below.drew ?_) | (with_reducible refine Below.drewN ?_ _) | (with_reducible refine Below.grow ?_ (by first | omega | (simp [go_sem] <;> omega)) _) | (with_reducible refine Below.setCell ?_ (by first | omega | (simp [go_sem] <;> omega)) _)))
        cases e2 : (a1.toList == a3.toList)
        · have HN := Lib.hid (show D = false by rw [HS.out, HP.out, e1, e2]; simp)
          go_wp2_with fail
          refine wp_region_grow (by kernel_rfl) (by kernel_rfl) ?_
          repeat (go_big_quiet_step (fail))
          refine wpQuiet_nil ?_
          intro _ hw'; obtain ⟨nq, hw''⟩ := hw'; subst hw''
          go_wp2
          go_ret
          exact Ret.of (by rw [HN.out]; rfl) (by repeat (first | with_reducible exact Below.refl _ _ | (with_reducible refine Below.alloc ?_ (by first | omega | (simp [go_sem] <;> omega)) _) | (with_reducible refine Below.drew ?_) | (with_reducible refine Below.drewN ?_ _) | (with_reducible refine Below.grow ?_ (by first | omega | (simp [go_sem] <;> omega)) _) | (with_reducible refine Below.setCell ?_ (by first | omega | (simp [go_sem] <;> omega)) _)))
        cases e3 : (p3 == q3)
        · have HN := Lib.hid (show D = false by rw [HS.out, HP.out, e1, e2, e3]; simp)
          go_wp2_with fail
          refine wp_region_grow (by kernel_rfl) (by kernel_rfl) ?_
          repeat (go_big_quiet_step (fail))
          refine wpQuiet_nil ?_
          intro _ hw'; obtain ⟨nq, hw''⟩ := hw'; subst hw''
          go_wp2
          go_ret
          exact Ret.of (by rw [HN.out]; rfl) (by repeat (first | with_reducible exact Below.refl _ _ | (with_reducible refine Below.alloc ?_ (by first | omega | (simp [go_sem] <;> omega)) _) | (with_reducible refine Below.drew ?_) | (with_reducible refine Below.drewN ?_ _) | (with_reducible refine Below.grow ?_ (by first | omega | (simp [go_sem] <;> omega)) _) | (with_reducible refine Below.setCell ?_ (by first | omega | (simp [go_sem] <;> omega)) _)))
        cases e4 : (a2.toList == a4.toList)
        · have HN := Lib.hid (show D = false by rw [HS.out, HP.out, e1, e2, e3, e4]; simp)
          go_wp2_with fail
          refine wp_region_grow (by kernel_rfl) (by kernel_rfl) ?_
          repeat (go_big_quiet_step (fail))
          refine wpQuiet_nil ?_
          intro _ hw'; obtain ⟨nq, hw''⟩ := hw'; subst hw''
          go_wp2
          go_ret
          exact Ret.of (by rw [HN.out]; rfl) (by repeat (first | with_reducible exact Below.refl _ _ | (with_reducible refine Below.alloc ?_ (by first | omega | (simp [go_sem] <;> omega)) _) | (with_reducible refine Below.drew ?_) | (with_reducible refine Below.drewN ?_ _) | (with_reducible refine Below.grow ?_ (by first | omega | (simp [go_sem] <;> omega)) _) | (with_reducible refine Below.setCell ?_ (by first | omega | (simp [go_sem] <;> omega)) _)))
        have HN := Lib.hid (show D = decide (l.drop (k + 1) = m.drop (k + 1)) by rw [HS.out, HP.out, e1, e2, e3, e4]; rfl)
        go_wp2_with fail
        refine wp_region_grow (by kernel_rfl) (by kernel_rfl) ?_
        repeat (go_big_quiet_step (fail))
        refine wpQuiet_nil ?_
        intro _ hw'; obtain ⟨nq, hw''⟩ := hw'; subst hw''
        go_wp2
        go_roundw
        case rel => exact ⟨k + 1, _, by omega, by go_num, grow_grow w X nq, HN⟩
        case measure => simp [intOf]; omega
      · have HN := Lib.hid (show D = true by rw [HK.out, List.drop_eq_nil_of_le (by rw [HL.out]; omega), List.drop_eq_nil_of_le (by omega)]; rfl)
        go_wp2
        go_ret
        exact Ret.of (by rw [HN.out]; rfl) (by repeat (first | with_reducible exact Below.refl _ _ | (with_reducible refine Below.alloc ?_ (by first | omega | (simp [go_sem] <;> omega)) _) | (with_reducible refine Below.drew ?_) | (with_reducible refine Below.drewN ?_ _) | (with_reducible refine Below.grow ?_ (by first | omega | (simp [go_sem] <;> omega)) _) | (with_reducible refine Below.setCell ?_ (by first | omega | (simp [go_sem] <;> omega)) _)))
  · have HN := Lib.hid (show D = false by rw [← HD.out]; simp; intro h; exact hlen (by rw [h]))
    have b0 : ((l.length : Int) != (m.length : Int)) = true := by simp; omega
    have b1 : ¬ ((l.length : Int) = m.length) := by omega
    clear hlen
    go_enter Tryz.func46, Tryz.ntmps46
    go_wp2
    go_ret
    exact Ret.of (by rw [HN.out]; rfl) (by repeat (first | with_reducible exact Below.refl _ _ | (with_reducible refine Below.alloc ?_ (by first | omega | (simp [go_sem] <;> omega)) _) | (with_reducible refine Below.drew ?_) | (with_reducible refine Below.drewN ?_ _) | (with_reducible refine Below.grow ?_ (by first | omega | (simp [go_sem] <;> omega)) _) | (with_reducible refine Below.setCell ?_ (by first | omega | (simp [go_sem] <;> omega)) _)))
end Go.Proofs.YtgcccpdadponiaaGreatDoor
