/- The walks of values of styles: what begins a colour; steps that pieces tell, one behind the other. -/
import Derived.Lib.SmallJoins
import Derived.Test.YtgcccpdadponiaaGreatDoorValD
namespace Go.Proofs.YtgcccpdadponiaaGreatDoor
open Go.RowKit Go.Shelf
attribute [local go_sem] Oper.semAt_some
theorem call0_any (nm : Bs) (W : World) : Calls Tryz.prog 50 #[.string ⟨nm.toArray⟩, .slice none 0 0] W fun e w' => ∃ g cap, e = .returned (.slice (some ⟨g, 0, none⟩) 2 cap) ∧ Below W.heap.size W w' ∧ W.heap.size ≤ g ∧ g < w'.heap.size ∧
    w'.cell? ⟨g, 0, none⟩ = some (.int .i64 2) ∧ w'.cell? ⟨g, 1, none⟩ = some (.string ⟨nm.toArray⟩) ∧ w'.cell? ⟨g, 2, none⟩ = some (.int .i64 0) ∧ w'.cell? ⟨g, 3, none⟩ = some (.string ⟨#[]⟩) := by
  refine (call16_any nm none 0 0 [] W (Rd.nil W 4) (fun _ => rfl) (by simp)).mono ?_
  rintro e w' ⟨v, X, rfl, rfl, ho⟩
  obtain ⟨g, cap, rfl⟩ := Go.Joins.ownsRow_form ho (by simp)
  obtain ⟨_, a, cap', hv, _, hc⟩ := own_cells ho
  cases hv
  rcases hc with hc | ⟨b, hb, h1, h2, h3⟩
  · simp at hc
  · cases hb
    exact ⟨g, cap, rfl, below_grow W X, h1, h2, h3 0 _ rfl, h3 1 _ rfl, h3 2 _ rfl, h3 3 _ rfl⟩
theorem colour_by (x : Css) : colourC x = (decide (x.kind = 2) && decide (x.num = 0) && decide (x.unit = []) && (decide (x.text = rgbT) || decide (x.text = rgbaT) || decide (x.text = hslT) || decide (x.text = hslaT))) := by
  unfold colourC
  obtain ⟨k, t, n, u⟩ := x
  rw [Bool.eq_iff_iff]
  simp only [fnC, Css.mk.injEq, decide_eq_true_eq, Bool.and_eq_true, Bool.or_eq_true]
  constructor
  · rintro (⟨h1, h2, h3, h4⟩ | ⟨h1, h2, h3, h4⟩ | ⟨h1, h2, h3, h4⟩ | ⟨h1, h2, h3, h4⟩) <;> simp [h1, h2, h3, h4]
  · rintro ⟨⟨⟨h1, h3⟩, h4⟩, ((h2 | h2) | h2) | h2⟩ <;> simp [h1, h2, h3, h4]
set_option maxRecDepth 100000 in
set_option maxHeartbeats 4000000 in
theorem colour16_any (x : Css) (w : World) : Calls Tryz.prog 26 #[Css.agg x] w (Ret (.bool (colourC x)) w) := by
  have HC := Lib.hid (fun nm W => call0_any nm W)
  have HN : Hid (colourC x = ((x.kind == 2) && (x.num == 0) && (⟨x.unit.toArray⟩ : ByteArray).toList.isEmpty && (((⟨x.text.toArray⟩ : ByteArray).toList == [114, 103, 98]) || ((⟨x.text.toArray⟩ : ByteArray).toList == [114, 103, 98, 97]) || ((⟨x.text.toArray⟩ : ByteArray).toList == [104, 115, 108]) || ((⟨x.text.toArray⟩ : ByteArray).toList == [104, 115, 108, 97])))) := by
    show _ = _
    have z : ∀ t : Bs, ((⟨x.text.toArray⟩ : ByteArray).toList == t) = decide (x.text = t) := fun t => by rw [ByteArray.toList_eq, Bool.eq_iff_iff]; simp
    rw [colour_by, z, z, z, z, ba_emp]
    simp only [rgbT, rgbaT, hslT, hslaT]
    congr 1
  obtain ⟨D, hD⟩ : ∃ D, colourC x = D := ⟨_, rfl⟩
  rw [hD] at HN ⊢
  clear hD
  simp only [Css.agg, sv]
  have H1 := Lib.hid (fun W => HC.out [114, 103, 98] W)
  have H2 := Lib.hid (fun W => HC.out [114, 103, 98, 97] W)
  have H3 := Lib.hid (fun W => HC.out [104, 115, 108] W)
  have H4 := Lib.hid (fun W => HC.out [104, 115, 108, 97] W)
  clear HC
  generalize (⟨x.text.toArray⟩ : ByteArray) = a1 at *
  generalize (⟨x.unit.toArray⟩ : ByteArray) = a2 at *
  generalize x.num = nn at *
  generalize x.kind = kk at *
  have HBw : Hid (Below w.heap.size w (w.alloc (.cells #[.int .i64 kk, .string a1, .int .i64 nn, .string a2] 37))) := by show Below _ _ _; exact (by repeat (first | with_reducible exact Below.refl _ _ | (with_reducible refine Below.alloc ?_ (by first | omega | (simp [go_sem] <;> omega)) _) | (with_reducible refine Below.drew ?_) | (with_reducible refine Below.drewN ?_ _) | (with_reducible refine Below.grow ?_ (by first | omega | (simp [go_sem] <;> omega)) _) | (with_reducible refine Below.setCell ?_ (by first | omega | (simp [go_sem] <;> omega)) _)))
  cases k2 : (kk == 2)
  · have HD : Hid (D = false) := by show _ = _; rw [HN.out, k2]; rfl
    go_enter Tryz.func26, Tryz.ntmps26
    go_wp2_with (first | (go_at_call 50; (with_reducible refine (H1.out _).mono ?_); rintro e W1 ⟨g1, cap1, rfl, hb1, hg1, hl1, p1, q1, r1, s1⟩; have HB1 := Lib.hid (below_next HBw.out hb1); clear hb1) | (go_at_call 50; (with_reducible refine (H2.out _).mono ?_); rintro e W2 ⟨g2, cap2, rfl, hb2, hg2, hl2, p2, q2, r2, s2⟩; have HB2 := Lib.hid (below_next HB1.out hb2); clear hb2) | (go_at_call 50; (with_reducible refine (H3.out _).mono ?_); rintro e W3 ⟨g3, cap3, rfl, hb3, hg3, hl3, p3, q3, r3, s3⟩; have HB3 := Lib.hid (below_next HB2.out hb3); clear hb3) | (go_at_call 50; (with_reducible refine (H4.out _).mono ?_); rintro e W4 ⟨g4, cap4, rfl, hb4, hg4, hl4, p4, q4, r4, s4⟩; have HB4 := Lib.hid (below_next HB3.out hb4); clear hb4))
    go_ret
    exact Ret.of (by rw [HD.out]; rfl) HB4.out
  cases k0 : (nn == 0)
  · have HD : Hid (D = false) := by show _ = _; rw [HN.out, k2, k0]; rfl
    go_enter Tryz.func26, Tryz.ntmps26
    go_wp2_with (first | (go_at_call 50; (with_reducible refine (H1.out _).mono ?_); rintro e W1 ⟨g1, cap1, rfl, hb1, hg1, hl1, p1, q1, r1, s1⟩; have HB1 := Lib.hid (below_next HBw.out hb1); clear hb1) | (go_at_call 50; (with_reducible refine (H2.out _).mono ?_); rintro e W2 ⟨g2, cap2, rfl, hb2, hg2, hl2, p2, q2, r2, s2⟩; have HB2 := Lib.hid (below_next HB1.out hb2); clear hb2) | (go_at_call 50; (with_reducible refine (H3.out _).mono ?_); rintro e W3 ⟨g3, cap3, rfl, hb3, hg3, hl3, p3, q3, r3, s3⟩; have HB3 := Lib.hid (below_next HB2.out hb3); clear hb3) | (go_at_call 50; (with_reducible refine (H4.out _).mono ?_); rintro e W4 ⟨g4, cap4, rfl, hb4, hg4, hl4, p4, q4, r4, s4⟩; have HB4 := Lib.hid (below_next HB3.out hb4); clear hb4))
    go_ret
    exact Ret.of (by rw [HD.out]; rfl) HB4.out
  cases ke : a2.toList.isEmpty
  · have HD : Hid (D = false) := by show _ = _; rw [HN.out, k2, k0, ke]; rfl
    go_enter Tryz.func26, Tryz.ntmps26
    go_wp2_with (first | (go_at_call 50; (with_reducible refine (H1.out _).mono ?_); rintro e W1 ⟨g1, cap1, rfl, hb1, hg1, hl1, p1, q1, r1, s1⟩; have HB1 := Lib.hid (below_next HBw.out hb1); clear hb1) | (go_at_call 50; (with_reducible refine (H2.out _).mono ?_); rintro e W2 ⟨g2, cap2, rfl, hb2, hg2, hl2, p2, q2, r2, s2⟩; have HB2 := Lib.hid (below_next HB1.out hb2); clear hb2) | (go_at_call 50; (with_reducible refine (H3.out _).mono ?_); rintro e W3 ⟨g3, cap3, rfl, hb3, hg3, hl3, p3, q3, r3, s3⟩; have HB3 := Lib.hid (below_next HB2.out hb3); clear hb3) | (go_at_call 50; (with_reducible refine (H4.out _).mono ?_); rintro e W4 ⟨g4, cap4, rfl, hb4, hg4, hl4, p4, q4, r4, s4⟩; have HB4 := Lib.hid (below_next HB3.out hb4); clear hb4))
    go_ret
    exact Ret.of (by rw [HD.out]; rfl) HB4.out
  cases t1 : (a1.toList == [114, 103, 98])
  rotate_left
  · have HD : Hid (D = true) := by show _ = _; rw [HN.out, k2, k0, ke, t1]; first | rfl | simp
    go_enter Tryz.func26, Tryz.ntmps26
    go_wp2_with (first | (go_at_call 50; (with_reducible refine (H1.out _).mono ?_); rintro e W1 ⟨g1, cap1, rfl, hb1, hg1, hl1, p1, q1, r1, s1⟩; have HB1 := Lib.hid (below_next HBw.out hb1); clear hb1))
    go_ret
    exact Ret.of (by rw [HD.out]; rfl) HB1.out
  cases t2 : (a1.toList == [114, 103, 98, 97])
  rotate_left
  · have HD : Hid (D = true) := by show _ = _; rw [HN.out, k2, k0, ke, t1, t2]; first | rfl | simp
    go_enter Tryz.func26, Tryz.ntmps26
    go_wp2_with (first | (go_at_call 50; (with_reducible refine (H1.out _).mono ?_); rintro e W1 ⟨g1, cap1, rfl, hb1, hg1, hl1, p1, q1, r1, s1⟩; have HB1 := Lib.hid (below_next HBw.out hb1); clear hb1) | (go_at_call 50; (with_reducible refine (H2.out _).mono ?_); rintro e W2 ⟨g2, cap2, rfl, hb2, hg2, hl2, p2, q2, r2, s2⟩; have HB2 := Lib.hid (below_next HB1.out hb2); clear hb2))
    go_ret
    exact Ret.of (by rw [HD.out]; rfl) HB2.out
  cases t3 : (a1.toList == [104, 115, 108])
  rotate_left
  · have HD : Hid (D = true) := by show _ = _; rw [HN.out, k2, k0, ke, t1, t2, t3]; first | rfl | simp
    go_enter Tryz.func26, Tryz.ntmps26
    go_wp2_with (first | (go_at_call 50; (with_reducible refine (H1.out _).mono ?_); rintro e W1 ⟨g1, cap1, rfl, hb1, hg1, hl1, p1, q1, r1, s1⟩; have HB1 := Lib.hid (below_next HBw.out hb1); clear hb1) | (go_at_call 50; (with_reducible refine (H2.out _).mono ?_); rintro e W2 ⟨g2, cap2, rfl, hb2, hg2, hl2, p2, q2, r2, s2⟩; have HB2 := Lib.hid (below_next HB1.out hb2); clear hb2) | (go_at_call 50; (with_reducible refine (H3.out _).mono ?_); rintro e W3 ⟨g3, cap3, rfl, hb3, hg3, hl3, p3, q3, r3, s3⟩; have HB3 := Lib.hid (below_next HB2.out hb3); clear hb3))
    go_ret
    exact Ret.of (by rw [HD.out]; rfl) HB3.out
  cases t4 : (a1.toList == [104, 115, 108, 97])
  rotate_left
  · have HD : Hid (D = true) := by show _ = _; rw [HN.out, k2, k0, ke, t1, t2, t3, t4]; first | rfl | simp
    go_enter Tryz.func26, Tryz.ntmps26
    go_wp2_with (first | (go_at_call 50; (with_reducible refine (H1.out _).mono ?_); rintro e W1 ⟨g1, cap1, rfl, hb1, hg1, hl1, p1, q1, r1, s1⟩; have HB1 := Lib.hid (below_next HBw.out hb1); clear hb1) | (go_at_call 50; (with_reducible refine (H2.out _).mono ?_); rintro e W2 ⟨g2, cap2, rfl, hb2, hg2, hl2, p2, q2, r2, s2⟩; have HB2 := Lib.hid (below_next HB1.out hb2); clear hb2) | (go_at_call 50; (with_reducible refine (H3.out _).mono ?_); rintro e W3 ⟨g3, cap3, rfl, hb3, hg3, hl3, p3, q3, r3, s3⟩; have HB3 := Lib.hid (below_next HB2.out hb3); clear hb3) | (go_at_call 50; (with_reducible refine (H4.out _).mono ?_); rintro e W4 ⟨g4, cap4, rfl, hb4, hg4, hl4, p4, q4, r4, s4⟩; have HB4 := Lib.hid (below_next HB3.out hb4); clear hb4))
    go_ret
    exact Ret.of (by rw [HD.out]; rfl) HB4.out
  have HD : Hid (D = false) := by show _ = _; rw [HN.out, k2, k0, ke, t1, t2, t3, t4]; rfl
  go_enter Tryz.func26, Tryz.ntmps26
  go_wp2_with (first | (go_at_call 50; (with_reducible refine (H1.out _).mono ?_); rintro e W1 ⟨g1, cap1, rfl, hb1, hg1, hl1, p1, q1, r1, s1⟩; have HB1 := Lib.hid (below_next HBw.out hb1); clear hb1) | (go_at_call 50; (with_reducible refine (H2.out _).mono ?_); rintro e W2 ⟨g2, cap2, rfl, hb2, hg2, hl2, p2, q2, r2, s2⟩; have HB2 := Lib.hid (below_next HB1.out hb2); clear hb2) | (go_at_call 50; (with_reducible refine (H3.out _).mono ?_); rintro e W3 ⟨g3, cap3, rfl, hb3, hg3, hl3, p3, q3, r3, s3⟩; have HB3 := Lib.hid (below_next HB2.out hb3); clear hb3) | (go_at_call 50; (with_reducible refine (H4.out _).mono ?_); rintro e W4 ⟨g4, cap4, rfl, hb4, hg4, hl4, p4, q4, r4, s4⟩; have HB4 := Lib.hid (below_next HB3.out hb4); clear hb4))
  go_ret
  exact Ret.of (by rw [HD.out]; rfl) HB4.out
end Go.Proofs.YtgcccpdadponiaaGreatDoor
