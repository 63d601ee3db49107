/- The walks of declarations by the reference: whether two lists are the same, whether they are short, whether pieces are even. -/
import Derived.Test.YtdpgpjileffekaaGreatDoorCssN
import Derived.Test.YtdpgpjileffekaaGreatDoorCssQ
import Derived.Test.YtdpgpjileffekaaGreatDoorDecF
namespace Go.Proofs.YtdpgpjileffekaaGreatDoor
open Go.RowKit Go.Shelf
attribute [local go_sem] Oper.semAt_some
theorem dsame_from {l m : List Dcl} {k : Nat} (h1 : k < l.length) (h2 : k < m.length) : decide (l.drop k = m.drop k) = (decide (l[k] = m[k]) && decide (l.drop (k + 1) = m.drop (k + 1))) := by
  rw [List.drop_eq_getElem_cons h1, List.drop_eq_getElem_cons h2, Bool.eq_iff_iff]; simp only [List.cons.injEq, decide_eq_true_eq, Bool.and_eq_true]
theorem dcl_eq (p q : Dcl) : decide (p = q) = (((⟨p.name.toArray⟩ : ByteArray).toList == (⟨q.name.toArray⟩ : ByteArray).toList) && (p.imp == q.imp) && decide (p.value = q.value)) := by
  rw [ba_bq]
  obtain ⟨a, b, c⟩ := p
  obtain ⟨a2, b2, c2⟩ := q
  rw [Bool.eq_iff_iff]; simp; exact ⟨fun ⟨h1, h2, h3⟩ => ⟨⟨h1, h3⟩, h2⟩, fun ⟨⟨h1, h3⟩, h2⟩ => ⟨h1, h2, h3⟩⟩
set_option maxRecDepth 100000 in
set_option maxHeartbeats 4000000 in
theorem dsame_any (A A2 : Option Addr) (n n2 c c2 : Nat) (l m : List Dcl) (w : World) (h : RdD w (.slice A n c) l) (h2 : RdD w (.slice A2 n2 c2) m) :
    Calls Tryz.prog 9 #[.slice A n c, .slice A2 n2 c2] w (Ret (.bool (decide (l = m))) w) := by
  have HR := Lib.hid h
  have HR2 := Lib.hid h2
  obtain ⟨_, _, _, hm, A', c', heq, _⟩ := h
  cases heq
  obtain ⟨_, _, _, hm2, A2', c2', heq, _⟩ := h2
  cases heq
  have hmx : Tryz.prog.follows .mixedOrders = true := by kernel_rfl
  obtain ⟨D, hD⟩ : ∃ D, decide (l = m) = D := ⟨_, rfl⟩
  have HD := Lib.hid hD
  rw [hD]
  clear hD
  by_cases hlen : l.length = m.length
  · have HL := Lib.hid hlen
    rw [hlen] at hm ⊢
    have b0 : ((m.length : Int) != (m.length : Int)) = false := by simp
    go_enter Tryz.func9, Tryz.ntmps9
    go_wp2_with fail
    go_loopw [5] (fun i wr => ∃ (k : Nat) (X : Gr), k ≤ m.length ∧ i = .int .i64 k ∧ wr = w.grow X ∧ Hid (D = decide (l.drop k = m.drop k))) (fun i _ => m.length - (intOf i).toNat)
    case atStart => exact ⟨0, _, by omega, rfl, (grow_refl w).symm, by show _ = _; rw [← HD.out]; rfl⟩
    case round =>
      obtain ⟨k, X, hk, rfl, rfl, HK⟩ := hrel
      by_cases hlt : k < m.length
      · have hlt' : k < l.length := by rw [HL.out]; exact hlt
        obtain ⟨b, off, v1, rfl, hb, ⟨Av, cv, rfl, _, _, hv1⟩, c0, c1, c2⟩ := HR.out.at k hlt'
        obtain ⟨b2, off2, v2, rfl, hb2, ⟨Av2, cv2, rfl, _, _, hv2⟩, d0, d1, d2⟩ := HR2.out.at k hlt
        have HS := Lib.hid (HK.out.trans (dsame_from hlt' hlt))
        have HP := Lib.hid (dcl_eq l[k] m[k])
        have HSa := Lib.hid (fun W (hB : Below w.heap.size w W) => show Calls Tryz.prog 18 #[.slice Av l[k].value.length cv, .slice Av2 m[k].value.length cv2] W (Ret (.bool (decide (l[k].value = m[k].value))) W) from by
          obtain ⟨X2, rfl⟩ := grow_of_below hB
          exact same_any _ _ _ _ _ _ _ _ _ (hv1.grow X2) (hv2.grow X2))
        clear hv1 hv2
        generalize l[k] = p at *
        generalize m[k] = q at *
        obtain ⟨p1, p2, p3⟩ := p
        obtain ⟨q1, q2, q3⟩ := q
        simp only [sv] at c0 c1 c2 d0 d1 d2 HP HSa
        generalize (⟨p1.toArray⟩ : ByteArray) = a1 at *
        generalize (⟨q1.toArray⟩ : ByteArray) = a3 at *
        generalize decide (p2 = q2) = E at *
        generalize p2.length = pl at *
        generalize q2.length = ql at *
        cases e1 : (a1.toList == a3.toList)
        · have HN := Lib.hid (show D = false by rw [HS.out, HP.out, e1]; simp)
          go_wp2_with fail
          refine wp_region_grow (by kernel_rfl) (by kernel_rfl) ?_
          repeat (go_big_quiet_step (first | (go_at_call 18; with_reducible exact Calls.grow_of (HSa.out _ (by (repeat (first | with_reducible exact Below.refl _ _ | (with_reducible refine Below.alloc ?_ (by first | omega | (simp [go_sem] <;> omega)) _) | (with_reducible refine Below.drew ?_) | (with_reducible refine Below.drewN ?_ _) | (with_reducible refine Below.grow ?_ (by first | omega | (simp [go_sem] <;> omega)) _) | (with_reducible refine Below.setCell ?_ (by first | omega | (simp [go_sem] <;> omega)) _))); done)))))
          refine wpQuiet_nil ?_
          intro _ hw'; obtain ⟨nq, hw''⟩ := hw'; subst hw''
          go_wp2
          go_ret
          exact Ret.of (by rw [HN.out]; rfl) (by repeat (first | with_reducible exact Below.refl _ _ | (with_reducible refine Below.alloc ?_ (by first | omega | (simp [go_sem] <;> omega)) _) | (with_reducible refine Below.drew ?_) | (with_reducible refine Below.drewN ?_ _) | (with_reducible refine Below.grow ?_ (by first | omega | (simp [go_sem] <;> omega)) _) | (with_reducible refine Below.setCell ?_ (by first | omega | (simp [go_sem] <;> omega)) _)))
        cases e2 : (p3 == q3)
        · have HN := Lib.hid (show D = false by rw [HS.out, HP.out, e1, e2]; simp)
          go_wp2_with fail
          refine wp_region_grow (by kernel_rfl) (by kernel_rfl) ?_
          repeat (go_big_quiet_step (first | (go_at_call 18; with_reducible exact Calls.grow_of (HSa.out _ (by (repeat (first | with_reducible exact Below.refl _ _ | (with_reducible refine Below.alloc ?_ (by first | omega | (simp [go_sem] <;> omega)) _) | (with_reducible refine Below.drew ?_) | (with_reducible refine Below.drewN ?_ _) | (with_reducible refine Below.grow ?_ (by first | omega | (simp [go_sem] <;> omega)) _) | (with_reducible refine Below.setCell ?_ (by first | omega | (simp [go_sem] <;> omega)) _))); done)))))
          refine wpQuiet_nil ?_
          intro _ hw'; obtain ⟨nq, hw''⟩ := hw'; subst hw''
          go_wp2
          go_ret
          exact Ret.of (by rw [HN.out]; rfl) (by repeat (first | with_reducible exact Below.refl _ _ | (with_reducible refine Below.alloc ?_ (by first | omega | (simp [go_sem] <;> omega)) _) | (with_reducible refine Below.drew ?_) | (with_reducible refine Below.drewN ?_ _) | (with_reducible refine Below.grow ?_ (by first | omega | (simp [go_sem] <;> omega)) _) | (with_reducible refine Below.setCell ?_ (by first | omega | (simp [go_sem] <;> omega)) _)))
        have HN0 := Lib.hid (show D = (E && decide (l.drop (k + 1) = m.drop (k + 1))) by rw [HS.out, HP.out, e1, e2]; rfl)
        cases E
        · have HSb := Lib.hid HSa.out
          go_wp2_with fail
          refine wp_region_grow (by kernel_rfl) (by kernel_rfl) ?_
          repeat (go_big_quiet_step (first | (go_at_call 18; with_reducible exact Calls.grow_of (HSb.out _ (by (repeat (first | with_reducible exact Below.refl _ _ | (with_reducible refine Below.alloc ?_ (by first | omega | (simp [go_sem] <;> omega)) _) | (with_reducible refine Below.drew ?_) | (with_reducible refine Below.drewN ?_ _) | (with_reducible refine Below.grow ?_ (by first | omega | (simp [go_sem] <;> omega)) _) | (with_reducible refine Below.setCell ?_ (by first | omega | (simp [go_sem] <;> omega)) _))); done)))))
          refine wpQuiet_nil ?_
          intro _ hw'; obtain ⟨nq, hw''⟩ := hw'; subst hw''
          go_wp2
          go_ret
          exact Ret.of (by rw [HN0.out]; rfl) (by repeat (first | with_reducible exact Below.refl _ _ | (with_reducible refine Below.alloc ?_ (by first | omega | (simp [go_sem] <;> omega)) _) | (with_reducible refine Below.drew ?_) | (with_reducible refine Below.drewN ?_ _) | (with_reducible refine Below.grow ?_ (by first | omega | (simp [go_sem] <;> omega)) _) | (with_reducible refine Below.setCell ?_ (by first | omega | (simp [go_sem] <;> omega)) _)))
        · have HSb := Lib.hid HSa.out
          go_wp2_with fail
          refine wp_region_grow (by kernel_rfl) (by kernel_rfl) ?_
          repeat (go_big_quiet_step (first | (go_at_call 18; with_reducible exact Calls.grow_of (HSb.out _ (by (repeat (first | with_reducible exact Below.refl _ _ | (with_reducible refine Below.alloc ?_ (by first | omega | (simp [go_sem] <;> omega)) _) | (with_reducible refine Below.drew ?_) | (with_reducible refine Below.drewN ?_ _) | (with_reducible refine Below.grow ?_ (by first | omega | (simp [go_sem] <;> omega)) _) | (with_reducible refine Below.setCell ?_ (by first | omega | (simp [go_sem] <;> omega)) _))); done)))))
          refine wpQuiet_nil ?_
          intro _ hw'; obtain ⟨nq, hw''⟩ := hw'; subst hw''
          go_wp2
          go_roundw
          case rel => exact ⟨k + 1, _, by omega, by go_num, grow_grow w X nq, by show _ = _; rw [HN0.out]; rfl⟩
          case measure => simp [intOf]; omega
      · have HN := Lib.hid (show D = true by rw [HK.out, List.drop_eq_nil_of_le (by rw [HL.out]; omega), List.drop_eq_nil_of_le (by omega)]; rfl)
        go_wp2
        go_ret
        exact Ret.of (by rw [HN.out]; rfl) (by repeat (first | with_reducible exact Below.refl _ _ | (with_reducible refine Below.alloc ?_ (by first | omega | (simp [go_sem] <;> omega)) _) | (with_reducible refine Below.drew ?_) | (with_reducible refine Below.drewN ?_ _) | (with_reducible refine Below.grow ?_ (by first | omega | (simp [go_sem] <;> omega)) _) | (with_reducible refine Below.setCell ?_ (by first | omega | (simp [go_sem] <;> omega)) _)))
  · have HN := Lib.hid (show D = false by rw [← HD.out]; simp; intro h; exact hlen (by rw [h]))
    have b0 : ((l.length : Int) != (m.length : Int)) = true := by simp; omega
    have b1 : ¬ ((l.length : Int) = m.length) := by omega
    clear hlen
    go_enter Tryz.func9, Tryz.ntmps9
    go_wp2
    go_ret
    exact Ret.of (by rw [HN.out]; rfl) (by repeat (first | with_reducible exact Below.refl _ _ | (with_reducible refine Below.alloc ?_ (by first | omega | (simp [go_sem] <;> omega)) _) | (with_reducible refine Below.drew ?_) | (with_reducible refine Below.drewN ?_ _) | (with_reducible refine Below.grow ?_ (by first | omega | (simp [go_sem] <;> omega)) _) | (with_reducible refine Below.setCell ?_ (by first | omega | (simp [go_sem] <;> omega)) _)))
def few14 (d : Dcl) : Bool := fewB d.value && decide (d.name.length ≤ 200)
def fewD (l : List Dcl) : Bool := l.all few14 && decide (l.length ≤ 30)
end Go.Proofs.YtdpgpjileffekaaGreatDoor
