/- The walks of the reference: whether two lists are the same; the small thing that is tried first. -/
import Derived.Test.YtgoioaobknjmcaaDoorSrcS
namespace Go.Proofs.YtgoioaobknjmcaaDoor
open Go.RowKit Go.Shelf
theorem same_from {l m : List Pic} {k : Nat} (hl : l.length = m.length) (h1 : k < l.length) (h2 : k < m.length) : decide (l.drop k = m.drop k) = (decide (l[k] = m[k]) && decide (l.drop (k + 1) = m.drop (k + 1))) := by
  rw [List.drop_eq_getElem_cons h1, List.drop_eq_getElem_cons h2, Bool.eq_iff_iff]; simp only [List.cons.injEq, decide_eq_true_eq, Bool.and_eq_true]
theorem pic_eq (p q : Pic) : decide (p = q) = (((⟨p.url.toArray⟩ : ByteArray).toList == (⟨q.url.toArray⟩ : ByteArray).toList) && ((⟨p.size.toArray⟩ : ByteArray).toList == (⟨q.size.toArray⟩ : ByteArray).toList)) := by
  rw [ba_bq, ba_bq]
  obtain ⟨a, b⟩ := p
  obtain ⟨c, d⟩ := q
  rw [Bool.eq_iff_iff]; simp
set_option maxRecDepth 100000 in
set_option maxHeartbeats 4000000 in
theorem same_any (A A2 : Option Addr) (n n2 c c2 : Nat) (l m : List Pic) (w : World) (h : Rd w (.slice A n c) l.length 2 (picCells l)) (h2 : Rd w (.slice A2 n2 c2) m.length 2 (picCells m)) :
    Calls Tryd.prog 8 #[.slice A n c, .slice A2 n2 c2] w (Ret (.bool (decide (l = m))) w) := by
  have HR := Lib.hid h
  have HR2 := Lib.hid h2
  obtain ⟨_, hm, A', c', heq, _⟩ := h
  cases heq
  obtain ⟨_, hm2, A2', c2', heq, _⟩ := h2
  cases heq
  have hmx : Tryd.prog.follows .mixedOrders = true := by kernel_rfl
  obtain ⟨D, hD⟩ : ∃ D, decide (l = m) = D := ⟨_, rfl⟩
  have HD := Lib.hid hD
  rw [hD]
  clear hD
  by_cases hlen : l.length = m.length
  · have HL := Lib.hid hlen
    have HR' := HR
    rw [hlen] at hm ⊢
    have b0 : ((m.length : Int) != (m.length : Int)) = false := by simp
    go_enter Tryd.func8, Tryd.ntmps8
    go_wp2_with fail
    go_loopw [5] (fun i wr => ∃ (k : Nat) (X : Gr), k ≤ m.length ∧ i = .int .i64 k ∧ wr = w.grow X ∧ Hid (D = decide (l.drop k = m.drop k))) (fun i _ => m.length - (intOf i).toNat)
    case atStart => exact ⟨0, _, by omega, rfl, (grow_refl w).symm, by show _ = _; rw [← HD.out]; rfl⟩
    case round =>
      obtain ⟨k, X, hk, rfl, rfl, HK⟩ := hrel
      by_cases hlt : k < m.length
      · have hlt' : k < l.length := by rw [HL.out]; exact hlt
        obtain ⟨b, off, rfl, hb, c0, c1⟩ := HR.out.pic k hlt'
        obtain ⟨b2, off2, rfl, hb2, d0, d1⟩ := HR2.out.pic k hlt
        have HS := Lib.hid (HK.out.trans (same_from HL.out hlt' hlt))
        have HP := Lib.hid (pic_eq l[k] m[k])
        generalize l[k] = p at *
        generalize m[k] = q at *
        simp only [sv] at c0 c1 d0 d1
        generalize (⟨p.url.toArray⟩ : ByteArray) = a1 at *
        generalize (⟨p.size.toArray⟩ : ByteArray) = a2 at *
        generalize (⟨q.url.toArray⟩ : ByteArray) = a3 at *
        generalize (⟨q.size.toArray⟩ : ByteArray) = a4 at *
        cases e1 : (a1.toList == a3.toList)
        · have HN := Lib.hid (show D = false by rw [HS.out, HP.out, e1]; rfl)
          go_wp2_with fail
          refine wp_region_grow (by kernel_rfl) (by kernel_rfl) ?_
          repeat (go_big_quiet_step (fail))
          refine wpQuiet_nil ?_
          intro _ hw'; obtain ⟨nq, hw''⟩ := hw'; subst hw''
          go_wp2
          go_ret
          exact Ret.of (by rw [HN.out]; rfl) (by repeat (first | with_reducible exact Below.refl _ _ | (with_reducible refine Below.alloc ?_ (by first | omega | (simp [go_sem] <;> omega)) _) | (with_reducible refine Below.drew ?_) | (with_reducible refine Below.drewN ?_ _) | (with_reducible refine Below.grow ?_ (by first | omega | (simp [go_sem] <;> omega)) _) | (with_reducible refine Below.setCell ?_ (by first | omega | (simp [go_sem] <;> omega)) _)))
        · cases e2 : (a2.toList == a4.toList)
          · have HN := Lib.hid (show D = false by rw [HS.out, HP.out, e1, e2]; rfl)
            go_wp2_with fail
            refine wp_region_grow (by kernel_rfl) (by kernel_rfl) ?_
            repeat (go_big_quiet_step (fail))
            refine wpQuiet_nil ?_
            intro _ hw'; obtain ⟨nq, hw''⟩ := hw'; subst hw''
            go_wp2
            go_ret
            exact Ret.of (by rw [HN.out]; rfl) (by repeat (first | with_reducible exact Below.refl _ _ | (with_reducible refine Below.alloc ?_ (by first | omega | (simp [go_sem] <;> omega)) _) | (with_reducible refine Below.drew ?_) | (with_reducible refine Below.drewN ?_ _) | (with_reducible refine Below.grow ?_ (by first | omega | (simp [go_sem] <;> omega)) _) | (with_reducible refine Below.setCell ?_ (by first | omega | (simp [go_sem] <;> omega)) _)))
          · have HN := Lib.hid (show D = decide (l.drop (k + 1) = m.drop (k + 1)) by rw [HS.out, HP.out, e1, e2]; rfl)
            go_wp2_with fail
            refine wp_region_grow (by kernel_rfl) (by kernel_rfl) ?_
            repeat (go_big_quiet_step (fail))
            refine wpQuiet_nil ?_
            intro _ hw'; obtain ⟨nq, hw''⟩ := hw'; subst hw''
            go_wp2
            go_roundw
            case rel => exact ⟨k + 1, _, by omega, by go_num, grow_grow w X nq, HN⟩
            case measure => simp [intOf]; omega
      · have HN := Lib.hid (show D = true by rw [HK.out, List.drop_eq_nil_of_le (by rw [HL.out]; omega), List.drop_eq_nil_of_le (by omega)]; rfl)
        go_wp2
        go_ret
        exact Ret.of (by rw [HN.out]; rfl) (by repeat (first | with_reducible exact Below.refl _ _ | (with_reducible refine Below.alloc ?_ (by first | omega | (simp [go_sem] <;> omega)) _) | (with_reducible refine Below.drew ?_) | (with_reducible refine Below.drewN ?_ _) | (with_reducible refine Below.grow ?_ (by first | omega | (simp [go_sem] <;> omega)) _) | (with_reducible refine Below.setCell ?_ (by first | omega | (simp [go_sem] <;> omega)) _)))
  · have HN := Lib.hid (show D = false by rw [← HD.out]; simp; intro h; exact hlen (by rw [h]))
    have b0 : ((l.length : Int) != (m.length : Int)) = true := by simp; omega
    have b1 : ¬ ((l.length : Int) = m.length) := by omega
    clear hlen
    go_enter Tryd.func8, Tryd.ntmps8
    go_wp2
    go_ret
    exact Ret.of (by rw [HN.out]; rfl) (by repeat (first | with_reducible exact Below.refl _ _ | (with_reducible refine Below.alloc ?_ (by first | omega | (simp [go_sem] <;> omega)) _) | (with_reducible refine Below.drew ?_) | (with_reducible refine Below.drewN ?_ _) | (with_reducible refine Below.grow ?_ (by first | omega | (simp [go_sem] <;> omega)) _) | (with_reducible refine Below.setCell ?_ (by first | omega | (simp [go_sem] <;> omega)) _)))
def w1 : Bs := [97, 32, 49, 120, 44, 32, 98]
theorem awake_pics : picL w1 = [⟨[97], [49, 120]⟩, ⟨[98], []⟩] := by decide
theorem awake_text : textP [⟨[97], [49, 120]⟩, ⟨[98], []⟩] = w1 := by decide
theorem awake_size : sizeB [49, 48, 119] = true := by decide
set_option maxRecDepth 100000 in
set_option maxHeartbeats 4000000 in
theorem awake_any (w : World) : Calls Tryd.prog 7 #[] w (Ret (.bool true) w) := by
  have HP := Lib.hid (fun W => show Calls Tryd.prog 9 #[.string ⟨#[97, 32, 49, 120, 44, 32, 98]⟩] W (RetS W 2 2 (picCells [⟨[97], [49, 120]⟩, ⟨[98], []⟩])) from awake_pics ▸ parse_any w1 W (by decide))
  have HT := Lib.hid (fun (A : Option Addr) (n c : Nat) (W : World) (h : Rd W (.slice A n c) 2 2 (picCells [⟨[97], [49, 120]⟩, ⟨[98], []⟩])) => show Calls Tryd.prog 15 #[.slice A n c] W (Ret (.string ⟨#[97, 32, 49, 120, 44, 32, 98]⟩) W) from by
    have := text_any A n c _ W h (by decide) (by decide) (by decide)
    rw [awake_text] at this; exact this)
  have HZ := Lib.hid (fun W => show Calls Tryd.prog 11 #[.string ⟨#[49, 48, 119]⟩] W (Ret (.bool true) W) from awake_size ▸ sizeok_any [49, 48, 119] W (by decide))
  have hmx : Tryd.prog.follows .mixedOrders = true := by kernel_rfl
  go_enter Tryd.func7, Tryd.ntmps7
  go_wp2_with (first | (go_at_call 9; (with_reducible refine (HP.out _).mono ?_); rintro e w' ⟨A3, c3, X3, rfl, rfl, hc3, hr3⟩; obtain ⟨b, off, rfl, hb, c0, c1⟩ := hr3.pic 0 (by decide); simp only [List.getElem_cons_zero, Nat.zero_mul, Nat.add_zero, sv] at c0 c1; have HR3 := Lib.hid hr3; clear hr3) | (go_at_call 15; (with_reducible refine (HT.out _ _ _ _ HR3.out).mono ?_); rintro e w' ⟨rfl, X4, rfl⟩) | (go_at_call 11; (with_reducible refine (HZ.out _).mono ?_); rintro e w' ⟨rfl, X5, rfl⟩))
  go_ret
  exact Ret.of rfl (by repeat (first | with_reducible exact Below.refl _ _ | (with_reducible refine Below.alloc ?_ (by first | omega | (simp [go_sem] <;> omega)) _) | (with_reducible refine Below.drew ?_) | (with_reducible refine Below.drewN ?_ _) | (with_reducible refine Below.grow ?_ (by first | omega | (simp [go_sem] <;> omega)) _) | (with_reducible refine Below.setCell ?_ (by first | omega | (simp [go_sem] <;> omega)) _)))
end Go.Proofs.YtgoioaobknjmcaaDoor
