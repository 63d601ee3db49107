/- The walks of styles: whether a list is short. -/
import Derived.Test.YtgcccpdadponiaaGreatDoorCssP
namespace Go.Proofs.YtgcccpdadponiaaGreatDoor
open Go.RowKit Go.Shelf
attribute [local go_sem] Oper.semAt_some
def few1 (x : Css) : Bool := decide (x.text.length ≤ 200) && decide (x.unit.length ≤ 200)
def fewB (l : List Css) : Bool := l.all few1 && decide (l.length ≤ 100)
set_option maxRecDepth 100000 in
set_option maxHeartbeats 4000000 in
theorem few_any (A : Option Addr) (n c : Nat) (l : List Css) (w : World) (h : Rd w (.slice A n c) l.length 4 (cssCells l)) :
    Calls Tryz.prog 10 #[.slice A n c] w (Ret (.bool (fewB l)) w) := by
  have HR := Lib.hid h
  obtain ⟨_, hm, A', c', heq, _⟩ := h
  cases heq
  obtain ⟨D, hD⟩ : ∃ D, fewB l = D := ⟨_, rfl⟩
  have HD : Hid (D = (l.all few1 && decide (l.length ≤ 100))) := hD.symm
  rw [hD]
  clear hD
  go_enter Tryz.func10, Tryz.ntmps10
  go_wp2_with fail
  go_loopw [3] (fun i wr => ∃ (k : Nat), k ≤ l.length ∧ i = .int .i64 k ∧ wr = w ∧ Hid ((l.take k).all few1 = true)) (fun i _ => l.length - (intOf i).toNat)
  case atStart => exact ⟨0, by omega, rfl, rfl, rfl⟩
  case round =>
    obtain ⟨k, hk, rfl, rfl, HK⟩ := hrel
    by_cases hlt : k < l.length
    · obtain ⟨b, off, rfl, hb, c0, c1, c2, c3⟩ := HR.out.css k hlt
      have HAl := Lib.hid (show (l.take (k + 1)).all few1 = ((l.take k).all few1 && few1 l[k]) by rw [List.take_succ_eq_append_getElem hlt, List.all_append]; simp)
      have HNo := Lib.hid (show few1 l[k] = false → l.all few1 = false from fun h => by
        rw [← Bool.not_eq_true, List.all_eq_true]; intro h2; rw [h2 _ (List.getElem_mem hlt)] at h; cases h)
      generalize l[k] = x at *
      have z1 : (⟨x.text.toArray⟩ : ByteArray).size = x.text.length := rfl
      have z2 : (⟨x.unit.toArray⟩ : ByteArray).size = x.unit.length := rfl
      simp only [sv] at c1 c3
      by_cases h5 : 200 < x.text.length
      · have b5 : decide ((200 : Int) < (⟨x.text.toArray⟩ : ByteArray).size) = true := by rw [z1]; simp; omega
        have HN : Hid (D = false) := by show _ = _; rw [HD.out, HNo.out (by unfold few1; rw [decide_eq_false (by omega)]; rfl)]; rfl
        clear z1 z2 h5
        generalize (⟨x.text.toArray⟩ : ByteArray) = U at *
        generalize (⟨x.unit.toArray⟩ : ByteArray) = V at *
        go_wp2_with fail
        go_ret
        exact Ret.of (by rw [HN.out]; rfl) (by repeat (first | with_reducible exact Below.refl _ _ | (with_reducible refine Below.alloc ?_ (by first | omega | (simp [go_sem] <;> omega)) _) | (with_reducible refine Below.drew ?_) | (with_reducible refine Below.drewN ?_ _) | (with_reducible refine Below.grow ?_ (by first | omega | (simp [go_sem] <;> omega)) _) | (with_reducible refine Below.setCell ?_ (by first | omega | (simp [go_sem] <;> omega)) _)))
      · have b5 : decide ((200 : Int) < (⟨x.text.toArray⟩ : ByteArray).size) = false := by rw [z1]; simp; omega
        by_cases h6 : 200 < x.unit.length
        · have b6 : decide ((200 : Int) < (⟨x.unit.toArray⟩ : ByteArray).size) = true := by rw [z2]; simp; omega
          have HN : Hid (D = false) := by show _ = _; rw [HD.out, HNo.out (by unfold few1; rw [decide_eq_false (p := x.unit.length ≤ 200) (by omega)]; simp)]; rfl
          clear z1 z2 h5 h6
          generalize (⟨x.text.toArray⟩ : ByteArray) = U at *
          generalize (⟨x.unit.toArray⟩ : ByteArray) = V at *
          go_wp2_with fail
          go_ret
          exact Ret.of (by rw [HN.out]; rfl) (by repeat (first | with_reducible exact Below.refl _ _ | (with_reducible refine Below.alloc ?_ (by first | omega | (simp [go_sem] <;> omega)) _) | (with_reducible refine Below.drew ?_) | (with_reducible refine Below.drewN ?_ _) | (with_reducible refine Below.grow ?_ (by first | omega | (simp [go_sem] <;> omega)) _) | (with_reducible refine Below.setCell ?_ (by first | omega | (simp [go_sem] <;> omega)) _)))
        · have b6 : decide ((200 : Int) < (⟨x.unit.toArray⟩ : ByteArray).size) = false := by rw [z2]; simp; omega
          have HN : Hid ((l.take (k + 1)).all few1 = true) := by
            show _ = _
            rw [HAl.out, HK.out]
            unfold few1
            rw [decide_eq_true (by omega), decide_eq_true (by omega)]; rfl
          clear z1 z2 h5 h6
          generalize (⟨x.text.toArray⟩ : ByteArray) = U at *
          generalize (⟨x.unit.toArray⟩ : ByteArray) = V at *
          go_wp2_with fail
          go_roundw
          case rel => exact ⟨k + 1, by omega, by go_num, by first | rfl | trivial, HN⟩
          case measure => simp [intOf]; omega
    · have hk2 : k = l.length := by omega
      subst hk2
      rw [List.take_length] at HK
      have HN : Hid (D = decide (l.length ≤ 100)) := by show _ = _; rw [HD.out, HK.out]; rfl
      by_cases h1 : l.length ≤ 100
      · have b1 : decide ((l.length : Int) ≤ 100) = true := by simp; omega
        go_wp2
        go_ret
        exact Ret.of (by rw [HN.out, decide_eq_true h1]; simp; try omega) (by repeat (first | with_reducible exact Below.refl _ _ | (with_reducible refine Below.alloc ?_ (by first | omega | (simp [go_sem] <;> omega)) _) | (with_reducible refine Below.drew ?_) | (with_reducible refine Below.drewN ?_ _) | (with_reducible refine Below.grow ?_ (by first | omega | (simp [go_sem] <;> omega)) _) | (with_reducible refine Below.setCell ?_ (by first | omega | (simp [go_sem] <;> omega)) _)))
      · have b1 : decide ((l.length : Int) ≤ 100) = false := by simp; omega
        go_wp2
        go_ret
        exact Ret.of (by rw [HN.out, decide_eq_false h1]; simp; try omega) (by repeat (first | with_reducible exact Below.refl _ _ | (with_reducible refine Below.alloc ?_ (by first | omega | (simp [go_sem] <;> omega)) _) | (with_reducible refine Below.drew ?_) | (with_reducible refine Below.drewN ?_ _) | (with_reducible refine Below.grow ?_ (by first | omega | (simp [go_sem] <;> omega)) _) | (with_reducible refine Below.setCell ?_ (by first | omega | (simp [go_sem] <;> omega)) _)))
end Go.Proofs.YtgcccpdadponiaaGreatDoor
