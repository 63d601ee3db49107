/- The walks of the turns: one motion behind another, a step's motion. -/
import Derived.Deep.RegionHeld3
import Derived.Deep.DeepCutAuto
import Derived.Test.YtendepongefklaaWalkA
namespace Go.Proofs.Ytendepongefklaa
open Go.RowKit

def MB.behind (u v : MB) : MB :=
  { f := !(u.f == v.f), m1 := (u.to (v.m1, v.m2)).1, m2 := (u.to (v.m1, v.m2)).2,
    b1 := (cmul u.b1 u.b2 v.b1 (if u.f then Op.negFloat .f64 v.b2 else v.b2)).1, b2 := (cmul u.b1 u.b2 v.b1 (if u.f then Op.negFloat .f64 v.b2 else v.b2)).2 }

theorem behind_F (u v : MB) (m n : Mo) (hu : u.is m) (hv : v.is n) (hm : Bd 16777216 m) (hn : n.bx.natAbs ≤ 8 ∧ n.bY.natAbs ≤ 8) (hx : n.mx.natAbs ≤ 4096) (hy : n.my.natAbs ≤ 4096) :
    (cMulBits u.b1 u.b2 v.b1 (if u.f then Op.negFloat .f64 v.b2 else v.b2)).isSome = true ∧ (u.behind v).is (behind m n) := by
  have ht := to_F u m v.m1 v.m2 n.mx n.my hu (hm.mono (by omega)) hv.2.2.2.1 hv.2.2.2.2 hx hy
  obtain ⟨f0, f1, f2, f3, f4⟩ := hu
  obtain ⟨g0, g1, g2, g3, g4⟩ := hv
  obtain ⟨a1, a2, a3, a4⟩ := hm
  have hs' : F (if u.f then Op.negFloat .f64 v.b2 else v.b2) (if m.flip then -n.bY else n.bY) := by
    rw [f0]; cases m.flip
    · exact g2
    · exact F_neg g2
  have hy' : (if m.flip then -n.bY else n.bY).natAbs ≤ 8 := by split <;> omega
  unfold MB.behind MB.is behind
  dsimp only
  generalize (if u.f then Op.negFloat .f64 v.b2 else v.b2) = s' at *
  generalize (if m.flip then -n.bY else n.bY) = y' at *
  have q1 := mul_abs a1 hn.1
  have q2 := mul_abs a2 hy'
  have q3 := mul_abs a1 hy'
  have q4 := mul_abs a2 hn.1
  obtain ⟨e, k1, k2⟩ := cmul_F f1 f2 g1 hs' (sm_of _ q1 (by omega)) (sm_of _ q2 (by omega)) (sm_of _ q3 (by omega)) (sm_of _ q4 (by omega)) (sm_of _ (sub_abs q1 q2) (by omega)) (sm_of _ (add_abs q3 q4) (by omega))
  exact ⟨e, by rw [f0, g0]; rfl, k1, k2, ht.2.2.1, ht.2.2.2⟩

set_option maxHeartbeats 4000000 in
theorem behind_any (u v : MB) (m n : Mo) (w : World) (hu : u.is m) (hv : v.is n) (hm : Bd 16777216 m) (hn : n.bx.natAbs ≤ 8 ∧ n.bY.natAbs ≤ 8) (hx : n.mx.natAbs ≤ 4096) (hy : n.my.natAbs ≤ 4096) :
    Calls Try.prog 27 #[u.val, v.val] w (Ret (u.behind v).val w) := by
  have hto := fun (w : World) => to_any u m v.m1 v.m2 n.mx n.my w hu (hm.mono (by omega)) hv.2.2.2.1 hv.2.2.2.2 hx hy
  have k1 := (behind_F u v m n hu hv hm hn hx hy).1
  clear hu hv hm hn hx hy
  generalize hp : u.to (v.m1, v.m2) = p at *
  have HB : Hid ((u.behind v) = { f := !(u.f == v.f), m1 := p.1, m2 := p.2, b1 := (cmul u.b1 u.b2 v.b1 (if u.f then Op.negFloat .f64 v.b2 else v.b2)).1, b2 := (cmul u.b1 u.b2 v.b1 (if u.f then Op.negFloat .f64 v.b2 else v.b2)).2 }) := by
    unfold MB.behind; rw [hp]; exact rfl
  clear hp
  rw [HB.out]
  clear HB
  obtain ⟨uf, b1, b2, m1, m2⟩ := u
  obtain ⟨vf, c1, c2, n1, n2⟩ := v
  obtain ⟨p1, p2⟩ := p
  have HT := Lib.hid hto
  clear hto
  unfold MB.val at *
  dsimp only at *
  cases uf
  · rw [show (!(false == vf)) = vf from by cases vf <;> rfl]
    simp only [Bool.false_eq_true, reduceIte] at k1 ⊢
    have h1 := fun w => cmul_run (P := Try.prog) 41 k1 w
    clear k1
    go_enter Try.func27, Try.ntmps27
    go_upto_region 1 with fail
    go_cut [5] (fun s5 wx => ∃ g, s5 = .pointer (some ⟨g, 0, none⟩) ∧ w.heap.size + 1 + 1 + 1 ≤ g ∧ (∃ X, wx = (((w.alloc (.cells #[.bool false, .complex .f64 b1 b2, .complex .f64 m1 m2] 43)).alloc (.cells #[.bool vf, .complex .f64 c1 c2, .complex .f64 n1 n2] 43)).alloc (.cells #[.bool false, .complex .f64 0 0, .complex .f64 0 0] 43)).grow X) ∧ wx.cell? ⟨g, 0, none⟩ = some (.bool (vf)) ∧ wx.cell? ⟨g, 1, none⟩ = some (.complex .f64 0 0) ∧ wx.cell? ⟨g, 2, none⟩ = some (.complex .f64 p1 p2) ∧ wx.frozen? ⟨g, 1, none⟩ = false)
    case first =>
      go_region_held3 (fun w' => (w'.cell? ⟨w.heap.size, 0, none⟩ = some (.bool false) ∧ w'.cell? ⟨w.heap.size, 1, none⟩ = some (.complex .f64 b1 b2) ∧ w'.cell? ⟨w.heap.size, 2, none⟩ = some (.complex .f64 m1 m2)) ∧ w'.cell? ⟨w.heap.size + 1, 0, none⟩ = some (.bool vf) ∧ w'.cell? ⟨w.heap.size + 1, 2, none⟩ = some (.complex .f64 n1 n2)) (first | (go_simp; done) | (simp [go_sem, ↓IntWalk.iteOmega]; done))
        (first | (go_at_call 21; refine (HT.out _).mono ?_; rintro e w1 ⟨rfl, X, rfl⟩))
      all_goals
        go_wp2_with fail
        go_meet
        refine ⟨_, rfl, ?_, grow_of_below (by repeat (first | with_reducible exact Below.refl _ _ | (with_reducible refine Below.alloc ?_ (by first | omega | (simp [go_sem] <;> omega)) _) | (with_reducible refine Below.drew ?_) | (with_reducible refine Below.drewN ?_ _) | (with_reducible refine Below.grow ?_ (by first | omega | (simp [go_sem] <;> omega)) _) | (with_reducible refine Below.setCell ?_ (by first | omega | (simp [go_sem] <;> omega)) _))), ?_, ?_, ?_, ?_⟩
        all_goals (simp [go_sem])
    case rest =>
      obtain ⟨g, rfl, hg, ⟨X, rfl⟩, g0, g1, g2, gf⟩ := hcut
      have hg' : ((((w.alloc (.cells #[.bool false, .complex .f64 b1 b2, .complex .f64 m1 m2] 43)).alloc (.cells #[.bool vf, .complex .f64 c1 c2, .complex .f64 n1 n2] 43)).alloc (.cells #[.bool false, .complex .f64 0 0, .complex .f64 0 0] 43)).heap.size ≤ g) := by simpa [go_sem] using hg
      have g0' := newCell_is hg' g0
      have g1' := newCell_is hg' g1
      have g2' := newCell_is hg' g2
      have gf' := newFrozen_is hg' gf
      clear g0 g1 g2 gf hg'
      simp only [World.size_alloc] at g0' g1' g2' gf'
      have hg0 : ¬ g < w.heap.size + 1 + 1 + 1 := by omega
      have hg1 : ¬ g = w.heap.size := by omega
      have hg2 : ¬ g = w.heap.size + 1 := by omega
      have hg3 : ¬ g = w.heap.size + 1 + 1 := by omega
      have hg4 : ¬ w.heap.size = g := by omega
      have hg5 : ¬ w.heap.size + 1 = g := by omega
      have hg6 : ¬ w.heap.size + 1 + 1 = g := by omega
      clear HT
      go_wp2_with (go_at_call 29; refine (flipped_any _ _ _).mono ?_; rintro e w' ⟨rfl, rfl⟩)
      refine bodyPost_ret (v := .agg #[.bool (vf), .complex .f64 (cmul b1 b2 c1 c2).1 (cmul b1 b2 c1 c2).2, .complex .f64 p1 p2]) ?_ rfl (Ret.of rfl (by repeat (first | with_reducible exact Below.refl _ _ | (with_reducible refine Below.alloc ?_ (by first | omega | (simp [go_sem] <;> omega)) _) | (with_reducible refine Below.drew ?_) | (with_reducible refine Below.drewN ?_ _) | (with_reducible refine Below.grow ?_ (by first | omega | (simp [go_sem] <;> omega)) _) | (with_reducible refine Below.setCell ?_ (by first | omega | (simp [go_sem] <;> omega)) _))))
      simp [results, Try.results27, go_sem]
  · rw [show (!(true == vf)) = !vf from by cases vf <;> rfl]
    simp only [reduceIte] at k1 ⊢
    have h1 := fun w => cmul_run (P := Try.prog) 41 k1 w
    clear k1
    go_enter Try.func27, Try.ntmps27
    go_upto_region 1 with fail
    go_cut [5] (fun s5 wx => ∃ g, s5 = .pointer (some ⟨g, 0, none⟩) ∧ w.heap.size + 1 + 1 + 1 ≤ g ∧ (∃ X, wx = (((w.alloc (.cells #[.bool true, .complex .f64 b1 b2, .complex .f64 m1 m2] 43)).alloc (.cells #[.bool vf, .complex .f64 c1 c2, .complex .f64 n1 n2] 43)).alloc (.cells #[.bool false, .complex .f64 0 0, .complex .f64 0 0] 43)).grow X) ∧ wx.cell? ⟨g, 0, none⟩ = some (.bool (!vf)) ∧ wx.cell? ⟨g, 1, none⟩ = some (.complex .f64 0 0) ∧ wx.cell? ⟨g, 2, none⟩ = some (.complex .f64 p1 p2) ∧ wx.frozen? ⟨g, 1, none⟩ = false)
    case first =>
      go_region_held3 (fun w' => (w'.cell? ⟨w.heap.size, 0, none⟩ = some (.bool true) ∧ w'.cell? ⟨w.heap.size, 1, none⟩ = some (.complex .f64 b1 b2) ∧ w'.cell? ⟨w.heap.size, 2, none⟩ = some (.complex .f64 m1 m2)) ∧ w'.cell? ⟨w.heap.size + 1, 0, none⟩ = some (.bool vf) ∧ w'.cell? ⟨w.heap.size + 1, 2, none⟩ = some (.complex .f64 n1 n2)) (first | (go_simp; done) | (simp [go_sem, ↓IntWalk.iteOmega]; done))
        (first | (go_at_call 21; refine (HT.out _).mono ?_; rintro e w1 ⟨rfl, X, rfl⟩))
      all_goals
        go_wp2_with fail
        go_meet
        refine ⟨_, rfl, ?_, grow_of_below (by repeat (first | with_reducible exact Below.refl _ _ | (with_reducible refine Below.alloc ?_ (by first | omega | (simp [go_sem] <;> omega)) _) | (with_reducible refine Below.drew ?_) | (with_reducible refine Below.drewN ?_ _) | (with_reducible refine Below.grow ?_ (by first | omega | (simp [go_sem] <;> omega)) _) | (with_reducible refine Below.setCell ?_ (by first | omega | (simp [go_sem] <;> omega)) _))), ?_, ?_, ?_, ?_⟩
        all_goals (simp [go_sem])
    case rest =>
      obtain ⟨g, rfl, hg, ⟨X, rfl⟩, g0, g1, g2, gf⟩ := hcut
      have hg' : ((((w.alloc (.cells #[.bool true, .complex .f64 b1 b2, .complex .f64 m1 m2] 43)).alloc (.cells #[.bool vf, .complex .f64 c1 c2, .complex .f64 n1 n2] 43)).alloc (.cells #[.bool false, .complex .f64 0 0, .complex .f64 0 0] 43)).heap.size ≤ g) := by simpa [go_sem] using hg
      have g0' := newCell_is hg' g0
      have g1' := newCell_is hg' g1
      have g2' := newCell_is hg' g2
      have gf' := newFrozen_is hg' gf
      clear g0 g1 g2 gf hg'
      simp only [World.size_alloc] at g0' g1' g2' gf'
      have hg0 : ¬ g < w.heap.size + 1 + 1 + 1 := by omega
      have hg1 : ¬ g = w.heap.size := by omega
      have hg2 : ¬ g = w.heap.size + 1 := by omega
      have hg3 : ¬ g = w.heap.size + 1 + 1 := by omega
      have hg4 : ¬ w.heap.size = g := by omega
      have hg5 : ¬ w.heap.size + 1 = g := by omega
      have hg6 : ¬ w.heap.size + 1 + 1 = g := by omega
      clear HT
      go_wp2_with (go_at_call 29; refine (flipped_any _ _ _).mono ?_; rintro e w' ⟨rfl, rfl⟩)
      refine bodyPost_ret (v := .agg #[.bool (!vf), .complex .f64 (cmul b1 b2 c1 (Op.negFloat .f64 c2)).1 (cmul b1 b2 c1 (Op.negFloat .f64 c2)).2, .complex .f64 p1 p2]) ?_ rfl (Ret.of rfl (by repeat (first | with_reducible exact Below.refl _ _ | (with_reducible refine Below.alloc ?_ (by first | omega | (simp [go_sem] <;> omega)) _) | (with_reducible refine Below.drew ?_) | (with_reducible refine Below.drewN ?_ _) | (with_reducible refine Below.grow ?_ (by first | omega | (simp [go_sem] <;> omega)) _) | (with_reducible refine Below.setCell ?_ (by first | omega | (simp [go_sem] <;> omega)) _))))
      simp [results, Try.results27, go_sem]
end Go.Proofs.Ytendepongefklaa
