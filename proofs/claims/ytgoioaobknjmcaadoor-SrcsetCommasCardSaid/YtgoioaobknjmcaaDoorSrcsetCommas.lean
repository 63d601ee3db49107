/- Commas and spaces ahead of pictures and behind them change nothing, and a picture more behind a comma and a space is one more, for all pictures: SrcsetCommas returns true. No condition: whatever the arguments; the row lists two tables of Go's library, which the card ties to the program's text. -/
import Derived.ProofKit
import Derived.ChangeSame
import Derived.ChangeAt
import Derived.SizedLaws
import Derived.OpenShut
import Derived.ShutString
import Derived.ChangeOld
import Derived.LaidMore
import Derived.Lay
import Derived.SevenTiedAt
import Derived.Stop.Joined
import Derived.Test.YtgoioaobknjmcaaDoorRows
import Derived.Test.YtgoioaobknjmcaaDoorCards
import Derived.Test.YtgoioaobknjmcaaDoorTie
import Derived.Test.YtgoioaobknjmcaaDoorSrcOpen
import Derived.Test.YtgoioaobknjmcaaDoorKitI
namespace Go.Proofs.YtgoioaobknjmcaaDoor.srcsetCommas
open Go.ChangeShapes Go.WideShapes Go.ChangeAt Go.RowKit
open Go.ChangeMaps (open_string shut_string)

theorem own : ownKnob Tryd.prog.godebug = none := by kernel_rfl
theorem laidOut : laidOutB Tryd.prog = true := by kernel_rfl


theorem pics_nil {H : Type} {enc : TypeId × Value → H} {w : World} {base : Nat} {spare : Nat → Bool} {held : Bool} {fuel : Nat} {a : Option Addr} {len cap : Nat} {x : DataW H × List MemPlace}
    (h : DataW.trod enc Tryd.prog w base spare held fuel 24 [.slice a len cap] = some x) (ha : a = none) : cap = 0 := by
  rcases Deep.open_slice Tryd.underlying24 h with ⟨hcs, _⟩ | ⟨ad, len', cap', m, n, D, Pl, hcs, hb, hl, hm, hmm, hx, hi⟩
  · simp at hcs; exact hcs.2.2
  · simp at hcs; rw [ha] at hcs; cases hcs.1
theorem pics_one (l : List Pic) : ∀ u ∈ picCells l, u.oneCell' = true := by
  intro u hu
  rw [picCells, List.mem_flatMap] at hu
  obtain ⟨p, _, hp⟩ := hu
  simp [Pic.cells, sv] at hp
  rcases hp with rfl | rfl <;> rfl
theorem heap_alloc_two {V : World} {o o2 : Obj} {n : Nat} (h : n = V.heap.size) : ((V.alloc o).alloc o2).heap[n]? = some o := by
  rw [alloc_grow (V.alloc o) o2]
  exact heap_grow_old _ _ (heap_alloc_at h)
theorem lit_rd {W : World} {U Z : Value} {e : TypeId} {B : Nat} (hB : B = W.heap.size) : Rd (W.alloc (.cells #[U, Z] e)) (.slice (some ⟨B, 0, none⟩) 1 1) 1 2 [U, Z] := by
  subst hB
  exact Rd.own (own_lit (c := #[U, Z]) (n := 1) (size := 2) rfl (by decide))
set_option maxRecDepth 100000 in
set_option maxHeartbeats 8000000 in
theorem walk (v : Value) (l : List Pic) (x : Pic) (w : World) (h : Rd w v l.length 2 (picCells l)) (hz : ∀ p ∈ l, p.url.length ≤ maxLen ∧ p.size.length ≤ maxLen) (hn0 : ∀ a n cap, v = .slice a n cap → a = none → cap = 0) (hx1 : x.url.length ≤ maxLen) (hx2 : x.size.length ≤ maxLen) : Calls Tryd.prog 6 #[v, Pic.agg x] w (Ret (.bool true) w) := by
  have hmx : Tryd.prog.follows .mixedOrders = true := by kernel_rfl
  have HR := Lib.hid h
  have HM := Lib.hid hz
  obtain ⟨_, hm, A, c, rfl, _⟩ := h
  have hn := Lib.hid (hn0 _ _ _ rfl)
  clear hz hn0
  unfold maxLen at hx1 hx2
  have HX := Lib.hid (fun W => show Calls Tryd.prog 13 #[.agg #[.string ⟨x.url.toArray⟩, .string ⟨x.size.toArray⟩]] W (Ret (.bool (rightP x)) W) from right_any x W hx1 hx2)
  have z0 : (⟨x.url.toArray⟩ : ByteArray).size = x.url.length := rfl
  have HXU := Lib.hid (rfl : (⟨x.url.toArray⟩ : ByteArray) = ⟨x.url.toArray⟩)
  have HXZ := Lib.hid (rfl : (⟨x.size.toArray⟩ : ByteArray) = ⟨x.size.toArray⟩)
  show Calls Tryd.prog 6 #[.slice A l.length c, .agg #[.string ⟨x.url.toArray⟩, .string ⟨x.size.toArray⟩]] w _
  by_cases h9 : 40 < l.length
  · have b9 : decide ((40 : Int) < l.length) = true := by simp; omega
    clear h9 z0
    generalize (⟨x.url.toArray⟩ : ByteArray) = U at *
    generalize (⟨x.size.toArray⟩ : ByteArray) = Z at *
    go_enter Tryd.func6, Tryd.ntmps6
    go_wp2_with (go_at_call 7; refine (awake_any _).mono ?_; rintro e w' ⟨rfl, A0, rfl⟩)
    go_ret
    exact Ret.of rfl (by repeat (first | with_reducible exact Below.refl _ _ | (with_reducible refine Below.alloc ?_ (by first | omega | (simp [go_sem] <;> omega)) _) | (with_reducible refine Below.drew ?_) | (with_reducible refine Below.drewN ?_ _) | (with_reducible refine Below.grow ?_ (by first | omega | (simp [go_sem] <;> omega)) _) | (with_reducible refine Below.setCell ?_ (by first | omega | (simp [go_sem] <;> omega)) _)))
  · have b9 : decide ((40 : Int) < l.length) = false := by simp; omega
    by_cases h8 : 200 < x.url.length
    · have b8 : decide ((200 : Int) < (⟨x.url.toArray⟩ : ByteArray).size) = true := by rw [z0]; simp; omega
      clear z0 h8
      generalize (⟨x.url.toArray⟩ : ByteArray) = U at *
      generalize (⟨x.size.toArray⟩ : ByteArray) = Z at *
      go_enter Tryd.func6, Tryd.ntmps6
      go_wp2_with (go_at_call 7; refine (awake_any _).mono ?_; rintro e w' ⟨rfl, A0, rfl⟩)
      go_ret
      exact Ret.of rfl (by repeat (first | with_reducible exact Below.refl _ _ | (with_reducible refine Below.alloc ?_ (by first | omega | (simp [go_sem] <;> omega)) _) | (with_reducible refine Below.drew ?_) | (with_reducible refine Below.drewN ?_ _) | (with_reducible refine Below.grow ?_ (by first | omega | (simp [go_sem] <;> omega)) _) | (with_reducible refine Below.setCell ?_ (by first | omega | (simp [go_sem] <;> omega)) _)))
    · have b8 : decide ((200 : Int) < (⟨x.url.toArray⟩ : ByteArray).size) = false := by rw [z0]; simp; omega
      obtain ⟨U, hU⟩ : ∃ U : ByteArray, ⟨x.url.toArray⟩ = U := ⟨_, rfl⟩
      obtain ⟨Z, hZ⟩ : ∃ U : ByteArray, ⟨x.size.toArray⟩ = U := ⟨_, rfl⟩
      rw [hU, hZ] at HX ⊢
      rw [hU] at b8
      have HU := Lib.hid hU
      have HZ := Lib.hid hZ
      have HXR := Lib.hid (show x.url.length ≤ 200 by omega)
      clear z0 h8 hU hZ HXU HXZ
      cases hr : rightP x
      · rw [hr] at HX
        go_enter Tryd.func6, Tryd.ntmps6
        go_wp2_with (first | (go_at_call 7; refine (awake_any _).mono ?_; rintro e w' ⟨rfl, A0, rfl⟩) | (go_at_call 13; (with_reducible refine (HX.out _).mono ?_); rintro e w' ⟨rfl, X0, rfl⟩))
        go_ret
        exact Ret.of rfl (by repeat (first | with_reducible exact Below.refl _ _ | (with_reducible refine Below.alloc ?_ (by first | omega | (simp [go_sem] <;> omega)) _) | (with_reducible refine Below.drew ?_) | (with_reducible refine Below.drewN ?_ _) | (with_reducible refine Below.grow ?_ (by first | omega | (simp [go_sem] <;> omega)) _) | (with_reducible refine Below.setCell ?_ (by first | omega | (simp [go_sem] <;> omega)) _)))
      · rw [hr] at HX
        have HXT := Lib.hid hr
        clear hr
        go_enter Tryd.func6, Tryd.ntmps6
        go_wp2_with (first | (go_at_call 7; refine (awake_any _).mono ?_; rintro e w' ⟨rfl, A0, rfl⟩) | (go_at_call 13; (with_reducible refine (HX.out _).mono ?_); rintro e w' ⟨rfl, X0, rfl⟩))
        go_loopw [6] (fun i wr => ∃ (k : Nat) (X : Gr), k ≤ l.length ∧ i = .int .i64 k ∧ wr = (w.alloc (.cells #[.string U, .string Z] 28)).grow X ∧ Hid (∀ p ∈ l.take k, p.url.length ≤ 200 ∧ rightP p = true)) (fun i _ => l.length - (intOf i).toNat)
        case atStart => exact ⟨0, _, by omega, rfl, grow_grow _ _ _, by intro p hp; simp at hp⟩
        case round =>
          obtain ⟨k, X, hk, rfl, rfl, HK⟩ := hrel
          by_cases hlt : k < l.length
          · obtain ⟨b, off, rfl, hb, c0, c1⟩ := HR.out.pic k hlt
            have HN := Lib.hid (show (l[k].url.length ≤ 200 ∧ rightP l[k] = true) → ∀ p ∈ l.take (k + 1), p.url.length ≤ 200 ∧ rightP p = true from by
              intro hh p hp
              rw [List.take_succ_eq_append_getElem hlt, List.mem_append] at hp
              rcases hp with hp | hp
              · exact HK.out p hp
              · rw [List.mem_singleton] at hp; subst hp; exact hh)
            obtain ⟨m1, m2⟩ := HM.out l[k] (List.getElem_mem hlt)
            unfold maxLen at m1 m2
            generalize l[k] = p at *
            have z1 : (⟨p.url.toArray⟩ : ByteArray).size = p.url.length := rfl
            have HA := Lib.hid (fun W => show Calls Tryd.prog 13 #[.agg #[.string ⟨p.url.toArray⟩, .string ⟨p.size.toArray⟩]] W (Ret (.bool (rightP p)) W) from right_any p W m1 m2)
            clear m1 m2
            by_cases h5 : 200 < p.url.length
            · have b5 : decide ((200 : Int) < (⟨p.url.toArray⟩ : ByteArray).size) = true := by rw [z1]; simp; omega
              simp only [sv] at c0 c1
              clear z1
              go_wp2_with fail
              go_ret
              exact Ret.of rfl (by repeat (first | with_reducible exact Below.refl _ _ | (with_reducible refine Below.alloc ?_ (by first | omega | (simp [go_sem] <;> omega)) _) | (with_reducible refine Below.drew ?_) | (with_reducible refine Below.drewN ?_ _) | (with_reducible refine Below.grow ?_ (by first | omega | (simp [go_sem] <;> omega)) _) | (with_reducible refine Below.setCell ?_ (by first | omega | (simp [go_sem] <;> omega)) _)))
            · have b5 : decide ((200 : Int) < (⟨p.url.toArray⟩ : ByteArray).size) = false := by rw [z1]; simp; omega
              simp only [sv] at c0 c1
              generalize (⟨p.url.toArray⟩ : ByteArray) = U1 at *
              generalize (⟨p.size.toArray⟩ : ByteArray) = Z1 at *
              cases hr : rightP p
              · rw [hr] at HA
                have HQ := Lib.hid HA.out
                clear HA z1
                go_wp2_with (go_at_call 13; (with_reducible refine (HQ.out _).mono ?_); rintro e w' ⟨rfl, X1, rfl⟩)
                go_ret
                exact Ret.of rfl (by repeat (first | with_reducible exact Below.refl _ _ | (with_reducible refine Below.alloc ?_ (by first | omega | (simp [go_sem] <;> omega)) _) | (with_reducible refine Below.drew ?_) | (with_reducible refine Below.drewN ?_ _) | (with_reducible refine Below.grow ?_ (by first | omega | (simp [go_sem] <;> omega)) _) | (with_reducible refine Below.setCell ?_ (by first | omega | (simp [go_sem] <;> omega)) _)))
              · rw [hr] at HA
                have HQ := Lib.hid HA.out
                have HN2 := Lib.hid (HN.out ⟨by omega, hr⟩)
                clear HA z1 HN h5 hr
                go_wp2_with (go_at_call 13; (with_reducible refine (HQ.out _).mono ?_); rintro e w' ⟨rfl, X1, rfl⟩)
                go_roundw
                case rel => exact ⟨k + 1, _, by omega, by go_num, grow_grow _ X X1, HN2⟩
                case measure => simp [intOf]; omega
          · have hk2 : k = l.length := by omega
            subst hk2
            have hall : ∀ p ∈ l, p.url.length ≤ 200 ∧ rightP p = true := by have := HK.out; rwa [List.take_length] at this
            have hal : l.all rightP = true := by rw [List.all_eq_true]; exact fun p hp => (hall p hp).2
            have hz2 : ∀ p ∈ l, p.url.length + p.size.length ≤ 220 := fun p hp => by have h1 := hall p hp; have h2 := right_short h1.2; omega
            have hzx : x.url.length + x.size.length ≤ 220 := by have h1 := HXR.out; have h2 := right_short HXT.out; omega
            have ht := textP_len 220 l hz2
            have htx := textP_len 220 [x] (fun p hp => by rw [List.mem_singleton] at hp; subst hp; exact hzx)
            simp only [List.length_cons, List.length_nil] at htx
            have ht2 : (textP l).length ≤ 140737488355 := by omega
            have HT1 := Lib.hid (fun W (hW : Rd W (.slice A l.length c) l.length 2 (picCells l)) => text_any A l.length c l W hW (by omega) ht2 (fun p hp => by have := hz2 p hp; omega))
            have HT2 := Lib.hid (fun A1 c1 W (hW : Rd W (.slice A1 1 c1) 1 2 [.string U, .string Z]) => text_any A1 1 c1 [x] W (by rw [show picCells [x] = [.string U, .string Z] by rw [← HU.out, ← HZ.out]; rfl]; exact hW) (by simp) (by omega) (fun p hp => by rw [List.mem_singleton] at hp; subst hp; omega))
            have HP1 := Lib.hid (fun W => show Calls Tryd.prog 9 #[.string (⟨#[32, 44, 10, 44, 32]⟩ ++ ⟨(textP l).toArray⟩ ++ ⟨#[32, 44, 32, 9]⟩)] W (RetS W l.length 2 (picCells l)) from by
              have := parse_any ([32, 44, 10, 44, 32] ++ textP l ++ [32, 44, 32, 9]) W (by simp; omega)
              rw [pic_commas l hal] at this
              rw [show (⟨#[32, 44, 10, 44, 32]⟩ : ByteArray) = ⟨([32, 44, 10, 44, 32] : Bs).toArray⟩ from rfl, show (⟨#[32, 44, 32, 9]⟩ : ByteArray) = ⟨([32, 44, 32, 9] : Bs).toArray⟩ from rfl, cat_bs, cat_bs]
              exact this)
            have HP2 := Lib.hid (fun W => show Calls Tryd.prog 9 #[.string (⟨(textP l).toArray⟩ ++ ⟨#[44, 32]⟩ ++ ⟨(textP [x]).toArray⟩)] W (RetS W (l ++ [x]).length 2 (picCells (l ++ [x]))) from by
              have := parse_any (textP l ++ [44, 32] ++ textP [x]) W (by simp; omega)
              rw [pic_more_one l x hal HXT.out] at this
              rw [show (⟨#[44, 32]⟩ : ByteArray) = ⟨([44, 32] : Bs).toArray⟩ from rfl, cat_bs, cat_bs]
              exact this)
            have HR0 := Lib.hid ((HR.out.alloc (.cells #[.string U, .string Z] 28)).grow X)
            have s1 : (⟨(textP l).toArray⟩ : ByteArray).size = (textP l).length := rfl
            have s2 : (⟨(textP [x]).toArray⟩ : ByteArray).size = (textP [x]).length := rfl
            have s3 : (⟨(textP l).toArray⟩ : ByteArray).size ≤ 100000 := by rw [s1]; omega
            have s4 : (⟨(textP [x]).toArray⟩ : ByteArray).size ≤ 100000 := by rw [s2]; omega
            clear hall hal ht ht2 hz2 hzx htx s1 s2
            generalize (⟨(textP l).toArray⟩ : ByteArray) = T at *
            generalize (⟨(textP [x]).toArray⟩ : ByteArray) = TX at *
            go_wp2_with (first | (go_at_call 15; (with_reducible refine (HT1.out _ HR0.out).mono ?_); rintro e w' ⟨rfl, X1, rfl⟩) | (go_at_call 9; (with_reducible refine (HP1.out _).mono ?_); rintro e w' ⟨A2, c2, X2, rfl, rfl, hc2, hr2⟩; have HS := Lib.hid hr2; clear hr2) | (go_at_call 15; (with_reducible refine (HT2.out _ _ _ (lit_rd (by simp [go_sem]))).mono ?_); rintro e w' ⟨rfl, X3, rfl⟩) | (go_at_call 9; (with_reducible refine (HP2.out _).mono ?_); rintro e W0 ⟨A4, c4, X4, rfl, hw4, hc4, hr4⟩; (try rw [← hw4] at hr4); have HS4 := Lib.hid hr4; have HW4 := Lib.hid hw4; clear hr4 hw4))
            have hN : (l ++ [x]).length = l.length + 1 := by simp
            have HA4 : Hid (Rd W0 (.slice A4 (l.length + 1) c4) (l.length + 1) 2 (picCells (l ++ [x]))) := by
              have := HS4.out; rw [hN] at this; exact this
            have HA0 : Hid (Rd W0 (.slice A l.length c) l.length 2 (picCells l)) := by
              show Rd _ _ _ _ _; rw [HW4.out]; exact ((((HR0.out.grow X1).grow X2).alloc _).grow X3).grow X4
            have HA2 : Hid (Rd W0 (.slice A2 l.length c2) l.length 2 (picCells l)) := by
              show Rd _ _ _ _ _; rw [HW4.out]; exact ((HS.out.alloc _).grow X3).grow X4
            have HBW : Hid (Below w.heap.size w W0) := by
              show Below _ _ _; rw [HW4.out]; exact (by repeat (first | with_reducible exact Below.refl _ _ | (with_reducible refine Below.alloc ?_ (by first | omega | (simp [go_sem] <;> omega)) _) | (with_reducible refine Below.drew ?_) | (with_reducible refine Below.drewN ?_ _) | (with_reducible refine Below.grow ?_ (by first | omega | (simp [go_sem] <;> omega)) _) | (with_reducible refine Below.setCell ?_ (by first | omega | (simp [go_sem] <;> omega)) _)))
            have hlt0 : w.heap.size < W0.heap.size := by rw [HW4.out]; simp [go_sem] <;> omega
            have hbx : Below (w.alloc (.cells #[.string U, .string Z] 28)).heap.size (w.alloc (.cells #[.string U, .string Z] 28)) W0 := by rw [HW4.out]; exact (by repeat (first | with_reducible exact Below.refl _ _ | (with_reducible refine Below.alloc ?_ (by first | omega | (simp [go_sem] <;> omega)) _) | (with_reducible refine Below.drew ?_) | (with_reducible refine Below.drewN ?_ _) | (with_reducible refine Below.grow ?_ (by first | omega | (simp [go_sem] <;> omega)) _) | (with_reducible refine Below.setCell ?_ (by first | omega | (simp [go_sem] <;> omega)) _)))
            have cU : W0.cell? ⟨w.heap.size, 0, none⟩ = some (.string U) := (hbx.cell (by simp [go_sem])).trans (by simp [go_sem])
            have cZ : W0.cell? ⟨w.heap.size, 1, none⟩ = some (.string Z) := (hbx.cell (by simp [go_sem])).trans (by simp [go_sem])
            have HK2 : Hid (∀ W, Below W0.heap.size W0 W → W.cell? ⟨w.heap.size, 0, none⟩ = some (.string U) ∧ W.cell? ⟨w.heap.size, 1, none⟩ = some (.string Z)) := fun W hW => ⟨(hW.cell hlt0).trans cU, (hW.cell hlt0).trans cZ⟩
            have HSM1 : Hid (∀ W v, Rd W (.slice A2 l.length c2) l.length 2 (picCells l) → Rd W v l.length 2 (picCells l) → Calls Tryd.prog 8 #[.slice A2 l.length c2, v] W (Ret (.bool true) W)) := fun W v h1 h2 => by
              obtain ⟨_, _, A', c', rfl, _⟩ := id h2
              have := same_any _ _ _ _ _ _ l l W h1 h2
              rwa [decide_eq_true rfl] at this
            have HSM2 : Hid (∀ W v, Rd W (.slice A4 (l.length + 1) c4) (l.length + 1) 2 (picCells (l ++ [x])) → Rd W v (l.length + 1) 2 (picCells (l ++ [x])) → Calls Tryd.prog 8 #[.slice A4 (l.length + 1) c4, v] W (Ret (.bool true) W)) := fun W v h1 h2 => by
              obtain ⟨_, _, A', c', rfl, _⟩ := id h2
              rw [← hN] at h1 h2 ⊢
              have := same_any _ _ _ _ _ _ (l ++ [x]) (l ++ [x]) W h1 h2
              rwa [decide_eq_true rfl] at this
            have HCX : Hid (picCells l ++ [.string U, .string Z] = picCells (l ++ [x])) := by
              show _ = _; rw [picCells, picCells, List.flatMap_append, ← HU.out, ← HZ.out]; rfl
            have HON := hn
            clear HS HS4 HR0 HW4 HT1 HT2 HP1 HP2 HM HR cU cZ hbx
            go_region_held3 (fun W => W.cell? ⟨w.heap.size, 0, none⟩ = some (.string U) ∧ W.cell? ⟨w.heap.size, 1, none⟩ = some (.string Z))
              (first | exact HK2.out _ (Below.grow HB10.out HB10.out.size _) | exact HK2.out _ HB10.out | exact HK2.out _ (Below.alloc HB7.out HB7.out.size _) | exact HK2.out _ HB7.out | exact HK2.out _ (by (repeat (first | with_reducible exact Below.refl _ _ | (with_reducible refine Below.alloc ?_ (by first | omega | (simp [go_sem] <;> omega)) _) | (with_reducible refine Below.drew ?_) | (with_reducible refine Below.drewN ?_ _) | (with_reducible refine Below.grow ?_ (by first | omega | (simp [go_sem] <;> omega)) _) | (with_reducible refine Below.setCell ?_ (by first | omega | (simp [go_sem] <;> omega)) _))); done))
              (first
                | (go_at_call 8; (refine (HSM2.out _ _ (HA4.out.below HB10.out rfl) (by have := HRD.out; rw [Nat.zero_add, List.nil_append, HCX.out] at this; exact this)).mono ?_); rintro e w' ⟨rfl, X12, rfl⟩)
                | ((with_reducible refine at_world (W7.alloc _) ?_); refine step_src2 (by rfl) _ _ 24 rfl src_row W0 rfl (own_alloc hown7 _) (Below.alloc HB7.out HB7.out.size _) 1 [.string U, .string Z] (.inr ⟨_, _, rfl, news_block (c := #[.string U, .string Z]) (heap_alloc_at rfl) (by simp [go_sem])⟩) rfl (by simp [Value.oneCell']) (by unfold maxLen; omega) (by omega) ?_; intro v10 W10 hown10 hg10 HB10; have HRD := Lib.hid (Rd.own hown10))
                | ((with_reducible refine at_world W7 ?_); refine step_src2 (by rfl) _ _ 24 rfl src_row W0 rfl hown7 HB7.out 1 [.string U, .string Z] (.inr ⟨_, _, rfl, news_block (c := #[.string U, .string Z]) (heap_kept hg7 (heap_alloc_at (by simp [go_sem])) (by simp [Value.ownBlock, go_sem] <;> omega)) rfl⟩) rfl (by simp [Value.oneCell']) (by unfold maxLen; omega) (by omega) ?_; intro v10 W10 hown10 hg10 HB10; have HRD := Lib.hid (Rd.own hown10))
                | ((with_reducible refine at_world W7 ?_); refine step_src2 (by rfl) _ _ 24 rfl src_row W0 rfl hown7 HB7.out 1 [.string U, .string Z] (.inr ⟨_, _, rfl, news_block (c := #[.string U, .string Z]) (heap_kept hg7 (heap_alloc_two (by simp [go_sem])) (by simp [Value.ownBlock, go_sem] <;> omega)) rfl⟩) rfl (by simp [Value.oneCell']) (by unfold maxLen; omega) (by omega) ?_; intro v10 W10 hown10 hg10 HB10; have HRD := Lib.hid (Rd.own hown10))
                | (go_at_call 8; (with_reducible refine (HSM1.out _ _ HA2.out.drew HA0.out.drew).mono ?_); rintro e w' ⟨rfl, X6, rfl⟩)
                | (refine step_src2 (by rfl) _ _ 24 rfl src_row W0 rfl (own_emp (by simp [go_sem]) (by simp [go_sem] <;> omega)) (by (repeat (first | with_reducible exact Below.refl _ _ | (with_reducible refine Below.alloc ?_ (by first | omega | (simp [go_sem] <;> omega)) _) | (with_reducible refine Below.drew ?_) | (with_reducible refine Below.drewN ?_ _) | (with_reducible refine Below.grow ?_ (by first | omega | (simp [go_sem] <;> omega)) _) | (with_reducible refine Below.setCell ?_ (by first | omega | (simp [go_sem] <;> omega)) _))); done) l.length (picCells l) (news_rd HA0.out HON.out (by (repeat (first | with_reducible exact Below.refl _ _ | (with_reducible refine Below.alloc ?_ (by first | omega | (simp [go_sem] <;> omega)) _) | (with_reducible refine Below.drew ?_) | (with_reducible refine Below.drewN ?_ _) | (with_reducible refine Below.grow ?_ (by first | omega | (simp [go_sem] <;> omega)) _) | (with_reducible refine Below.setCell ?_ (by first | omega | (simp [go_sem] <;> omega)) _))); done)) HA0.out.1 (pics_one l) (by unfold maxLen; omega) (by omega) ?_; intro v7 W7 hown7 hg7 HB7)
                | (refine step_src2 (by rfl) _ _ 24 rfl src_row W0 rfl (own_alloc (own_emp (by simp [go_sem]) (by simp [go_sem] <;> omega)) _) (by (repeat (first | with_reducible exact Below.refl _ _ | (with_reducible refine Below.alloc ?_ (by first | omega | (simp [go_sem] <;> omega)) _) | (with_reducible refine Below.drew ?_) | (with_reducible refine Below.drewN ?_ _) | (with_reducible refine Below.grow ?_ (by first | omega | (simp [go_sem] <;> omega)) _) | (with_reducible refine Below.setCell ?_ (by first | omega | (simp [go_sem] <;> omega)) _))); done) l.length (picCells l) (news_rd HA0.out HON.out (by (repeat (first | with_reducible exact Below.refl _ _ | (with_reducible refine Below.alloc ?_ (by first | omega | (simp [go_sem] <;> omega)) _) | (with_reducible refine Below.drew ?_) | (with_reducible refine Below.drewN ?_ _) | (with_reducible refine Below.grow ?_ (by first | omega | (simp [go_sem] <;> omega)) _) | (with_reducible refine Below.setCell ?_ (by first | omega | (simp [go_sem] <;> omega)) _))); done)) HA0.out.1 (pics_one l) (by unfold maxLen; omega) (by omega) ?_; intro v7 W7 hown7 hg7 HB7))
            all_goals (go_wp2; go_ret; exact Ret.of rfl (below_next HBW.out (Below.grow HB10.out HB10.out.size _)))

set_option maxRecDepth 100000 in
theorem lifted (os : Os) (started : os.Started) (H : Type) (enc : TypeId × Value → H) :
    ReturnsInHanded {} Tryd.checked os 6 .any (fun w args => (Rows.srcsetCommasSpec.pre enc Tryd.prog Tryd.f6 Rows.srcsetCommasRow.domain false w args ∧ laidMetH Tryd.prog Rows.srcsetCommasRow.laid w) ∧ sizedMet enc Tryd.prog Tryd.f6 (OpenSpec.ofChange Rows.srcsetCommasSpec) false w args) (Rows.srcsetCommasSpec.post enc Tryd.prog Tryd.f6 false true false false) := by
  refine returnsInHanded_of_change_and (C := Tryd.checked) (X := fun w _ => laidMetH Tryd.prog Rows.srcsetCommasRow.laid w) (fun _ _ _ hh h => h.of_heap hh) own started (by kernel_rfl) Tryd.func6
    (ChangeSpec.witness_shaped (enc := enc) (C := Tryd.checked) (os := os) (X := fun w _ => laidMetH Tryd.prog Rows.srcsetCommasRow.laid w) false (World.laidAll Tryd.prog os Rows.srcsetCommasRow.laid) #[.slice none 0 0, .agg #[.string ⟨#[]⟩, .string ⟨#[]⟩]] 8 (World.laidAll_os _ _ _)
      (World.shaped_of_ZipB (by kernel_rfl) (by kernel_rfl)) (by kernel_rfl) (by kernel_rfl) (by kernel_rfl)
      (by rw [MakeChecks.laidMetH_plain _ _ _ (by kernel_rfl)]; exact laidMet_laidAll _ (by kernel_rfl) (by kernel_rfl))) ?_
  intro W base args ds gs before hval0 hW hcnd hsz0 _ _
  have hval : ∀ (j : Nat) t v, Tryd.f6.params[j]? = some t → args[j]? = some v → Value.okWide Tryd.prog W .any base t v := hval0
  have hW' := hW
  obtain ⟨p, q, hA0, hV, rfl, hfz, hnd⟩ := hW
  have hA : DataW.TrodAll enc Tryd.prog W 0 (fun _ => true) true Tryd.f6.params.toList args.toList ds p := hA0
  rw [Tryd.params6] at hA hval
  obtain ⟨v0, vs0, d0, ds0, p0, q0, hargs, rfl, rfl, h0, r0⟩ := trodAll_cons hA
  obtain ⟨v1, vs1, d1, ds1, p1, q1, rfl, rfl, rfl, h1, r1⟩ := trodAll_cons r0
  obtain ⟨rfl, rfl, rfl⟩ := trodAll_nil r1
  obtain rfl : args = #[v0, v1] := by cases args; simp_all
  obtain ⟨rfl, rfl⟩ := trodVars_none hV
  obtain ⟨a0, len0, cap0, rfl⟩ := okWide_slice Tryd.underlying24 (hval 0 24 v0 rfl rfl)
  have k0 := h0
  have lt0 : ∀ x ∈ p0, x.block < W.heap.size := by obtain ⟨m, hm⟩ := k0; exact DataW.trod_lt m _ _ _ hm
  obtain ⟨z0, e0, w0, m0⟩ : ∃ l : List Pic, l.length = len0 ∧ Rd W (.slice a0 len0 cap0) l.length 2 (picCells l) ∧ ∀ p ∈ l, p.url.length ≤ maxLen ∧ p.size.length ≤ maxLen := by obtain ⟨fuel, hf⟩ := h0; exact pics_open (by simpa [Value.cells] using hf)
  have n0 : ∀ a n cap, Value.slice a0 len0 cap0 = .slice a n cap → a = none → cap = 0 := fun _ _ _ hh => by cases hh; obtain ⟨fuel, hf⟩ := h0; exact pics_nil (by simpa [Value.cells] using hf)
  have k1 := h1
  have lt1 : ∀ x ∈ p1, x.block < W.heap.size := by obtain ⟨m, hm⟩ := k1; exact DataW.trod_lt m _ _ _ hm
  obtain ⟨x1, rfl, u1, w1⟩ := pic_open (hval 1 28 v1 rfl rfl) h1
  clear hA0 hval0
  refine (walk (.slice a0 len0 cap0) z0 x1 W w0 m0 n0 u1 w1).mono fun e W' hend => ?_
  obtain ⟨he, X, hX⟩ := hend
  have bel : Below W.heap.size W W' := by rw [hX]; exact below_grow W X
  subst he
  exact ⟨_, rfl, _, _, _, [], _, [], hW', trodAll_mk1 (shut_bool Tryd.underlying4 _), (trodAll_cons_mk (Below.trod laidOut (by kernel_rfl) (of_decide_eq_true (by kernel_rfl)) k0 bel lt0) (trodAll_cons_mk (Below.trod laidOut (by kernel_rfl) (of_decide_eq_true (by kernel_rfl)) k1 bel lt1) trodAll_mk0)), rfl, bel.frame _, fun h => by cases h⟩

theorem over : Rows.srcsetCommasRow.holds Tryd.pinned (OpenSpec.ofChange Rows.srcsetCommasSpec) :=
  OpenClaim.holds_of_wide 6 Tryd.f6 rfl rfl rfl rfl rfl rfl rfl ⟨rfl, rfl, rfl, rfl, rfl⟩ rfl rfl rfl rfl rfl (by kernel_rfl) Tryd.func6 (by kernel_rfl)
    (of_decide_eq_true (by kernel_rfl)) (by unfold Func.isWrapper; rw [if_neg (of_decide_eq_false (by kernel_rfl))]; exact ⟨rfl, rfl⟩)
    (fun os started H enc _ => lifted os started H enc)

/-- The statement. -/
theorem proved : Rows.SrcsetCommasCardSaid :=
  Claim7.holds_tied_plain_at .later [] [.data, .pinned] true _ false over (fun _ h => by cases h) (by kernel_rfl) (fun _ h => by cases h) srcsetCommas_row_tie rfl ⟨rfl, rfl⟩ (by kernel_rfl) rfl
    (fun f fn hf hfn => by
      obtain rfl : f = 6 := Option.some.inj ((show Tryd.prog.funcNamed "cribble/cribblelaw12.SrcsetCommas" = some 6 by kernel_rfl).symm.trans hf) |>.symm
      obtain rfl : fn = Tryd.f6 := (Option.some.inj (Tryd.func6.symm.trans hfn)).symm
      exact ⟨by kernel_rfl, fun j t ht => by
        rw [Tryd.params6] at ht
        have hm : t ∈ [24, 28] := by simpa using Array.mem_of_getElem? ht
        have hall : ([24, 28].all fun u => !Tryd.prog.wantsStandIn u) = true := by kernel_rfl
        exact (show Tryd.prog.wantsStandIn t = false by simpa using List.all_eq_true.1 hall t hm)⟩)
    (by kernel_rfl)

end Go.Proofs.YtgoioaobknjmcaaDoor.srcsetCommas
