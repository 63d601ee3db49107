/- Of any property but transform the same is told, and what may be stays so without its last piece: CssvalNames returns true. No condition: whatever the arguments; the row lists tables of Go's library, which the card ties to the program's text. -/
import Derived.ProofKit
import Derived.ChangeSame
import Derived.ChangeAt
import Derived.SizedLaws
import Derived.OpenShut
import Derived.ShutString
import Derived.ChangeOld
import Derived.LaidMore
import Derived.Lay
import Derived.SevenTiedAt
import Derived.Stop.Joined
import Derived.Test.YtgcccpdadponiaaGreatDoorRows
import Derived.Test.YtgcccpdadponiaaGreatDoorCards
import Derived.Test.YtgcccpdadponiaaGreatDoorTie
import Derived.Test.YtgcccpdadponiaaGreatDoorCssOpen
import Derived.Test.YtgcccpdadponiaaGreatDoorCssSl
import Derived.Test.YtgcccpdadponiaaGreatDoorTB
import Derived.Test.YtgcccpdadponiaaGreatDoorValL
namespace Go.Proofs.YtgcccpdadponiaaGreatDoor.cssvalNames
open Go.ChangeShapes Go.WideShapes Go.ChangeAt Go.RowKit
open Go.ChangeMaps (open_string shut_string)

theorem own : ownKnob Tryz.prog.godebug = none := by kernel_rfl
theorem laidOut : laidOutB Tryz.prog = true := by kernel_rfl

theorem css_cap {H : Type} {enc : TypeId × Value → H} {w : World} {base : Nat} {spare : Nat → Bool} {held : Bool} {fuel : Nat} {a : Option Addr} {len cap : Nat} {x : DataW H × List MemPlace}
    (h : DataW.trod enc Tryz.prog w base spare held fuel 22 [.slice a len cap] = some x) : len ≤ cap := by
  rcases Deep.open_slice Tryz.underlying22 h with ⟨hcs, _⟩ | ⟨ad, len', cap', m, n, D, Pl, hcs, hb, hl, hm, hmm, hx, hi⟩
  · simp at hcs; omega
  · simp at hcs; omega

set_option maxRecDepth 100000 in
set_option maxHeartbeats 2000000 in
theorem walk (S1 S2 : ByteArray) (v : Value) (l : List Css) (w : World) (hT : Tb w) (hX : Mx w) (_h1 : S1.size ≤ maxLen) (_h2 : S2.size ≤ maxLen) (h : Rd w v l.length 4 (cssCells l)) (hz : ∀ p ∈ l, CssIn p) (hn : ∀ a n cap, v = .slice a n cap → (a = none → cap = 0) ∧ n ≤ cap) : Calls Tryz.prog 6 #[.string S1, .string S2, v] w (Ret (.bool true) w) := by
  have hmx : Tryz.prog.follows .mixedOrders = true := by kernel_rfl
  have HTB := Lib.hid hT
  have HMX := Lib.hid hX
  have HTM := Lib.hid (fun W (hB : Below w.heap.size w W) => And.intro (Tb.below hT hB) (Mx.below hX hB))
  have HR := Lib.hid h
  have HZ := Lib.hid hz
  obtain ⟨_, hml, A, c, rfl, _⟩ := h
  obtain ⟨hA0, hcap⟩ := hn _ _ _ rfl
  clear hz hT hX hn _h1 _h2
  cases hf : fewB l
  · have HF := Lib.hid (fun X => hf ▸ few_any A l.length c l (w.grow X) (HR.out.grow X))
    clear hf hA0
    go_enter Tryz.func6, Tryz.ntmps6
    go_wp2_with (first
      | (go_at_call 9; refine (awake16_any _ HTB.out HMX.out).mono ?_; rintro e w' ⟨rfl, A0, rfl⟩) | (go_at_call 10; (with_reducible refine (HF.out _).mono ?_); rintro e w' ⟨rfl, F0, rfl⟩))
    go_ret
    exact Ret.of rfl (by repeat (first | with_reducible exact Below.refl _ _ | (with_reducible refine Below.alloc ?_ (by first | omega | (simp [go_sem] <;> omega)) _) | (with_reducible refine Below.drew ?_) | (with_reducible refine Below.drewN ?_ _) | (with_reducible refine Below.grow ?_ (by first | omega | (simp [go_sem] <;> omega)) _) | (with_reducible refine Below.setCell ?_ (by first | omega | (simp [go_sem] <;> omega)) _)))
  have HF := Lib.hid (fun X => Ret.flat (hf ▸ few_any A l.length c l (w.grow X) (HR.out.grow X)))
  obtain ⟨hs, hl1, hl2⟩ := few_short hf HZ.out
  clear hf
  cases t1 : (S1.toList == [116, 114, 97, 110, 115, 102, 111, 114, 109])
  rotate_left
  · clear hA0 hs
    go_enter Tryz.func6, Tryz.ntmps6
    go_wp2_with (first
      | (go_at_call 9; refine (awake16_any _ HTB.out HMX.out).mono ?_; rintro e w' ⟨rfl, A0, rfl⟩) | (go_at_call 10; (with_reducible refine (HF.out _).mono ?_); rintro e w' ⟨rfl, F0, rfl⟩))
    go_ret
    exact Ret.of rfl (by repeat (first | with_reducible exact Below.refl _ _ | (with_reducible refine Below.alloc ?_ (by first | omega | (simp [go_sem] <;> omega)) _) | (with_reducible refine Below.drew ?_) | (with_reducible refine Below.drewN ?_ _) | (with_reducible refine Below.grow ?_ (by first | omega | (simp [go_sem] <;> omega)) _) | (with_reducible refine Below.setCell ?_ (by first | omega | (simp [go_sem] <;> omega)) _)))
  cases t2 : (S2.toList == [116, 114, 97, 110, 115, 102, 111, 114, 109])
  rotate_left
  · clear hA0 hs
    go_enter Tryz.func6, Tryz.ntmps6
    go_wp2_with (first
      | (go_at_call 9; refine (awake16_any _ HTB.out HMX.out).mono ?_; rintro e w' ⟨rfl, A0, rfl⟩) | (go_at_call 10; (with_reducible refine (HF.out _).mono ?_); rintro e w' ⟨rfl, F0, rfl⟩))
    go_ret
    exact Ret.of rfl (by repeat (first | with_reducible exact Below.refl _ _ | (with_reducible refine Below.alloc ?_ (by first | omega | (simp [go_sem] <;> omega)) _) | (with_reducible refine Below.drew ?_) | (with_reducible refine Below.drewN ?_ _) | (with_reducible refine Below.grow ?_ (by first | omega | (simp [go_sem] <;> omega)) _) | (with_reducible refine Below.setCell ?_ (by first | omega | (simp [go_sem] <;> omega)) _)))
  have hne : ∀ S : ByteArray, (S.toList == [116, 114, 97, 110, 115, 102, 111, 114, 109]) = false → S.data.toList ≠ transT := fun S hS h9 => by
    rw [ByteArray.toList_eq, h9] at hS; simp [transT] at hS
  have hv0 : ∀ (S : ByteArray), (S.toList == [116, 114, 97, 110, 115, 102, 111, 114, 109]) = false → ∀ W, Below w.heap.size w W → Calls Tryz.prog 11 #[.string S, .slice A l.length c] W (fun e w' => ∃ A1 c1, e = .returned (.tuple #[.slice A1 ((if l = [] then none else if valF false l then some l else none : Option (List Css)).getD []).length c1, .bool (if l = [] then none else if valF false l then some l else none : Option (List Css)).isSome]) ∧ Below W.heap.size W w' ∧ (A1 = none → c1 = 0) ∧ ((if l = [] then none else if valF false l then some l else none : Option (List Css)).getD []).length ≤ c1 ∧ Rd w' (.slice A1 ((if l = [] then none else if valF false l then some l else none : Option (List Css)).getD []).length c1) ((if l = [] then none else if valF false l then some l else none : Option (List Css)).getD []).length 4 (cssCells ((if l = [] then none else if valF false l then some l else none : Option (List Css)).getD []))) := fun S hS W hB => by
    have h8 := (value16_any S.data.toList A l.length c l W (HTM.out W hB).1 (HTM.out W hB).2 (Rd.below' HR.out hB) hA0 hs (by omega)).mono fun _ _ h => RetV.abs h
    rw [value_other (hne S hS)] at h8
    exact h8
  have HVa0 := hv0 S1 t1
  have HVb0 := hv0 S2 t2
  by_cases hv : l ≠ [] ∧ valF false l = true
  · obtain ⟨h0, hv⟩ := hv
    rw [if_neg h0, if_pos hv] at HVa0 HVb0
    have HVa := Lib.hid HVa0
    have HVb := Lib.hid HVb0
    simp only [Option.getD_some, Option.isSome_some] at HVa HVb
    have HSm := Lib.hid (fun (W : World) (A1 A2 : Option Addr) (c1 c2 : Nat) (ha : Rd W (.slice A1 l.length c1) l.length 4 (cssCells l)) (hb : Rd W (.slice A2 l.length c2) l.length 4 (cssCells l)) => show Calls Tryz.prog 13 #[.slice A1 l.length c1, .slice A2 l.length c2] W (Ret (.bool true) W) from by
      have h8 := same_any A1 A2 _ _ c1 c2 l l W ha hb
      rwa [decide_eq_true rfl] at h8)
    have HSl := Lib.hid (fun (W : World) (A1 : Option Addr) (c1 : Nat) (ha : Rd W (.slice A1 l.length c1) l.length 4 (cssCells l)) (hB : Below w.heap.size w W) => HSm.out W A1 A c1 c ha (Rd.below' HR.out hB))
    obtain ⟨n, hn⟩ : ∃ n, l.length = n + 1 := ⟨l.length - 1, by have := List.length_pos_iff.2 h0; omega⟩
    have hsub : (l.length : Int) - 1 = (n : Nat) := by omega
    have hnl : n < l.length := by omega
    obtain ⟨b, off, rfl, hb, q0, q1, _, _⟩ := HR.out.css n hnl
    simp only [sv] at q1
    by_cases hn1 : n < 1
    · have b1 : decide ((n : Int) < 1) = true := by simp; omega
      clear hn hA0 hs hne hv0 HVa0 HVb0 hv h0 hn1
      go_enter Tryz.func6, Tryz.ntmps6
      go_wp2_with (first
        | (go_at_call 9; refine (awake16_any _ HTB.out HMX.out).mono ?_; rintro e w' ⟨rfl, A0, rfl⟩)
        | (go_at_call 10; (with_reducible refine (HF.out _).mono ?_); rintro e w' ⟨rfl, F0, rfl⟩)
        | (go_at_call 11; (with_reducible refine (HVa.out _ (by (repeat (first | with_reducible exact Below.refl _ _ | (with_reducible refine Below.alloc ?_ (by first | omega | (simp [go_sem] <;> omega)) _) | (with_reducible refine Below.drew ?_) | (with_reducible refine Below.drewN ?_ _) | (with_reducible refine Below.grow ?_ (by first | omega | (simp [go_sem] <;> omega)) _) | (with_reducible refine Below.setCell ?_ (by first | omega | (simp [go_sem] <;> omega)) _))); done)).mono ?_); rintro e W1 ⟨A1, c1, rfl, hb1, _, _, hr1⟩; have HB1 := Lib.hid (below_next (show Below w.heap.size w _ from (by (repeat (first | with_reducible exact Below.refl _ _ | (with_reducible refine Below.alloc ?_ (by first | omega | (simp [go_sem] <;> omega)) _) | (with_reducible refine Below.drew ?_) | (with_reducible refine Below.drewN ?_ _) | (with_reducible refine Below.grow ?_ (by first | omega | (simp [go_sem] <;> omega)) _) | (with_reducible refine Below.setCell ?_ (by first | omega | (simp [go_sem] <;> omega)) _))); done)) hb1); have HR1 := Lib.hid hr1; clear hb1 hr1)
        | (go_at_call 11; (with_reducible refine (HVb.out _ HB1.out).mono ?_); rintro e W2 ⟨A2, c2, rfl, hb2, _, _, hr2⟩; have HB2 := Lib.hid (below_next HB1.out hb2); have HS2 := Lib.hid (HSm.out W2 A1 A2 c1 c2 (Rd.below' HR1.out hb2) hr2); have HS3 := Lib.hid (fun X => Ret.flat (HSl.out (W2.grow X) A1 c1 ((Rd.below' HR1.out hb2).grow X) (below_next HB2.out (below_grow _ _)))); have y0 := (HB2.out.cell hb).trans q0; have y1 := (HB2.out.cell hb).trans q1; have hlt2 : b < W2.heap.size := Nat.lt_of_lt_of_le hb HB2.out.size; clear hb2 hr2)
        | (go_at_call 13; (with_reducible refine HS2.out.mono ?_); rintro e w' ⟨rfl, X3, rfl⟩)
        | (go_at_call 13; (with_reducible refine (HS3.out _).mono ?_); rintro e w' ⟨rfl, X4, rfl⟩))
      go_ret
      exact Ret.of rfl (below_next HB2.out (by repeat (first | with_reducible exact Below.refl _ _ | (with_reducible refine Below.alloc ?_ (by first | omega | (simp [go_sem] <;> omega)) _) | (with_reducible refine Below.drew ?_) | (with_reducible refine Below.drewN ?_ _) | (with_reducible refine Below.grow ?_ (by first | omega | (simp [go_sem] <;> omega)) _) | (with_reducible refine Below.setCell ?_ (by first | omega | (simp [go_sem] <;> omega)) _))))
    have b1 : decide ((n : Int) < 1) = false := by simp; omega
    have HVl0 : (l[n] ≠ mark1 41) → l[n].kind ≠ 2 → ∀ W, Below w.heap.size w W → Calls Tryz.prog 11 #[.string S1, .slice (some ⟨b, off, none⟩) n c] W (fun e w' => ∃ A1 c1, e = .returned (.tuple #[.slice A1 n c1, .bool true]) ∧ Below W.heap.size W w' ∧ (A1 = none → c1 = 0) ∧ n ≤ c1 ∧ Rd w' (.slice A1 n c1) n 4 (cssCells (l.take n))) := fun hm h2 W hB => by
      have hlt : (l.take n).length = n := by rw [List.length_take]; omega
      have hr8 := Rd.take4 (Rd.below' HR.out hB) n (by omega)
      have h8 := (value16_any S1.data.toList (some ⟨b, off, none⟩) (l.take n).length c (l.take n) W (HTM.out W hB).1 (HTM.out W hB).2 hr8 (fun h => by cases h) (fun z hz => hs z (List.mem_of_mem_take hz)) (by omega)).mono fun _ _ h => RetV.abs h
      rw [value_less (hne S1 t1) hn (by omega) hv (List.getElem?_eq_getElem hnl) hm h2] at h8
      simp only [Option.getD_some, Option.isSome_some, hlt] at h8
      exact h8
    have HMk : Hid (decide (l[n] = mark1 41) = true → l[n].kind = 6 ∧ l[n].text = [41]) := fun h9 => by rw [of_decide_eq_true h9]; exact ⟨rfl, rfl⟩
    have hz41 : ((⟨l[n].text.toArray⟩ : ByteArray).toList == [41]) = decide (l[n].text = [41]) := by rw [ByteArray.toList_eq, Bool.eq_iff_iff]; exact beq_iff_eq.trans decide_eq_true_iff.symm
    have hncap : (n : Int) ≤ c := by omega
    cases k6 : (l[n].kind == 6)
    · cases k2 : (l[n].kind == 2)
      · have HVl := Lib.hid (HVl0 (fun h9 => by rw [h9] at k6; simp [mark1] at k6) (by simpa using k2))
        generalize (⟨l[n].text.toArray⟩ : ByteArray) = a1 at *
        generalize l[n].kind = kk at *
        clear hn hA0 hs hne hv0 HVa0 HVb0 hv h0 hn1 HVl0 HMk hz41
        go_enter Tryz.func6, Tryz.ntmps6
        go_wp2_with (first
          | (go_at_call 9; refine (awake16_any _ HTB.out HMX.out).mono ?_; rintro e w' ⟨rfl, A0, rfl⟩)
          | (go_at_call 10; (with_reducible refine (HF.out _).mono ?_); rintro e w' ⟨rfl, F0, rfl⟩)
          | (go_at_call 11; (with_reducible refine (HVa.out _ (by (repeat (first | with_reducible exact Below.refl _ _ | (with_reducible refine Below.alloc ?_ (by first | omega | (simp [go_sem] <;> omega)) _) | (with_reducible refine Below.drew ?_) | (with_reducible refine Below.drewN ?_ _) | (with_reducible refine Below.grow ?_ (by first | omega | (simp [go_sem] <;> omega)) _) | (with_reducible refine Below.setCell ?_ (by first | omega | (simp [go_sem] <;> omega)) _))); done)).mono ?_); rintro e W1 ⟨A1, c1, rfl, hb1, _, _, hr1⟩; have HB1 := Lib.hid (below_next (show Below w.heap.size w _ from (by (repeat (first | with_reducible exact Below.refl _ _ | (with_reducible refine Below.alloc ?_ (by first | omega | (simp [go_sem] <;> omega)) _) | (with_reducible refine Below.drew ?_) | (with_reducible refine Below.drewN ?_ _) | (with_reducible refine Below.grow ?_ (by first | omega | (simp [go_sem] <;> omega)) _) | (with_reducible refine Below.setCell ?_ (by first | omega | (simp [go_sem] <;> omega)) _))); done)) hb1); have HR1 := Lib.hid hr1; clear hb1 hr1)
          | (go_at_call 11; (with_reducible refine (HVb.out _ HB1.out).mono ?_); rintro e W2 ⟨A2, c2, rfl, hb2, _, _, hr2⟩; have HB2 := Lib.hid (below_next HB1.out hb2); have HS2 := Lib.hid (HSm.out W2 A1 A2 c1 c2 (Rd.below' HR1.out hb2) hr2); have HS3 := Lib.hid (fun X => Ret.flat (HSl.out (W2.grow X) A1 c1 ((Rd.below' HR1.out hb2).grow X) (below_next HB2.out (below_grow _ _)))); have y0 := (HB2.out.cell hb).trans q0; have y1 := (HB2.out.cell hb).trans q1; have hlt2 : b < W2.heap.size := Nat.lt_of_lt_of_le hb HB2.out.size; clear hb2 hr2)
          | (go_at_call 13; (with_reducible refine HS2.out.mono ?_); rintro e w' ⟨rfl, X3, rfl⟩)
          | (go_at_call 13; (with_reducible refine (HS3.out _).mono ?_); rintro e w' ⟨rfl, X4, rfl⟩)
          | (go_at_call 11; (with_reducible refine (HVl.out _ (below_next HB2.out (below_grow _ _))).mono ?_); rintro e W5 ⟨A5, c5, rfl, hb5, _, _, _⟩; have HB5 := Lib.hid (below_next (below_next HB2.out (below_grow _ _)) hb5); clear hb5))
        go_ret
        exact Ret.of rfl HB5.out
      · generalize (⟨l[n].text.toArray⟩ : ByteArray) = a1 at *
        generalize l[n].kind = kk at *
        clear hn hA0 hs hne hv0 HVa0 HVb0 hv h0 hn1 HVl0 HMk hz41
        go_enter Tryz.func6, Tryz.ntmps6
        go_wp2_with (first
          | (go_at_call 9; refine (awake16_any _ HTB.out HMX.out).mono ?_; rintro e w' ⟨rfl, A0, rfl⟩)
          | (go_at_call 10; (with_reducible refine (HF.out _).mono ?_); rintro e w' ⟨rfl, F0, rfl⟩)
          | (go_at_call 11; (with_reducible refine (HVa.out _ (by (repeat (first | with_reducible exact Below.refl _ _ | (with_reducible refine Below.alloc ?_ (by first | omega | (simp [go_sem] <;> omega)) _) | (with_reducible refine Below.drew ?_) | (with_reducible refine Below.drewN ?_ _) | (with_reducible refine Below.grow ?_ (by first | omega | (simp [go_sem] <;> omega)) _) | (with_reducible refine Below.setCell ?_ (by first | omega | (simp [go_sem] <;> omega)) _))); done)).mono ?_); rintro e W1 ⟨A1, c1, rfl, hb1, _, _, hr1⟩; have HB1 := Lib.hid (below_next (show Below w.heap.size w _ from (by (repeat (first | with_reducible exact Below.refl _ _ | (with_reducible refine Below.alloc ?_ (by first | omega | (simp [go_sem] <;> omega)) _) | (with_reducible refine Below.drew ?_) | (with_reducible refine Below.drewN ?_ _) | (with_reducible refine Below.grow ?_ (by first | omega | (simp [go_sem] <;> omega)) _) | (with_reducible refine Below.setCell ?_ (by first | omega | (simp [go_sem] <;> omega)) _))); done)) hb1); have HR1 := Lib.hid hr1; clear hb1 hr1)
          | (go_at_call 11; (with_reducible refine (HVb.out _ HB1.out).mono ?_); rintro e W2 ⟨A2, c2, rfl, hb2, _, _, hr2⟩; have HB2 := Lib.hid (below_next HB1.out hb2); have HS2 := Lib.hid (HSm.out W2 A1 A2 c1 c2 (Rd.below' HR1.out hb2) hr2); have HS3 := Lib.hid (fun X => Ret.flat (HSl.out (W2.grow X) A1 c1 ((Rd.below' HR1.out hb2).grow X) (below_next HB2.out (below_grow _ _)))); have y0 := (HB2.out.cell hb).trans q0; have y1 := (HB2.out.cell hb).trans q1; have hlt2 : b < W2.heap.size := Nat.lt_of_lt_of_le hb HB2.out.size; clear hb2 hr2)
          | (go_at_call 13; (with_reducible refine HS2.out.mono ?_); rintro e w' ⟨rfl, X3, rfl⟩)
          | (go_at_call 13; (with_reducible refine (HS3.out _).mono ?_); rintro e w' ⟨rfl, X4, rfl⟩))
        go_ret
        exact Ret.of rfl (below_next HB2.out (by repeat (first | with_reducible exact Below.refl _ _ | (with_reducible refine Below.alloc ?_ (by first | omega | (simp [go_sem] <;> omega)) _) | (with_reducible refine Below.drew ?_) | (with_reducible refine Below.drewN ?_ _) | (with_reducible refine Below.grow ?_ (by first | omega | (simp [go_sem] <;> omega)) _) | (with_reducible refine Below.setCell ?_ (by first | omega | (simp [go_sem] <;> omega)) _))))
    · cases t41 : ((⟨l[n].text.toArray⟩ : ByteArray).toList == [41])
      · have k2 : (l[n].kind == 2) = false := by
          rw [beq_iff_eq] at k6
          rw [k6]; rfl
        have HVl := Lib.hid (HVl0 (fun h9 => by rw [hz41, h9] at t41; simp [mark1] at t41) (by simpa using k2))
        generalize (⟨l[n].text.toArray⟩ : ByteArray) = a1 at *
        generalize l[n].kind = kk at *
        clear hn hA0 hs hne hv0 HVa0 HVb0 hv h0 hn1 HVl0 HMk hz41
        go_enter Tryz.func6, Tryz.ntmps6
        go_wp2_with (first
          | (go_at_call 9; refine (awake16_any _ HTB.out HMX.out).mono ?_; rintro e w' ⟨rfl, A0, rfl⟩)
          | (go_at_call 10; (with_reducible refine (HF.out _).mono ?_); rintro e w' ⟨rfl, F0, rfl⟩)
          | (go_at_call 11; (with_reducible refine (HVa.out _ (by (repeat (first | with_reducible exact Below.refl _ _ | (with_reducible refine Below.alloc ?_ (by first | omega | (simp [go_sem] <;> omega)) _) | (with_reducible refine Below.drew ?_) | (with_reducible refine Below.drewN ?_ _) | (with_reducible refine Below.grow ?_ (by first | omega | (simp [go_sem] <;> omega)) _) | (with_reducible refine Below.setCell ?_ (by first | omega | (simp [go_sem] <;> omega)) _))); done)).mono ?_); rintro e W1 ⟨A1, c1, rfl, hb1, _, _, hr1⟩; have HB1 := Lib.hid (below_next (show Below w.heap.size w _ from (by (repeat (first | with_reducible exact Below.refl _ _ | (with_reducible refine Below.alloc ?_ (by first | omega | (simp [go_sem] <;> omega)) _) | (with_reducible refine Below.drew ?_) | (with_reducible refine Below.drewN ?_ _) | (with_reducible refine Below.grow ?_ (by first | omega | (simp [go_sem] <;> omega)) _) | (with_reducible refine Below.setCell ?_ (by first | omega | (simp [go_sem] <;> omega)) _))); done)) hb1); have HR1 := Lib.hid hr1; clear hb1 hr1)
          | (go_at_call 11; (with_reducible refine (HVb.out _ HB1.out).mono ?_); rintro e W2 ⟨A2, c2, rfl, hb2, _, _, hr2⟩; have HB2 := Lib.hid (below_next HB1.out hb2); have HS2 := Lib.hid (HSm.out W2 A1 A2 c1 c2 (Rd.below' HR1.out hb2) hr2); have HS3 := Lib.hid (fun X => Ret.flat (HSl.out (W2.grow X) A1 c1 ((Rd.below' HR1.out hb2).grow X) (below_next HB2.out (below_grow _ _)))); have y0 := (HB2.out.cell hb).trans q0; have y1 := (HB2.out.cell hb).trans q1; have hlt2 : b < W2.heap.size := Nat.lt_of_lt_of_le hb HB2.out.size; clear hb2 hr2)
          | (go_at_call 13; (with_reducible refine HS2.out.mono ?_); rintro e w' ⟨rfl, X3, rfl⟩)
          | (go_at_call 13; (with_reducible refine (HS3.out _).mono ?_); rintro e w' ⟨rfl, X4, rfl⟩)
          | (go_at_call 11; (with_reducible refine (HVl.out _ (below_next HB2.out (below_grow _ _))).mono ?_); rintro e W5 ⟨A5, c5, rfl, hb5, _, _, _⟩; have HB5 := Lib.hid (below_next (below_next HB2.out (below_grow _ _)) hb5); clear hb5))
        go_ret
        exact Ret.of rfl HB5.out
      · generalize (⟨l[n].text.toArray⟩ : ByteArray) = a1 at *
        generalize l[n].kind = kk at *
        clear hn hA0 hs hne hv0 HVa0 HVb0 hv h0 hn1 HVl0 HMk hz41
        go_enter Tryz.func6, Tryz.ntmps6
        go_wp2_with (first
          | (go_at_call 9; refine (awake16_any _ HTB.out HMX.out).mono ?_; rintro e w' ⟨rfl, A0, rfl⟩)
          | (go_at_call 10; (with_reducible refine (HF.out _).mono ?_); rintro e w' ⟨rfl, F0, rfl⟩)
          | (go_at_call 11; (with_reducible refine (HVa.out _ (by (repeat (first | with_reducible exact Below.refl _ _ | (with_reducible refine Below.alloc ?_ (by first | omega | (simp [go_sem] <;> omega)) _) | (with_reducible refine Below.drew ?_) | (with_reducible refine Below.drewN ?_ _) | (with_reducible refine Below.grow ?_ (by first | omega | (simp [go_sem] <;> omega)) _) | (with_reducible refine Below.setCell ?_ (by first | omega | (simp [go_sem] <;> omega)) _))); done)).mono ?_); rintro e W1 ⟨A1, c1, rfl, hb1, _, _, hr1⟩; have HB1 := Lib.hid (below_next (show Below w.heap.size w _ from (by (repeat (first | with_reducible exact Below.refl _ _ | (with_reducible refine Below.alloc ?_ (by first | omega | (simp [go_sem] <;> omega)) _) | (with_reducible refine Below.drew ?_) | (with_reducible refine Below.drewN ?_ _) | (with_reducible refine Below.grow ?_ (by first | omega | (simp [go_sem] <;> omega)) _) | (with_reducible refine Below.setCell ?_ (by first | omega | (simp [go_sem] <;> omega)) _))); done)) hb1); have HR1 := Lib.hid hr1; clear hb1 hr1)
          | (go_at_call 11; (with_reducible refine (HVb.out _ HB1.out).mono ?_); rintro e W2 ⟨A2, c2, rfl, hb2, _, _, hr2⟩; have HB2 := Lib.hid (below_next HB1.out hb2); have HS2 := Lib.hid (HSm.out W2 A1 A2 c1 c2 (Rd.below' HR1.out hb2) hr2); have HS3 := Lib.hid (fun X => Ret.flat (HSl.out (W2.grow X) A1 c1 ((Rd.below' HR1.out hb2).grow X) (below_next HB2.out (below_grow _ _)))); have y0 := (HB2.out.cell hb).trans q0; have y1 := (HB2.out.cell hb).trans q1; have hlt2 : b < W2.heap.size := Nat.lt_of_lt_of_le hb HB2.out.size; clear hb2 hr2)
          | (go_at_call 13; (with_reducible refine HS2.out.mono ?_); rintro e w' ⟨rfl, X3, rfl⟩)
          | (go_at_call 13; (with_reducible refine (HS3.out _).mono ?_); rintro e w' ⟨rfl, X4, rfl⟩))
        go_ret
        exact Ret.of rfl (below_next HB2.out (by repeat (first | with_reducible exact Below.refl _ _ | (with_reducible refine Below.alloc ?_ (by first | omega | (simp [go_sem] <;> omega)) _) | (with_reducible refine Below.drew ?_) | (with_reducible refine Below.drewN ?_ _) | (with_reducible refine Below.grow ?_ (by first | omega | (simp [go_sem] <;> omega)) _) | (with_reducible refine Below.setCell ?_ (by first | omega | (simp [go_sem] <;> omega)) _))))
  · have hnone : (if l = [] then none else if valF false l then some l else none : Option (List Css)) = none := by
      by_cases h0 : l = []
      · rw [if_pos h0]
      · rw [if_neg h0, if_neg (fun h9 => hv ⟨h0, h9⟩)]
    rw [hnone] at HVa0 HVb0
    have HVa := Lib.hid HVa0
    have HVb := Lib.hid HVb0
    simp only [Option.getD_none, Option.isSome_none, List.length_nil] at HVa HVb
    have HSm := Lib.hid (fun (W : World) (A1 A2 : Option Addr) (c1 c2 : Nat) (ha : Rd W (.slice A1 0 c1) 0 4 (cssCells [])) (hb : Rd W (.slice A2 0 c2) 0 4 (cssCells [])) => show Calls Tryz.prog 13 #[.slice A1 0 c1, .slice A2 0 c2] W (Ret (.bool true) W) from by
      have h8 := same_any A1 A2 _ _ c1 c2 [] [] W ha hb
      rwa [decide_eq_true rfl] at h8)
    clear hA0 hs hne hv0 HVa0 HVb0 hv hnone
    go_enter Tryz.func6, Tryz.ntmps6
    go_wp2_with (first
      | (go_at_call 9; refine (awake16_any _ HTB.out HMX.out).mono ?_; rintro e w' ⟨rfl, A0, rfl⟩)
      | (go_at_call 10; (with_reducible refine (HF.out _).mono ?_); rintro e w' ⟨rfl, F0, rfl⟩)
      | (go_at_call 11; (with_reducible refine (HVa.out _ (by (repeat (first | with_reducible exact Below.refl _ _ | (with_reducible refine Below.alloc ?_ (by first | omega | (simp [go_sem] <;> omega)) _) | (with_reducible refine Below.drew ?_) | (with_reducible refine Below.drewN ?_ _) | (with_reducible refine Below.grow ?_ (by first | omega | (simp [go_sem] <;> omega)) _) | (with_reducible refine Below.setCell ?_ (by first | omega | (simp [go_sem] <;> omega)) _))); done)).mono ?_); rintro e W1 ⟨A1, c1, rfl, hb1, _, _, hr1⟩; have HB1 := Lib.hid (below_next (show Below w.heap.size w _ from (by (repeat (first | with_reducible exact Below.refl _ _ | (with_reducible refine Below.alloc ?_ (by first | omega | (simp [go_sem] <;> omega)) _) | (with_reducible refine Below.drew ?_) | (with_reducible refine Below.drewN ?_ _) | (with_reducible refine Below.grow ?_ (by first | omega | (simp [go_sem] <;> omega)) _) | (with_reducible refine Below.setCell ?_ (by first | omega | (simp [go_sem] <;> omega)) _))); done)) hb1); have HR1 := Lib.hid hr1; clear hb1 hr1)
      | (go_at_call 11; (with_reducible refine (HVb.out _ HB1.out).mono ?_); rintro e W2 ⟨A2, c2, rfl, hb2, _, _, hr2⟩; have HB2 := Lib.hid (below_next HB1.out hb2); have HS2 := Lib.hid (HSm.out W2 A1 A2 c1 c2 (Rd.below' HR1.out hb2) hr2); clear hb2 hr2)
      | (go_at_call 13; (with_reducible refine HS2.out.mono ?_); rintro e w' ⟨rfl, X3, rfl⟩))
    go_ret
    exact Ret.of rfl (below_next HB2.out (by repeat (first | with_reducible exact Below.refl _ _ | (with_reducible refine Below.alloc ?_ (by first | omega | (simp [go_sem] <;> omega)) _) | (with_reducible refine Below.drew ?_) | (with_reducible refine Below.drewN ?_ _) | (with_reducible refine Below.grow ?_ (by first | omega | (simp [go_sem] <;> omega)) _) | (with_reducible refine Below.setCell ?_ (by first | omega | (simp [go_sem] <;> omega)) _))))

set_option maxRecDepth 100000 in
theorem lifted (os : Os) (started : os.Started) (H : Type) (enc : TypeId × Value → H) :
    ReturnsInHanded {} Tryz.checked os 6 .any (fun w args => (Rows.cssvalNamesSpec.pre enc Tryz.prog Tryz.f6 Rows.cssvalNamesRow.domain false w args ∧ laidMetH Tryz.prog Rows.cssvalNamesRow.laid w) ∧ sizedMet enc Tryz.prog Tryz.f6 (OpenSpec.ofChange Rows.cssvalNamesSpec) false w args) (Rows.cssvalNamesSpec.post enc Tryz.prog Tryz.f6 false true false false) := by
  refine handed_shape (C := Tryz.checked) (X := fun w _ => laidMetH Tryz.prog Rows.cssvalNamesRow.laid w) (fun _ _ _ hh h => h.of_heap hh) own started (by kernel_rfl) Tryz.func6
    (ChangeSpec.witness_shaped (enc := enc) (C := Tryz.checked) (os := os) (X := fun w _ => laidMetH Tryz.prog Rows.cssvalNamesRow.laid w) false (World.laidAll Tryz.prog os Rows.cssvalNamesRow.laid) #[.string ⟨#[]⟩, .string ⟨#[]⟩, .slice none 0 0] 8 (World.laidAll_os _ _ _)
      (World.shaped_of_ZipB (by kernel_rfl) (by kernel_rfl)) (by kernel_rfl) (by kernel_rfl) (by kernel_rfl)
      (by rw [MakeChecks.laidMetH_plain _ _ _ (by kernel_rfl)]; exact laidMet_laidAll _ (by kernel_rfl) (by kernel_rfl))) ?_
  intro W base args ds gs before hval0 hW hL hsh
  have hval : ∀ (j : Nat) t v, Tryz.f6.params[j]? = some t → args[j]? = some v → Value.okWide Tryz.prog W .any base t v := hval0
  have hW' := hW
  obtain ⟨p, q, hA0, hV, rfl, hfz, hnd⟩ := hW
  have hA : DataW.TrodAll enc Tryz.prog W 0 (fun _ => true) true Tryz.f6.params.toList args.toList ds p := hA0
  rw [Tryz.params6] at hA hval
  obtain ⟨v0, vs0, d0, ds0, p0, q0, hargs, rfl, rfl, h0, r0⟩ := trodAll_cons hA
  obtain ⟨v1, vs1, d1, ds1, p1, q1, rfl, rfl, rfl, h1, r1⟩ := trodAll_cons r0
  obtain ⟨v2, vs2, d2, ds2, p2, q2, rfl, rfl, rfl, h2, r2⟩ := trodAll_cons r1
  obtain ⟨rfl, rfl, rfl⟩ := trodAll_nil r2
  obtain rfl : args = #[v0, v1, v2] := by cases args; simp_all
  obtain ⟨rfl, rfl⟩ := trodVars_none hV
  obtain ⟨s0, rfl, rfl, rfl, w0⟩ := open_string Tryz.underlying9 (hval 0 9 v0 rfl rfl) h0
  obtain ⟨s1, rfl, rfl, rfl, w1⟩ := open_string Tryz.underlying9 (hval 1 9 v1 rfl rfl) h1
  obtain ⟨a2, len2, cap2, rfl⟩ := okWide_slice Tryz.underlying22 (hval 2 22 v2 rfl rfl)
  have k2 := h2
  have lt2 : ∀ x ∈ p2, x.block < W.heap.size := by obtain ⟨m, hm⟩ := k2; exact DataW.trod_lt m _ _ _ hm
  obtain ⟨z2, e2, w2, m2⟩ : ∃ l : List Css, l.length = len2 ∧ Rd W (.slice a2 len2 cap2) l.length 4 (cssCells l) ∧ ∀ p ∈ l, CssIn p := by obtain ⟨fuel, hf⟩ := h2; exact css_open (by simpa [Value.cells] using hf)
  have n2 : ∀ a n cap, Value.slice a2 len2 cap2 = .slice a n cap → (a = none → cap = 0) ∧ n ≤ cap := fun _ _ _ hh => by cases hh; obtain ⟨fuel, hf⟩ := h2; exact ⟨css_nil (by simpa [Value.cells] using hf), css_cap (by simpa [Value.cells] using hf)⟩
  clear hA0 hval0
  refine (walk s0 s1 (.slice a2 len2 cap2) z2 W (tb_laid hL (by rfl)) (mx_shape hsh) w0 w1 w2 m2 n2).mono fun e W' hend => ?_
  obtain ⟨he, X, hX⟩ := hend
  have bel : Below W.heap.size W W' := by rw [hX]; exact below_grow W X
  subst he
  exact ⟨_, rfl, _, _, _, [], _, [], hW', trodAll_mk1 (shut_bool Tryz.underlying4 _), (trodAll_cons_mk (shut_string Tryz.underlying9 w0) (trodAll_cons_mk (shut_string Tryz.underlying9 w1) (trodAll_cons_mk (Below.trod laidOut (by kernel_rfl) (of_decide_eq_true (by kernel_rfl)) k2 bel lt2) trodAll_mk0))), rfl, bel.frame _, fun h => by cases h⟩

theorem over : Rows.cssvalNamesRow.holds Tryz.pinned (OpenSpec.ofChange Rows.cssvalNamesSpec) :=
  OpenClaim.holds_of_wide 6 Tryz.f6 rfl rfl rfl rfl rfl rfl rfl ⟨rfl, rfl, rfl, rfl, rfl⟩ rfl rfl rfl rfl rfl (by kernel_rfl) Tryz.func6 (by kernel_rfl)
    (of_decide_eq_true (by kernel_rfl)) (by unfold Func.isWrapper; rw [if_neg (of_decide_eq_false (by kernel_rfl))]; exact ⟨rfl, rfl⟩)
    (fun os started H enc _ => lifted os started H enc)

/-- The statement. -/
theorem proved : Rows.CssvalNamesCardSaid :=
  Claim7.holds_tied_plain_at .later [] [.data, .data, .data, .data, .pinned] true _ false over (fun _ h => by cases h) (by kernel_rfl) (fun _ h => by cases h) cssvalNames_row_tie rfl ⟨rfl, rfl⟩ (by kernel_rfl) rfl
    (fun f fn hf hfn => by
      obtain rfl : f = 6 := Option.some.inj ((show Tryz.prog.funcNamed "cribble/cribblelaw16.CssvalNames" = some 6 by kernel_rfl).symm.trans hf) |>.symm
      obtain rfl : fn = Tryz.f6 := (Option.some.inj (Tryz.func6.symm.trans hfn)).symm
      exact ⟨by kernel_rfl, fun j t ht => by
        rw [Tryz.params6] at ht
        have hm : t ∈ [9, 9, 22] := by simpa using Array.mem_of_getElem? ht
        have hall : ([9, 9, 22].all fun u => !Tryz.prog.wantsStandIn u) = true := by kernel_rfl
        exact (show Tryz.prog.wantsStandIn t = false by simpa using List.all_eq_true.1 hall t hm)⟩)
    (by kernel_rfl)

end Go.Proofs.YtgcccpdadponiaaGreatDoor.cssvalNames
