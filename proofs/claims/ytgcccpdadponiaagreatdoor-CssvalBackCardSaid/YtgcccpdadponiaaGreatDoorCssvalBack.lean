/- Steps' pieces tell these steps, and pieces that tell steps are the pieces of these: CssvalBack returns true. No condition: whatever the arguments; the row lists tables of Go's library, which the card ties to the program's text. -/
import Derived.ProofKit
import Derived.ChangeSame
import Derived.ChangeAt
import Derived.SizedLaws
import Derived.OpenShut
import Derived.ShutString
import Derived.ChangeOld
import Derived.LaidMore
import Derived.Lay
import Derived.SevenTiedAt
import Derived.Stop.Joined
import Derived.Test.YtgcccpdadponiaaGreatDoorRows
import Derived.Test.YtgcccpdadponiaaGreatDoorCards
import Derived.Test.YtgcccpdadponiaaGreatDoorTie
import Derived.Test.YtgcccpdadponiaaGreatDoorCssOpen
import Derived.Test.YtgcccpdadponiaaGreatDoorTB
import Derived.Test.YtgcccpdadponiaaGreatDoorValL
namespace Go.Proofs.YtgcccpdadponiaaGreatDoor.cssvalBack
open Go.ChangeShapes Go.WideShapes Go.ChangeAt Go.RowKit
open Go.ChangeMaps (open_string shut_string)

theorem own : ownKnob Tryz.prog.godebug = none := by kernel_rfl
theorem laidOut : laidOutB Tryz.prog = true := by kernel_rfl

theorem css_cap {H : Type} {enc : TypeId × Value → H} {w : World} {base : Nat} {spare : Nat → Bool} {held : Bool} {fuel : Nat} {a : Option Addr} {len cap : Nat} {x : DataW H × List MemPlace}
    (h : DataW.trod enc Tryz.prog w base spare held fuel 22 [.slice a len cap] = some x) : len ≤ cap := by
  rcases Deep.open_slice Tryz.underlying22 h with ⟨hcs, _⟩ | ⟨ad, len', cap', m, n, D, Pl, hcs, hb, hl, hm, hmm, hx, hi⟩
  · simp at hcs; omega
  · simp at hcs; omega

set_option maxRecDepth 100000 in
set_option maxHeartbeats 2000000 in
theorem walk (v : Value) (l : List Css) (vm : Value) (m : List St) (w : World) (hT : Tb w) (hX : Mx w) (h : Rd w v l.length 4 (cssCells l)) (hz : ∀ p ∈ l, CssIn p) (hn : ∀ a n cap, v = .slice a n cap → (a = none → cap = 0) ∧ n ≤ cap) (hm : Sl w vm m) : Calls Tryz.prog 5 #[v, vm] w (Ret (.bool true) w) := by
  have hmx : Tryz.prog.follows .mixedOrders = true := by kernel_rfl
  have HTB := Lib.hid hT
  have HMX := Lib.hid hX
  have HTM := Lib.hid (fun W (hB : Below w.heap.size w W) => And.intro (Tb.below hT hB) (Mx.below hX hB))
  have HR := Lib.hid h
  have HZ := Lib.hid hz
  have HSl := Lib.hid (fun W (hB : Below w.heap.size w W) => Sl.below' hm hB)
  obtain ⟨_, hml, A, c, rfl, _⟩ := h
  have hcap := (hn _ _ _ rfl).2
  obtain ⟨am, capm, rfl, hmm, _⟩ := hm
  clear hz hT hX hn
  cases hf : fewB l
  · have HF := Lib.hid (fun X => hf ▸ few_any A l.length c l (w.grow X) (HR.out.grow X))
    clear hf
    go_enter Tryz.func5, Tryz.ntmps5
    go_wp2_with (first
      | (go_at_call 9; refine (awake16_any _ HTB.out HMX.out).mono ?_; rintro e w' ⟨rfl, A0, rfl⟩) | (go_at_call 10; (with_reducible refine (HF.out _).mono ?_); rintro e w' ⟨rfl, F0, rfl⟩))
    go_ret
    exact Ret.of rfl (by repeat (first | with_reducible exact Below.refl _ _ | (with_reducible refine Below.alloc ?_ (by first | omega | (simp [go_sem] <;> omega)) _) | (with_reducible refine Below.drew ?_) | (with_reducible refine Below.drewN ?_ _) | (with_reducible refine Below.grow ?_ (by first | omega | (simp [go_sem] <;> omega)) _) | (with_reducible refine Below.setCell ?_ (by first | omega | (simp [go_sem] <;> omega)) _)))
  have HF := Lib.hid (fun X => Ret.flat (hf ▸ few_any A l.length c l (w.grow X) (HR.out.grow X)))
  by_cases h9 : 50 < m.length
  · have b9 : decide ((50 : Int) < m.length) = true := by simp; omega
    clear h9 hf
    go_enter Tryz.func5, Tryz.ntmps5
    go_wp2_with (first
      | (go_at_call 9; refine (awake16_any _ HTB.out HMX.out).mono ?_; rintro e w' ⟨rfl, A0, rfl⟩) | (go_at_call 10; (with_reducible refine (HF.out _).mono ?_); rintro e w' ⟨rfl, F0, rfl⟩))
    go_ret
    exact Ret.of rfl (by repeat (first | with_reducible exact Below.refl _ _ | (with_reducible refine Below.alloc ?_ (by first | omega | (simp [go_sem] <;> omega)) _) | (with_reducible refine Below.drew ?_) | (with_reducible refine Below.drewN ?_ _) | (with_reducible refine Below.grow ?_ (by first | omega | (simp [go_sem] <;> omega)) _) | (with_reducible refine Below.setCell ?_ (by first | omega | (simp [go_sem] <;> omega)) _)))
  have b9 : decide ((50 : Int) < m.length) = false := by simp; omega
  obtain ⟨hs, hl1, hl2⟩ := few_short hf HZ.out
  have HPm0 := fun W (hB : Below w.heap.size w W) => (pieces16_any (.slice am m.length capm) m W (HSl.out W hB)).mono fun _ _ h => RetV.abs h
  have HRm0 := fun W (hB : Below w.heap.size w W) => tright_any (.slice am m.length capm) m W (HSl.out W hB)
  have HStl0 := fun W (hB : Below w.heap.size w W) => (steps_any A l.length c l W (Rd.below' HR.out hB) hcap (fun z hz => (hs z hz).1) (by omega)).mono fun _ _ h => RetT.abs h
  have HSm := Lib.hid (fun W (hB : Below w.heap.size w W) u (hu : Sl W u m) => show Calls Tryz.prog 18 #[.slice am m.length capm, u] W (Ret (.bool true) W) from by
    have h8 := tsame_any (.slice am m.length capm) u m m W (HSl.out W hB) hu
    rwa [decide_eq_true rfl] at h8)
  have HSa := Lib.hid (fun W (hB : Below w.heap.size w W) (A1 : Option Addr) (c1 : Nat) (hb : Rd W (.slice A1 l.length c1) l.length 4 (cssCells l)) => show Calls Tryz.prog 13 #[.slice A1 l.length c1, .slice A l.length c] W (Ret (.bool true) W) from by
    have h8 := same_any A1 A l.length l.length c1 c l l W hb (Rd.below' HR.out hB)
    rwa [decide_eq_true rfl] at h8)
  clear h9 hf HR
  cases hR : rightB m
  · rw [hR] at HPm0 HRm0
    have HPm := Lib.hid HPm0
    have HRm := Lib.hid HRm0
    simp only [Option.getD_none, Option.isSome_none, List.length_nil, Bool.false_eq_true, if_false] at HPm
    cases hS : stepsT l with
    | none =>
      rw [hS] at HStl0
      have HStl := Lib.hid HStl0
      simp only [Option.getD_none, Option.isSome_none, List.length_nil] at HStl
      clear HPm0 HRm0 HStl0 hR hS hs hl1 hl2
      go_enter Tryz.func5, Tryz.ntmps5
      go_wp2_with (first
        | (go_at_call 9; refine (awake16_any _ HTB.out HMX.out).mono ?_; rintro e w' ⟨rfl, A0, rfl⟩)
        | (go_at_call 10; (with_reducible refine (HF.out _).mono ?_); rintro e w' ⟨rfl, F0, rfl⟩)
        | (go_at_call 16; (with_reducible refine (HPm.out _ (by (repeat (first | with_reducible exact Below.refl _ _ | (with_reducible refine Below.alloc ?_ (by first | omega | (simp [go_sem] <;> omega)) _) | (with_reducible refine Below.drew ?_) | (with_reducible refine Below.drewN ?_ _) | (with_reducible refine Below.grow ?_ (by first | omega | (simp [go_sem] <;> omega)) _) | (with_reducible refine Below.setCell ?_ (by first | omega | (simp [go_sem] <;> omega)) _))); done)).mono ?_); rintro e W1 ⟨A1, c1, rfl, hb1, _, hc1, hr1⟩; have HB1 := Lib.hid (below_next (show Below w.heap.size w _ from (by (repeat (first | with_reducible exact Below.refl _ _ | (with_reducible refine Below.alloc ?_ (by first | omega | (simp [go_sem] <;> omega)) _) | (with_reducible refine Below.drew ?_) | (with_reducible refine Below.drewN ?_ _) | (with_reducible refine Below.grow ?_ (by first | omega | (simp [go_sem] <;> omega)) _) | (with_reducible refine Below.setCell ?_ (by first | omega | (simp [go_sem] <;> omega)) _))); done)) hb1); clear hb1 hr1)
        | (go_at_call 19; (with_reducible refine (HRm.out _ HB1.out).mono ?_); rintro e w' ⟨rfl, X2, rfl⟩)
        | (go_at_call 14; (with_reducible refine (HStl.out _ (below_next HB1.out (below_grow _ _))).mono ?_); rintro e W5 ⟨a5, cap5, rfl, hb5, hs5⟩; have HB5 := Lib.hid (below_next (below_next HB1.out (below_grow _ _)) hb5); clear hb5 hs5))
      go_ret
      exact Ret.of rfl HB5.out
    | some ss =>
      rw [hS] at HStl0
      have HStl := Lib.hid HStl0
      simp only [Option.getD_some, Option.isSome_some] at HStl
      obtain ⟨hps, hrs⟩ := pieces_steps hS
      have HPa := Lib.hid (fun W v (hv : Sl W v ss) => show Calls Tryz.prog 16 #[v] W (fun e w' => ∃ A c, e = .returned (.tuple #[.slice A l.length c, .bool true]) ∧ Below W.heap.size W w' ∧ (A = none → c = 0) ∧ l.length ≤ c ∧ Rd w' (.slice A l.length c) l.length 4 (cssCells l)) from by
        have h8 := (pieces16_any v ss W hv).mono fun _ _ h => RetV.abs h
        rw [hrs, if_pos rfl, hps] at h8; exact h8)
      clear HPm0 HRm0 HStl0 hR hS hs hl1 hl2 hps hrs
      go_enter Tryz.func5, Tryz.ntmps5
      go_wp2_with (first
        | (go_at_call 9; refine (awake16_any _ HTB.out HMX.out).mono ?_; rintro e w' ⟨rfl, A0, rfl⟩)
        | (go_at_call 10; (with_reducible refine (HF.out _).mono ?_); rintro e w' ⟨rfl, F0, rfl⟩)
        | (go_at_call 16; (with_reducible refine (HPm.out _ (by (repeat (first | with_reducible exact Below.refl _ _ | (with_reducible refine Below.alloc ?_ (by first | omega | (simp [go_sem] <;> omega)) _) | (with_reducible refine Below.drew ?_) | (with_reducible refine Below.drewN ?_ _) | (with_reducible refine Below.grow ?_ (by first | omega | (simp [go_sem] <;> omega)) _) | (with_reducible refine Below.setCell ?_ (by first | omega | (simp [go_sem] <;> omega)) _))); done)).mono ?_); rintro e W1 ⟨A1, c1, rfl, hb1, _, hc1, hr1⟩; have HB1 := Lib.hid (below_next (show Below w.heap.size w _ from (by (repeat (first | with_reducible exact Below.refl _ _ | (with_reducible refine Below.alloc ?_ (by first | omega | (simp [go_sem] <;> omega)) _) | (with_reducible refine Below.drew ?_) | (with_reducible refine Below.drewN ?_ _) | (with_reducible refine Below.grow ?_ (by first | omega | (simp [go_sem] <;> omega)) _) | (with_reducible refine Below.setCell ?_ (by first | omega | (simp [go_sem] <;> omega)) _))); done)) hb1); clear hb1 hr1)
        | (go_at_call 19; (with_reducible refine (HRm.out _ HB1.out).mono ?_); rintro e w' ⟨rfl, X2, rfl⟩)
        | (go_at_call 14; (with_reducible refine (HStl.out _ (below_next HB1.out (below_grow _ _))).mono ?_); rintro e W5 ⟨a5, cap5, rfl, hb5, hs5⟩; have HB5 := Lib.hid (below_next (below_next HB1.out (below_grow _ _)) hb5); have HP5 := Lib.hid (HPa.out W5 _ hs5); clear hb5 hs5)
        | (go_at_call 16; (with_reducible refine HP5.out.mono ?_); rintro e W6 ⟨A6, c6, rfl, hb6, _, hc6, hr6⟩; have HB6 := Lib.hid (below_next HB5.out hb6); have HS6 := Lib.hid (HSa.out W6 HB6.out A6 c6 hr6); clear hb6 hr6)
        | (go_at_call 13; (with_reducible refine HS6.out.mono ?_); rintro e w' ⟨rfl, X7, rfl⟩))
      go_ret
      exact Ret.of rfl (below_next HB6.out (by repeat (first | with_reducible exact Below.refl _ _ | (with_reducible refine Below.alloc ?_ (by first | omega | (simp [go_sem] <;> omega)) _) | (with_reducible refine Below.drew ?_) | (with_reducible refine Below.drewN ?_ _) | (with_reducible refine Below.grow ?_ (by first | omega | (simp [go_sem] <;> omega)) _) | (with_reducible refine Below.setCell ?_ (by first | omega | (simp [go_sem] <;> omega)) _))))
  · rw [hR] at HPm0 HRm0
    have HPm := Lib.hid HPm0
    have HRm := Lib.hid HRm0
    simp only [Option.getD_some, Option.isSome_some, if_true] at HPm
    obtain ⟨hpms, hpml⟩ := pieces_short hR
    have HStc := Lib.hid (fun W (A1 : Option Addr) (c1 : Nat) (hr : Rd W (.slice A1 (piecesT m).length c1) (piecesT m).length 4 (cssCells (piecesT m))) (hc : (piecesT m).length ≤ c1) => show Calls Tryz.prog 14 #[.slice A1 (piecesT m).length c1] W (fun e w' => ∃ a cap, e = .returned (.tuple #[.slice a m.length cap, .bool true]) ∧ Below W.heap.size W w' ∧ Sl w' (.slice a m.length cap) m) from by
      have h8 := (steps_any A1 _ c1 (piecesT m) W hr hc (fun z hz => (hpms z hz).1) (by omega)).mono fun _ _ h => RetT.abs h
      rw [steps_pieces hR] at h8; exact h8)
    generalize piecesT m = P at *
    cases hS : stepsT l with
    | none =>
      rw [hS] at HStl0
      have HStl := Lib.hid HStl0
      simp only [Option.getD_none, Option.isSome_none, List.length_nil] at HStl
      clear HPm0 HRm0 HStl0 hR hS hs hl1 hl2 hpms hpml
      go_enter Tryz.func5, Tryz.ntmps5
      go_wp2_with (first
        | (go_at_call 9; refine (awake16_any _ HTB.out HMX.out).mono ?_; rintro e w' ⟨rfl, A0, rfl⟩)
        | (go_at_call 10; (with_reducible refine (HF.out _).mono ?_); rintro e w' ⟨rfl, F0, rfl⟩)
        | (go_at_call 16; (with_reducible refine (HPm.out _ (by (repeat (first | with_reducible exact Below.refl _ _ | (with_reducible refine Below.alloc ?_ (by first | omega | (simp [go_sem] <;> omega)) _) | (with_reducible refine Below.drew ?_) | (with_reducible refine Below.drewN ?_ _) | (with_reducible refine Below.grow ?_ (by first | omega | (simp [go_sem] <;> omega)) _) | (with_reducible refine Below.setCell ?_ (by first | omega | (simp [go_sem] <;> omega)) _))); done)).mono ?_); rintro e W1 ⟨A1, c1, rfl, hb1, _, hc1, hr1⟩; have HB1 := Lib.hid (below_next (show Below w.heap.size w _ from (by (repeat (first | with_reducible exact Below.refl _ _ | (with_reducible refine Below.alloc ?_ (by first | omega | (simp [go_sem] <;> omega)) _) | (with_reducible refine Below.drew ?_) | (with_reducible refine Below.drewN ?_ _) | (with_reducible refine Below.grow ?_ (by first | omega | (simp [go_sem] <;> omega)) _) | (with_reducible refine Below.setCell ?_ (by first | omega | (simp [go_sem] <;> omega)) _))); done)) hb1); have HSc := Lib.hid (fun X => HStc.out (W1.grow X) A1 c1 (hr1.grow X) hc1); clear hb1 hr1)
        | (go_at_call 19; (with_reducible refine (HRm.out _ HB1.out).mono ?_); rintro e w' ⟨rfl, X2, rfl⟩)
        | (go_at_call 14; (with_reducible refine (HSc.out _).mono ?_); rintro e W3 ⟨a3, cap3, rfl, hb3, hs3⟩; have HB3 := Lib.hid (below_next (below_next HB1.out (below_grow _ _)) hb3); have HS3 := Lib.hid (HSm.out W3 HB3.out _ hs3); clear hb3 hs3)
        | (go_at_call 18; (with_reducible refine HS3.out.mono ?_); rintro e w' ⟨rfl, X4, rfl⟩)
        | (go_at_call 14; (with_reducible refine (HStl.out _ (below_next HB3.out (below_grow _ _))).mono ?_); rintro e W5 ⟨a5, cap5, rfl, hb5, hs5⟩; have HB5 := Lib.hid (below_next (below_next HB3.out (below_grow _ _)) hb5); clear hb5 hs5))
      go_ret
      exact Ret.of rfl HB5.out
    | some ss =>
      rw [hS] at HStl0
      have HStl := Lib.hid HStl0
      simp only [Option.getD_some, Option.isSome_some] at HStl
      obtain ⟨hps, hrs⟩ := pieces_steps hS
      have HPa := Lib.hid (fun W v (hv : Sl W v ss) => show Calls Tryz.prog 16 #[v] W (fun e w' => ∃ A c, e = .returned (.tuple #[.slice A l.length c, .bool true]) ∧ Below W.heap.size W w' ∧ (A = none → c = 0) ∧ l.length ≤ c ∧ Rd w' (.slice A l.length c) l.length 4 (cssCells l)) from by
        have h8 := (pieces16_any v ss W hv).mono fun _ _ h => RetV.abs h
        rw [hrs, if_pos rfl, hps] at h8; exact h8)
      clear HPm0 HRm0 HStl0 hR hS hs hl1 hl2 hps hrs hpms hpml
      go_enter Tryz.func5, Tryz.ntmps5
      go_wp2_with (first
        | (go_at_call 9; refine (awake16_any _ HTB.out HMX.out).mono ?_; rintro e w' ⟨rfl, A0, rfl⟩)
        | (go_at_call 10; (with_reducible refine (HF.out _).mono ?_); rintro e w' ⟨rfl, F0, rfl⟩)
        | (go_at_call 16; (with_reducible refine (HPm.out _ (by (repeat (first | with_reducible exact Below.refl _ _ | (with_reducible refine Below.alloc ?_ (by first | omega | (simp [go_sem] <;> omega)) _) | (with_reducible refine Below.drew ?_) | (with_reducible refine Below.drewN ?_ _) | (with_reducible refine Below.grow ?_ (by first | omega | (simp [go_sem] <;> omega)) _) | (with_reducible refine Below.setCell ?_ (by first | omega | (simp [go_sem] <;> omega)) _))); done)).mono ?_); rintro e W1 ⟨A1, c1, rfl, hb1, _, hc1, hr1⟩; have HB1 := Lib.hid (below_next (show Below w.heap.size w _ from (by (repeat (first | with_reducible exact Below.refl _ _ | (with_reducible refine Below.alloc ?_ (by first | omega | (simp [go_sem] <;> omega)) _) | (with_reducible refine Below.drew ?_) | (with_reducible refine Below.drewN ?_ _) | (with_reducible refine Below.grow ?_ (by first | omega | (simp [go_sem] <;> omega)) _) | (with_reducible refine Below.setCell ?_ (by first | omega | (simp [go_sem] <;> omega)) _))); done)) hb1); have HSc := Lib.hid (fun X => HStc.out (W1.grow X) A1 c1 (hr1.grow X) hc1); clear hb1 hr1)
        | (go_at_call 19; (with_reducible refine (HRm.out _ HB1.out).mono ?_); rintro e w' ⟨rfl, X2, rfl⟩)
        | (go_at_call 14; (with_reducible refine (HSc.out _).mono ?_); rintro e W3 ⟨a3, cap3, rfl, hb3, hs3⟩; have HB3 := Lib.hid (below_next (below_next HB1.out (below_grow _ _)) hb3); have HS3 := Lib.hid (HSm.out W3 HB3.out _ hs3); clear hb3 hs3)
        | (go_at_call 18; (with_reducible refine HS3.out.mono ?_); rintro e w' ⟨rfl, X4, rfl⟩)
        | (go_at_call 14; (with_reducible refine (HStl.out _ (below_next HB3.out (below_grow _ _))).mono ?_); rintro e W5 ⟨a5, cap5, rfl, hb5, hs5⟩; have HB5 := Lib.hid (below_next (below_next HB3.out (below_grow _ _)) hb5); have HP5 := Lib.hid (HPa.out W5 _ hs5); clear hb5 hs5)
        | (go_at_call 16; (with_reducible refine HP5.out.mono ?_); rintro e W6 ⟨A6, c6, rfl, hb6, _, hc6, hr6⟩; have HB6 := Lib.hid (below_next HB5.out hb6); have HS6 := Lib.hid (HSa.out W6 HB6.out A6 c6 hr6); clear hb6 hr6)
        | (go_at_call 13; (with_reducible refine HS6.out.mono ?_); rintro e w' ⟨rfl, X7, rfl⟩))
      go_ret
      exact Ret.of rfl (below_next HB6.out (by repeat (first | with_reducible exact Below.refl _ _ | (with_reducible refine Below.alloc ?_ (by first | omega | (simp [go_sem] <;> omega)) _) | (with_reducible refine Below.drew ?_) | (with_reducible refine Below.drewN ?_ _) | (with_reducible refine Below.grow ?_ (by first | omega | (simp [go_sem] <;> omega)) _) | (with_reducible refine Below.setCell ?_ (by first | omega | (simp [go_sem] <;> omega)) _))))

set_option maxRecDepth 100000 in
theorem lifted (os : Os) (started : os.Started) (H : Type) (enc : TypeId × Value → H) :
    ReturnsInHanded {} Tryz.checked os 5 .any (fun w args => (Rows.cssvalBackSpec.pre enc Tryz.prog Tryz.f5 Rows.cssvalBackRow.domain false w args ∧ laidMetH Tryz.prog Rows.cssvalBackRow.laid w) ∧ sizedMet enc Tryz.prog Tryz.f5 (OpenSpec.ofChange Rows.cssvalBackSpec) false w args) (Rows.cssvalBackSpec.post enc Tryz.prog Tryz.f5 false true false false) := by
  refine handed_shape (C := Tryz.checked) (X := fun w _ => laidMetH Tryz.prog Rows.cssvalBackRow.laid w) (fun _ _ _ hh h => h.of_heap hh) own started (by kernel_rfl) Tryz.func5
    (ChangeSpec.witness_shaped (enc := enc) (C := Tryz.checked) (os := os) (X := fun w _ => laidMetH Tryz.prog Rows.cssvalBackRow.laid w) false (World.laidAll Tryz.prog os Rows.cssvalBackRow.laid) #[.slice none 0 0, .slice none 0 0] 8 (World.laidAll_os _ _ _)
      (World.shaped_of_ZipB (by kernel_rfl) (by kernel_rfl)) (by kernel_rfl) (by kernel_rfl) (by kernel_rfl)
      (by rw [MakeChecks.laidMetH_plain _ _ _ (by kernel_rfl)]; exact laidMet_laidAll _ (by kernel_rfl) (by kernel_rfl))) ?_
  intro W base args ds gs before hval0 hW hL hsh
  have hval : ∀ (j : Nat) t v, Tryz.f5.params[j]? = some t → args[j]? = some v → Value.okWide Tryz.prog W .any base t v := hval0
  have hW' := hW
  obtain ⟨p, q, hA0, hV, rfl, hfz, hnd⟩ := hW
  have hA : DataW.TrodAll enc Tryz.prog W 0 (fun _ => true) true Tryz.f5.params.toList args.toList ds p := hA0
  rw [Tryz.params5] at hA hval
  obtain ⟨v0, vs0, d0, ds0, p0, q0, hargs, rfl, rfl, h0, r0⟩ := trodAll_cons hA
  obtain ⟨v1, vs1, d1, ds1, p1, q1, rfl, rfl, rfl, h1, r1⟩ := trodAll_cons r0
  obtain ⟨rfl, rfl, rfl⟩ := trodAll_nil r1
  obtain rfl : args = #[v0, v1] := by cases args; simp_all
  obtain ⟨rfl, rfl⟩ := trodVars_none hV
  obtain ⟨a0, len0, cap0, rfl⟩ := okWide_slice Tryz.underlying22 (hval 0 22 v0 rfl rfl)
  have k0 := h0
  have lt0 : ∀ x ∈ p0, x.block < W.heap.size := by obtain ⟨m, hm⟩ := k0; exact DataW.trod_lt m _ _ _ hm
  obtain ⟨z0, e0, w0, m0⟩ : ∃ l : List Css, l.length = len0 ∧ Rd W (.slice a0 len0 cap0) l.length 4 (cssCells l) ∧ ∀ p ∈ l, CssIn p := by obtain ⟨fuel, hf⟩ := h0; exact css_open (by simpa [Value.cells] using hf)
  have n0 : ∀ a n cap, Value.slice a0 len0 cap0 = .slice a n cap → (a = none → cap = 0) ∧ n ≤ cap := fun _ _ _ hh => by cases hh; obtain ⟨fuel, hf⟩ := h0; exact ⟨css_nil (by simpa [Value.cells] using hf), css_cap (by simpa [Value.cells] using hf)⟩
  obtain ⟨a1, len1, cap1, rfl⟩ := okWide_slice Tryz.underlying29 (hval 1 29 v1 rfl rfl)
  have k1 := h1
  have lt1 : ∀ x ∈ p1, x.block < W.heap.size := by obtain ⟨m, hm⟩ := k1; exact DataW.trod_lt m _ _ _ hm
  obtain ⟨z1, e1, w1⟩ : ∃ l, l.length = len1 ∧ Sl W (.slice a1 len1 cap1) l := by obtain ⟨fuel, hf⟩ := h1; exact sl_open (by simpa [Value.cells] using hf)
  clear hA0 hval0
  refine (walk (.slice a0 len0 cap0) z0 (.slice a1 len1 cap1) z1 W (tb_laid hL (by rfl)) (mx_shape hsh) w0 m0 n0 w1).mono fun e W' hend => ?_
  obtain ⟨he, X, hX⟩ := hend
  have bel : Below W.heap.size W W' := by rw [hX]; exact below_grow W X
  subst he
  exact ⟨_, rfl, _, _, _, [], _, [], hW', trodAll_mk1 (shut_bool Tryz.underlying4 _), (trodAll_cons_mk (Below.trod laidOut (by kernel_rfl) (of_decide_eq_true (by kernel_rfl)) k0 bel lt0) (trodAll_cons_mk (Below.trod laidOut (by kernel_rfl) (of_decide_eq_true (by kernel_rfl)) k1 bel lt1) trodAll_mk0)), rfl, bel.frame _, fun h => by cases h⟩

theorem over : Rows.cssvalBackRow.holds Tryz.pinned (OpenSpec.ofChange Rows.cssvalBackSpec) :=
  OpenClaim.holds_of_wide 5 Tryz.f5 rfl rfl rfl rfl rfl rfl rfl ⟨rfl, rfl, rfl, rfl, rfl⟩ rfl rfl rfl rfl rfl (by kernel_rfl) Tryz.func5 (by kernel_rfl)
    (of_decide_eq_true (by kernel_rfl)) (by unfold Func.isWrapper; rw [if_neg (of_decide_eq_false (by kernel_rfl))]; exact ⟨rfl, rfl⟩)
    (fun os started H enc _ => lifted os started H enc)

/-- The statement. -/
theorem proved : Rows.CssvalBackCardSaid :=
  Claim7.holds_tied_plain_at .later [] [.data, .data, .data, .data, .pinned] true _ false over (fun _ h => by cases h) (by kernel_rfl) (fun _ h => by cases h) cssvalBack_row_tie rfl ⟨rfl, rfl⟩ (by kernel_rfl) rfl
    (fun f fn hf hfn => by
      obtain rfl : f = 5 := Option.some.inj ((show Tryz.prog.funcNamed "cribble/cribblelaw16.CssvalBack" = some 5 by kernel_rfl).symm.trans hf) |>.symm
      obtain rfl : fn = Tryz.f5 := (Option.some.inj (Tryz.func5.symm.trans hfn)).symm
      exact ⟨by kernel_rfl, fun j t ht => by
        rw [Tryz.params5] at ht
        have hm : t ∈ [22, 29] := by simpa using Array.mem_of_getElem? ht
        have hall : ([22, 29].all fun u => !Tryz.prog.wantsStandIn u) = true := by kernel_rfl
        exact (show Tryz.prog.wantsStandIn t = false by simpa using List.all_eq_true.1 hall t hm)⟩)
    (by kernel_rfl)

end Go.Proofs.YtgcccpdadponiaaGreatDoor.cssvalBack
