/- The walks of values of styles: the small thing that is tried first. -/
import Derived.Test.YtgcccpdadponiaaGreatDoorCssR
import Derived.Test.YtgcccpdadponiaaGreatDoorValJ
namespace Go.Proofs.YtgcccpdadponiaaGreatDoor
open Go.RowKit Go.Shelf
attribute [local go_sem] Oper.semAt_some
theorem RetV.abs {w : World} {r : Option (List Css)} {e : Ending} {w' : World} (h : RetV w r e w') : ∃ A c, e = .returned (.tuple #[.slice A (r.getD []).length c, .bool r.isSome]) ∧ Below w.heap.size w w' ∧ (A = none → c = 0) ∧ (r.getD []).length ≤ c ∧ Rd w' (.slice A (r.getD []).length c) (r.getD []).length 4 (cssCells (r.getD [])) := by
  obtain ⟨A, c, X, h1, rfl, h3, h4, h5⟩ := h
  exact ⟨A, c, h1, below_grow w X, h3, h4, h5⟩
theorem RetT.abs {w : World} {r : Option (List St)} {e : Ending} {w' : World} (h : RetT w r e w') : ∃ a cap, e = .returned (.tuple #[.slice a (r.getD []).length cap, .bool r.isSome]) ∧ Below w.heap.size w w' ∧ Sl w' (.slice a (r.getD []).length cap) (r.getD []) := by
  obtain ⟨v, X, h1, rfl, h3⟩ := h
  have h4 := h3
  obtain ⟨a, cap, rfl, _⟩ := h3
  exact ⟨a, cap, h1, below_grow w X, h4⟩
theorem Rd.below' {w w' : World} {v : Value} {n size : Nat} {xs : List Value} (h : Rd w v n size xs) (hb : Below w.heap.size w w') : Rd w' v n size xs := by
  obtain ⟨X, rfl⟩ := grow_of_below hb
  exact h.grow X
theorem Sl.below' {w w' : World} {v : Value} {l : List St} (h : Sl w v l) (hb : Below w.heap.size w w') : Sl w' v l := by
  obtain ⟨X, rfl⟩ := grow_of_below hb
  exact h.grow X
def wA : Bs := [114, 111, 116, 97, 116, 101, 40, 57, 48, 100, 101, 103, 41, 32, 114, 111, 116, 97, 116, 101, 40, 50, 55, 48, 100, 101, 103, 41]
def wB : Bs := [114, 103, 98, 40, 49, 44, 50, 44, 51, 41]
def wC : Bs := [117, 114, 108, 40, 120, 41]
def widthT : Bs := [119, 105, 100, 116, 104]
def colorT : Bs := [99, 111, 108, 111, 114]
theorem awake_A : valueT transT (cssL wA) = some [noneC] := by decide +kernel
theorem awake_B : valueT colorT (cssL wB) = some (cssL wB) ∧ (cssL wB).length = 7 := by decide +kernel
theorem awake_C : valueT widthT (cssL wC) = none := by decide +kernel
theorem scanF_any (s : Bs) (w : World) (hw : Mx w) (hm : s.length ≤ 1000000000) : Calls Tryz.prog 22 #[.string ⟨s.toArray⟩] w fun e w' => ∃ A c, e = .returned (.slice A (cssL s).length c) ∧ Below w.heap.size w w' ∧ (A = none → c = 0) ∧ (cssL s).length ≤ c ∧ Rd w' (.slice A (cssL s).length c) (cssL s).length 4 (cssCells (cssL s)) := by
  refine (scanO_any s w hw hm).mono ?_
  rintro e w' ⟨v, X, rfl, rfl, ho⟩
  obtain ⟨A', c', rfl, hc⟩ := own_cap ho
  exact ⟨A', c', rfl, below_grow w X, own_nil ho, hc, Rd.own ho⟩
set_option maxRecDepth 100000 in
set_option maxHeartbeats 1000000 in
theorem awake16_any (w : World) (hw : Tb w) (hx : Mx w) : Calls Tryz.prog 9 #[] w (Ret (.bool true) w) := by
  have hmx : Tryz.prog.follows .mixedOrders = true := by kernel_rfl
  have H := Lib.hid (fun (nm s : Bs) (hs : s.length ≤ 1000) W (hB : Below w.heap.size w W) => And.intro (scanF_any s W (Mx.below hx hB) (by omega)) (fun (A : Option Addr) (c : Nat) (W : World) (hB : Below w.heap.size w W) (hA : A = none → c = 0) (hr : Rd W (.slice A (cssL s).length c) (cssL s).length 4 (cssCells (cssL s))) => (value16_any nm A (cssL s).length c (cssL s) W (Tb.below hw hB) (Mx.below hx hB) hr hA (scan_short hs).1 (by have := (scan_short hs).2.1; omega)).mono fun _ _ h => RetV.abs h))
  obtain ⟨L1, hL1⟩ : ∃ L, cssL wA = L := ⟨_, rfl⟩
  obtain ⟨L2, hL2⟩ : ∃ L, cssL wB = L := ⟨_, rfl⟩
  obtain ⟨L3, hL3⟩ : ∃ L, cssL wC = L := ⟨_, rfl⟩
  have H1 := Lib.hid (H.out transT wA (by decide))
  have H2 := Lib.hid (H.out colorT wB (by decide))
  have H3 := Lib.hid (H.out widthT wC (by decide))
  obtain ⟨hB1, hB2⟩ := awake_B
  rw [awake_A, hL1] at H1
  rw [hB1, hL2] at H2
  rw [awake_C, hL3] at H3
  rw [hL2] at hB2
  simp only [Option.getD_some, Option.getD_none, Option.isSome_some, Option.isSome_none, List.length_cons, List.length_nil, hB2, wA, wB, wC, transT, colorT, widthT] at H1 H2 H3
  have HCx : Hid (cssCells [noneC] = [.int .i64 1, .string ⟨#[110, 111, 110, 101]⟩, .int .i64 0, .string ⟨#[]⟩]) := rfl
  have S1 := Lib.hid (fun W (hB : Below w.heap.size w W) => (H1.out W hB).1)
  have S2 := Lib.hid (fun W (hB : Below w.heap.size w W) => (H2.out W hB).1)
  have S3 := Lib.hid (fun W (hB : Below w.heap.size w W) => (H3.out W hB).1)
  have V1 := Lib.hid ((H1.out w (Below.refl _ _)).2)
  have V2 := Lib.hid ((H2.out w (Below.refl _ _)).2)
  have V3 := Lib.hid ((H3.out w (Below.refl _ _)).2)
  clear H H1 H2 H3 hw hx hL1 hL2 hL3 hB1 hB2
  have HB0 : Hid (Below w.heap.size w w) := Below.refl _ _
  go_enter Tryz.func9, Tryz.ntmps9
  go_wp2_with (first
    | (go_at_call 22; (with_reducible refine (S1.out _ HB0.out).mono ?_); rintro e W1 ⟨A1, c1, rfl, hb1, hA1, hc1, hr1⟩; have HB1 := Lib.hid hb1; have HV1 := Lib.hid (V1.out A1 c1 W1 hb1 hA1 hr1); clear hb1 hA1 hr1)
    | (go_at_call 11; (with_reducible refine HV1.out.mono ?_); rintro e W2 ⟨A2, c2, rfl, hb2, hA2, hc2, hr2⟩; have HB2 := Lib.hid (below_next HB1.out hb2); have HR2 := Lib.hid hr2; clear hb2 hA2 hr2)
    | (go_at_call 22; (with_reducible refine (S2.out _ HB2.out).mono ?_); rintro e W3 ⟨A3, c3, rfl, hb3, hA3, hc3, hr3⟩; have HB3 := Lib.hid (below_next HB2.out hb3); have HR3 := Lib.hid (Rd.below' HR2.out hb3); have HV3 := Lib.hid (V2.out A3 c3 W3 HB3.out hA3 hr3); clear hb3 hA3 hr3)
    | (go_at_call 11; (with_reducible refine HV3.out.mono ?_); rintro e W4 ⟨A4, c4, rfl, hb4, hA4, hc4, hr4⟩; have HB4 := Lib.hid (below_next HB3.out hb4); have HR4 := Lib.hid (Rd.below' HR3.out hb4); clear hb4 hA4 hr4)
    | (go_at_call 22; (with_reducible refine (S3.out _ HB4.out).mono ?_); rintro e W5 ⟨A5, c5, rfl, hb5, hA5, hc5, hr5⟩; have HB5 := Lib.hid (below_next HB4.out hb5); have HR5 := Lib.hid (Rd.below' HR4.out hb5); have HV5 := Lib.hid (V3.out A5 c5 W5 HB5.out hA5 hr5); clear hb5 hA5 hr5)
    | (go_at_call 11; (with_reducible refine HV5.out.mono ?_); rintro e W6 ⟨A6, c6, rfl, hb6, hA6, hc6, hr6⟩; have HB6 := Lib.hid (below_next HB5.out hb6); have hr7 := Rd.below' HR5.out hb6; obtain ⟨b7, off7, rfl, hlt7, q0, q1, q2, q3⟩ := Rd.css (l := [noneC]) hr7 0 (by decide); simp only [noneC, List.getElem_cons_zero, Nat.zero_mul, Nat.add_zero, sv] at q0 q1 q2 q3; clear hb6 hA6 hr6 hr7))
  go_ret
  exact Ret.of rfl HB6.out
end Go.Proofs.YtgcccpdadponiaaGreatDoor
