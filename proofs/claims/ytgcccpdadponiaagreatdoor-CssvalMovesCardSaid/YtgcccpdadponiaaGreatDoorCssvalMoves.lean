/- A transform that is told moves each point as what it was told for: CssvalMoves returns true. No condition: whatever the arguments; the row lists tables of Go's library, which the card ties to the program's text. -/
import Derived.ProofKit
import Derived.ChangeSame
import Derived.ChangeAt
import Derived.SizedLaws
import Derived.OpenShut
import Derived.ShutString
import Derived.ChangeOld
import Derived.LaidMore
import Derived.Lay
import Derived.SevenTiedAt
import Derived.Stop.Joined
import Derived.Test.YtgcccpdadponiaaGreatDoorRows
import Derived.Test.YtgcccpdadponiaaGreatDoorCards
import Derived.Test.YtgcccpdadponiaaGreatDoorTie
import Derived.Test.YtgcccpdadponiaaGreatDoorCssOpen
import Derived.Test.YtgcccpdadponiaaGreatDoorTB
import Derived.Test.YtgcccpdadponiaaGreatDoorValL
namespace Go.Proofs.YtgcccpdadponiaaGreatDoor.cssvalMoves
open Go.ChangeShapes Go.WideShapes Go.ChangeAt Go.RowKit
open Go.ChangeMaps (open_string shut_string)

theorem own : ownKnob Tryz.prog.godebug = none := by kernel_rfl
theorem laidOut : laidOutB Tryz.prog = true := by kernel_rfl


set_option maxRecDepth 100000 in
set_option maxHeartbeats 2000000 in
theorem walk (v : Value) (m : List St) (x y : Int) (w : World) (hT : Tb w) (hX : Mx w) (h : Sl w v m) (_hx : (Lit.int .i64 x).wf = true) (_hy : (Lit.int .i64 y).wf = true) : Calls Tryz.prog 7 #[v, .int .i64 x, .int .i64 y] w (Ret (.bool true) w) := by
  have hmx : Tryz.prog.follows .mixedOrders = true := by kernel_rfl
  have HTB := Lib.hid hT
  have HMX := Lib.hid hX
  have HTM := Lib.hid (fun W (hB : Below w.heap.size w W) => And.intro (Tb.below hT hB) (Mx.below hX hB))
  have HSl := Lib.hid (fun W (hB : Below w.heap.size w W) => Sl.below' h hB)
  have HPi0 := fun W (hB : Below w.heap.size w W) => (pieces16_any v m W (HSl.out W hB)).mono fun _ _ h => RetV.abs h
  have HRun0 := fun W (hB : Below w.heap.size w W) => run_any v m x y W (HSl.out W hB)
  obtain ⟨am, capm, rfl, hl, _⟩ := h
  clear hT hX _hx _hy
  by_cases h9 : 50 < m.length
  · have b9 : decide ((50 : Int) < m.length) = true := by simp; omega
    clear h9
    go_enter Tryz.func7, Tryz.ntmps7
    go_wp2_with (go_at_call 9; refine (awake16_any _ HTB.out HMX.out).mono ?_; rintro e w' ⟨rfl, A0, rfl⟩)
    go_ret
    exact Ret.of rfl (by repeat (first | with_reducible exact Below.refl _ _ | (with_reducible refine Below.alloc ?_ (by first | omega | (simp [go_sem] <;> omega)) _) | (with_reducible refine Below.drew ?_) | (with_reducible refine Below.drewN ?_ _) | (with_reducible refine Below.grow ?_ (by first | omega | (simp [go_sem] <;> omega)) _) | (with_reducible refine Below.setCell ?_ (by first | omega | (simp [go_sem] <;> omega)) _)))
  have b9 : decide ((50 : Int) < m.length) = false := by simp; omega
  cases hr : rightB m
  · rw [hr] at HPi0
    have HPi := Lib.hid HPi0
    have HV1 := Lib.hid (fun W (hB : Below w.heap.size w W) (A : Option Addr) (c : Nat) (hA : A = none → c = 0) (hrd : Rd W (.slice A 0 c) 0 4 (cssCells [])) => show Calls Tryz.prog 11 #[.string ⟨#[116, 114, 97, 110, 115, 102, 111, 114, 109]⟩, .slice A 0 c] W (fun e w' => ∃ A c, e = .returned (.tuple #[.slice A 0 c, .bool false]) ∧ Below W.heap.size W w') from by
      refine (value16_any transT A 0 c [] W (HTM.out W hB).1 (HTM.out W hB).2 hrd hA (fun x hx => by cases hx) (by simp)).mono fun e w' h9 => ?_
      obtain ⟨A', c', e1, e2, _⟩ := RetV.abs h9
      exact ⟨A', c', e1, e2⟩)
    simp only [Option.getD_none, Option.isSome_none, List.length_nil, Bool.false_eq_true, if_false] at HPi
    clear hr HPi0 HRun0 h9
    go_enter Tryz.func7, Tryz.ntmps7
    go_wp2_with (first
      | (go_at_call 9; refine (awake16_any _ HTB.out HMX.out).mono ?_; rintro e w' ⟨rfl, A0, rfl⟩)
      | (go_at_call 16; (with_reducible refine (HPi.out _ (by (repeat (first | with_reducible exact Below.refl _ _ | (with_reducible refine Below.alloc ?_ (by first | omega | (simp [go_sem] <;> omega)) _) | (with_reducible refine Below.drew ?_) | (with_reducible refine Below.drewN ?_ _) | (with_reducible refine Below.grow ?_ (by first | omega | (simp [go_sem] <;> omega)) _) | (with_reducible refine Below.setCell ?_ (by first | omega | (simp [go_sem] <;> omega)) _))); done)).mono ?_); rintro e W1 ⟨A1, c1, rfl, hb1, hA1, hc1, hr1⟩; have HB1 := Lib.hid (below_next (show Below w.heap.size w _ from (by (repeat (first | with_reducible exact Below.refl _ _ | (with_reducible refine Below.alloc ?_ (by first | omega | (simp [go_sem] <;> omega)) _) | (with_reducible refine Below.drew ?_) | (with_reducible refine Below.drewN ?_ _) | (with_reducible refine Below.grow ?_ (by first | omega | (simp [go_sem] <;> omega)) _) | (with_reducible refine Below.setCell ?_ (by first | omega | (simp [go_sem] <;> omega)) _))); done)) hb1); have HV := Lib.hid (HV1.out W1 HB1.out A1 c1 hA1 hr1); clear hb1 hA1 hr1)
      | (go_at_call 11; (with_reducible refine HV.out.mono ?_); rintro e W2 ⟨A2, c2, rfl, hb2⟩; have HB2 := Lib.hid (below_next HB1.out hb2); clear hb2))
    go_ret
    exact Ret.of rfl HB2.out
  rw [hr, if_pos rfl] at HPi0
  have HPi := Lib.hid HPi0
  simp only [Option.getD_some, Option.isSome_some] at HPi
  obtain ⟨hps, hpl⟩ := pieces_short hr
  have HV0 := Lib.hid (fun W (hB : Below w.heap.size w W) (A : Option Addr) (c : Nat) (hA : A = none → c = 0) (hrd : Rd W (.slice A (piecesT m).length c) (piecesT m).length 4 (cssCells (piecesT m))) => (value16_any transT A (piecesT m).length c (piecesT m) W (HTM.out W hB).1 (HTM.out W hB).2 hrd hA hps (by omega)).mono fun _ _ h => RetV.abs h)
  cases hv : valueT transT (piecesT m) with
  | none =>
    rw [hv] at HV0
    have HV1 := Lib.hid HV0.out
    simp only [Option.getD_none, Option.isSome_none, List.length_nil, transT] at HV1
    clear hr HPi0 HRun0 h9 hv HV0 hps hpl
    generalize piecesT m = P at *
    go_enter Tryz.func7, Tryz.ntmps7
    go_wp2_with (first
      | (go_at_call 9; refine (awake16_any _ HTB.out HMX.out).mono ?_; rintro e w' ⟨rfl, A0, rfl⟩)
      | (go_at_call 16; (with_reducible refine (HPi.out _ (by (repeat (first | with_reducible exact Below.refl _ _ | (with_reducible refine Below.alloc ?_ (by first | omega | (simp [go_sem] <;> omega)) _) | (with_reducible refine Below.drew ?_) | (with_reducible refine Below.drewN ?_ _) | (with_reducible refine Below.grow ?_ (by first | omega | (simp [go_sem] <;> omega)) _) | (with_reducible refine Below.setCell ?_ (by first | omega | (simp [go_sem] <;> omega)) _))); done)).mono ?_); rintro e W1 ⟨A1, c1, rfl, hb1, hA1, hc1, hr1⟩; have HB1 := Lib.hid (below_next (show Below w.heap.size w _ from (by (repeat (first | with_reducible exact Below.refl _ _ | (with_reducible refine Below.alloc ?_ (by first | omega | (simp [go_sem] <;> omega)) _) | (with_reducible refine Below.drew ?_) | (with_reducible refine Below.drewN ?_ _) | (with_reducible refine Below.grow ?_ (by first | omega | (simp [go_sem] <;> omega)) _) | (with_reducible refine Below.setCell ?_ (by first | omega | (simp [go_sem] <;> omega)) _))); done)) hb1); have HV := Lib.hid (HV1.out W1 HB1.out A1 c1 hA1 hr1); clear hb1 hA1 hr1)
      | (go_at_call 11; (with_reducible refine HV.out.mono ?_); rintro e W2 ⟨A2, c2, rfl, hb2, _, _, _⟩; have HB2 := Lib.hid (below_next HB1.out hb2); clear hb2))
    go_ret
    exact Ret.of rfl HB2.out
  | some a =>
    rw [hv] at HV0
    have HV1 := Lib.hid HV0.out
    simp only [Option.getD_some, Option.isSome_some, transT] at HV1
    obtain ⟨ns, hns, hrun⟩ := value_moves hr hv
    obtain ⟨has, hal⟩ := value_short hps (by omega) hv
    obtain ⟨p, q, r, hpqr⟩ := runV_tuple m x y
    have HRm := Lib.hid (fun W (hB : Below w.heap.size w W) => hpqr ▸ HRun0 W hB)
    have HRn := Lib.hid (fun W v (hs : Sl W v ns) => show Calls Tryz.prog 20 #[v, .int .i64 x, .int .i64 y] W (Ret (.tuple #[.int .i64 p, .int .i64 q, .int .i64 r]) W) from by
      have h8 := run_any v ns x y W hs
      rw [← hrun, hpqr] at h8; exact h8)
    rcases hns with ⟨rfl, rfl⟩ | ⟨h1, hst⟩
    · have HRn2 := Lib.hid (fun W => HRn.out W _ (sl_nil W))
      simp only [List.length_cons, List.length_nil] at HV1
      clear hr HPi0 HRun0 h9 hv HV0 hps hpl hrun hpqr has hal HRn
      generalize piecesT m = P at *
      go_enter Tryz.func7, Tryz.ntmps7
      go_wp2_with (first
      | (go_at_call 9; refine (awake16_any _ HTB.out HMX.out).mono ?_; rintro e w' ⟨rfl, A0, rfl⟩)
        | (go_at_call 16; (with_reducible refine (HPi.out _ (by (repeat (first | with_reducible exact Below.refl _ _ | (with_reducible refine Below.alloc ?_ (by first | omega | (simp [go_sem] <;> omega)) _) | (with_reducible refine Below.drew ?_) | (with_reducible refine Below.drewN ?_ _) | (with_reducible refine Below.grow ?_ (by first | omega | (simp [go_sem] <;> omega)) _) | (with_reducible refine Below.setCell ?_ (by first | omega | (simp [go_sem] <;> omega)) _))); done)).mono ?_); rintro e W1 ⟨A1, c1, rfl, hb1, hA1, hc1, hr1⟩; have HB1 := Lib.hid (below_next (show Below w.heap.size w _ from (by (repeat (first | with_reducible exact Below.refl _ _ | (with_reducible refine Below.alloc ?_ (by first | omega | (simp [go_sem] <;> omega)) _) | (with_reducible refine Below.drew ?_) | (with_reducible refine Below.drewN ?_ _) | (with_reducible refine Below.grow ?_ (by first | omega | (simp [go_sem] <;> omega)) _) | (with_reducible refine Below.setCell ?_ (by first | omega | (simp [go_sem] <;> omega)) _))); done)) hb1); have HV := Lib.hid (HV1.out W1 HB1.out A1 c1 hA1 hr1); clear hb1 hA1 hr1)
        | (go_at_call 11; (with_reducible refine HV.out.mono ?_); rintro e W2 ⟨A2, c2, rfl, hb2, _, _, _⟩; have HB2 := Lib.hid (below_next HB1.out hb2); clear hb2)
        | (go_at_call 20; (with_reducible refine (HRm.out _ HB2.out).mono ?_); rintro e w' ⟨rfl, X3, rfl⟩)
        | (go_at_call 20; (with_reducible refine (HRn2.out _).mono ?_); rintro e w' ⟨rfl, X4, rfl⟩))
      go_ret
      exact Ret.of rfl (below_next HB2.out (by repeat (first | with_reducible exact Below.refl _ _ | (with_reducible refine Below.alloc ?_ (by first | omega | (simp [go_sem] <;> omega)) _) | (with_reducible refine Below.drew ?_) | (with_reducible refine Below.drewN ?_ _) | (with_reducible refine Below.grow ?_ (by first | omega | (simp [go_sem] <;> omega)) _) | (with_reducible refine Below.setCell ?_ (by first | omega | (simp [go_sem] <;> omega)) _))))
    · have HSt := Lib.hid (fun W (A : Option Addr) (c : Nat) (hrd : Rd W (.slice A a.length c) a.length 4 (cssCells a)) (hc : a.length ≤ c) => show Calls Tryz.prog 14 #[.slice A a.length c] W (fun e w' => ∃ b cap, e = .returned (.tuple #[.slice b ns.length cap, .bool true]) ∧ Below W.heap.size W w' ∧ Sl w' (.slice b ns.length cap) ns) from by
        have h8 := (steps_any A a.length c a W hrd hc (fun z hz => (has z hz).1) (by omega)).mono fun _ _ h => RetT.abs h
        rw [hst] at h8; exact h8)
      have b1 : (1 : Int) < a.length := by omega
      clear hr HPi0 HRun0 h9 hv HV0 hps hpl hrun hpqr has hal h1 hst
      generalize piecesT m = P at *
      go_enter Tryz.func7, Tryz.ntmps7
      go_wp2_with (first
      | (go_at_call 9; refine (awake16_any _ HTB.out HMX.out).mono ?_; rintro e w' ⟨rfl, A0, rfl⟩)
        | (go_at_call 16; (with_reducible refine (HPi.out _ (by (repeat (first | with_reducible exact Below.refl _ _ | (with_reducible refine Below.alloc ?_ (by first | omega | (simp [go_sem] <;> omega)) _) | (with_reducible refine Below.drew ?_) | (with_reducible refine Below.drewN ?_ _) | (with_reducible refine Below.grow ?_ (by first | omega | (simp [go_sem] <;> omega)) _) | (with_reducible refine Below.setCell ?_ (by first | omega | (simp [go_sem] <;> omega)) _))); done)).mono ?_); rintro e W1 ⟨A1, c1, rfl, hb1, hA1, hc1, hr1⟩; have HB1 := Lib.hid (below_next (show Below w.heap.size w _ from (by (repeat (first | with_reducible exact Below.refl _ _ | (with_reducible refine Below.alloc ?_ (by first | omega | (simp [go_sem] <;> omega)) _) | (with_reducible refine Below.drew ?_) | (with_reducible refine Below.drewN ?_ _) | (with_reducible refine Below.grow ?_ (by first | omega | (simp [go_sem] <;> omega)) _) | (with_reducible refine Below.setCell ?_ (by first | omega | (simp [go_sem] <;> omega)) _))); done)) hb1); have HV := Lib.hid (HV1.out W1 HB1.out A1 c1 hA1 hr1); clear hb1 hA1 hr1)
        | (go_at_call 11; (with_reducible refine HV.out.mono ?_); rintro e W2 ⟨A2, c2, rfl, hb2, _, hc2, hr2⟩; have HB2 := Lib.hid (below_next HB1.out hb2); have HS3 := Lib.hid (HSt.out W2 A2 c2 hr2 hc2); clear hb2 hr2)
        | (go_at_call 14; (with_reducible refine HS3.out.mono ?_); rintro e W3 ⟨b3, cap3, rfl, hb3, hs3⟩; have HB3 := Lib.hid (below_next HB2.out hb3); have HS4 := Lib.hid (fun X => HRn.out _ _ (hs3.grow X)); clear hb3 hs3)
        | (go_at_call 20; (with_reducible refine (HRm.out _ HB3.out).mono ?_); rintro e w' ⟨rfl, X3, rfl⟩)
        | (go_at_call 20; (with_reducible refine (HS4.out _).mono ?_); rintro e w' ⟨rfl, X4, rfl⟩))
      go_ret
      exact Ret.of rfl (below_next HB3.out (by repeat (first | with_reducible exact Below.refl _ _ | (with_reducible refine Below.alloc ?_ (by first | omega | (simp [go_sem] <;> omega)) _) | (with_reducible refine Below.drew ?_) | (with_reducible refine Below.drewN ?_ _) | (with_reducible refine Below.grow ?_ (by first | omega | (simp [go_sem] <;> omega)) _) | (with_reducible refine Below.setCell ?_ (by first | omega | (simp [go_sem] <;> omega)) _))))

set_option maxRecDepth 100000 in
theorem lifted (os : Os) (started : os.Started) (H : Type) (enc : TypeId × Value → H) :
    ReturnsInHanded {} Tryz.checked os 7 .any (fun w args => (Rows.cssvalMovesSpec.pre enc Tryz.prog Tryz.f7 Rows.cssvalMovesRow.domain false w args ∧ laidMetH Tryz.prog Rows.cssvalMovesRow.laid w) ∧ sizedMet enc Tryz.prog Tryz.f7 (OpenSpec.ofChange Rows.cssvalMovesSpec) false w args) (Rows.cssvalMovesSpec.post enc Tryz.prog Tryz.f7 false true false false) := by
  refine handed_shape (C := Tryz.checked) (X := fun w _ => laidMetH Tryz.prog Rows.cssvalMovesRow.laid w) (fun _ _ _ hh h => h.of_heap hh) own started (by kernel_rfl) Tryz.func7
    (ChangeSpec.witness_shaped (enc := enc) (C := Tryz.checked) (os := os) (X := fun w _ => laidMetH Tryz.prog Rows.cssvalMovesRow.laid w) false (World.laidAll Tryz.prog os Rows.cssvalMovesRow.laid) #[.slice none 0 0, .int .i64 0, .int .i64 0] 8 (World.laidAll_os _ _ _)
      (World.shaped_of_ZipB (by kernel_rfl) (by kernel_rfl)) (by kernel_rfl) (by kernel_rfl) (by kernel_rfl)
      (by rw [MakeChecks.laidMetH_plain _ _ _ (by kernel_rfl)]; exact laidMet_laidAll _ (by kernel_rfl) (by kernel_rfl))) ?_
  intro W base args ds gs before hval0 hW hL hsh
  have hval : ∀ (j : Nat) t v, Tryz.f7.params[j]? = some t → args[j]? = some v → Value.okWide Tryz.prog W .any base t v := hval0
  have hW' := hW
  obtain ⟨p, q, hA0, hV, rfl, hfz, hnd⟩ := hW
  have hA : DataW.TrodAll enc Tryz.prog W 0 (fun _ => true) true Tryz.f7.params.toList args.toList ds p := hA0
  rw [Tryz.params7] at hA hval
  obtain ⟨v0, vs0, d0, ds0, p0, q0, hargs, rfl, rfl, h0, r0⟩ := trodAll_cons hA
  obtain ⟨v1, vs1, d1, ds1, p1, q1, rfl, rfl, rfl, h1, r1⟩ := trodAll_cons r0
  obtain ⟨v2, vs2, d2, ds2, p2, q2, rfl, rfl, rfl, h2, r2⟩ := trodAll_cons r1
  obtain ⟨rfl, rfl, rfl⟩ := trodAll_nil r2
  obtain rfl : args = #[v0, v1, v2] := by cases args; simp_all
  obtain ⟨rfl, rfl⟩ := trodVars_none hV
  obtain ⟨a0, len0, cap0, rfl⟩ := okWide_slice Tryz.underlying29 (hval 0 29 v0 rfl rfl)
  have k0 := h0
  have lt0 : ∀ x ∈ p0, x.block < W.heap.size := by obtain ⟨m, hm⟩ := k0; exact DataW.trod_lt m _ _ _ hm
  obtain ⟨z0, e0, w0⟩ : ∃ l, l.length = len0 ∧ Sl W (.slice a0 len0 cap0) l := by obtain ⟨fuel, hf⟩ := h0; exact sl_open (by simpa [Value.cells] using hf)
  obtain ⟨a1, rfl, rfl, rfl, w1⟩ := open_int Tryz.underlying3 (hval 1 3 v1 rfl rfl) h1
  obtain ⟨a2, rfl, rfl, rfl, w2⟩ := open_int Tryz.underlying3 (hval 2 3 v2 rfl rfl) h2
  clear hA0 hval0
  refine (walk (.slice a0 len0 cap0) z0 a1 a2 W (tb_laid hL (by rfl)) (mx_shape hsh) w0 w1 w2).mono fun e W' hend => ?_
  obtain ⟨he, X, hX⟩ := hend
  have bel : Below W.heap.size W W' := by rw [hX]; exact below_grow W X
  subst he
  exact ⟨_, rfl, _, _, _, [], _, [], hW', trodAll_mk1 (shut_bool Tryz.underlying4 _), (trodAll_cons_mk (Below.trod laidOut (by kernel_rfl) (of_decide_eq_true (by kernel_rfl)) k0 bel lt0) (trodAll_cons_mk (shut_int Tryz.underlying3 w1) (trodAll_cons_mk (shut_int Tryz.underlying3 w2) trodAll_mk0))), rfl, bel.frame _, fun h => by cases h⟩

theorem over : Rows.cssvalMovesRow.holds Tryz.pinned (OpenSpec.ofChange Rows.cssvalMovesSpec) :=
  OpenClaim.holds_of_wide 7 Tryz.f7 rfl rfl rfl rfl rfl rfl rfl ⟨rfl, rfl, rfl, rfl, rfl⟩ rfl rfl rfl rfl rfl (by kernel_rfl) Tryz.func7 (by kernel_rfl)
    (of_decide_eq_true (by kernel_rfl)) (by unfold Func.isWrapper; rw [if_neg (of_decide_eq_false (by kernel_rfl))]; exact ⟨rfl, rfl⟩)
    (fun os started H enc _ => lifted os started H enc)

/-- The statement. -/
theorem proved : Rows.CssvalMovesCardSaid :=
  Claim7.holds_tied_plain_at .later [] [.data, .data, .data, .data, .pinned] true _ false over (fun _ h => by cases h) (by kernel_rfl) (fun _ h => by cases h) cssvalMoves_row_tie rfl ⟨rfl, rfl⟩ (by kernel_rfl) rfl
    (fun f fn hf hfn => by
      obtain rfl : f = 7 := Option.some.inj ((show Tryz.prog.funcNamed "cribble/cribblelaw16.CssvalMoves" = some 7 by kernel_rfl).symm.trans hf) |>.symm
      obtain rfl : fn = Tryz.f7 := (Option.some.inj (Tryz.func7.symm.trans hfn)).symm
      exact ⟨by kernel_rfl, fun j t ht => by
        rw [Tryz.params7] at ht
        have hm : t ∈ [29, 3, 3] := by simpa using Array.mem_of_getElem? ht
        have hall : ([29, 3, 3].all fun u => !Tryz.prog.wantsStandIn u) = true := by kernel_rfl
        exact (show Tryz.prog.wantsStandIn t = false by simpa using List.all_eq_true.1 hall t hm)⟩)
    (by kernel_rfl)

end Go.Proofs.YtgcccpdadponiaaGreatDoor.cssvalMoves
