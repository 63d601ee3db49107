/- Any policy made neat is what the reference makes of it, and whether it may be is as the reference says: PolicyNeats returns true. Condition: what comes in is of bulk at most 1048576 (the statement's own second form). -/
import Derived.ProofKit
import Derived.ChangeSame
import Derived.ChangeAt
import Derived.SizedLaws
import Derived.OpenShut
import Derived.ShutString
import Derived.ChangeOld
import Derived.JoinedCond
import Derived.Test.YtenjnliceeejlaaRows
import Derived.Test.YtenjnliceeejlaaRiE
import Derived.Test.YtenjnliceeejlaaRG
namespace Go.Proofs.Ytenjnliceeejlaa.policyNeats
open Go.ChangeShapes Go.WideShapes Go.ChangeAt Go.RowKit
open Go.ChangeMaps (open_string shut_string)

theorem own : ownKnob Try.prog.godebug = none := by kernel_rfl
theorem laidOut : laidOutB Try.prog = true := by kernel_rfl

attribute [local go_sem] Oper.semAt_some

set_option maxRecDepth 100000 in
set_option maxHeartbeats 4000000 in
theorem walk (v : Value) (p : Pol) (w : World) (h : PolV w (fun _ => False) v p) (hk : PolBk p 1048576) : Calls Try.prog 3 #[v] w (Ret (.bool true) w) := by
  have hmx : Try.prog.follows .mixedOrders = true := by kernel_rfl
  have HV := Lib.hid h
  have HSm := Lib.hid hk.sm
  have HTx := Lib.hid hk.tx
  have HF := Lib.hid (fun W (hb : Below w.heap.size w W) => rfew_any v p W (h.below hb) hk)
  obtain ⟨v0, v1, v2, v3, v4, v5, rfl, ⟨A0, k0, rfl, _⟩, ⟨A1, k1, rfl, _⟩, ⟨A2, k2, rfl, _⟩, ⟨A3, k3, rfl, _⟩, ⟨A4, k4, rfl, _⟩, ⟨A5, k5, rfl, _⟩⟩ := h
  clear hk
  obtain ⟨f, hf⟩ : ∃ f, fewP p = f := ⟨_, rfl⟩
  rw [hf] at HF
  clear hf
  go_enter Try.func3, Try.ntmps3
  go_upto_region 1 with fail
  refine name_world fun W0 hW0 => ?_
  obtain ⟨B, hB⟩ : ∃ B, w.heap.size = B := ⟨_, rfl⟩
  rw [hB]
  have hb0 : Below w.heap.size w W0 := by rw [hW0]; exact (by repeat (first | with_reducible exact Below.refl _ _ | (with_reducible refine Below.alloc ?_ (by first | omega | (simp [go_sem] <;> omega)) _) | (with_reducible refine Below.drew ?_) | (with_reducible refine Below.drewN ?_ _) | (with_reducible refine Below.grow ?_ (by first | omega | (simp [go_sem] <;> omega)) _) | (with_reducible refine Below.setCell ?_ (by first | omega | (simp [go_sem] <;> omega)) _)))
  have c0 : W0.cell? ⟨B, 0, none⟩ = some (.slice A0 (fN p 0) k0) := by rw [hW0, ← hB]; simp [go_sem]
  have c1 : W0.cell? ⟨B, 1, none⟩ = some (.slice A1 (fN p 1) k1) := by rw [hW0, ← hB]; simp [go_sem]
  have c2 : W0.cell? ⟨B, 2, none⟩ = some (.slice A2 (fN p 2) k2) := by rw [hW0, ← hB]; simp [go_sem]
  have c3 : W0.cell? ⟨B, 3, none⟩ = some (.slice A3 (fN p 3) k3) := by rw [hW0, ← hB]; simp [go_sem]
  have c4 : W0.cell? ⟨B, 4, none⟩ = some (.slice A4 (fN p 4) k4) := by rw [hW0, ← hB]; simp [go_sem]
  have c5 : W0.cell? ⟨B, 5, none⟩ = some (.slice A5 (fN p 5) k5) := by rw [hW0, ← hB]; simp [go_sem]
  have c6 : W0.cell? ⟨B, 6, none⟩ = some (.bool p.rel) := by rw [hW0, ← hB]; simp [go_sem]
  have c7 : W0.cell? ⟨B, 7, none⟩ = some (.int .i64 p.depth) := by rw [hW0, ← hB]; simp [go_sem]
  have c8 : W0.cell? ⟨B, 8, none⟩ = some (.int .i64 p.name) := by rw [hW0, ← hB]; simp [go_sem]
  have c9 : W0.cell? ⟨B, 9, none⟩ = some (.int .i64 p.value) := by rw [hW0, ← hB]; simp [go_sem]
  have hB0 : B < W0.heap.size := by rw [hW0, ← hB]; simp
  have HB0 := Lib.hid hb0
  clear hW0 hb0
  cases f with
  | false =>
    go_wp2_with (first | (go_at_call 7; (with_reducible refine (awake08_any _).mono ?_); rintro e Wa ⟨rfl, Xa, hXa⟩; have hba : Below W0.heap.size W0 Wa := (by rw [hXa]; exact (by repeat (first | with_reducible exact Below.refl _ _ | (with_reducible refine Below.alloc ?_ (by first | omega | (simp [go_sem] <;> omega)) _) | (with_reducible refine Below.drew ?_) | (with_reducible refine Below.drewN ?_ _) | (with_reducible refine Below.grow ?_ (by first | omega | (simp [go_sem] <;> omega)) _) | (with_reducible refine Below.setCell ?_ (by first | omega | (simp [go_sem] <;> omega)) _)))); have HBa := Lib.hid (HB0.out.trans (hba.mono HB0.out.size)); have e0 := (hba.cell (p := ⟨B, 0, none⟩) hB0).trans c0; have e1 := (hba.cell (p := ⟨B, 1, none⟩) hB0).trans c1; have e2 := (hba.cell (p := ⟨B, 2, none⟩) hB0).trans c2; have e3 := (hba.cell (p := ⟨B, 3, none⟩) hB0).trans c3; have e4 := (hba.cell (p := ⟨B, 4, none⟩) hB0).trans c4; have e5 := (hba.cell (p := ⟨B, 5, none⟩) hB0).trans c5; have e6 := (hba.cell (p := ⟨B, 6, none⟩) hB0).trans c6; have e7 := (hba.cell (p := ⟨B, 7, none⟩) hB0).trans c7; have e8 := (hba.cell (p := ⟨B, 8, none⟩) hB0).trans c8; have e9 := (hba.cell (p := ⟨B, 9, none⟩) hB0).trans c9; clear hXa hba) | (go_at_call 8; (with_reducible refine (HF.out _ HBa.out).mono ?_); rintro e Wb ⟨rfl, Xb, hXb⟩; have HBb := Lib.hid (HBa.out.trans ((show Below Wa.heap.size Wa Wb by rw [hXb]; exact (by repeat (first | with_reducible exact Below.refl _ _ | (with_reducible refine Below.alloc ?_ (by first | omega | (simp [go_sem] <;> omega)) _) | (with_reducible refine Below.drew ?_) | (with_reducible refine Below.drewN ?_ _) | (with_reducible refine Below.grow ?_ (by first | omega | (simp [go_sem] <;> omega)) _) | (with_reducible refine Below.setCell ?_ (by first | omega | (simp [go_sem] <;> omega)) _)))).mono HBa.out.size)); clear hXb))
    go_ret
    exact Ret.of rfl HBb.out
  | true =>
    go_upto_region 5 with (first | (go_at_call 7; (with_reducible refine (awake08_any _).mono ?_); rintro e Wa ⟨rfl, Xa, hXa⟩; have hba : Below W0.heap.size W0 Wa := (by rw [hXa]; exact (by repeat (first | with_reducible exact Below.refl _ _ | (with_reducible refine Below.alloc ?_ (by first | omega | (simp [go_sem] <;> omega)) _) | (with_reducible refine Below.drew ?_) | (with_reducible refine Below.drewN ?_ _) | (with_reducible refine Below.grow ?_ (by first | omega | (simp [go_sem] <;> omega)) _) | (with_reducible refine Below.setCell ?_ (by first | omega | (simp [go_sem] <;> omega)) _)))); have HBa := Lib.hid (HB0.out.trans (hba.mono HB0.out.size)); have HDa := Lib.hid hba; have e0 := (hba.cell (p := ⟨B, 0, none⟩) hB0).trans c0; have e1 := (hba.cell (p := ⟨B, 1, none⟩) hB0).trans c1; have e2 := (hba.cell (p := ⟨B, 2, none⟩) hB0).trans c2; have e3 := (hba.cell (p := ⟨B, 3, none⟩) hB0).trans c3; have e4 := (hba.cell (p := ⟨B, 4, none⟩) hB0).trans c4; have e5 := (hba.cell (p := ⟨B, 5, none⟩) hB0).trans c5; have e6 := (hba.cell (p := ⟨B, 6, none⟩) hB0).trans c6; have e7 := (hba.cell (p := ⟨B, 7, none⟩) hB0).trans c7; have e8 := (hba.cell (p := ⟨B, 8, none⟩) hB0).trans c8; have e9 := (hba.cell (p := ⟨B, 9, none⟩) hB0).trans c9; clear hXa hba) | (go_at_call 8; (with_reducible refine (HF.out _ HBa.out).mono ?_); rintro e Wb ⟨rfl, Xb, hXb⟩; have hbb : Below Wa.heap.size Wa Wb := (by rw [hXb]; exact (by repeat (first | with_reducible exact Below.refl _ _ | (with_reducible refine Below.alloc ?_ (by first | omega | (simp [go_sem] <;> omega)) _) | (with_reducible refine Below.drew ?_) | (with_reducible refine Below.drewN ?_ _) | (with_reducible refine Below.grow ?_ (by first | omega | (simp [go_sem] <;> omega)) _) | (with_reducible refine Below.setCell ?_ (by first | omega | (simp [go_sem] <;> omega)) _)))); have HBb := Lib.hid (HBa.out.trans (hbb.mono HBa.out.size)); have HDb := Lib.hid (HDa.out.trans (hbb.mono HDa.out.size)); clear hXb hbb))
    have hBl := hB0
    clear e0 e1 e2 e3 e4 e5 e6 e7 e8 e9
    have hS0 : Below W0.heap.size W0 Wb.drew := HDb.out.drew
    have HVB := Lib.hid (fun W (hb : Below w.heap.size w W) => HV.out.below hb)
    have HW := Lib.hid (fun W (hb : Below W0.heap.size W0 W) => show Below w.heap.size w W from HB0.out.trans (hb.mono HB0.out.size))
    refine wp_region_row 5 [(0, true), (2, true), (1, false), (3, false), (4, false)] (fun V => Below W0.heap.size W0 V) hmx (by kernel_rfl) (by kernel_rfl) (by kernel_rfl) (by decide) rfl (fun c a d v w h => by obtain ⟨x, y⟩ := (h : _ ∧ _); cases d <;> exact ⟨x, y⟩) (by kernel_rfl) (by exact hS0) ?_
    refine wpRow_readD (v := (.agg #[.slice A0 (fN p 0) k0, .slice A1 (fN p 1) k1, .slice A2 (fN p 2) k2, .slice A3 (fN p 3) k3, .slice A4 (fN p 4) k4, .slice A5 (fN p 5) k5, .bool p.rel, .int .i64 p.depth, .int .i64 p.name, .int .i64 p.value])) 16 rfl rfl rfl (fun W hW => by have d0 := (hW.cell (p := ⟨B, 0, none⟩) hBl).trans c0; have d1 := (hW.cell (p := ⟨B, 1, none⟩) hBl).trans c1; have d2 := (hW.cell (p := ⟨B, 2, none⟩) hBl).trans c2; have d3 := (hW.cell (p := ⟨B, 3, none⟩) hBl).trans c3; have d4 := (hW.cell (p := ⟨B, 4, none⟩) hBl).trans c4; have d5 := (hW.cell (p := ⟨B, 5, none⟩) hBl).trans c5; have d6 := (hW.cell (p := ⟨B, 6, none⟩) hBl).trans c6; have d7 := (hW.cell (p := ⟨B, 7, none⟩) hBl).trans c7; have d8 := (hW.cell (p := ⟨B, 8, none⟩) hBl).trans c8; have d9 := (hW.cell (p := ⟨B, 9, none⟩) hBl).trans c9; simp [execOp, go_sem, d0, d1, d2, d3, d4, d5, d6, d7, d8, d9]) ?_
    simp only [Act.put, List.setIfInBounds_toArray, List.set_cons_succ, List.set_cons_zero]
    refine wpRow_readD (v := (.agg #[.slice A0 (fN p 0) k0, .slice A1 (fN p 1) k1, .slice A2 (fN p 2) k2, .slice A3 (fN p 3) k3, .slice A4 (fN p 4) k4, .slice A5 (fN p 5) k5, .bool p.rel, .int .i64 p.depth, .int .i64 p.name, .int .i64 p.value])) 18 rfl rfl rfl (fun W hW => by have d0 := (hW.cell (p := ⟨B, 0, none⟩) hBl).trans c0; have d1 := (hW.cell (p := ⟨B, 1, none⟩) hBl).trans c1; have d2 := (hW.cell (p := ⟨B, 2, none⟩) hBl).trans c2; have d3 := (hW.cell (p := ⟨B, 3, none⟩) hBl).trans c3; have d4 := (hW.cell (p := ⟨B, 4, none⟩) hBl).trans c4; have d5 := (hW.cell (p := ⟨B, 5, none⟩) hBl).trans c5; have d6 := (hW.cell (p := ⟨B, 6, none⟩) hBl).trans c6; have d7 := (hW.cell (p := ⟨B, 7, none⟩) hBl).trans c7; have d8 := (hW.cell (p := ⟨B, 8, none⟩) hBl).trans c8; have d9 := (hW.cell (p := ⟨B, 9, none⟩) hBl).trans c9; simp [execOp, go_sem, d0, d1, d2, d3, d4, d5, d6, d7, d8, d9]) ?_
    simp only [Act.put, List.setIfInBounds_toArray, List.set_cons_succ, List.set_cons_zero]
    refine wpRow_op rfl rfl fun Kc hKc => ?_
    unfold Oper.wp
    simp [execOp, go_sem]
    refine (neat_any _ p _ (HVB.out _ (HW.out _ hS0)) HSm.out).mono ?_
    rintro e Wk1 ⟨vn, rfl, hb1, hv1⟩; have hk1 : Below W0.heap.size W0 Wk1 := hS0.trans (hb1.mono hS0.size)
    show Kc _ _
    apply hKc
    refine ⟨hk1, ?_⟩
    refine wpRow_op rfl rfl fun Kc hKc => ?_
    unfold Oper.wp
    simp [execOp, go_sem]
    refine (rneat_any _ p _ (HVB.out _ (HW.out _ hk1)) HSm.out).mono ?_
    rintro e Wk2 ⟨vm, rfl, hb2, hv2⟩; have hk2 : Below W0.heap.size W0 Wk2 := hk1.trans (hb2.mono hk1.size)
    show Kc _ _
    apply hKc
    refine ⟨hk2, ?_⟩
    refine wpRow_op rfl rfl fun Kc hKc => ?_
    unfold Oper.wp
    simp [execOp, go_sem]
    refine (rsame_any vn vm (neatP p) (neatP p) _ _ _ (hv1.below hb2) hv2 HSm.out.neat HSm.out.neat).mono ?_
    rintro e Wk3 ⟨rfl, Xk3, hXk3⟩; have hk3 : Below W0.heap.size W0 Wk3 := hk2.trans ((show Below Wk2.heap.size Wk2 Wk3 by rw [hXk3]; exact (by repeat (first | with_reducible exact Below.refl _ _ | (with_reducible refine Below.alloc ?_ (by first | omega | (simp [go_sem] <;> omega)) _) | (with_reducible refine Below.drew ?_) | (with_reducible refine Below.drewN ?_ _) | (with_reducible refine Below.grow ?_ (by first | omega | (simp [go_sem] <;> omega)) _) | (with_reducible refine Below.setCell ?_ (by first | omega | (simp [go_sem] <;> omega)) _)))).mono hk2.size); clear hXk3
    show Kc _ _
    apply hKc
    refine ⟨hk3, ?_⟩
    dsimp only [wpRow, List.drop]
    simp only [decide_true]
    go_upto_region 6 with fail
    have hS6 : Below W0.heap.size W0 Wk3.drew := hk3.drew
    refine wp_region_row 8 [(0, true), (1, true), (2, true), (4, true), (3, false), (5, false), (6, true), (7, true)] (fun V => Below W0.heap.size W0 V) hmx (by kernel_rfl) (by kernel_rfl) (by kernel_rfl) (by decide) rfl (fun c a d v w h => by obtain ⟨x, y⟩ := (h : _ ∧ _); cases d <;> exact ⟨x, y⟩) (by kernel_rfl) (by exact hS6) ?_
    refine wpRow_readD (v := .bool true) 21 rfl rfl rfl (fun W hW => by simp [execOp, go_sem]) ?_
    simp only [Act.put, List.setIfInBounds_toArray, List.set_cons_succ, List.set_cons_zero]
    refine wpRow_readD (v := .bool true) 22 rfl rfl rfl (fun W hW => by simp [execOp, go_sem]) ?_
    simp only [Act.put, List.setIfInBounds_toArray, List.set_cons_succ, List.set_cons_zero]
    refine wpRow_readD (v := (.agg #[.slice A0 (fN p 0) k0, .slice A1 (fN p 1) k1, .slice A2 (fN p 2) k2, .slice A3 (fN p 3) k3, .slice A4 (fN p 4) k4, .slice A5 (fN p 5) k5, .bool p.rel, .int .i64 p.depth, .int .i64 p.name, .int .i64 p.value])) 23 rfl rfl rfl (fun W hW => by have d0 := (hW.cell (p := ⟨B, 0, none⟩) hBl).trans c0; have d1 := (hW.cell (p := ⟨B, 1, none⟩) hBl).trans c1; have d2 := (hW.cell (p := ⟨B, 2, none⟩) hBl).trans c2; have d3 := (hW.cell (p := ⟨B, 3, none⟩) hBl).trans c3; have d4 := (hW.cell (p := ⟨B, 4, none⟩) hBl).trans c4; have d5 := (hW.cell (p := ⟨B, 5, none⟩) hBl).trans c5; have d6 := (hW.cell (p := ⟨B, 6, none⟩) hBl).trans c6; have d7 := (hW.cell (p := ⟨B, 7, none⟩) hBl).trans c7; have d8 := (hW.cell (p := ⟨B, 8, none⟩) hBl).trans c8; have d9 := (hW.cell (p := ⟨B, 9, none⟩) hBl).trans c9; simp [execOp, go_sem, d0, d1, d2, d3, d4, d5, d6, d7, d8, d9]) ?_
    simp only [Act.put, List.setIfInBounds_toArray, List.set_cons_succ, List.set_cons_zero]
    refine wpRow_readD (v := (.agg #[.slice A0 (fN p 0) k0, .slice A1 (fN p 1) k1, .slice A2 (fN p 2) k2, .slice A3 (fN p 3) k3, .slice A4 (fN p 4) k4, .slice A5 (fN p 5) k5, .bool p.rel, .int .i64 p.depth, .int .i64 p.name, .int .i64 p.value])) 25 rfl rfl rfl (fun W hW => by have d0 := (hW.cell (p := ⟨B, 0, none⟩) hBl).trans c0; have d1 := (hW.cell (p := ⟨B, 1, none⟩) hBl).trans c1; have d2 := (hW.cell (p := ⟨B, 2, none⟩) hBl).trans c2; have d3 := (hW.cell (p := ⟨B, 3, none⟩) hBl).trans c3; have d4 := (hW.cell (p := ⟨B, 4, none⟩) hBl).trans c4; have d5 := (hW.cell (p := ⟨B, 5, none⟩) hBl).trans c5; have d6 := (hW.cell (p := ⟨B, 6, none⟩) hBl).trans c6; have d7 := (hW.cell (p := ⟨B, 7, none⟩) hBl).trans c7; have d8 := (hW.cell (p := ⟨B, 8, none⟩) hBl).trans c8; have d9 := (hW.cell (p := ⟨B, 9, none⟩) hBl).trans c9; simp [execOp, go_sem, d0, d1, d2, d3, d4, d5, d6, d7, d8, d9]) ?_
    simp only [Act.put, List.setIfInBounds_toArray, List.set_cons_succ, List.set_cons_zero]
    refine wpRow_op rfl rfl fun Kc hKc => ?_
    unfold Oper.wp
    simp [execOp, go_sem]
    refine (right_any _ p _ (HVB.out _ (HW.out _ hS6)) HSm.out HTx.out).mono ?_
    rintro e Wk4 ⟨rfl, Xk4, hXk4⟩; have hk4 : Below W0.heap.size W0 Wk4 := hS6.trans ((show Below Wk3.drew.heap.size Wk3.drew Wk4 by rw [hXk4]; exact (by repeat (first | with_reducible exact Below.refl _ _ | (with_reducible refine Below.alloc ?_ (by first | omega | (simp [go_sem] <;> omega)) _) | (with_reducible refine Below.drew ?_) | (with_reducible refine Below.drewN ?_ _) | (with_reducible refine Below.grow ?_ (by first | omega | (simp [go_sem] <;> omega)) _) | (with_reducible refine Below.setCell ?_ (by first | omega | (simp [go_sem] <;> omega)) _)))).mono hS6.size); clear hXk4
    show Kc _ _
    apply hKc
    refine ⟨hk4, ?_⟩
    refine wpRow_op rfl rfl fun Kc hKc => ?_
    unfold Oper.wp
    simp [execOp, go_sem]
    refine (rright_any _ p _ (HVB.out _ (HW.out _ hk4)) HSm.out HTx.out).mono ?_
    rintro e Wk5 ⟨rfl, Xk5, hXk5⟩; have hk5 : Below W0.heap.size W0 Wk5 := hk4.trans ((show Below Wk4.heap.size Wk4 Wk5 by rw [hXk5]; exact (by repeat (first | with_reducible exact Below.refl _ _ | (with_reducible refine Below.alloc ?_ (by first | omega | (simp [go_sem] <;> omega)) _) | (with_reducible refine Below.drew ?_) | (with_reducible refine Below.drewN ?_ _) | (with_reducible refine Below.grow ?_ (by first | omega | (simp [go_sem] <;> omega)) _) | (with_reducible refine Below.setCell ?_ (by first | omega | (simp [go_sem] <;> omega)) _)))).mono hk4.size); clear hXk5
    show Kc _ _
    apply hKc
    refine ⟨hk5, ?_⟩
    refine wpRow_readD (v := .bool true) 27 rfl rfl rfl (fun W hW => by cases rightP p <;> simp [execOp, go_sem]) ?_
    simp only [Act.put, List.setIfInBounds_toArray, List.set_cons_succ, List.set_cons_zero]
    refine wpRow_readD (v := .bool true) 28 rfl rfl rfl (fun W hW => by simp [execOp, go_sem]) ?_
    simp only [Act.put, List.setIfInBounds_toArray, List.set_cons_succ, List.set_cons_zero]
    dsimp only [wpRow, List.drop]
    go_wp2_with fail
    go_ret
    exact Ret.of (by cases rightP p <;> rfl) (HW.out _ hk5)

set_option maxRecDepth 100000 in
theorem lifted (os : Os) (started : os.Started) (H : Type) (enc : TypeId × Value → H) (F : Stop.Interp) :
    ReturnsInHanded {} Try.checked os 3 .any ((Rows.OpenSpec.upto Rows.policyNeatsSpec).pre6 enc Try.prog Try.f3 Rows.policyNeatsUptoRow.domain false) (((Rows.OpenSpec.upto Rows.policyNeatsSpec).at F).post enc Try.prog Try.f3 false true false false) := by
  refine returnsInHanded_of_cond (C := Try.checked) (s := Rows.OpenSpec.upto Rows.policyNeatsSpec) (k := Rows.uptoSmall) rfl own started (by kernel_rfl) Try.func3
    (OpenSpec.witness (enc := enc) (C := Try.checked) (s := Rows.OpenSpec.upto Rows.policyNeatsSpec) (k := Rows.uptoSmall) rfl false ⟨#[], #[.agg #[.slice none 0 0, .slice none 0 0, .slice none 0 0, .slice none 0 0, .slice none 0 0, .slice none 0 0, .bool false, .int .i64 0, .int .i64 0, .int .i64 0]], []⟩ 8 (by kernel_rfl) (by kernel_rfl) (by kernel_rfl) (x := ([.agg [.nil, .nil, .nil, .nil, .nil, .nil, .lit (.bool false), .lit (.int .i64 0), .lit (.int .i64 0), .lit (.int .i64 0)]], [], [])) (by kernel_rfl) rfl (by kernel_rfl)) ?_
  intro W base args ds gs before hval0 hW _ hk0 _
  show Calls Try.prog 3 args W fun e W' => ∃ v, e = .returned v ∧ Rows.policyNeatsSpec.post enc Try.prog Try.f3 false true false false W args v W'
  have hval : ∀ (j : Nat) t v, Try.f3.params[j]? = some t → args[j]? = some v → Value.okWide Try.prog W .any base t v := hval0
  have hW' := hW
  obtain ⟨p, q, hA0, hV, rfl, hfz, hnd⟩ := hW
  have hA : DataW.TrodAll enc Try.prog W 0 (fun _ => true) true Try.f3.params.toList args.toList ds p := hA0
  rw [Try.params3] at hA hval
  obtain ⟨v0, vs0, d0, ds0, p0, q0, hargs, rfl, rfl, h0, r0⟩ := trodAll_cons hA
  obtain ⟨rfl, rfl, rfl⟩ := trodAll_nil r0
  obtain rfl : args = #[v0] := by cases args; simp_all
  obtain ⟨rfl, rfl⟩ := trodVars_none hV
  obtain ⟨c0, rfl, _⟩ := okWide_struct Try.underlying26 (hval 0 26 v0 rfl rfl)
  have k0 := h0
  have lt0 : ∀ x ∈ p0, x.block < W.heap.size := by obtain ⟨m, hm⟩ := k0; exact DataW.trod_lt m _ _ _ hm
  obtain ⟨z0, w0, b0⟩ : ∃ z : Pol, PolV W (fun _ => False) (.agg c0) z ∧ PolBk z (Rows.uptoBulk d0) := by obtain ⟨fuel, hf⟩ := h0; have h9 := pol_open (x := (d0, p0)) (show DataW.trod enc Try.prog W 0 (fun _ => true) true fuel 26 c0.toList = some (d0, p0) by simpa [Value.cells] using hf); simpa using h9
  have hk := bulks.bound hk0
  clear hA0 hval0 hk0
  refine (walk (.agg c0) z0 W w0 (b0.mono (by simp only [List.append_nil, Rows.uptoBulkAll] at hk; omega))).mono fun e W' hend => ?_
  obtain ⟨he, X, hX⟩ := hend
  have bel : Below W.heap.size W W' := by rw [hX]; exact below_grow W X
  subst he
  exact ⟨_, rfl, _, _, _, [], _, [], hW', trodAll_mk1 (shut_bool Try.underlying4 _), (trodAll_cons_mk (Below.trod laidOut (by kernel_rfl) (of_decide_eq_true (by kernel_rfl)) k0 bel lt0) trodAll_mk0), rfl, bel.frame _, fun h => by cases h⟩

/-- The statement. -/
theorem proved : Rows.PolicyNeatsUptoSaid :=
  OpenClaim.holds_of_cond 3 Try.f3 rfl rfl rfl rfl rfl rfl rfl ⟨rfl, rfl, rfl, rfl, rfl⟩ rfl rfl rfl rfl rfl (by kernel_rfl) Try.func3 (by kernel_rfl)
    (of_decide_eq_true (by kernel_rfl)) (by unfold Func.isWrapper; first | (rw [if_pos (by decide +kernel)]; kernel_rfl) | (rw [if_neg (by decide +kernel)]; exact ⟨rfl, rfl⟩))
    (fun os started H enc _ F => lifted os started H enc F)

end Go.Proofs.Ytenjnliceeejlaa.policyNeats
