/- What is parsed may be, and is neat; what is neat stays so; an error tells a place in the text, and no policy: PolicyRight returns true. Condition: what comes in is of bulk at most 1048576 (the statement's own second form). -/
import Derived.ProofKit
import Derived.ChangeSame
import Derived.ChangeAt
import Derived.SizedLaws
import Derived.OpenShut
import Derived.ShutString
import Derived.ChangeOld
import Derived.JoinedCond
import Derived.Test.YtenjnliceeejlaaRows
import Derived.Test.YtenjnliceeejlaaRiE
import Derived.Test.YtenjnliceeejlaaRG
namespace Go.Proofs.Ytenjnliceeejlaa.policyRight
open Go.ChangeShapes Go.WideShapes Go.ChangeAt Go.RowKit
open Go.ChangeMaps (open_string shut_string)

theorem own : ownKnob Try.prog.godebug = none := by kernel_rfl
theorem laidOut : laidOutB Try.prog = true := by kernel_rfl

attribute [local go_sem] Oper.semAt_some

set_option maxRecDepth 100000 in
set_option maxHeartbeats 8000000 in
theorem walk (s : ByteArray) (v : Value) (p : Pol) (w : World) (_hm : s.size ≤ maxLen) (h : PolV w (fun _ => False) v p) (hk : PolBk p 1048576) : Calls Try.prog 4 #[.string s, v] w (Ret (.bool true) w) := by
  have hmx : Try.prog.follows .mixedOrders = true := by kernel_rfl
  have HV := Lib.hid h
  have HSm := Lib.hid hk.sm
  have HF := Lib.hid (fun W (hb : Below w.heap.size w W) => rfew_any v p W (h.below hb) hk)
  obtain ⟨a, c, P, hpg⟩ := parse_gen s.data.toList
  have hsz : s.data.toList.length = s.size := by rw [Array.length_toList]; rfl
  have HPa := Lib.hid (fun W => show Calls Try.prog 14 #[.string s] W _ from hpg.run W)
  have HPbk := Lib.hid hpg.bk
  have HSays : Hid ((c = 0 ∧ a = 0 ∧ rightP P = true) ∨ (c ≠ 0 ∧ P = polZ ∧ a ≤ s.size)) := by
    show _ ∨ _
    rcases hpg.says with ⟨h1, h2, h3⟩ | ⟨h1, h2, h3, _⟩
    · exact .inl ⟨h1, h2, parse_right h3⟩
    · exact .inr ⟨h1, h2, by omega⟩
  obtain ⟨v0, v1, v2, v3, v4, v5, rfl, ⟨A0, k0, rfl, _⟩, ⟨A1, k1, rfl, _⟩, ⟨A2, k2, rfl, _⟩, ⟨A3, k3, rfl, _⟩, ⟨A4, k4, rfl, _⟩, ⟨A5, k5, rfl, _⟩⟩ := h
  clear hk hpg hsz _hm
  obtain ⟨f, hf⟩ : ∃ f, fewP p = f := ⟨_, rfl⟩
  rw [hf] at HF
  clear hf
  go_enter Try.func4, Try.ntmps4
  go_upto_region 1 with fail
  refine name_world fun W0 hW0 => ?_
  obtain ⟨B, hB⟩ : ∃ B, w.heap.size = B := ⟨_, rfl⟩
  rw [hB]
  have hb0 : Below w.heap.size w W0 := by rw [hW0]; exact (by repeat (first | with_reducible exact Below.refl _ _ | (with_reducible refine Below.alloc ?_ (by first | omega | (simp [go_sem] <;> omega)) _) | (with_reducible refine Below.drew ?_) | (with_reducible refine Below.drewN ?_ _) | (with_reducible refine Below.grow ?_ (by first | omega | (simp [go_sem] <;> omega)) _) | (with_reducible refine Below.setCell ?_ (by first | omega | (simp [go_sem] <;> omega)) _)))
  have c0 : W0.cell? ⟨B, 0, none⟩ = some (.slice A0 (fN p 0) k0) := by rw [hW0, ← hB]; simp [go_sem]
  have c1 : W0.cell? ⟨B, 1, none⟩ = some (.slice A1 (fN p 1) k1) := by rw [hW0, ← hB]; simp [go_sem]
  have c2 : W0.cell? ⟨B, 2, none⟩ = some (.slice A2 (fN p 2) k2) := by rw [hW0, ← hB]; simp [go_sem]
  have c3 : W0.cell? ⟨B, 3, none⟩ = some (.slice A3 (fN p 3) k3) := by rw [hW0, ← hB]; simp [go_sem]
  have c4 : W0.cell? ⟨B, 4, none⟩ = some (.slice A4 (fN p 4) k4) := by rw [hW0, ← hB]; simp [go_sem]
  have c5 : W0.cell? ⟨B, 5, none⟩ = some (.slice A5 (fN p 5) k5) := by rw [hW0, ← hB]; simp [go_sem]
  have c6 : W0.cell? ⟨B, 6, none⟩ = some (.bool p.rel) := by rw [hW0, ← hB]; simp [go_sem]
  have c7 : W0.cell? ⟨B, 7, none⟩ = some (.int .i64 p.depth) := by rw [hW0, ← hB]; simp [go_sem]
  have c8 : W0.cell? ⟨B, 8, none⟩ = some (.int .i64 p.name) := by rw [hW0, ← hB]; simp [go_sem]
  have c9 : W0.cell? ⟨B, 9, none⟩ = some (.int .i64 p.value) := by rw [hW0, ← hB]; simp [go_sem]
  have hB0 : B < W0.heap.size := by rw [hW0, ← hB]; simp
  have HB0 := Lib.hid hb0
  clear hW0 hb0
  cases f with
  | false =>
    go_wp2_with (first | (go_at_call 7; (with_reducible refine (awake08_any _).mono ?_); rintro e Wa ⟨rfl, Xa, hXa⟩; have hba : Below W0.heap.size W0 Wa := (by rw [hXa]; exact (by repeat (first | with_reducible exact Below.refl _ _ | (with_reducible refine Below.alloc ?_ (by first | omega | (simp [go_sem] <;> omega)) _) | (with_reducible refine Below.drew ?_) | (with_reducible refine Below.drewN ?_ _) | (with_reducible refine Below.grow ?_ (by first | omega | (simp [go_sem] <;> omega)) _) | (with_reducible refine Below.setCell ?_ (by first | omega | (simp [go_sem] <;> omega)) _)))); have HBa := Lib.hid (HB0.out.trans (hba.mono HB0.out.size)); have HDa := Lib.hid hba; have e0 := (hba.cell (p := ⟨B, 0, none⟩) hB0).trans c0; have e1 := (hba.cell (p := ⟨B, 1, none⟩) hB0).trans c1; have e2 := (hba.cell (p := ⟨B, 2, none⟩) hB0).trans c2; have e3 := (hba.cell (p := ⟨B, 3, none⟩) hB0).trans c3; have e4 := (hba.cell (p := ⟨B, 4, none⟩) hB0).trans c4; have e5 := (hba.cell (p := ⟨B, 5, none⟩) hB0).trans c5; have e6 := (hba.cell (p := ⟨B, 6, none⟩) hB0).trans c6; have e7 := (hba.cell (p := ⟨B, 7, none⟩) hB0).trans c7; have e8 := (hba.cell (p := ⟨B, 8, none⟩) hB0).trans c8; have e9 := (hba.cell (p := ⟨B, 9, none⟩) hB0).trans c9; clear hXa hba) | (go_at_call 8; (with_reducible refine (HF.out _ HBa.out).mono ?_); rintro e Wb ⟨rfl, Xb, hXb⟩; have hbb : Below Wa.heap.size Wa Wb := (by rw [hXb]; exact (by repeat (first | with_reducible exact Below.refl _ _ | (with_reducible refine Below.alloc ?_ (by first | omega | (simp [go_sem] <;> omega)) _) | (with_reducible refine Below.drew ?_) | (with_reducible refine Below.drewN ?_ _) | (with_reducible refine Below.grow ?_ (by first | omega | (simp [go_sem] <;> omega)) _) | (with_reducible refine Below.setCell ?_ (by first | omega | (simp [go_sem] <;> omega)) _)))); have HBb := Lib.hid (HBa.out.trans (hbb.mono HBa.out.size)); have HDb := Lib.hid (HDa.out.trans (hbb.mono HDa.out.size)); clear hXb hbb))
    go_ret
    exact Ret.of rfl HBb.out
  | true =>
    by_cases h9 : 9000 < s.size
    · have b9 : decide ((9000 : Int) < s.size) = true := by simp; omega
      clear h9
      go_wp2_with (first | (go_at_call 7; (with_reducible refine (awake08_any _).mono ?_); rintro e Wa ⟨rfl, Xa, hXa⟩; have hba : Below W0.heap.size W0 Wa := (by rw [hXa]; exact (by repeat (first | with_reducible exact Below.refl _ _ | (with_reducible refine Below.alloc ?_ (by first | omega | (simp [go_sem] <;> omega)) _) | (with_reducible refine Below.drew ?_) | (with_reducible refine Below.drewN ?_ _) | (with_reducible refine Below.grow ?_ (by first | omega | (simp [go_sem] <;> omega)) _) | (with_reducible refine Below.setCell ?_ (by first | omega | (simp [go_sem] <;> omega)) _)))); have HBa := Lib.hid (HB0.out.trans (hba.mono HB0.out.size)); have HDa := Lib.hid hba; have e0 := (hba.cell (p := ⟨B, 0, none⟩) hB0).trans c0; have e1 := (hba.cell (p := ⟨B, 1, none⟩) hB0).trans c1; have e2 := (hba.cell (p := ⟨B, 2, none⟩) hB0).trans c2; have e3 := (hba.cell (p := ⟨B, 3, none⟩) hB0).trans c3; have e4 := (hba.cell (p := ⟨B, 4, none⟩) hB0).trans c4; have e5 := (hba.cell (p := ⟨B, 5, none⟩) hB0).trans c5; have e6 := (hba.cell (p := ⟨B, 6, none⟩) hB0).trans c6; have e7 := (hba.cell (p := ⟨B, 7, none⟩) hB0).trans c7; have e8 := (hba.cell (p := ⟨B, 8, none⟩) hB0).trans c8; have e9 := (hba.cell (p := ⟨B, 9, none⟩) hB0).trans c9; clear hXa hba) | (go_at_call 8; (with_reducible refine (HF.out _ HBa.out).mono ?_); rintro e Wb ⟨rfl, Xb, hXb⟩; have hbb : Below Wa.heap.size Wa Wb := (by rw [hXb]; exact (by repeat (first | with_reducible exact Below.refl _ _ | (with_reducible refine Below.alloc ?_ (by first | omega | (simp [go_sem] <;> omega)) _) | (with_reducible refine Below.drew ?_) | (with_reducible refine Below.drewN ?_ _) | (with_reducible refine Below.grow ?_ (by first | omega | (simp [go_sem] <;> omega)) _) | (with_reducible refine Below.setCell ?_ (by first | omega | (simp [go_sem] <;> omega)) _)))); have HBb := Lib.hid (HBa.out.trans (hbb.mono HBa.out.size)); have HDb := Lib.hid (HDa.out.trans (hbb.mono HDa.out.size)); clear hXb hbb))
      go_ret
      exact Ret.of rfl HBb.out
    · have b9 : decide ((9000 : Int) < s.size) = false := by simp; omega
      clear h9
      go_upto_region 6 with (first | (go_at_call 7; (with_reducible refine (awake08_any _).mono ?_); rintro e Wa ⟨rfl, Xa, hXa⟩; have hba : Below W0.heap.size W0 Wa := (by rw [hXa]; exact (by repeat (first | with_reducible exact Below.refl _ _ | (with_reducible refine Below.alloc ?_ (by first | omega | (simp [go_sem] <;> omega)) _) | (with_reducible refine Below.drew ?_) | (with_reducible refine Below.drewN ?_ _) | (with_reducible refine Below.grow ?_ (by first | omega | (simp [go_sem] <;> omega)) _) | (with_reducible refine Below.setCell ?_ (by first | omega | (simp [go_sem] <;> omega)) _)))); have HBa := Lib.hid (HB0.out.trans (hba.mono HB0.out.size)); have HDa := Lib.hid hba; have e0 := (hba.cell (p := ⟨B, 0, none⟩) hB0).trans c0; have e1 := (hba.cell (p := ⟨B, 1, none⟩) hB0).trans c1; have e2 := (hba.cell (p := ⟨B, 2, none⟩) hB0).trans c2; have e3 := (hba.cell (p := ⟨B, 3, none⟩) hB0).trans c3; have e4 := (hba.cell (p := ⟨B, 4, none⟩) hB0).trans c4; have e5 := (hba.cell (p := ⟨B, 5, none⟩) hB0).trans c5; have e6 := (hba.cell (p := ⟨B, 6, none⟩) hB0).trans c6; have e7 := (hba.cell (p := ⟨B, 7, none⟩) hB0).trans c7; have e8 := (hba.cell (p := ⟨B, 8, none⟩) hB0).trans c8; have e9 := (hba.cell (p := ⟨B, 9, none⟩) hB0).trans c9; clear hXa hba) | (go_at_call 8; (with_reducible refine (HF.out _ HBa.out).mono ?_); rintro e Wb ⟨rfl, Xb, hXb⟩; have hbb : Below Wa.heap.size Wa Wb := (by rw [hXb]; exact (by repeat (first | with_reducible exact Below.refl _ _ | (with_reducible refine Below.alloc ?_ (by first | omega | (simp [go_sem] <;> omega)) _) | (with_reducible refine Below.drew ?_) | (with_reducible refine Below.drewN ?_ _) | (with_reducible refine Below.grow ?_ (by first | omega | (simp [go_sem] <;> omega)) _) | (with_reducible refine Below.setCell ?_ (by first | omega | (simp [go_sem] <;> omega)) _)))); have HBb := Lib.hid (HBa.out.trans (hbb.mono HBa.out.size)); have HDb := Lib.hid (HDa.out.trans (hbb.mono HDa.out.size)); clear hXb hbb) | (go_at_call 14; (with_reducible refine (HPa.out _).mono ?_); rintro e W1 ⟨hb1, vq, rfl, hvq⟩; have HB1 := Lib.hid (HBb.out.trans (hb1.mono HBb.out.size)); have HD1 := Lib.hid (HDb.out.trans (hb1.mono HDb.out.size)); have HVq := Lib.hid hvq; obtain ⟨z0, z1, z2, z3, z4, z5, rfl, ⟨Z0, m0, rfl, _⟩, ⟨Z1, m1, rfl, _⟩, ⟨Z2, m2, rfl, _⟩, ⟨Z3, m3, rfl, _⟩, ⟨Z4, m4, rfl, _⟩, ⟨Z5, m5, rfl, _⟩⟩ := hvq; clear hb1))
      clear b9 e0 e1 e2 e3 e4 e5 e6 e7 e8 e9
      refine name_world fun W2 hW2 => ?_
      obtain ⟨Q, hQ⟩ : ∃ Q, W1.heap.size = Q := ⟨_, rfl⟩
      have hb2 : Below W1.heap.size W1 W2 := by rw [hW2]; exact (by repeat (first | with_reducible exact Below.refl _ _ | (with_reducible refine Below.alloc ?_ (by first | omega | (simp [go_sem] <;> omega)) _) | (with_reducible refine Below.drew ?_) | (with_reducible refine Below.drewN ?_ _) | (with_reducible refine Below.grow ?_ (by first | omega | (simp [go_sem] <;> omega)) _) | (with_reducible refine Below.setCell ?_ (by first | omega | (simp [go_sem] <;> omega)) _)))
      rw [hQ]
      have q0 : W2.cell? ⟨Q, 0, none⟩ = some (.slice Z0 (fN P 0) m0) := by rw [hW2, ← hQ]; simp [go_sem]
      have q1 : W2.cell? ⟨Q, 1, none⟩ = some (.slice Z1 (fN P 1) m1) := by rw [hW2, ← hQ]; simp [go_sem]
      have q2 : W2.cell? ⟨Q, 2, none⟩ = some (.slice Z2 (fN P 2) m2) := by rw [hW2, ← hQ]; simp [go_sem]
      have q3 : W2.cell? ⟨Q, 3, none⟩ = some (.slice Z3 (fN P 3) m3) := by rw [hW2, ← hQ]; simp [go_sem]
      have q4 : W2.cell? ⟨Q, 4, none⟩ = some (.slice Z4 (fN P 4) m4) := by rw [hW2, ← hQ]; simp [go_sem]
      have q5 : W2.cell? ⟨Q, 5, none⟩ = some (.slice Z5 (fN P 5) m5) := by rw [hW2, ← hQ]; simp [go_sem]
      have q6 : W2.cell? ⟨Q, 6, none⟩ = some (.bool P.rel) := by rw [hW2, ← hQ]; simp [go_sem]
      have q7 : W2.cell? ⟨Q, 7, none⟩ = some (.int .i64 P.depth) := by rw [hW2, ← hQ]; simp [go_sem]
      have q8 : W2.cell? ⟨Q, 8, none⟩ = some (.int .i64 P.name) := by rw [hW2, ← hQ]; simp [go_sem]
      have q9 : W2.cell? ⟨Q, 9, none⟩ = some (.int .i64 P.value) := by rw [hW2, ← hQ]; simp [go_sem]
      have hQl : Q < W2.heap.size := by rw [hW2, ← hQ]; simp
      have HB2 := Lib.hid (HB1.out.trans (hb2.mono HB1.out.size))
      have hd2 := HD1.out.trans (hb2.mono HD1.out.size)
      have HV2 := Lib.hid ((HVq.out.below hb2).mono (bad' := fun _ => False) (fun _ _ h => h.elim))
      clear hW2 hb2 HB1 HD1 HVq HBa HBb HDa HDb HF HPa
      have c0 := (hd2.cell (p := ⟨B, 0, none⟩) hB0).trans c0
      have c1 := (hd2.cell (p := ⟨B, 1, none⟩) hB0).trans c1
      have c2 := (hd2.cell (p := ⟨B, 2, none⟩) hB0).trans c2
      have c3 := (hd2.cell (p := ⟨B, 3, none⟩) hB0).trans c3
      have c4 := (hd2.cell (p := ⟨B, 4, none⟩) hB0).trans c4
      have c5 := (hd2.cell (p := ⟨B, 5, none⟩) hB0).trans c5
      have c6 := (hd2.cell (p := ⟨B, 6, none⟩) hB0).trans c6
      have c7 := (hd2.cell (p := ⟨B, 7, none⟩) hB0).trans c7
      have c8 := (hd2.cell (p := ⟨B, 8, none⟩) hB0).trans c8
      have c9 := (hd2.cell (p := ⟨B, 9, none⟩) hB0).trans c9
      have hBl : B < W2.heap.size := Nat.lt_of_lt_of_le hB0 hd2.size
      clear hB0 hd2
      go_upto_region 7 with (go_at_call 10; (with_reducible refine (neat_any _ p _ (HV.out.below HB2.out) HSm.out).mono ?_); rintro e W3 ⟨vn, rfl, hb3, hvn⟩; have HVn := Lib.hid hvn; have HD3 := Lib.hid hb3; obtain ⟨y0, y1, y2, y3, y4, y5, rfl, ⟨Y0, j0, rfl, _⟩, ⟨Y1, j1, rfl, _⟩, ⟨Y2, j2, rfl, _⟩, ⟨Y3, j3, rfl, _⟩, ⟨Y4, j4, rfl, _⟩, ⟨Y5, j5, rfl, _⟩⟩ := hvn; clear hb3)
      refine name_world fun W4 hW4 => ?_
      obtain ⟨N, hN⟩ : ∃ N, W3.heap.size = N := ⟨_, rfl⟩
      have hb4 : Below W3.heap.size W3 W4 := by rw [hW4]; exact (by repeat (first | with_reducible exact Below.refl _ _ | (with_reducible refine Below.alloc ?_ (by first | omega | (simp [go_sem] <;> omega)) _) | (with_reducible refine Below.drew ?_) | (with_reducible refine Below.drewN ?_ _) | (with_reducible refine Below.grow ?_ (by first | omega | (simp [go_sem] <;> omega)) _) | (with_reducible refine Below.setCell ?_ (by first | omega | (simp [go_sem] <;> omega)) _)))
      rw [hN]
      have n0 : W4.cell? ⟨N, 0, none⟩ = some (.slice Y0 (fN (neatP p) 0) j0) := by rw [hW4, ← hN]; simp [go_sem]
      have n1 : W4.cell? ⟨N, 1, none⟩ = some (.slice Y1 (fN (neatP p) 1) j1) := by rw [hW4, ← hN]; simp [go_sem]
      have n2 : W4.cell? ⟨N, 2, none⟩ = some (.slice Y2 (fN (neatP p) 2) j2) := by rw [hW4, ← hN]; simp [go_sem]
      have n3 : W4.cell? ⟨N, 3, none⟩ = some (.slice Y3 (fN (neatP p) 3) j3) := by rw [hW4, ← hN]; simp [go_sem]
      have n4 : W4.cell? ⟨N, 4, none⟩ = some (.slice Y4 (fN (neatP p) 4) j4) := by rw [hW4, ← hN]; simp [go_sem]
      have n5 : W4.cell? ⟨N, 5, none⟩ = some (.slice Y5 (fN (neatP p) 5) j5) := by rw [hW4, ← hN]; simp [go_sem]
      have n6 : W4.cell? ⟨N, 6, none⟩ = some (.bool (neatP p).rel) := by rw [hW4, ← hN]; simp [go_sem]
      have n7 : W4.cell? ⟨N, 7, none⟩ = some (.int .i64 (neatP p).depth) := by rw [hW4, ← hN]; simp [go_sem]
      have n8 : W4.cell? ⟨N, 8, none⟩ = some (.int .i64 (neatP p).name) := by rw [hW4, ← hN]; simp [go_sem]
      have n9 : W4.cell? ⟨N, 9, none⟩ = some (.int .i64 (neatP p).value) := by rw [hW4, ← hN]; simp [go_sem]
      have hNl : N < W4.heap.size := by rw [hW4, ← hN]; simp
      have HD4 := Lib.hid (HD3.out.trans (hb4.mono HD3.out.size))
      have HV4 := Lib.hid ((HVn.out.below hb4).mono (bad' := fun _ => False) (fun _ _ h => h.elim))
      clear hW4 hb4 HVn HD3 hBl c0 c1 c2 c3 c4 c5 c6 c7 c8 c9
      have hS0 : Below W4.heap.size W4 W4.drew := (by repeat (first | with_reducible exact Below.refl _ _ | (with_reducible refine Below.alloc ?_ (by first | omega | (simp [go_sem] <;> omega)) _) | (with_reducible refine Below.drew ?_) | (with_reducible refine Below.drewN ?_ _) | (with_reducible refine Below.grow ?_ (by first | omega | (simp [go_sem] <;> omega)) _) | (with_reducible refine Below.setCell ?_ (by first | omega | (simp [go_sem] <;> omega)) _)))
      have HVB := Lib.hid (fun W (hb : Below W4.heap.size W4 W) => HV4.out.below hb)
      refine wp_region_row 4 [(0, true), (2, true), (1, false), (3, false)] (fun V => Below W4.heap.size W4 V) hmx (by kernel_rfl) (by kernel_rfl) (by kernel_rfl) (by decide) rfl (fun c a d v w h => by obtain ⟨x, y⟩ := (h : _ ∧ _); cases d <;> exact ⟨x, y⟩) (by kernel_rfl) (by exact hS0) ?_
      refine wpRow_readD (v := (.agg #[.slice Y0 (fN (neatP p) 0) j0, .slice Y1 (fN (neatP p) 1) j1, .slice Y2 (fN (neatP p) 2) j2, .slice Y3 (fN (neatP p) 3) j3, .slice Y4 (fN (neatP p) 4) j4, .slice Y5 (fN (neatP p) 5) j5, .bool (neatP p).rel, .int .i64 (neatP p).depth, .int .i64 (neatP p).name, .int .i64 (neatP p).value])) 35 rfl rfl rfl (fun W hW => by have d0 := (hW.cell (p := ⟨N, 0, none⟩) hNl).trans n0; have d1 := (hW.cell (p := ⟨N, 1, none⟩) hNl).trans n1; have d2 := (hW.cell (p := ⟨N, 2, none⟩) hNl).trans n2; have d3 := (hW.cell (p := ⟨N, 3, none⟩) hNl).trans n3; have d4 := (hW.cell (p := ⟨N, 4, none⟩) hNl).trans n4; have d5 := (hW.cell (p := ⟨N, 5, none⟩) hNl).trans n5; have d6 := (hW.cell (p := ⟨N, 6, none⟩) hNl).trans n6; have d7 := (hW.cell (p := ⟨N, 7, none⟩) hNl).trans n7; have d8 := (hW.cell (p := ⟨N, 8, none⟩) hNl).trans n8; have d9 := (hW.cell (p := ⟨N, 9, none⟩) hNl).trans n9; simp [execOp, go_sem, d0, d1, d2, d3, d4, d5, d6, d7, d8, d9]) ?_
      simp only [Act.put, List.setIfInBounds_toArray, List.set_cons_succ, List.set_cons_zero]
      refine wpRow_readD (v := (.agg #[.slice Y0 (fN (neatP p) 0) j0, .slice Y1 (fN (neatP p) 1) j1, .slice Y2 (fN (neatP p) 2) j2, .slice Y3 (fN (neatP p) 3) j3, .slice Y4 (fN (neatP p) 4) j4, .slice Y5 (fN (neatP p) 5) j5, .bool (neatP p).rel, .int .i64 (neatP p).depth, .int .i64 (neatP p).name, .int .i64 (neatP p).value])) 37 rfl rfl rfl (fun W hW => by have d0 := (hW.cell (p := ⟨N, 0, none⟩) hNl).trans n0; have d1 := (hW.cell (p := ⟨N, 1, none⟩) hNl).trans n1; have d2 := (hW.cell (p := ⟨N, 2, none⟩) hNl).trans n2; have d3 := (hW.cell (p := ⟨N, 3, none⟩) hNl).trans n3; have d4 := (hW.cell (p := ⟨N, 4, none⟩) hNl).trans n4; have d5 := (hW.cell (p := ⟨N, 5, none⟩) hNl).trans n5; have d6 := (hW.cell (p := ⟨N, 6, none⟩) hNl).trans n6; have d7 := (hW.cell (p := ⟨N, 7, none⟩) hNl).trans n7; have d8 := (hW.cell (p := ⟨N, 8, none⟩) hNl).trans n8; have d9 := (hW.cell (p := ⟨N, 9, none⟩) hNl).trans n9; simp [execOp, go_sem, d0, d1, d2, d3, d4, d5, d6, d7, d8, d9]) ?_
      simp only [Act.put, List.setIfInBounds_toArray, List.set_cons_succ, List.set_cons_zero]
      refine wpRow_op rfl rfl fun Kc hKc => ?_
      unfold Oper.wp
      simp [execOp, go_sem]
      refine (neat_any _ (neatP p) _ (HVB.out _ hS0) HSm.out.neat).mono ?_
      rintro e Wk1 ⟨vm, rfl, hb1, hv1⟩; have hk1 : Below W4.heap.size W4 Wk1 := hS0.trans (hb1.mono hS0.size)
      show Kc _ _
      apply hKc
      refine ⟨hk1, ?_⟩
      refine wpRow_op rfl rfl fun Kc hKc => ?_
      unfold Oper.wp
      simp [execOp, go_sem]
      refine (rsame_any vm _ (neatP (neatP p)) (neatP p) _ _ _ hv1 (HVB.out _ hk1) HSm.out.neat.neat HSm.out.neat).mono ?_
      rintro e Wk2 ⟨rfl, Xk2, hXk2⟩; have hk2 : Below W4.heap.size W4 Wk2 := hk1.trans ((show Below Wk1.heap.size Wk1 Wk2 by rw [hXk2]; exact (by repeat (first | with_reducible exact Below.refl _ _ | (with_reducible refine Below.alloc ?_ (by first | omega | (simp [go_sem] <;> omega)) _) | (with_reducible refine Below.drew ?_) | (with_reducible refine Below.drewN ?_ _) | (with_reducible refine Below.grow ?_ (by first | omega | (simp [go_sem] <;> omega)) _) | (with_reducible refine Below.setCell ?_ (by first | omega | (simp [go_sem] <;> omega)) _)))).mono hk1.size); clear hXk2
      show Kc _ _
      apply hKc
      refine ⟨hk2, ?_⟩
      dsimp only [wpRow, List.drop]
      simp only [neatP_again, decide_true]
      have hS4 := HD4.out.trans (hk2.mono HD4.out.size)
      have q0 := (hS4.cell (p := ⟨Q, 0, none⟩) hQl).trans q0
      have q1 := (hS4.cell (p := ⟨Q, 1, none⟩) hQl).trans q1
      have q2 := (hS4.cell (p := ⟨Q, 2, none⟩) hQl).trans q2
      have q3 := (hS4.cell (p := ⟨Q, 3, none⟩) hQl).trans q3
      have q4 := (hS4.cell (p := ⟨Q, 4, none⟩) hQl).trans q4
      have q5 := (hS4.cell (p := ⟨Q, 5, none⟩) hQl).trans q5
      have q6 := (hS4.cell (p := ⟨Q, 6, none⟩) hQl).trans q6
      have q7 := (hS4.cell (p := ⟨Q, 7, none⟩) hQl).trans q7
      have q8 := (hS4.cell (p := ⟨Q, 8, none⟩) hQl).trans q8
      have q9 := (hS4.cell (p := ⟨Q, 9, none⟩) hQl).trans q9
      have hQl : Q < Wk2.heap.size := Nat.lt_of_lt_of_le hQl hS4.size
      have HE := Lib.hid (HB2.out.trans (hS4.mono HB2.out.size))
      have HV5 := Lib.hid (HV2.out.below hS4)
      clear n0 n1 n2 n3 n4 n5 n6 n7 n8 n9 hNl hk1 hk2 hS0 hS4 HVB HV4 HD4 HB2 HV2
      rcases HSays.out with ⟨hc, ha, hr⟩ | ⟨hc, hP, ha⟩
      · have HRi := Lib.hid (hr ▸ right_any _ P Wk2 HV5.out (HPbk.out.mono (by omega)).sm (HPbk.out.mono (by omega)).tx)
        clear HSays hr
        subst hc ha
        go_wp2_with (go_at_call 12; (with_reducible refine HRi.out.mono ?_); rintro e W6 ⟨rfl, X6, hX6⟩; have hb6 : Below Wk2.heap.size Wk2 W6 := (by rw [hX6]; exact (by repeat (first | with_reducible exact Below.refl _ _ | (with_reducible refine Below.alloc ?_ (by first | omega | (simp [go_sem] <;> omega)) _) | (with_reducible refine Below.drew ?_) | (with_reducible refine Below.drewN ?_ _) | (with_reducible refine Below.grow ?_ (by first | omega | (simp [go_sem] <;> omega)) _) | (with_reducible refine Below.setCell ?_ (by first | omega | (simp [go_sem] <;> omega)) _)))); clear hX6)
        go_ret
        exact Ret.of rfl (HE.out.trans (hb6.mono HE.out.size))
      · have hcc : ((c : Int) != 0) = true := by simp; omega
        have hal : decide ((a : Int) ≤ (s.size : Int)) = true := by simp; omega
        have HRi := Lib.hid (show Calls Try.prog 9 #[.agg #[.slice Z0 (fN P 0) m0, .slice Z1 (fN P 1) m1, .slice Z2 (fN P 2) m2, .slice Z3 (fN P 3) m3, .slice Z4 (fN P 4) m4, .slice Z5 (fN P 5) m5, .bool P.rel, .int .i64 P.depth, .int .i64 P.name, .int .i64 P.value], .agg #[.slice none 0 0, .slice none 0 0, .slice none 0 0, .slice none 0 0, .slice none 0 0, .slice none 0 0, .bool false, .int .i64 0, .int .i64 0, .int .i64 0]] Wk2 (Ret (.bool true) Wk2) from by
          have h9 := rsame_any _ zeroV P polZ _ _ Wk2 HV5.out (polZ_v Wk2 (fun _ => False)) (HPbk.out.mono (by omega)).sm ((polZ_bk 10000).mono (by omega)).sm
          rw [decide_eq_true hP] at h9
          exact h9)
        clear HSays hP hc
        go_wp2_with (go_at_call 9; (with_reducible refine HRi.out.mono ?_); rintro e W6 ⟨rfl, X6, hX6⟩; have hb6 : Below Wk2.heap.size Wk2 W6 := (by rw [hX6]; exact (by repeat (first | with_reducible exact Below.refl _ _ | (with_reducible refine Below.alloc ?_ (by first | omega | (simp [go_sem] <;> omega)) _) | (with_reducible refine Below.drew ?_) | (with_reducible refine Below.drewN ?_ _) | (with_reducible refine Below.grow ?_ (by first | omega | (simp [go_sem] <;> omega)) _) | (with_reducible refine Below.setCell ?_ (by first | omega | (simp [go_sem] <;> omega)) _)))); clear hX6)
        go_ret
        exact Ret.of rfl (HE.out.trans (hb6.mono HE.out.size))

set_option maxRecDepth 100000 in
theorem lifted (os : Os) (started : os.Started) (H : Type) (enc : TypeId × Value → H) (F : Stop.Interp) :
    ReturnsInHanded {} Try.checked os 4 .any ((Rows.OpenSpec.upto Rows.policyRightSpec).pre6 enc Try.prog Try.f4 Rows.policyRightUptoRow.domain false) (((Rows.OpenSpec.upto Rows.policyRightSpec).at F).post enc Try.prog Try.f4 false true false false) := by
  refine returnsInHanded_of_cond (C := Try.checked) (s := Rows.OpenSpec.upto Rows.policyRightSpec) (k := Rows.uptoSmall) rfl own started (by kernel_rfl) Try.func4
    (OpenSpec.witness (enc := enc) (C := Try.checked) (s := Rows.OpenSpec.upto Rows.policyRightSpec) (k := Rows.uptoSmall) rfl false ⟨#[], #[.string ⟨#[]⟩, .agg #[.slice none 0 0, .slice none 0 0, .slice none 0 0, .slice none 0 0, .slice none 0 0, .slice none 0 0, .bool false, .int .i64 0, .int .i64 0, .int .i64 0]], []⟩ 8 (by kernel_rfl) (by kernel_rfl) (by kernel_rfl) (x := ([.lit (.string []), .agg [.nil, .nil, .nil, .nil, .nil, .nil, .lit (.bool false), .lit (.int .i64 0), .lit (.int .i64 0), .lit (.int .i64 0)]], [], [])) (by kernel_rfl) rfl (by kernel_rfl)) ?_
  intro W base args ds gs before hval0 hW _ hk0 _
  show Calls Try.prog 4 args W fun e W' => ∃ v, e = .returned v ∧ Rows.policyRightSpec.post enc Try.prog Try.f4 false true false false W args v W'
  have hval : ∀ (j : Nat) t v, Try.f4.params[j]? = some t → args[j]? = some v → Value.okWide Try.prog W .any base t v := hval0
  have hW' := hW
  obtain ⟨p, q, hA0, hV, rfl, hfz, hnd⟩ := hW
  have hA : DataW.TrodAll enc Try.prog W 0 (fun _ => true) true Try.f4.params.toList args.toList ds p := hA0
  rw [Try.params4] at hA hval
  obtain ⟨v0, vs0, d0, ds0, p0, q0, hargs, rfl, rfl, h0, r0⟩ := trodAll_cons hA
  obtain ⟨v1, vs1, d1, ds1, p1, q1, rfl, rfl, rfl, h1, r1⟩ := trodAll_cons r0
  obtain ⟨rfl, rfl, rfl⟩ := trodAll_nil r1
  obtain rfl : args = #[v0, v1] := by cases args; simp_all
  obtain ⟨rfl, rfl⟩ := trodVars_none hV
  obtain ⟨s0, rfl, rfl, rfl, w0⟩ := open_string Try.underlying9 (hval 0 9 v0 rfl rfl) h0
  obtain ⟨c1, rfl, _⟩ := okWide_struct Try.underlying26 (hval 1 26 v1 rfl rfl)
  have k1 := h1
  have lt1 : ∀ x ∈ p1, x.block < W.heap.size := by obtain ⟨m, hm⟩ := k1; exact DataW.trod_lt m _ _ _ hm
  obtain ⟨z1, w1, b1⟩ : ∃ z : Pol, PolV W (fun _ => False) (.agg c1) z ∧ PolBk z (Rows.uptoBulk d1) := by obtain ⟨fuel, hf⟩ := h1; have h9 := pol_open (x := (d1, p1)) (show DataW.trod enc Try.prog W 0 (fun _ => true) true fuel 26 c1.toList = some (d1, p1) by simpa [Value.cells] using hf); simpa using h9
  have hk := bulks.bound hk0
  clear hA0 hval0 hk0
  refine (walk s0 (.agg c1) z1 W w0 w1 (b1.mono (by simp only [List.append_nil, Rows.uptoBulkAll] at hk; omega))).mono fun e W' hend => ?_
  obtain ⟨he, X, hX⟩ := hend
  have bel : Below W.heap.size W W' := by rw [hX]; exact below_grow W X
  subst he
  exact ⟨_, rfl, _, _, _, [], _, [], hW', trodAll_mk1 (shut_bool Try.underlying4 _), (trodAll_cons_mk (shut_string Try.underlying9 w0) (trodAll_cons_mk (Below.trod laidOut (by kernel_rfl) (of_decide_eq_true (by kernel_rfl)) k1 bel lt1) trodAll_mk0)), rfl, bel.frame _, fun h => by cases h⟩

/-- The statement. -/
theorem proved : Rows.PolicyRightUptoSaid :=
  OpenClaim.holds_of_cond 4 Try.f4 rfl rfl rfl rfl rfl rfl rfl ⟨rfl, rfl, rfl, rfl, rfl⟩ rfl rfl rfl rfl rfl (by kernel_rfl) Try.func4 (by kernel_rfl)
    (of_decide_eq_true (by kernel_rfl)) (by unfold Func.isWrapper; first | (rw [if_pos (by decide +kernel)]; kernel_rfl) | (rw [if_neg (by decide +kernel)]; exact ⟨rfl, rfl⟩))
    (fun os started H enc _ F => lifted os started H enc F)

end Go.Proofs.Ytenjnliceeejlaa.policyRight
