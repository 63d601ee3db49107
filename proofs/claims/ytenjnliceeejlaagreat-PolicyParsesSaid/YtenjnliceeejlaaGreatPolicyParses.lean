/- A text's policy is the reference's, and so is the fault: PolicyParses returns true. No condition: whatever the arguments. -/
import Derived.ProofKit
import Derived.ChangeSame
import Derived.ChangeAt
import Derived.SizedLaws
import Derived.OpenShut
import Derived.ShutString
import Derived.ChangeOld
import Derived.JoinedCond
import Derived.Test.YtenjnliceeejlaaGreatRows
import Derived.Test.YtenjnliceeejlaaGreatRG
import Derived.Test.YtenjnliceeejlaaGreatRiD
import Derived.Test.YtenjnliceeejlaaGreatRfH
namespace Go.Proofs.YtenjnliceeejlaaGreat.policyParses
open Go.ChangeShapes Go.WideShapes Go.ChangeAt Go.RowKit
open Go.ChangeMaps (open_string shut_string)
theorem own : ownKnob Tryz.prog.godebug = none := by kernel_rfl
theorem laidOut : laidOutB Tryz.prog = true := by kernel_rfl
attribute [local go_sem] Oper.semAt_some
theorem ref_run {s : Bs} {a c : Nat} {P : Pol} (g : ParseG s a c P) (W : World) : Calls Tryz.prog 6 #[.string ⟨s.toArray⟩] W fun e w' => Below W.heap.size W w' ∧ ∃ v, e = .returned (.tuple #[v, .int .i64 a, .int .i64 c]) ∧ PolV w' (fun b => b < W.heap.size) v P := by
 refine (rparse_any s W).mono fun e w' h9 => ?_
 unfold ParseOut at h9
 rcases g.says with ⟨h1, h2, h3⟩ | ⟨_, h2, _, h3⟩
 ·rw [h3] at h9
  subst h1 h2
  exact h9
 ·rw [h3] at h9
  subst h2
  exact ⟨h9.1, _, h9.2, polZ_v _ _⟩
set_option maxRecDepth 100000 in
set_option maxHeartbeats 4000000 in
theorem walk (s : ByteArray) (w : World) (_hs : s.size ≤ maxLen) : Calls Tryz.prog 3 #[.string s] w (Ret (.bool true) w) := by
 by_cases h1 : 9000 < s.size
 ·have b1 : decide ((9000 : Int) < s.size) = true := by simp; omega
  clear h1 _hs
  go_enter Tryz.func3, Tryz.ntmps3
  go_wp2_with (go_at_call 4; (with_reducible refine (awake08_any _).mono ?_); rintro e Wa ⟨rfl, Xa, rfl⟩)
  go_ret
  exact Ret.of rfl (by (repeat with_reducible first | exact Below.refl _ _ | refine Below.drew ?_ | refine Below.drewN ?_ _ | refine Below.alloc ?_ ?_ _ | refine Below.grow ?_ ?_ _ | refine Below.setCell ?_ ?_ _); all_goals first | omega | (simp [go_sem] <;> omega))
 have b1 : decide ((9000 : Int) < s.size) = false := by simp; omega
 obtain ⟨a, c, P, g⟩ := parse_gen s.data.toList
 have HP := Lib.hid (fun W => show Calls Tryz.prog 5 #[.string s] W _ from g.run W)
 have HQ := Lib.hid (fun W => show Calls Tryz.prog 6 #[.string s] W _ from ref_run g W)
 have HSm := Lib.hid (g.bk.mono (m := 1048576) (by omega)).sm
 clear g h1 _hs
 go_enter Tryz.func3, Tryz.ntmps3
 go_upto_region 4 with (go_at_call 4; (with_reducible refine (awake08_any _).mono ?_); rintro e Wa ⟨rfl, Xa, hXa⟩; have hba : Below w.heap.size w Wa := (by rw [hXa]; exact (by (repeat with_reducible first | exact Below.refl _ _ | refine Below.drew ?_ | refine Below.drewN ?_ _ | refine Below.alloc ?_ ?_ _ | refine Below.grow ?_ ?_ _ | refine Below.setCell ?_ ?_ _); all_goals first | omega | (simp [go_sem] <;> omega))); have HA0 := Lib.hid hba; clear hXa hba)
 clear b1
 go_upto_region 5 with (first | (go_at_call 5; (with_reducible refine (HP.out _).mono ?_); rintro e W1 ⟨hb1, v1, rfl, hv1⟩; have HB1 := Lib.hid (HA0.out.trans (hb1.mono HA0.out.size)); have HD1 := Lib.hid hb1; have HV1 := Lib.hid hv1; obtain ⟨u0, u1, u2, u3, u4, u5, rfl, ⟨A10, k10, rfl, _⟩, ⟨A11, k11, rfl, _⟩, ⟨A12, k12, rfl, _⟩, ⟨A13, k13, rfl, _⟩, ⟨A14, k14, rfl, _⟩, ⟨A15, k15, rfl, _⟩⟩ := hv1; clear hb1))
 refine name_world fun V1 hV1 => ?_
 obtain ⟨B1, hB1⟩ : ∃ B, W1.heap.size = B := ⟨_, rfl⟩
 have hw1 : Below W1.heap.size W1 V1 := by rw [hV1]; exact (by (repeat with_reducible first | exact Below.refl _ _ | refine Below.drew ?_ | refine Below.drewN ?_ _ | refine Below.alloc ?_ ?_ _ | refine Below.grow ?_ ?_ _ | refine Below.setCell ?_ ?_ _); all_goals first | omega | (simp [go_sem] <;> omega))
 rw [hB1]
 have c10 : V1.cell? ⟨B1, 0, none⟩ = some (.slice A10 (fN P 0) k10) := by rw [hV1, ← hB1]; simp [go_sem]
 have c11 : V1.cell? ⟨B1, 1, none⟩ = some (.slice A11 (fN P 1) k11) := by rw [hV1, ← hB1]; simp [go_sem]
 have c12 : V1.cell? ⟨B1, 2, none⟩ = some (.slice A12 (fN P 2) k12) := by rw [hV1, ← hB1]; simp [go_sem]
 have c13 : V1.cell? ⟨B1, 3, none⟩ = some (.slice A13 (fN P 3) k13) := by rw [hV1, ← hB1]; simp [go_sem]
 have c14 : V1.cell? ⟨B1, 4, none⟩ = some (.slice A14 (fN P 4) k14) := by rw [hV1, ← hB1]; simp [go_sem]
 have c15 : V1.cell? ⟨B1, 5, none⟩ = some (.slice A15 (fN P 5) k15) := by rw [hV1, ← hB1]; simp [go_sem]
 have c16 : V1.cell? ⟨B1, 6, none⟩ = some (.bool P.rel) := by rw [hV1, ← hB1]; simp [go_sem]
 have c17 : V1.cell? ⟨B1, 7, none⟩ = some (.int .i64 P.depth) := by rw [hV1, ← hB1]; simp [go_sem]
 have c18 : V1.cell? ⟨B1, 8, none⟩ = some (.int .i64 P.name) := by rw [hV1, ← hB1]; simp [go_sem]
 have c19 : V1.cell? ⟨B1, 9, none⟩ = some (.int .i64 P.value) := by rw [hV1, ← hB1]; simp [go_sem]
 have hl1 : B1 < V1.heap.size := by rw [hV1, ← hB1]; simp
 have HA1 := Lib.hid (HB1.out.trans (hw1.mono HB1.out.size))
 have HE1 := Lib.hid (HD1.out.trans (hw1.mono HD1.out.size))
 have HVv1 := Lib.hid ((HV1.out.below hw1).mono (bad' := fun _ => False) (fun _ _ h => h.elim))
 clear hV1 hw1 HB1 HD1 HV1
 go_upto_region 6 with (first | (go_at_call 6; (with_reducible refine (HQ.out _).mono ?_); rintro e W2 ⟨hb2, v2, rfl, hv2⟩; have HB2 := Lib.hid (HA1.out.trans (hb2.mono HA1.out.size)); have HD2 := Lib.hid hb2; have HV2 := Lib.hid hv2; obtain ⟨u0, u1, u2, u3, u4, u5, rfl, ⟨A20, k20, rfl, _⟩, ⟨A21, k21, rfl, _⟩, ⟨A22, k22, rfl, _⟩, ⟨A23, k23, rfl, _⟩, ⟨A24, k24, rfl, _⟩, ⟨A25, k25, rfl, _⟩⟩ := hv2; clear hb2))
 refine name_world fun V2 hV2 => ?_
 obtain ⟨B2, hB2⟩ : ∃ B, W2.heap.size = B := ⟨_, rfl⟩
 have hw2 : Below W2.heap.size W2 V2 := by rw [hV2]; exact (by (repeat with_reducible first | exact Below.refl _ _ | refine Below.drew ?_ | refine Below.drewN ?_ _ | refine Below.alloc ?_ ?_ _ | refine Below.grow ?_ ?_ _ | refine Below.setCell ?_ ?_ _); all_goals first | omega | (simp [go_sem] <;> omega))
 rw [hB2]
 have c20 : V2.cell? ⟨B2, 0, none⟩ = some (.slice A20 (fN P 0) k20) := by rw [hV2, ← hB2]; simp [go_sem]
 have c21 : V2.cell? ⟨B2, 1, none⟩ = some (.slice A21 (fN P 1) k21) := by rw [hV2, ← hB2]; simp [go_sem]
 have c22 : V2.cell? ⟨B2, 2, none⟩ = some (.slice A22 (fN P 2) k22) := by rw [hV2, ← hB2]; simp [go_sem]
 have c23 : V2.cell? ⟨B2, 3, none⟩ = some (.slice A23 (fN P 3) k23) := by rw [hV2, ← hB2]; simp [go_sem]
 have c24 : V2.cell? ⟨B2, 4, none⟩ = some (.slice A24 (fN P 4) k24) := by rw [hV2, ← hB2]; simp [go_sem]
 have c25 : V2.cell? ⟨B2, 5, none⟩ = some (.slice A25 (fN P 5) k25) := by rw [hV2, ← hB2]; simp [go_sem]
 have c26 : V2.cell? ⟨B2, 6, none⟩ = some (.bool P.rel) := by rw [hV2, ← hB2]; simp [go_sem]
 have c27 : V2.cell? ⟨B2, 7, none⟩ = some (.int .i64 P.depth) := by rw [hV2, ← hB2]; simp [go_sem]
 have c28 : V2.cell? ⟨B2, 8, none⟩ = some (.int .i64 P.name) := by rw [hV2, ← hB2]; simp [go_sem]
 have c29 : V2.cell? ⟨B2, 9, none⟩ = some (.int .i64 P.value) := by rw [hV2, ← hB2]; simp [go_sem]
 have hl2 : B2 < V2.heap.size := by rw [hV2, ← hB2]; simp
 have HA2 := Lib.hid (HB2.out.trans (hw2.mono HB2.out.size))
 have HE2 := Lib.hid (HD2.out.trans (hw2.mono HD2.out.size))
 have HVv2 := Lib.hid ((HV2.out.below hw2).mono (bad' := fun _ => False) (fun _ _ h => h.elim))
 clear hV2 hw2 HB2 HD2 HV2
 have d10 := (HE2.out.cell (p := ⟨B1, 0, none⟩) hl1).trans c10
 have d11 := (HE2.out.cell (p := ⟨B1, 1, none⟩) hl1).trans c11
 have d12 := (HE2.out.cell (p := ⟨B1, 2, none⟩) hl1).trans c12
 have d13 := (HE2.out.cell (p := ⟨B1, 3, none⟩) hl1).trans c13
 have d14 := (HE2.out.cell (p := ⟨B1, 4, none⟩) hl1).trans c14
 have d15 := (HE2.out.cell (p := ⟨B1, 5, none⟩) hl1).trans c15
 have d16 := (HE2.out.cell (p := ⟨B1, 6, none⟩) hl1).trans c16
 have d17 := (HE2.out.cell (p := ⟨B1, 7, none⟩) hl1).trans c17
 have d18 := (HE2.out.cell (p := ⟨B1, 8, none⟩) hl1).trans c18
 have d19 := (HE2.out.cell (p := ⟨B1, 9, none⟩) hl1).trans c19
 have HX1 := Lib.hid (HVv1.out.below HE2.out)
 have HSa := Lib.hid (show Calls Tryz.prog 7 #[.agg #[.slice A10 (fN P 0) k10, .slice A11 (fN P 1) k11, .slice A12 (fN P 2) k12, .slice A13 (fN P 3) k13, .slice A14 (fN P 4) k14, .slice A15 (fN P 5) k15, .bool P.rel, .int .i64 P.depth, .int .i64 P.name, .int .i64 P.value], .agg #[.slice A20 (fN P 0) k20, .slice A21 (fN P 1) k21, .slice A22 (fN P 2) k22, .slice A23 (fN P 3) k23, .slice A24 (fN P 4) k24, .slice A25 (fN P 5) k25, .bool P.rel, .int .i64 P.depth, .int .i64 P.name, .int .i64 P.value]] V2 (Ret (.bool true) V2) from by
  have h9 := rsame_any _ _ P P _ _ V2 HX1.out HVv2.out HSm.out HSm.out
  rw [decide_eq_true rfl] at h9
  exact h9)
 clear c10 c11 c12 c13 c14 c15 c16 c17 c18 c19
 go_wp2_with (go_at_call 7; (with_reducible refine HSa.out.mono ?_); rintro e W6 ⟨rfl, X6, hX6⟩; have hb6 : Below V2.heap.size V2 W6 := (by rw [hX6]; exact (by (repeat with_reducible first | exact Below.refl _ _ | refine Below.drew ?_ | refine Below.drewN ?_ _ | refine Below.alloc ?_ ?_ _ | refine Below.grow ?_ ?_ _ | refine Below.setCell ?_ ?_ _); all_goals first | omega | (simp [go_sem] <;> omega))); clear hX6)
 go_ret
 exact Ret.of rfl (HA2.out.trans (hb6.mono HA2.out.size))
set_option maxRecDepth 100000 in
theorem lifted (os : Os) (started : os.Started) (H : Type) (enc : TypeId × Value → H) :
  ReturnsInHanded {} Tryz.checked os 3 .any (Rows.policyParsesSpec.pre6 enc Tryz.prog Tryz.f3 Rows.policyParsesRow.domain false) (Rows.policyParsesSpec.post enc Tryz.prog Tryz.f3 false true false false) := by
 refine returnsInHanded_of_change (C := Tryz.checked) own started (by kernel_rfl) Tryz.func3
  (ChangeSpec.witness6 (enc := enc) (C := Tryz.checked) false ⟨#[], #[.string ⟨#[]⟩], []⟩ 8 (by kernel_rfl) (by kernel_rfl) (by kernel_rfl) (by kernel_rfl)) ?_
 intro W base args ds gs before hval0 hW hcnd _
 have hval : ∀ (j : Nat) t v, Tryz.f3.params[j]? = some t → args[j]? = some v → Value.okWide Tryz.prog W .any base t v := hval0
 have hW' := hW
 obtain ⟨p, q, hA0, hV, rfl, hfz, hnd⟩ := hW
 have hA : DataW.TrodAll enc Tryz.prog W 0 (fun _ => true) true Tryz.f3.params.toList args.toList ds p := hA0
 rw [Tryz.params3] at hA hval
 obtain ⟨v0, vs0, d0, ds0, p0, q0, hargs, rfl, rfl, h0, r0⟩ := trodAll_cons hA
 obtain ⟨rfl, rfl, rfl⟩ := trodAll_nil r0
 obtain rfl : args = #[v0] := by cases args; simp_all
 obtain ⟨rfl, rfl⟩ := trodVars_none hV
 obtain ⟨s0, rfl, rfl, rfl, w0⟩ := open_string Tryz.underlying9 (hval 0 9 v0 rfl rfl) h0
 clear hA0 hval0
 refine (walk s0 W w0).mono fun e W' hend => ?_
 obtain ⟨he, X, hX⟩ := hend
 have bel : Below W.heap.size W W' := by rw [hX]; exact below_grow W X
 subst he
 exact ⟨_, rfl, _, _, _, [], _, [], hW', trodAll_mk1 (shut_bool Tryz.underlying4 _), (trodAll_cons_mk (shut_string Tryz.underlying9 w0) trodAll_mk0), rfl, bel.frame _, fun h => by cases h⟩
theorem over : Rows.policyParsesRow.holds Tryz.pinned (OpenSpec.ofChange Rows.policyParsesSpec) :=
 OpenClaim.holds_of_wide 3 Tryz.f3 rfl rfl rfl rfl rfl rfl rfl ⟨rfl, rfl, rfl, rfl, rfl⟩ rfl rfl rfl rfl rfl (by kernel_rfl) Tryz.func3 (by kernel_rfl)
  (of_decide_eq_true (by kernel_rfl)) (by unfold Func.isWrapper; rw [if_neg (of_decide_eq_false (by kernel_rfl))]; exact ⟨rfl, rfl⟩)
  (fun os started H enc _ => lifted os started H enc)
theorem proved : Rows.PolicyParsesSaid := over
end Go.Proofs.YtenjnliceeejlaaGreat.policyParses

