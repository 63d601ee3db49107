/- Of two texts the policy is the same either way round, and each twice: PolicyTurned returns true. No condition: whatever the arguments. -/
import Derived.ProofKit
import Derived.ChangeSame
import Derived.ChangeAt
import Derived.SizedLaws
import Derived.OpenShut
import Derived.ShutString
import Derived.ChangeOld
import Derived.JoinedCond
import Derived.Test.YtenjnliceeejlaaRows
import Derived.Test.YtenjnliceeejlaaRG
import Derived.Test.YtenjnliceeejlaaPolV
namespace Go.Proofs.Ytenjnliceeejlaa.policyTurned
open Go.ChangeShapes Go.WideShapes Go.ChangeAt Go.RowKit
open Go.ChangeMaps (open_string shut_string)

theorem own : ownKnob Try.prog.godebug = none := by kernel_rfl
theorem laidOut : laidOutB Try.prog = true := by kernel_rfl

attribute [local go_sem] Oper.semAt_some

theorem cat_two (s t : ByteArray) : (⟨(s.data.toList ++ 10 :: t.data.toList).toArray⟩ : ByteArray) = s ++ ⟨#[10]⟩ ++ t := by
  refine ba_ext ?_
  simp
theorem cat_four (s t : ByteArray) : (⟨((s.data.toList ++ 10 :: t.data.toList) ++ 10 :: (s.data.toList ++ 10 :: t.data.toList)).toArray⟩ : ByteArray) = s ++ ⟨#[10]⟩ ++ t ++ ⟨#[10]⟩ ++ s ++ ⟨#[10]⟩ ++ t := by
  refine ba_ext ?_
  simp
set_option maxRecDepth 100000 in
set_option maxHeartbeats 8000000 in
theorem walk (s t : ByteArray) (w : World) (_hs : s.size ≤ maxLen) (_ht : t.size ≤ maxLen) : Calls Try.prog 5 #[.string s, .string t] w (Ret (.bool true) w) := by
  have hmx : Try.prog.follows .mixedOrders = true := by kernel_rfl
  by_cases h1 : 1500 < s.size
  · have b1 : decide ((1500 : Int) < s.size) = true := by simp; omega
    clear h1 _hs _ht
    go_enter Try.func5, Try.ntmps5
    go_wp2_with (go_at_call 7; (with_reducible refine (awake08_any _).mono ?_); rintro e Wa ⟨rfl, Xa, rfl⟩)
    go_ret
    exact Ret.of rfl (by repeat (first | with_reducible exact Below.refl _ _ | (with_reducible refine Below.alloc ?_ (by first | omega | (simp [go_sem] <;> omega)) _) | (with_reducible refine Below.drew ?_) | (with_reducible refine Below.drewN ?_ _) | (with_reducible refine Below.grow ?_ (by first | omega | (simp [go_sem] <;> omega)) _) | (with_reducible refine Below.setCell ?_ (by first | omega | (simp [go_sem] <;> omega)) _)))
  have b1 : decide ((1500 : Int) < s.size) = false := by simp; omega
  by_cases h2 : 1500 < t.size
  · have b2 : decide ((1500 : Int) < t.size) = true := by simp; omega
    clear h1 h2 _hs _ht
    go_enter Try.func5, Try.ntmps5
    go_wp2_with (go_at_call 7; (with_reducible refine (awake08_any _).mono ?_); rintro e Wa ⟨rfl, Xa, rfl⟩)
    go_ret
    exact Ret.of rfl (by repeat (first | with_reducible exact Below.refl _ _ | (with_reducible refine Below.alloc ?_ (by first | omega | (simp [go_sem] <;> omega)) _) | (with_reducible refine Below.drew ?_) | (with_reducible refine Below.drewN ?_ _) | (with_reducible refine Below.grow ?_ (by first | omega | (simp [go_sem] <;> omega)) _) | (with_reducible refine Below.setCell ?_ (by first | omega | (simp [go_sem] <;> omega)) _)))
  have b2 : decide ((1500 : Int) < t.size) = false := by simp; omega
  have hsz : s.data.toList.length = s.size := by rw [Array.length_toList]; rfl
  have htz : t.data.toList.length = t.size := by rw [Array.length_toList]; rfl
  obtain ⟨a1, c1, P1, g1⟩ := parse_gen s.data.toList
  obtain ⟨a2, c2, P2, g2⟩ := parse_gen t.data.toList
  obtain ⟨a3, c3, P3, g3⟩ := parse_gen (s.data.toList ++ 10 :: t.data.toList)
  obtain ⟨a4, c4, P4, g4⟩ := parse_gen (t.data.toList ++ 10 :: s.data.toList)
  obtain ⟨a5, c5, P5, g5⟩ := parse_gen ((s.data.toList ++ 10 :: t.data.toList) ++ 10 :: (s.data.toList ++ 10 :: t.data.toList))
  have HP1 := Lib.hid (fun W => show Calls Try.prog 14 #[.string s] W _ from g1.run W)
  have HP2 := Lib.hid (fun W => show Calls Try.prog 14 #[.string t] W _ from g2.run W)
  have HP3 := Lib.hid (fun W => show Calls Try.prog 14 #[.string (s ++ ⟨#[10]⟩ ++ t)] W _ from cat_two s t ▸ g3.run W)
  have HP4 := Lib.hid (fun W => show Calls Try.prog 14 #[.string (t ++ ⟨#[10]⟩ ++ s)] W _ from cat_two t s ▸ g4.run W)
  have HP5 := Lib.hid (fun W => show Calls Try.prog 14 #[.string (s ++ ⟨#[10]⟩ ++ t ++ ⟨#[10]⟩ ++ s ++ ⟨#[10]⟩ ++ t)] W _ from cat_four s t ▸ g5.run W)
  have HBk3 := Lib.hid g3.bk
  have HBk4 := Lib.hid g4.bk
  have HBk5 := Lib.hid g5.bk
  have HSays : Hid (c1 = 0 → c2 = 0 → (c3 = 0 ∧ c4 = 0 ∧ P3 = P4 ∧ (c5 = 5 ∨ (c5 = 0 ∧ P3 = P5))) ∨ (c3 = c4 ∧ (c3 = 5 ∨ c3 = 3))) := by
    show _ → _
    intro e1 e2
    have p1 : parsePl s.data.toList = .ok P1 := g1.says.elim (fun h => h.2.2) (fun h => absurd e1 h.1)
    have p2 : parsePl t.data.toList = .ok P2 := g2.says.elim (fun h => h.2.2) (fun h => absurd e2 h.1)
    have key : ∀ {x : Bs} {a c : Nat} {P Q : Pol}, ParseG x a c P → parsePl x = .ok Q → c = 0 ∧ P = Q := fun g hq => by
      rcases g.says with ⟨h1, _, h3⟩ | ⟨_, _, _, h3⟩
      · rw [h3] at hq; cases hq; exact ⟨h1, rfl⟩
      · rw [h3] at hq; cases hq
    have kez : ∀ {x : Bs} {a c b d : Nat} {P : Pol}, ParseG x a c P → parsePl x = .error ⟨b, d⟩ → c = d := fun g hq => by
      rcases g.says with ⟨_, _, h3⟩ | ⟨_, _, _, h3⟩
      · rw [h3] at hq; cases hq
      · rw [h3] at hq; cases hq; rfl
    rcases two_texts p1 p2 (by omega) (by omega) with ⟨P, q1, q2, q3⟩ | ⟨a, b, c, hc, q1, q2⟩
    · obtain ⟨d3, rfl⟩ := key g3 q1
      obtain ⟨d4, rfl⟩ := key g4 q2
      refine .inl ⟨d3, d4, rfl, ?_⟩
      rcases q3 with q3 | ⟨a, q3⟩
      · obtain ⟨d5, e5⟩ := key g5 q3
        exact .inr ⟨d5, e5.symm⟩
      · exact .inl (kez g5 q3)
    · have d3 := kez g3 q1
      have d4 := kez g4 q2
      refine .inr ⟨by rw [d3, d4], ?_⟩
      rw [d3]; exact hc
  have hs15 : s.size ≤ 1500 := by omega
  have ht15 : t.size ≤ 1500 := by omega
  clear g1 g2 g3 g4 g5 hsz htz h1 h2 _hs _ht
  go_enter Try.func5, Try.ntmps5
  go_upto_region 4 with (go_at_call 7; (with_reducible refine (awake08_any _).mono ?_); rintro e Wa ⟨rfl, Xa, hXa⟩; have hba : Below w.heap.size w Wa := (by rw [hXa]; exact (by repeat (first | with_reducible exact Below.refl _ _ | (with_reducible refine Below.alloc ?_ (by first | omega | (simp [go_sem] <;> omega)) _) | (with_reducible refine Below.drew ?_) | (with_reducible refine Below.drewN ?_ _) | (with_reducible refine Below.grow ?_ (by first | omega | (simp [go_sem] <;> omega)) _) | (with_reducible refine Below.setCell ?_ (by first | omega | (simp [go_sem] <;> omega)) _)))); have HA0 := Lib.hid hba; clear hXa hba)
  clear b1 b2
  go_upto_region 5 with (first | (go_at_call 14; (with_reducible refine (HP1.out _).mono ?_); rintro e W1 ⟨hb1, v1, rfl, hv1⟩; have HB1 := Lib.hid (HA0.out.trans (hb1.mono HA0.out.size)); have HD1 := Lib.hid hb1; have HV1 := Lib.hid hv1; obtain ⟨u0, u1, u2, u3, u4, u5, rfl, ⟨A10, k10, rfl, _⟩, ⟨A11, k11, rfl, _⟩, ⟨A12, k12, rfl, _⟩, ⟨A13, k13, rfl, _⟩, ⟨A14, k14, rfl, _⟩, ⟨A15, k15, rfl, _⟩⟩ := hv1; clear hb1))
  refine name_world fun V1 hV1 => ?_
  obtain ⟨B1, hB1⟩ : ∃ B, W1.heap.size = B := ⟨_, rfl⟩
  have hw1 : Below W1.heap.size W1 V1 := by rw [hV1]; exact (by repeat (first | with_reducible exact Below.refl _ _ | (with_reducible refine Below.alloc ?_ (by first | omega | (simp [go_sem] <;> omega)) _) | (with_reducible refine Below.drew ?_) | (with_reducible refine Below.drewN ?_ _) | (with_reducible refine Below.grow ?_ (by first | omega | (simp [go_sem] <;> omega)) _) | (with_reducible refine Below.setCell ?_ (by first | omega | (simp [go_sem] <;> omega)) _)))
  rw [hB1]
  have HA1 := Lib.hid (HB1.out.trans (hw1.mono HB1.out.size))
  have HE1 := Lib.hid (HD1.out.trans (hw1.mono HD1.out.size))
  have HVv1 := Lib.hid ((HV1.out.below hw1).mono (bad' := fun _ => False) (fun _ _ h => h.elim))
  clear hV1 hw1 HB1 HD1 HV1
  go_upto_region 6 with (first | (go_at_call 14; (with_reducible refine (HP2.out _).mono ?_); rintro e W2 ⟨hb2, v2, rfl, hv2⟩; have HB2 := Lib.hid (HA1.out.trans (hb2.mono HA1.out.size)); have HD2 := Lib.hid hb2; have HV2 := Lib.hid hv2; obtain ⟨u0, u1, u2, u3, u4, u5, rfl, ⟨A20, k20, rfl, _⟩, ⟨A21, k21, rfl, _⟩, ⟨A22, k22, rfl, _⟩, ⟨A23, k23, rfl, _⟩, ⟨A24, k24, rfl, _⟩, ⟨A25, k25, rfl, _⟩⟩ := hv2; clear hb2))
  refine name_world fun V2 hV2 => ?_
  obtain ⟨B2, hB2⟩ : ∃ B, W2.heap.size = B := ⟨_, rfl⟩
  have hw2 : Below W2.heap.size W2 V2 := by rw [hV2]; exact (by repeat (first | with_reducible exact Below.refl _ _ | (with_reducible refine Below.alloc ?_ (by first | omega | (simp [go_sem] <;> omega)) _) | (with_reducible refine Below.drew ?_) | (with_reducible refine Below.drewN ?_ _) | (with_reducible refine Below.grow ?_ (by first | omega | (simp [go_sem] <;> omega)) _) | (with_reducible refine Below.setCell ?_ (by first | omega | (simp [go_sem] <;> omega)) _)))
  rw [hB2]
  have HA2 := Lib.hid (HB2.out.trans (hw2.mono HB2.out.size))
  have HE2 := Lib.hid (HD2.out.trans (hw2.mono HD2.out.size))
  have HVv2 := Lib.hid ((HV2.out.below hw2).mono (bad' := fun _ => False) (fun _ _ h => h.elim))
  clear hV2 hw2 HB2 HD2 HV2
  go_upto_region 7 with (first | (go_at_call 14; (with_reducible refine (HP3.out _).mono ?_); rintro e W3 ⟨hb3, v3, rfl, hv3⟩; have HB3 := Lib.hid (HA2.out.trans (hb3.mono HA2.out.size)); have HD3 := Lib.hid hb3; have HV3 := Lib.hid hv3; obtain ⟨u0, u1, u2, u3, u4, u5, rfl, ⟨A30, k30, rfl, _⟩, ⟨A31, k31, rfl, _⟩, ⟨A32, k32, rfl, _⟩, ⟨A33, k33, rfl, _⟩, ⟨A34, k34, rfl, _⟩, ⟨A35, k35, rfl, _⟩⟩ := hv3; clear hb3))
  refine name_world fun V3 hV3 => ?_
  obtain ⟨B3, hB3⟩ : ∃ B, W3.heap.size = B := ⟨_, rfl⟩
  have hw3 : Below W3.heap.size W3 V3 := by rw [hV3]; exact (by repeat (first | with_reducible exact Below.refl _ _ | (with_reducible refine Below.alloc ?_ (by first | omega | (simp [go_sem] <;> omega)) _) | (with_reducible refine Below.drew ?_) | (with_reducible refine Below.drewN ?_ _) | (with_reducible refine Below.grow ?_ (by first | omega | (simp [go_sem] <;> omega)) _) | (with_reducible refine Below.setCell ?_ (by first | omega | (simp [go_sem] <;> omega)) _)))
  rw [hB3]
  have c30 : V3.cell? ⟨B3, 0, none⟩ = some (.slice A30 (fN P3 0) k30) := by rw [hV3, ← hB3]; simp [go_sem]
  have c31 : V3.cell? ⟨B3, 1, none⟩ = some (.slice A31 (fN P3 1) k31) := by rw [hV3, ← hB3]; simp [go_sem]
  have c32 : V3.cell? ⟨B3, 2, none⟩ = some (.slice A32 (fN P3 2) k32) := by rw [hV3, ← hB3]; simp [go_sem]
  have c33 : V3.cell? ⟨B3, 3, none⟩ = some (.slice A33 (fN P3 3) k33) := by rw [hV3, ← hB3]; simp [go_sem]
  have c34 : V3.cell? ⟨B3, 4, none⟩ = some (.slice A34 (fN P3 4) k34) := by rw [hV3, ← hB3]; simp [go_sem]
  have c35 : V3.cell? ⟨B3, 5, none⟩ = some (.slice A35 (fN P3 5) k35) := by rw [hV3, ← hB3]; simp [go_sem]
  have c36 : V3.cell? ⟨B3, 6, none⟩ = some (.bool P3.rel) := by rw [hV3, ← hB3]; simp [go_sem]
  have c37 : V3.cell? ⟨B3, 7, none⟩ = some (.int .i64 P3.depth) := by rw [hV3, ← hB3]; simp [go_sem]
  have c38 : V3.cell? ⟨B3, 8, none⟩ = some (.int .i64 P3.name) := by rw [hV3, ← hB3]; simp [go_sem]
  have c39 : V3.cell? ⟨B3, 9, none⟩ = some (.int .i64 P3.value) := by rw [hV3, ← hB3]; simp [go_sem]
  have hl3 : B3 < V3.heap.size := by rw [hV3, ← hB3]; simp
  have HA3 := Lib.hid (HB3.out.trans (hw3.mono HB3.out.size))
  have HE3 := Lib.hid (HD3.out.trans (hw3.mono HD3.out.size))
  have HVv3 := Lib.hid ((HV3.out.below hw3).mono (bad' := fun _ => False) (fun _ _ h => h.elim))
  clear hV3 hw3 HB3 HD3 HV3
  go_upto_region 8 with (first | (go_at_call 14; (with_reducible refine (HP4.out _).mono ?_); rintro e W4 ⟨hb4, v4, rfl, hv4⟩; have HB4 := Lib.hid (HA3.out.trans (hb4.mono HA3.out.size)); have HD4 := Lib.hid hb4; have HV4 := Lib.hid hv4; obtain ⟨u0, u1, u2, u3, u4, u5, rfl, ⟨A40, k40, rfl, _⟩, ⟨A41, k41, rfl, _⟩, ⟨A42, k42, rfl, _⟩, ⟨A43, k43, rfl, _⟩, ⟨A44, k44, rfl, _⟩, ⟨A45, k45, rfl, _⟩⟩ := hv4; clear hb4))
  refine name_world fun V4 hV4 => ?_
  obtain ⟨B4, hB4⟩ : ∃ B, W4.heap.size = B := ⟨_, rfl⟩
  have hw4 : Below W4.heap.size W4 V4 := by rw [hV4]; exact (by repeat (first | with_reducible exact Below.refl _ _ | (with_reducible refine Below.alloc ?_ (by first | omega | (simp [go_sem] <;> omega)) _) | (with_reducible refine Below.drew ?_) | (with_reducible refine Below.drewN ?_ _) | (with_reducible refine Below.grow ?_ (by first | omega | (simp [go_sem] <;> omega)) _) | (with_reducible refine Below.setCell ?_ (by first | omega | (simp [go_sem] <;> omega)) _)))
  rw [hB4]
  have c40 : V4.cell? ⟨B4, 0, none⟩ = some (.slice A40 (fN P4 0) k40) := by rw [hV4, ← hB4]; simp [go_sem]
  have c41 : V4.cell? ⟨B4, 1, none⟩ = some (.slice A41 (fN P4 1) k41) := by rw [hV4, ← hB4]; simp [go_sem]
  have c42 : V4.cell? ⟨B4, 2, none⟩ = some (.slice A42 (fN P4 2) k42) := by rw [hV4, ← hB4]; simp [go_sem]
  have c43 : V4.cell? ⟨B4, 3, none⟩ = some (.slice A43 (fN P4 3) k43) := by rw [hV4, ← hB4]; simp [go_sem]
  have c44 : V4.cell? ⟨B4, 4, none⟩ = some (.slice A44 (fN P4 4) k44) := by rw [hV4, ← hB4]; simp [go_sem]
  have c45 : V4.cell? ⟨B4, 5, none⟩ = some (.slice A45 (fN P4 5) k45) := by rw [hV4, ← hB4]; simp [go_sem]
  have c46 : V4.cell? ⟨B4, 6, none⟩ = some (.bool P4.rel) := by rw [hV4, ← hB4]; simp [go_sem]
  have c47 : V4.cell? ⟨B4, 7, none⟩ = some (.int .i64 P4.depth) := by rw [hV4, ← hB4]; simp [go_sem]
  have c48 : V4.cell? ⟨B4, 8, none⟩ = some (.int .i64 P4.name) := by rw [hV4, ← hB4]; simp [go_sem]
  have c49 : V4.cell? ⟨B4, 9, none⟩ = some (.int .i64 P4.value) := by rw [hV4, ← hB4]; simp [go_sem]
  have hl4 : B4 < V4.heap.size := by rw [hV4, ← hB4]; simp
  have HA4 := Lib.hid (HB4.out.trans (hw4.mono HB4.out.size))
  have HE4 := Lib.hid (HD4.out.trans (hw4.mono HD4.out.size))
  have HVv4 := Lib.hid ((HV4.out.below hw4).mono (bad' := fun _ => False) (fun _ _ h => h.elim))
  clear hV4 hw4 HB4 HD4 HV4
  go_upto_region 9 with (first | (go_at_call 14; (with_reducible refine (HP5.out _).mono ?_); rintro e W5 ⟨hb5, v5, rfl, hv5⟩; have HB5 := Lib.hid (HA4.out.trans (hb5.mono HA4.out.size)); have HD5 := Lib.hid hb5; have HV5 := Lib.hid hv5; obtain ⟨u0, u1, u2, u3, u4, u5, rfl, ⟨A50, k50, rfl, _⟩, ⟨A51, k51, rfl, _⟩, ⟨A52, k52, rfl, _⟩, ⟨A53, k53, rfl, _⟩, ⟨A54, k54, rfl, _⟩, ⟨A55, k55, rfl, _⟩⟩ := hv5; clear hb5))
  refine name_world fun V5 hV5 => ?_
  obtain ⟨B5, hB5⟩ : ∃ B, W5.heap.size = B := ⟨_, rfl⟩
  have hw5 : Below W5.heap.size W5 V5 := by rw [hV5]; exact (by repeat (first | with_reducible exact Below.refl _ _ | (with_reducible refine Below.alloc ?_ (by first | omega | (simp [go_sem] <;> omega)) _) | (with_reducible refine Below.drew ?_) | (with_reducible refine Below.drewN ?_ _) | (with_reducible refine Below.grow ?_ (by first | omega | (simp [go_sem] <;> omega)) _) | (with_reducible refine Below.setCell ?_ (by first | omega | (simp [go_sem] <;> omega)) _)))
  rw [hB5]
  have c50 : V5.cell? ⟨B5, 0, none⟩ = some (.slice A50 (fN P5 0) k50) := by rw [hV5, ← hB5]; simp [go_sem]
  have c51 : V5.cell? ⟨B5, 1, none⟩ = some (.slice A51 (fN P5 1) k51) := by rw [hV5, ← hB5]; simp [go_sem]
  have c52 : V5.cell? ⟨B5, 2, none⟩ = some (.slice A52 (fN P5 2) k52) := by rw [hV5, ← hB5]; simp [go_sem]
  have c53 : V5.cell? ⟨B5, 3, none⟩ = some (.slice A53 (fN P5 3) k53) := by rw [hV5, ← hB5]; simp [go_sem]
  have c54 : V5.cell? ⟨B5, 4, none⟩ = some (.slice A54 (fN P5 4) k54) := by rw [hV5, ← hB5]; simp [go_sem]
  have c55 : V5.cell? ⟨B5, 5, none⟩ = some (.slice A55 (fN P5 5) k55) := by rw [hV5, ← hB5]; simp [go_sem]
  have c56 : V5.cell? ⟨B5, 6, none⟩ = some (.bool P5.rel) := by rw [hV5, ← hB5]; simp [go_sem]
  have c57 : V5.cell? ⟨B5, 7, none⟩ = some (.int .i64 P5.depth) := by rw [hV5, ← hB5]; simp [go_sem]
  have c58 : V5.cell? ⟨B5, 8, none⟩ = some (.int .i64 P5.name) := by rw [hV5, ← hB5]; simp [go_sem]
  have c59 : V5.cell? ⟨B5, 9, none⟩ = some (.int .i64 P5.value) := by rw [hV5, ← hB5]; simp [go_sem]
  have hl5 : B5 < V5.heap.size := by rw [hV5, ← hB5]; simp
  have HA5 := Lib.hid (HB5.out.trans (hw5.mono HB5.out.size))
  have HE5 := Lib.hid (HD5.out.trans (hw5.mono HD5.out.size))
  have HVv5 := Lib.hid ((HV5.out.below hw5).mono (bad' := fun _ => False) (fun _ _ h => h.elim))
  clear hV5 hw5 HB5 HD5 HV5

  by_cases e1 : c1 = 0
  rotate_left
  · have n1 : ((c1 : Int) != 0) = true := by simp; omega
    clear HSays
    go_wp2_with fail
    go_ret
    exact Ret.of rfl HA5.out
  by_cases e2 : c2 = 0
  rotate_left
  · have n1 : ((c1 : Int) != 0) = false := by simp; omega
    have n2 : ((c2 : Int) != 0) = true := by simp; omega
    clear HSays
    go_wp2_with fail
    go_ret
    exact Ret.of rfl HA5.out
  rcases HSays.out e1 e2 with ⟨e3, e4, hp, h5⟩ | ⟨e34, h5⟩
  · have HX3 := Lib.hid ((HVv3.out.below HE4.out).below HE5.out)
    have HX4 := Lib.hid (HVv4.out.below HE5.out)
    have HX5 := Lib.hid HVv5.out
    have c30 := ((HE5.out.cell (p := ⟨B3, 0, none⟩) (Nat.lt_of_lt_of_le hl3 HE4.out.size)).trans ((HE4.out.cell (p := ⟨B3, 0, none⟩) hl3).trans c30))
    have c31 := ((HE5.out.cell (p := ⟨B3, 1, none⟩) (Nat.lt_of_lt_of_le hl3 HE4.out.size)).trans ((HE4.out.cell (p := ⟨B3, 1, none⟩) hl3).trans c31))
    have c32 := ((HE5.out.cell (p := ⟨B3, 2, none⟩) (Nat.lt_of_lt_of_le hl3 HE4.out.size)).trans ((HE4.out.cell (p := ⟨B3, 2, none⟩) hl3).trans c32))
    have c33 := ((HE5.out.cell (p := ⟨B3, 3, none⟩) (Nat.lt_of_lt_of_le hl3 HE4.out.size)).trans ((HE4.out.cell (p := ⟨B3, 3, none⟩) hl3).trans c33))
    have c34 := ((HE5.out.cell (p := ⟨B3, 4, none⟩) (Nat.lt_of_lt_of_le hl3 HE4.out.size)).trans ((HE4.out.cell (p := ⟨B3, 4, none⟩) hl3).trans c34))
    have c35 := ((HE5.out.cell (p := ⟨B3, 5, none⟩) (Nat.lt_of_lt_of_le hl3 HE4.out.size)).trans ((HE4.out.cell (p := ⟨B3, 5, none⟩) hl3).trans c35))
    have c36 := ((HE5.out.cell (p := ⟨B3, 6, none⟩) (Nat.lt_of_lt_of_le hl3 HE4.out.size)).trans ((HE4.out.cell (p := ⟨B3, 6, none⟩) hl3).trans c36))
    have c37 := ((HE5.out.cell (p := ⟨B3, 7, none⟩) (Nat.lt_of_lt_of_le hl3 HE4.out.size)).trans ((HE4.out.cell (p := ⟨B3, 7, none⟩) hl3).trans c37))
    have c38 := ((HE5.out.cell (p := ⟨B3, 8, none⟩) (Nat.lt_of_lt_of_le hl3 HE4.out.size)).trans ((HE4.out.cell (p := ⟨B3, 8, none⟩) hl3).trans c38))
    have c39 := ((HE5.out.cell (p := ⟨B3, 9, none⟩) (Nat.lt_of_lt_of_le hl3 HE4.out.size)).trans ((HE4.out.cell (p := ⟨B3, 9, none⟩) hl3).trans c39))
    have c40 := (HE5.out.cell (p := ⟨B4, 0, none⟩) hl4).trans c40
    have c41 := (HE5.out.cell (p := ⟨B4, 1, none⟩) hl4).trans c41
    have c42 := (HE5.out.cell (p := ⟨B4, 2, none⟩) hl4).trans c42
    have c43 := (HE5.out.cell (p := ⟨B4, 3, none⟩) hl4).trans c43
    have c44 := (HE5.out.cell (p := ⟨B4, 4, none⟩) hl4).trans c44
    have c45 := (HE5.out.cell (p := ⟨B4, 5, none⟩) hl4).trans c45
    have c46 := (HE5.out.cell (p := ⟨B4, 6, none⟩) hl4).trans c46
    have c47 := (HE5.out.cell (p := ⟨B4, 7, none⟩) hl4).trans c47
    have c48 := (HE5.out.cell (p := ⟨B4, 8, none⟩) hl4).trans c48
    have c49 := (HE5.out.cell (p := ⟨B4, 9, none⟩) hl4).trans c49
    have hm3 : B3 < V5.heap.size := World.block_lt_of_cell? V5 _ c30
    have hm4 : B4 < V5.heap.size := World.block_lt_of_cell? V5 _ c40
    have HQ := Lib.hid (fun (hp : P3 = P4) => show Calls Try.prog 9 #[.agg #[.slice A30 (fN P3 0) k30, .slice A31 (fN P3 1) k31, .slice A32 (fN P3 2) k32, .slice A33 (fN P3 3) k33, .slice A34 (fN P3 4) k34, .slice A35 (fN P3 5) k35, .bool P3.rel, .int .i64 P3.depth, .int .i64 P3.name, .int .i64 P3.value], .agg #[.slice A40 (fN P4 0) k40, .slice A41 (fN P4 1) k41, .slice A42 (fN P4 2) k42, .slice A43 (fN P4 3) k43, .slice A44 (fN P4 4) k44, .slice A45 (fN P4 5) k45, .bool P4.rel, .int .i64 P4.depth, .int .i64 P4.name, .int .i64 P4.value]] V5 (Ret (.bool true) V5) from by
      have h9 := rsame_any _ _ P3 P4 _ _ V5 HX3.out HX4.out (HBk3.out.mono (by omega)).sm (HBk4.out.mono (by omega)).sm
      rw [decide_eq_true hp] at h9
      exact h9)
    have HQ2 := Lib.hid (HQ.out hp)
    have HPq := Lib.hid hp
    subst e1 e2 e3 e4
    clear hp HQ
    rcases h5 with e5 | ⟨e5, hp5⟩
    · subst e5
      go_wp2_with (go_at_call 9; (with_reducible refine HQ2.out.mono ?_); rintro e W6 ⟨rfl, X6, hX6⟩; have hb6 : Below V5.heap.size V5 W6 := (by rw [hX6]; exact (by repeat (first | with_reducible exact Below.refl _ _ | (with_reducible refine Below.alloc ?_ (by first | omega | (simp [go_sem] <;> omega)) _) | (with_reducible refine Below.drew ?_) | (with_reducible refine Below.drewN ?_ _) | (with_reducible refine Below.grow ?_ (by first | omega | (simp [go_sem] <;> omega)) _) | (with_reducible refine Below.setCell ?_ (by first | omega | (simp [go_sem] <;> omega)) _)))); clear hX6)
      go_ret
      exact Ret.of rfl (HA5.out.trans (hb6.mono HA5.out.size))
    · subst e5
      have HR := Lib.hid (fun W (hb : Below V5.heap.size V5 W) => show Calls Try.prog 9 #[.agg #[.slice A30 (fN P3 0) k30, .slice A31 (fN P3 1) k31, .slice A32 (fN P3 2) k32, .slice A33 (fN P3 3) k33, .slice A34 (fN P3 4) k34, .slice A35 (fN P3 5) k35, .bool P3.rel, .int .i64 P3.depth, .int .i64 P3.name, .int .i64 P3.value], .agg #[.slice A50 (fN P5 0) k50, .slice A51 (fN P5 1) k51, .slice A52 (fN P5 2) k52, .slice A53 (fN P5 3) k53, .slice A54 (fN P5 4) k54, .slice A55 (fN P5 5) k55, .bool P5.rel, .int .i64 P5.depth, .int .i64 P5.name, .int .i64 P5.value]] W (Ret (.bool true) W) from by
        have h9 := rsame_any _ _ P3 P5 _ _ W (HX3.out.below hb) (HX5.out.below hb) (HBk3.out.mono (by omega)).sm (HBk5.out.mono (by omega)).sm
        rw [decide_eq_true hp5] at h9
        exact h9)
      clear hp5
      go_wp2_with (first | (go_at_call 9; (with_reducible refine HQ2.out.mono ?_); rintro e W6 ⟨rfl, X6, hX6⟩; have hb6 : Below V5.heap.size V5 W6 := (by rw [hX6]; exact (by repeat (first | with_reducible exact Below.refl _ _ | (with_reducible refine Below.alloc ?_ (by first | omega | (simp [go_sem] <;> omega)) _) | (with_reducible refine Below.drew ?_) | (with_reducible refine Below.drewN ?_ _) | (with_reducible refine Below.grow ?_ (by first | omega | (simp [go_sem] <;> omega)) _) | (with_reducible refine Below.setCell ?_ (by first | omega | (simp [go_sem] <;> omega)) _)))); have d30 := (hb6.cell (p := ⟨B3, 0, none⟩) hm3).trans c30; have d31 := (hb6.cell (p := ⟨B3, 1, none⟩) hm3).trans c31; have d32 := (hb6.cell (p := ⟨B3, 2, none⟩) hm3).trans c32; have d33 := (hb6.cell (p := ⟨B3, 3, none⟩) hm3).trans c33; have d34 := (hb6.cell (p := ⟨B3, 4, none⟩) hm3).trans c34; have d35 := (hb6.cell (p := ⟨B3, 5, none⟩) hm3).trans c35; have d36 := (hb6.cell (p := ⟨B3, 6, none⟩) hm3).trans c36; have d37 := (hb6.cell (p := ⟨B3, 7, none⟩) hm3).trans c37; have d38 := (hb6.cell (p := ⟨B3, 8, none⟩) hm3).trans c38; have d39 := (hb6.cell (p := ⟨B3, 9, none⟩) hm3).trans c39; have d50 := (hb6.cell (p := ⟨B5, 0, none⟩) hl5).trans c50; have d51 := (hb6.cell (p := ⟨B5, 1, none⟩) hl5).trans c51; have d52 := (hb6.cell (p := ⟨B5, 2, none⟩) hl5).trans c52; have d53 := (hb6.cell (p := ⟨B5, 3, none⟩) hl5).trans c53; have d54 := (hb6.cell (p := ⟨B5, 4, none⟩) hl5).trans c54; have d55 := (hb6.cell (p := ⟨B5, 5, none⟩) hl5).trans c55; have d56 := (hb6.cell (p := ⟨B5, 6, none⟩) hl5).trans c56; have d57 := (hb6.cell (p := ⟨B5, 7, none⟩) hl5).trans c57; have d58 := (hb6.cell (p := ⟨B5, 8, none⟩) hl5).trans c58; have d59 := (hb6.cell (p := ⟨B5, 9, none⟩) hl5).trans c59; have hn3 : B3 < W6.heap.size := Nat.lt_of_lt_of_le hm3 hb6.size; have hn5 : B5 < W6.heap.size := Nat.lt_of_lt_of_le hl5 hb6.size; clear hX6) | (go_at_call 9; (with_reducible refine (HR.out _ hb6).mono ?_); rintro e W7 ⟨rfl, X7, hX7⟩; have hb7 : Below V5.heap.size V5 W7 := hb6.trans ((show Below W6.heap.size W6 W7 by rw [hX7]; exact (by repeat (first | with_reducible exact Below.refl _ _ | (with_reducible refine Below.alloc ?_ (by first | omega | (simp [go_sem] <;> omega)) _) | (with_reducible refine Below.drew ?_) | (with_reducible refine Below.drewN ?_ _) | (with_reducible refine Below.grow ?_ (by first | omega | (simp [go_sem] <;> omega)) _) | (with_reducible refine Below.setCell ?_ (by first | omega | (simp [go_sem] <;> omega)) _)))).mono hb6.size); clear hX7))
      go_ret
      exact Ret.of rfl (HA5.out.trans (hb7.mono HA5.out.size))
  · subst e1 e2 e34
    rcases h5 with rfl | rfl
    all_goals
      go_wp2_with fail
      go_ret
      exact Ret.of rfl HA5.out

set_option maxRecDepth 100000 in
theorem lifted (os : Os) (started : os.Started) (H : Type) (enc : TypeId × Value → H) :
    ReturnsInHanded {} Try.checked os 5 .any (Rows.policyTurnedSpec.pre6 enc Try.prog Try.f5 Rows.policyTurnedRow.domain false) (Rows.policyTurnedSpec.post enc Try.prog Try.f5 false true false false) := by
  refine returnsInHanded_of_change (C := Try.checked) own started (by kernel_rfl) Try.func5
    (ChangeSpec.witness6 (enc := enc) (C := Try.checked) false ⟨#[], #[.string ⟨#[]⟩, .string ⟨#[]⟩], []⟩ 8 (by kernel_rfl) (by kernel_rfl) (by kernel_rfl) (by kernel_rfl)) ?_
  intro W base args ds gs before hval0 hW hcnd _
  have hval : ∀ (j : Nat) t v, Try.f5.params[j]? = some t → args[j]? = some v → Value.okWide Try.prog W .any base t v := hval0
  have hW' := hW
  obtain ⟨p, q, hA0, hV, rfl, hfz, hnd⟩ := hW
  have hA : DataW.TrodAll enc Try.prog W 0 (fun _ => true) true Try.f5.params.toList args.toList ds p := hA0
  rw [Try.params5] at hA hval
  obtain ⟨v0, vs0, d0, ds0, p0, q0, hargs, rfl, rfl, h0, r0⟩ := trodAll_cons hA
  obtain ⟨v1, vs1, d1, ds1, p1, q1, rfl, rfl, rfl, h1, r1⟩ := trodAll_cons r0
  obtain ⟨rfl, rfl, rfl⟩ := trodAll_nil r1
  obtain rfl : args = #[v0, v1] := by cases args; simp_all
  obtain ⟨rfl, rfl⟩ := trodVars_none hV
  obtain ⟨s0, rfl, rfl, rfl, w0⟩ := open_string Try.underlying9 (hval 0 9 v0 rfl rfl) h0
  obtain ⟨s1, rfl, rfl, rfl, w1⟩ := open_string Try.underlying9 (hval 1 9 v1 rfl rfl) h1
  clear hA0 hval0
  refine (walk s0 s1 W w0 w1).mono fun e W' hend => ?_
  obtain ⟨he, X, hX⟩ := hend
  have bel : Below W.heap.size W W' := by rw [hX]; exact below_grow W X
  subst he
  exact ⟨_, rfl, _, _, _, [], _, [], hW', trodAll_mk1 (shut_bool Try.underlying4 _), (trodAll_cons_mk (shut_string Try.underlying9 w0) (trodAll_cons_mk (shut_string Try.underlying9 w1) trodAll_mk0)), rfl, bel.frame _, fun h => by cases h⟩

theorem over : Rows.policyTurnedRow.holds Try.pinned (OpenSpec.ofChange Rows.policyTurnedSpec) :=
  OpenClaim.holds_of_wide 5 Try.f5 rfl rfl rfl rfl rfl rfl rfl ⟨rfl, rfl, rfl, rfl, rfl⟩ rfl rfl rfl rfl rfl (by kernel_rfl) Try.func5 (by kernel_rfl)
    (of_decide_eq_true (by kernel_rfl)) (by unfold Func.isWrapper; rw [if_neg (of_decide_eq_false (by kernel_rfl))]; exact ⟨rfl, rfl⟩)
    (fun os started H enc _ => lifted os started H enc)

/-- The statement. -/
theorem proved : Rows.PolicyTurnedSaid := over

end Go.Proofs.Ytenjnliceeejlaa.policyTurned
