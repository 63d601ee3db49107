/- The walks of the reference's parser: a statement of one thing: force, limit. (written by gen_rsingle.py) -/
import Derived.Test.YtenjnliceeejlaaGreatRfD
namespace Go.Proofs.YtenjnliceeejlaaGreat
open Go.RowKit
attribute [local go_sem] Oper.semAt_some
def addF (s : Ps) (f : Frc) : Ps := ⟨s.rest, { s.pol with forces := s.pol.forces ++ [f] }, s.told⟩
theorem addF_row (s : Ps) (f : Frc) : rN (addF s f) 5 = rN s 5 + 1 ∧ rX (addF s f) 5 = rX s 5 ++ [sv f.tag, sv f.name, sv f.value] := by
 constructor
 ·simp [rN, addF, fN]
 ·simp [rX, addF, fC, Frc.cells]
theorem addF_rest (s : Ps) (f : Frc) (i : Nat) (_hi : i < 7) (h5 : i ≠ 5) : rN (addF s f) i = rN s i ∧ rX (addF s f) i = rX s i := by
 unfold rN rX
 split
 ·exact ⟨rfl, rfl⟩
 ·match i, h5 with
  | 0, _ => exact ⟨rfl, rfl⟩
  | 1, _ => exact ⟨rfl, rfl⟩
  | 2, _ => exact ⟨rfl, rfl⟩
  | 3, _ => exact ⟨rfl, rfl⟩
  | 4, _ => exact ⟨rfl, rfl⟩
  | 5, h => exact absurd rfl h
  | i + 6, _ => omega
set_option maxRecDepth 100000 in
set_option maxHeartbeats 4000000 in
theorem rsingle_force (en B : Nat) (s : Ps) (W : World) (h : RPar en B s W) (hs : PsSm s) :
  Calls Tryz.prog 17 #[.pointer (some ⟨B, 0, none⟩), .string ⟨forceT.toArray⟩] W (SingleEnd en B s W (sgR forceT s.rest s.pol s.told)) := by
 have hmx : Tryz.prog.follows .mixedOrders = true := by kernel_rfl
 have HP := Lib.hid h
 have hlt := h.lt
 have htold : s.told.length ≤ 20000 := by have := hs.told; omega
 have hrow5 := hs.rows 5
 have HTx : Hid (∀ i, (textR s.rest i).length ≤ 10000) := fun i => textR_le (fun x hx => (hs.txt x hx).1)
 obtain ⟨kd, hkd⟩ : ∃ kd, (⟨forceT.toArray⟩ : ByteArray) = kd := ⟨_, rfl⟩
 have hkl : kd.toList = [102, 111, 114, 99, 101] := by rw [← hkd, ByteArray.toList_eq]; rfl
 obtain ⟨R, hR⟩ : ∃ R, sgR forceT s.rest s.pol s.told = R := ⟨_, rfl⟩
 have HN : Hid (R = match wantsR s.rest [1, 1, 3] with
  | some i => .error (2, i)
  | none => if (forceT ++ [32] ++ textR s.rest 1 ++ [32] ++ textR s.rest 2) ∈ s.told then .error (5, 0) else .ok (5, (addF s ⟨textR s.rest 1, textR s.rest 2, textR s.rest 3⟩).pol, (forceT ++ [32] ++ textR s.rest 1 ++ [32] ++ textR s.rest 2) :: s.told)) := by show _ = _; rw [← hR]; rfl
 have HW := Lib.hid (fun W' (hb : Below W.heap.size W W') v (hv : Rd W' v [1, 1, 3].length 1 ([1, 1, 3].map ivN)) => show Calls Tryz.prog 45 #[.pointer (some ⟨B, 0, none⟩), v] W' _ from rwants_any en B s W' (h.grown hb) v [1, 1, 3] hv (by simp))
 have hwl : wantsR s.rest [1, 1, 3] = none → 4 < s.rest.length := fun hw => by have := (wantsF_app [] [1, 1, 3] 1 hw).1; simpa using this
 rw [hkd, hR]
 clear hR hkd h hs
 obtain ⟨X, hX⟩ : ∃ X, wantsR s.rest [1, 1, 3] = X := ⟨_, rfl⟩
 rw [hX] at HN HW hwl
 clear hX
 cases X with
 | some i =>
  have HR : Hid (R = .error (2, i)) := HN.out
  have HW2 := Lib.hid (fun W' hb v hv => show Calls Tryz.prog 45 #[.pointer (some ⟨B, 0, none⟩), v] W' fun e w' => e = .returned (.int .i64 (i : Int)) ∧ W' = w' from HW.out W' hb v hv)
  have hi0 : (0 : Int) ≤ (i : Int) := by omega
  clear HN HW hwl HTx
  go_enter Tryz.func17, Tryz.ntmps17
  go_wp2_with (go_at_call 45; (refine (HW2.out _ (by (repeat with_reducible first | exact Below.refl _ _ | refine Below.drew ?_ | refine Below.drewN ?_ _ | refine Below.alloc ?_ ?_ _ | refine Below.grow ?_ ?_ _ | refine Below.setCell ?_ ?_ _); all_goals first | omega | (simp [go_sem] <;> omega)) _ (litI_rd (ts := [1, 1, 3]) (by simp) rfl rfl (by simp))).mono ?_); rintro e w' ⟨rfl, rfl⟩)
  go_ret3
  rw [HR.out]
  exact ⟨rfl, ⟨s, rfl, HP.out.grown (by (repeat with_reducible first | exact Below.refl _ _ | refine Below.drew ?_ | refine Below.drewN ?_ _ | refine Below.alloc ?_ ?_ _ | refine Below.grow ?_ ?_ _ | refine Below.setCell ?_ ?_ _); all_goals first | omega | (simp [go_sem] <;> omega))⟩, (by (repeat with_reducible first | exact Below.refl _ _ | refine Below.drew ?_ | refine Below.drewN ?_ _ | refine Below.alloc ?_ ?_ _ | refine Below.grow ?_ ?_ _ | refine Below.setCell ?_ ?_ _); all_goals first | omega | (simp [go_sem] <;> omega))⟩
 | none =>
  have hlen := hwl rfl
  have HW2 := Lib.hid (fun W' hb v hv => show Calls Tryz.prog 45 #[.pointer (some ⟨B, 0, none⟩), v] W' fun e w' => e = .returned (.int .i64 (-1)) ∧ W' = w' from HW.out W' hb v hv)
  have HN3 : Hid (R = if (forceT ++ [32] ++ textR s.rest 1 ++ [32] ++ textR s.rest 2) ∈ s.told then .error (5, 0) else .ok (5, (addF s ⟨textR s.rest 1, textR s.rest 2, textR s.rest 3⟩).pol, (forceT ++ [32] ++ textR s.rest 1 ++ [32] ++ textR s.rest 2) :: s.told)) := HN.out
  clear HN HW hwl
  go_enter Tryz.func17, Tryz.ntmps17
  go_upto_region 16 with (go_at_call 45; (refine (HW2.out _ (by (repeat with_reducible first | exact Below.refl _ _ | refine Below.drew ?_ | refine Below.drewN ?_ _ | refine Below.alloc ?_ ?_ _ | refine Below.grow ?_ ?_ _ | refine Below.setCell ?_ ?_ _); all_goals first | omega | (simp [go_sem] <;> omega)) _ (litI_rd (ts := [1, 1, 3]) (by simp) rfl rfl (by simp))).mono ?_); rintro e w' ⟨rfl, rfl⟩)
  refine name_world fun W1 hW1 => ?_
  have hb1 : Below W.heap.size W W1 := by rw [hW1]; exact (by (repeat with_reducible first | exact Below.refl _ _ | refine Below.drew ?_ | refine Below.drewN ?_ _ | refine Below.alloc ?_ ?_ _ | refine Below.grow ?_ ?_ _ | refine Below.setCell ?_ ?_ _); all_goals first | omega | (simp [go_sem] <;> omega))
  have HB1 := Lib.hid hb1
  have HP1 := Lib.hid (HP.out.grown hb1)
  clear hW1 hb1 HW2 HP
  obtain ⟨A, c, b1, o1, hc, rfl, hbl, hx⟩ := lx_texts HP1.out (i := 1) (by omega)
  have x1 := hx 1 (by omega)
  have x2 := hx 2 (by omega)
  have x3 := hx 3 (by omega)
  have hx1 : W1.cell? ⟨b1, o1 + 3 + 2, none⟩ = some (.string ⟨(textR s.rest 1).toArray⟩) := x1
  have hx2 : W1.cell? ⟨b1, o1 + 6 + 2, none⟩ = some (.string ⟨(textR s.rest 2).toArray⟩) := x2
  have hx3 : W1.cell? ⟨b1, o1 + 9 + 2, none⟩ = some (.string ⟨(textR s.rest 3).toArray⟩) := x3
  obtain ⟨tx, htx⟩ : ∃ t, textR s.rest 1 = t := ⟨_, rfl⟩
  obtain ⟨ty, hty⟩ : ∃ t, textR s.rest 2 = t := ⟨_, rfl⟩
  obtain ⟨tz, htz⟩ : ∃ t, textR s.rest 3 = t := ⟨_, rfl⟩
  have l1 : tx.length ≤ 10000 := by rw [← htx]; exact HTx.out 1
  have l2 : ty.length ≤ 10000 := by rw [← hty]; exact HTx.out 2
  rw [htx] at hx1 HN3
  rw [hty] at hx2 HN3
  rw [htz] at hx3 HN3
  obtain ⟨what, hwh⟩ : ∃ t, forceT ++ [32] ++ tx ++ [32] ++ ty = t := ⟨_, rfl⟩
  have hwe : (⟨what.toArray⟩ : ByteArray) = ⟨#[102, 111, 114, 99, 101, 32]⟩ ++ ⟨tx.toArray⟩ ++ ⟨#[32]⟩ ++ ⟨ty.toArray⟩ := by
   refine ba_ext ?_
   rw [← hwh]
   simp [forceT]
  rw [hwh] at HN3
  have HO := Lib.hid (fun W' (hb : Below W1.heap.size W1 W') => show Calls Tryz.prog 46 #[.pointer (some ⟨B, 0, none⟩), .string (⟨#[102, 111, 114, 99, 101, 32]⟩ ++ ⟨tx.toArray⟩ ++ ⟨#[32]⟩ ++ ⟨ty.toArray⟩)] W' _ from hwe ▸ ronce_any en B what s W' (HP1.out.grown hb) htold)
  have s1 : (⟨tx.toArray⟩ : ByteArray).size ≤ 10000 := by show tx.toArray.size ≤ _; simpa using l1
  have s2 : (⟨ty.toArray⟩ : ByteArray).size ≤ 10000 := by show ty.toArray.size ≤ _; simpa using l2
  have E1 : Hid (sv tx = .string ⟨tx.toArray⟩) := rfl
  have E2 : Hid (sv ty = .string ⟨ty.toArray⟩) := rfl
  have E3 : Hid (sv tz = .string ⟨tz.toArray⟩) := rfl
  generalize (⟨tx.toArray⟩ : ByteArray) = bx at *
  generalize (⟨ty.toArray⟩ : ByteArray) = bY at *
  generalize (⟨tz.toArray⟩ : ByteArray) = bz at *
  clear hx x1 x2 x3 htx hty htz hwh hwe HTx l1 l2
  have hl1 := HP1.out.lt
  generalize hnl : s.rest.length = nl at *
  have n1 : (1 : Int) < nl := by omega
  have n2 : (2 : Int) < nl := by omega
  have n3 : (3 : Int) < nl := by omega
  refine wp_region_row 23 [(0, true), (1, true), (2, true), (3, true), (4, true), (5, true), (6, true), (7, true), (8, true), (9, true), (10, true), (11, true), (12, true), (13, true), (14, true), (15, true), (16, true), (17, true), (18, true), (19, true), (20, true), (21, true), (22, false)] (fun V => V.cell? ⟨B, 11, none⟩ = some (.slice (some ⟨b1, o1, none⟩) nl c) ∧ V.cell? ⟨b1, o1 + 3 + 2, none⟩ = some (.string bx) ∧ V.cell? ⟨b1, o1 + 6 + 2, none⟩ = some (.string bY) ∧ V.cell? ⟨b1, o1 + 9 + 2, none⟩ = some (.string bz)) hmx (by kernel_rfl) (by kernel_rfl) (by kernel_rfl) (by decide) rfl (fun c a d v w h => by obtain ⟨x, y⟩ := (h : _ ∧ _); cases d <;> exact ⟨x, y⟩) (by kernel_rfl) (by exact ⟨hc, hx1, hx2, hx3⟩) ?_
  refine wpRow_readD (v := .pointer (some ⟨B, 0, none⟩)) 53 rfl rfl rfl (fun W hW => by simp [execOp, go_sem]) ?_
  simp only [Act.put, List.setIfInBounds_toArray, List.set_cons_succ, List.set_cons_zero]
  refine wpRow_readD (v := .pointer (some ⟨B, 0, none⟩)) 54 rfl rfl rfl (fun W hW => by simp [execOp, go_sem]) ?_
  simp only [Act.put, List.setIfInBounds_toArray, List.set_cons_succ, List.set_cons_zero]
  refine wpRow_readD (v := .pointer (some ⟨B, 11, none⟩)) 55 rfl rfl rfl (fun W hW => by simp [execOp, go_sem]) ?_
  simp only [Act.put, List.setIfInBounds_toArray, List.set_cons_succ, List.set_cons_zero]
  refine wpRow_readD (v := .slice (some ⟨b1, o1, none⟩) nl c) 56 rfl rfl rfl (fun W hW => by simp [execOp, go_sem, hW.1]) ?_
  simp only [Act.put, List.setIfInBounds_toArray, List.set_cons_succ, List.set_cons_zero]
  refine wpRow_readD (v := .pointer (some ⟨b1, o1 + 3, none⟩)) 57 rfl rfl rfl (fun W hW => by simp [execOp, go_sem, n1]) ?_
  simp only [Act.put, List.setIfInBounds_toArray, List.set_cons_succ, List.set_cons_zero]
  refine wpRow_readD (v := .pointer (some ⟨b1, o1 + 3 + 2, none⟩)) 58 rfl rfl rfl (fun W hW => by simp [execOp, go_sem]) ?_
  simp only [Act.put, List.setIfInBounds_toArray, List.set_cons_succ, List.set_cons_zero]
  refine wpRow_readD (v := .string bx) 59 rfl rfl rfl (fun W hW => by simp [execOp, go_sem, hW.2.1]) ?_
  simp only [Act.put, List.setIfInBounds_toArray, List.set_cons_succ, List.set_cons_zero]
  refine wpRow_readD (v := .pointer (some ⟨B, 0, none⟩)) 60 rfl rfl rfl (fun W hW => by simp [execOp, go_sem]) ?_
  simp only [Act.put, List.setIfInBounds_toArray, List.set_cons_succ, List.set_cons_zero]
  refine wpRow_readD (v := .pointer (some ⟨B, 0, none⟩)) 61 rfl rfl rfl (fun W hW => by simp [execOp, go_sem]) ?_
  simp only [Act.put, List.setIfInBounds_toArray, List.set_cons_succ, List.set_cons_zero]
  refine wpRow_readD (v := .pointer (some ⟨B, 11, none⟩)) 62 rfl rfl rfl (fun W hW => by simp [execOp, go_sem]) ?_
  simp only [Act.put, List.setIfInBounds_toArray, List.set_cons_succ, List.set_cons_zero]
  refine wpRow_readD (v := .slice (some ⟨b1, o1, none⟩) nl c) 63 rfl rfl rfl (fun W hW => by simp [execOp, go_sem, hW.1]) ?_
  simp only [Act.put, List.setIfInBounds_toArray, List.set_cons_succ, List.set_cons_zero]
  refine wpRow_readD (v := .pointer (some ⟨b1, o1 + 6, none⟩)) 64 rfl rfl rfl (fun W hW => by simp [execOp, go_sem, n2]) ?_
  simp only [Act.put, List.setIfInBounds_toArray, List.set_cons_succ, List.set_cons_zero]
  refine wpRow_readD (v := .pointer (some ⟨b1, o1 + 6 + 2, none⟩)) 65 rfl rfl rfl (fun W hW => by simp [execOp, go_sem]) ?_
  simp only [Act.put, List.setIfInBounds_toArray, List.set_cons_succ, List.set_cons_zero]
  refine wpRow_readD (v := .string bY) 66 rfl rfl rfl (fun W hW => by simp [execOp, go_sem, hW.2.2.1]) ?_
  simp only [Act.put, List.setIfInBounds_toArray, List.set_cons_succ, List.set_cons_zero]
  refine wpRow_readD (v := .pointer (some ⟨B, 0, none⟩)) 67 rfl rfl rfl (fun W hW => by simp [execOp, go_sem]) ?_
  simp only [Act.put, List.setIfInBounds_toArray, List.set_cons_succ, List.set_cons_zero]
  refine wpRow_readD (v := .pointer (some ⟨B, 0, none⟩)) 68 rfl rfl rfl (fun W hW => by simp [execOp, go_sem]) ?_
  simp only [Act.put, List.setIfInBounds_toArray, List.set_cons_succ, List.set_cons_zero]
  refine wpRow_readD (v := .pointer (some ⟨B, 11, none⟩)) 69 rfl rfl rfl (fun W hW => by simp [execOp, go_sem]) ?_
  simp only [Act.put, List.setIfInBounds_toArray, List.set_cons_succ, List.set_cons_zero]
  refine wpRow_readD (v := .slice (some ⟨b1, o1, none⟩) nl c) 70 rfl rfl rfl (fun W hW => by simp [execOp, go_sem, hW.1]) ?_
  simp only [Act.put, List.setIfInBounds_toArray, List.set_cons_succ, List.set_cons_zero]
  refine wpRow_readD (v := .pointer (some ⟨b1, o1 + 9, none⟩)) 71 rfl rfl rfl (fun W hW => by simp [execOp, go_sem, n3]) ?_
  simp only [Act.put, List.setIfInBounds_toArray, List.set_cons_succ, List.set_cons_zero]
  refine wpRow_readD (v := .pointer (some ⟨b1, o1 + 9 + 2, none⟩)) 72 rfl rfl rfl (fun W hW => by simp [execOp, go_sem]) ?_
  simp only [Act.put, List.setIfInBounds_toArray, List.set_cons_succ, List.set_cons_zero]
  refine wpRow_readD (v := .string bz) 73 rfl rfl rfl (fun W hW => by simp [execOp, go_sem, hW.2.2.2]) ?_
  simp only [Act.put, List.setIfInBounds_toArray, List.set_cons_succ, List.set_cons_zero]
  refine wpRow_readD (v := .agg #[.string bx, .string bY, .string bz]) 74 rfl rfl rfl (fun W hW => by simp [execOp, go_sem]) ?_
  simp only [Act.put, List.setIfInBounds_toArray, List.set_cons_succ, List.set_cons_zero]
  refine wpRow_op rfl rfl fun Kc hKc => ?_
  unfold Oper.wp
  simp [execOp, go_sem]
  apply hKc
  have hb6 : ∀ x e, Below W1.heap.size W1 (W1.drew.alloc (.cells x e)) := fun x e => (by (repeat with_reducible first | exact Below.refl _ _ | refine Below.drew ?_ | refine Below.drewN ?_ _ | refine Below.alloc ?_ ?_ _ | refine Below.grow ?_ ?_ _ | refine Below.setCell ?_ ?_ _); all_goals first | omega | (simp [go_sem] <;> omega))
  refine ⟨⟨((hb6 _ _).cell (p := ⟨B, 11, none⟩) hl1).trans hc, ((hb6 _ _).cell (p := ⟨b1, _, none⟩) hbl).trans hx1, ((hb6 _ _).cell (p := ⟨b1, _, none⟩) hbl).trans hx2, ((hb6 _ _).cell (p := ⟨b1, _, none⟩) hbl).trans hx3⟩, ?_⟩
  clear hb6
  dsimp only [wpRow, List.drop]
  go_upto_region 17 with fail
  refine name_world fun V hV => ?_
  obtain ⟨F, hF⟩ : ∃ F, W1.heap.size = F := ⟨_, rfl⟩
  have hbV : Below W1.heap.size W1 V := by rw [hV]; exact (by (repeat with_reducible first | exact Below.refl _ _ | refine Below.drew ?_ | refine Below.drewN ?_ _ | refine Below.alloc ?_ ?_ _ | refine Below.grow ?_ ?_ _ | refine Below.setCell ?_ ?_ _); all_goals first | omega | (simp [go_sem] <;> omega))
  have f0 : V.cell? ⟨F, 0, none⟩ = some (.string bx) := by rw [hV, ← hF]; simp [go_sem]
  have f1 : V.cell? ⟨F, 1, none⟩ = some (.string bY) := by rw [hV, ← hF]; simp [go_sem]
  have f2 : V.cell? ⟨F, 2, none⟩ = some (.string bz) := by rw [hV, ← hF]; simp [go_sem]
  have hFl : F < V.heap.size := World.block_lt_of_cell? V _ f0
  have hBF : B < F := by rw [← hF]; exact hl1
  first | rw [hF] | skip
  have HBV := Lib.hid hbV
  clear hV hbV hx1 hx2 hx3 n1 n2 n3 hc
  by_cases hm : what ∈ s.told
  ·have HR : Hid (R = .error (5, 0)) := by show _ = _; rw [HN3.out, if_pos hm]
   rw [decide_eq_true hm, if_pos hm] at HO
   clear HN3 hm
   go_wp2_with (go_at_call 46; (with_reducible refine (HO.out _ HBV.out).mono ?_); rintro e W2 ⟨rfl, hp2, hb2, hq2⟩; clear hq2)
   go_ret3
   rw [HR.out]
   exact ⟨rfl, ⟨s, rfl, hp2⟩, ((HB1.out.mono (Nat.le_of_lt hlt)).trans (HBV.out.mono (Nat.le_of_lt hl1))).trans hb2⟩
  ·have HR : Hid (R = .ok (5, (addF s ⟨tx, ty, tz⟩).pol, what :: s.told)) := by show _ = _; rw [HN3.out, if_neg hm]
   rw [decide_eq_false hm, if_neg hm] at HO
   clear HN3 hm
   go_upto_region 19 with (go_at_call 46; (with_reducible refine (HO.out _ HBV.out).mono ?_); rintro e W2 ⟨rfl, hp2, hb2, ht2, hs2⟩; have HP2 := Lib.hid hp2; have HB2 := Lib.hid hb2; have HK2 := Lib.hid ht2; have HS2 := Lib.hid hs2; clear hp2 hb2 ht2 hs2)
   have hnr : ¬ (F = B ∨ ∃ v, V.cell? ⟨B, 10, none⟩ = some v ∧ v.ownBlock = some F) := by
    rintro (h | ⟨v, hv, hb⟩)
    ·omega
    ·obtain ⟨u, hu, hou⟩ := HP1.out.row 6 (by omega)
     have h9 : V.cell? ⟨B, 10, none⟩ = some u := (HBV.out.cell (p := ⟨B, 10, none⟩) hl1).trans hu
     rw [hv] at h9
     cases h9
     have := (hou.lt F hb).2
     omega
   have hFl2 : F < W2.heap.size := Nat.lt_of_lt_of_le hFl HK2.out.size
   have g0 := (World.cell?_of_block (a := ⟨F, 0, none⟩) (HK2.out.block F hFl hnr)).trans f0
   have g1 := (World.cell?_of_block (a := ⟨F, 1, none⟩) (HK2.out.block F hFl hnr)).trans f1
   have g2 := (World.cell?_of_block (a := ⟨F, 2, none⟩) (HK2.out.block F hFl hnr)).trans f2
   have HBq := Lib.hid (((HB1.out.mono (Nat.le_of_lt hlt)).trans (HBV.out.mono (Nat.le_of_lt hl1))).trans HB2.out)
   obtain ⟨v5, hv5, ho5⟩ := HP2.out.row 5 (by omega)
   have ho5' : W2.ownsRow (B + 1) 59 3 v5 (rN (tellS s what) 5) (rX (tellS s what) 5) := ho5
   obtain ⟨m, hm⟩ : ∃ m, rN (tellS s what) 5 = m := ⟨_, rfl⟩
   have hm9 : m ≤ 40000 := by rw [← hm]; show fN s.pol 5 ≤ _; omega
   have HM := Lib.hid hm
   rw [hm] at ho5'
   have HOv := Lib.hid ho5'
   obtain ⟨A5, c5, rfl, _⟩ := own_cap ho5'
   have h25 : W2.cell? ⟨B, 5, none⟩ = some (.slice A5 m c5) := hv5
   have hz := HP2.out.fz 5
   have hl2 := HP2.out.lt
   have hM5 : ∀ b, (Value.slice A5 m c5).ownBlock = some b → B + 1 ≤ b := fun b hb => (HOv.out.lt b hb).1
   have HM5 := Lib.hid hM5
   have hdr : Below W2.heap.size W2 W2.drew := (by (repeat with_reducible first | exact Below.refl _ _ | refine Below.drew ?_ | refine Below.drewN ?_ _ | refine Below.alloc ?_ ?_ _ | refine Below.grow ?_ ?_ _ | refine Below.setCell ?_ ?_ _); all_goals first | omega | (simp [go_sem] <;> omega))
   have hnF : ¬ (Value.slice A5 m c5).ownBlock = some F := by
    intro hb
    obtain ⟨u, hu, hou⟩ := HP1.out.row 5 (by omega)
    have h9 : W2.cell? ⟨B, 5, none⟩ = some u := (HS2.out 5 (by omega)).trans ((HBV.out.cell (p := ⟨B, 5, none⟩) hl1).trans hu)
    rw [h25] at h9
    cases h9
    have := (hou.lt F hb).2
    omega
   clear hm ho5 ho5' hv5 hM5
   refine wp_region_row 9 [(0, true), (1, true), (2, true), (3, true), (4, true), (5, true), (6, true), (7, false), (8, false)] (fun V => V.cell? ⟨B, 5, none⟩ = some (.slice A5 m c5) ∧ V.cell? ⟨F, 0, none⟩ = some (.string bx) ∧ V.cell? ⟨F, 1, none⟩ = some (.string bY) ∧ V.cell? ⟨F, 2, none⟩ = some (.string bz)) hmx (by kernel_rfl) (by kernel_rfl) (by kernel_rfl) (by decide) rfl (fun c a d v w h => by obtain ⟨x, y⟩ := (h : _ ∧ _); cases d <;> exact ⟨x, y⟩) (by kernel_rfl) (by exact ⟨h25, g0, g1, g2⟩) ?_
   refine wpRow_readD (v := .pointer (some ⟨B, 0, none⟩)) 84 rfl rfl rfl (fun W hW => by simp [execOp, go_sem]) ?_
   simp only [Act.put, List.setIfInBounds_toArray, List.set_cons_succ, List.set_cons_zero]
   refine wpRow_readD (v := .pointer (some ⟨B, 0, none⟩)) 85 rfl rfl rfl (fun W hW => by simp [execOp, go_sem]) ?_
   simp only [Act.put, List.setIfInBounds_toArray, List.set_cons_succ, List.set_cons_zero]
   refine wpRow_readD (v := .pointer (some ⟨B, 0, none⟩)) 86 rfl rfl rfl (fun W hW => by simp [execOp, go_sem]) ?_
   simp only [Act.put, List.setIfInBounds_toArray, List.set_cons_succ, List.set_cons_zero]
   refine wpRow_readD (v := .pointer (some ⟨B, 0, none⟩)) 87 rfl rfl rfl (fun W hW => by simp [execOp, go_sem]) ?_
   simp only [Act.put, List.setIfInBounds_toArray, List.set_cons_succ, List.set_cons_zero]
   refine wpRow_readD (v := .pointer (some ⟨B, 5, none⟩)) 88 rfl rfl rfl (fun W hW => by simp [execOp, go_sem]) ?_
   simp only [Act.put, List.setIfInBounds_toArray, List.set_cons_succ, List.set_cons_zero]
   refine wpRow_readD (v := .slice A5 m c5) 89 rfl rfl rfl (fun W hW => by simp [execOp, go_sem, hW.1]) ?_
   simp only [Act.put, List.setIfInBounds_toArray, List.set_cons_succ, List.set_cons_zero]
   refine wpRow_readD (v := .agg #[.string bx, .string bY, .string bz]) 90 rfl rfl rfl (fun W hW => by simp [execOp, go_sem, hW.2.1, hW.2.2.1, hW.2.2.2]) ?_
   simp only [Act.put, List.setIfInBounds_toArray, List.set_cons_succ, List.set_cons_zero]
   refine wpRow_op rfl rfl fun Kc hKc => ?_
   unfold Oper.wp
   simp [execOp, go_sem]
   apply hKc
   have hb5 : Below W2.heap.size W2 (W2.drew.alloc (.cells #[.string bx, .string bY, .string bz] 59)) := (by (repeat with_reducible first | exact Below.refl _ _ | refine Below.drew ?_ | refine Below.drewN ?_ _ | refine Below.alloc ?_ ?_ _ | refine Below.grow ?_ ?_ _ | refine Below.setCell ?_ ?_ _); all_goals first | omega | (simp [go_sem] <;> omega))
   refine ⟨⟨(hb5.cell (p := ⟨B, 5, none⟩) hl2).trans h25, (hb5.cell (p := ⟨F, 0, none⟩) hFl2).trans g0, (hb5.cell (p := ⟨F, 1, none⟩) hFl2).trans g1, (hb5.cell (p := ⟨F, 2, none⟩) hFl2).trans g2⟩, ?_⟩
   refine wpRow_op rfl rfl fun Kc hKc => ?_
   refine op_at (n := m) (size := 3) (xs := rX (tellS s what) 5) (v := .slice A5 m c5) _ _ 25 rfl sltF (B + 1) rfl ((own_keep HOv.out hdr).alloc _) (by simp [go_sem] <;> omega) ⟨W2.heap.size, 0, none⟩ 1 1 [.string bx, .string bY, .string bz] rfl (new_cells (c := #[.string bx, .string bY, .string bz]) (by simp [go_sem])) rfl (by simp [Value.oneCell']) (by unfold maxLen; omega) (by omega) ?_
   intro v6 W6 ho6 hg6 hat6
   obtain ⟨A6, c6, rfl, _⟩ := own_cap ho6
   have hgT : Turned (fun b => (Value.slice A5 m c5).ownBlock = some b) (W2.drew.alloc (.cells #[.string bx, .string bY, .string bz] 59)) W6 := ⟨hg6.os, hg6.tape, hg6.output, hg6.size, fun k hk hn => hg6.block k hk (fun e => hn e.symm)⟩
   have hT6 : Turned (fun b => (Value.slice A5 m c5).ownBlock = some b) W2 W6 := (Turned.of_below hb5).trans hgT
   have hnM : ¬ (Value.slice A5 m c5).ownBlock = some B := fun e => by have := HM5.out _ e; omega
   have k6 := (World.cell?_of_block (a := ⟨B, 5, none⟩) (hT6.block _ hl2 hnM)).trans h25
   have kf := (World.frozen?_of_block (a := ⟨B, 5, none⟩) (hT6.block _ hl2 hnM)).trans hz
   have q0 := (World.cell?_of_block (a := ⟨F, 0, none⟩) (hT6.block _ hFl2 hnF)).trans g0
   have q1 := (World.cell?_of_block (a := ⟨F, 1, none⟩) (hT6.block _ hFl2 hnF)).trans g1
   have q2 := (World.cell?_of_block (a := ⟨F, 2, none⟩) (hT6.block _ hFl2 hnF)).trans g2
   apply hKc
   refine ⟨⟨k6, q0, q1, q2⟩, ?_⟩
   simp only [Act.put, List.setIfInBounds_toArray]
   have HT6 := Lib.hid hT6
   have HO6 := Lib.hid ho6
   have HA6 := Lib.hid hat6
   clear hg6 hgT hnM ho6 hat6 hb5 hT6 hdr q0 q1 q2
   dsimp only [wpRow, List.drop]
   go_wp2_with fail
   go_ret3
   rw [HR.out]
   have h9 := HP2.out.put (j := 5) (s' := addF (tellS s what) ⟨tx, ty, tz⟩) (by omega) h25 HT6.out (by rw [(addF_row _ _).1, (addF_row _ _).2, HM.out]; simp only [E1.out, E2.out, E3.out]; exact HO6.out) (HA6.out.imp (fun h => h) (fun h => ⟨_, h, by simp [go_sem]⟩)) (fun i hi hij => addF_rest _ _ i hi hij) rfl rfl rfl rfl rfl
   exact ⟨rfl, h9.1, HBq.out.trans h9.2.1⟩
end Go.Proofs.YtenjnliceeejlaaGreat

