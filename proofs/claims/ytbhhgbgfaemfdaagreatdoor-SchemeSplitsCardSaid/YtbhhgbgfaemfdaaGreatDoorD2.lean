/- The walks of addresses by the reference. -/
import Derived.Test.YtbhhgbgfaemfdaaGreatDoorD1
namespace Go.Proofs.YtbhhgbgfaemfdaaGreatDoor
open Go.RowKit
attribute [local go_sem] Oper.semAt_some
theorem refS_stop {pre r : Bs} {c : UInt8} (h : c.toNat ≠ 58) (hg : goesB c = false) : refS pre (c :: r) = none := by
 show (if c.toNat = 58 then _ else if goesB c = true then _ else none) = _
 rw [if_neg h, hg]
 rfl
theorem refS_step {pre r : Bs} {c : UInt8} (h : c.toNat ≠ 58) (hg : goesB c = true) : refS pre (c :: r) = refS (pre ++ [c]) r := by
 show (if c.toNat = 58 then _ else if goesB c = true then _ else none) = _
 rw [if_neg h, if_pos hg]
theorem refS_colon {pre r : Bs} {c : UInt8} (h : c.toNat = 58) : refS pre (c :: r) = some (pre.map lowC, r) := by
 show (if c.toNat = 58 then _ else _) = _
 rw [if_pos h]
set_option maxRecDepth 100000 in
set_option maxHeartbeats 4000000 in
theorem rsplit11_any (s : ByteArray) (w : World) (hm : s.size ≤ 140737488355328) : Calls Tryz.prog 16 #[.string s] w (Ret (splitV s (splitL s.data.toList)) w) := by
 have hmx : Tryz.prog.follows .mixedOrders = true := by kernel_rfl
 obtain ⟨R, hR⟩ : ∃ R, splitL s.data.toList = R := ⟨_, rfl⟩
 rw [hR]
 by_cases hz : 0 < s.size
 rotate_left
 ·have hs : s = ⟨#[]⟩ := ba_ext (by
   have : s.data.toList.length = 0 := by rw [len_data]; omega
   rw [List.eq_nil_of_length_eq_zero this])
  have HR : Hid (R = none) := by show _ = _; rw [← hR, hs]; rfl
  clear hR hm hz
  subst hs
  go_enter Tryz.func16, Tryz.ntmps16
  go_wp2_with fail
  go_ret3
  exact Ret.of (by rw [HR.out]; rfl) (by (repeat with_reducible first | exact Below.refl _ _ | refine Below.drew ?_ | refine Below.drewN ?_ _ | refine Below.alloc ?_ ?_ _ | refine Below.grow ?_ ?_ _ | refine Below.setCell ?_ ?_ _); all_goals first | omega | (simp [go_sem] <;> omega))
 have m0 : (s.toList == []) = false := by
  rw [ByteArray.toList_eq]
  cases h : s.data.toList with
  | nil => rw [← len_data, h] at hz; simp at hz
  | cons c r => rfl
 have hd0 := drop_at s 0 hz
 rw [List.drop_zero] at hd0
 have HL0 := Lib.hid (fun W => rletter_any (s[0]'hz) W)
 have HRf : Hid (R = if letB (s[0]'hz) = true then refS [] (s.data.toList.drop 0) else none) := by
  show _ = _
  rw [← hR, hd0, split_ref, ← let_ltr, List.drop_zero, hd0]
 clear hR hd0
 cases hl : letB (s[0]'hz) with
 | false =>
  rw [hl] at HL0 HRf
  have HR : Hid (R = none) := HRf.out
  clear hl HRf
  go_enter Tryz.func16, Tryz.ntmps16
  go_wp2_with (go_at_call 43; (with_reducible refine (HL0.out _).mono ?_); rintro e w' ⟨rfl, rfl⟩)
  go_ret3
  exact Ret.of (by rw [HR.out]; rfl) (by (repeat with_reducible first | exact Below.refl _ _ | refine Below.drew ?_ | refine Below.drewN ?_ _ | refine Below.alloc ?_ ?_ _ | refine Below.grow ?_ ?_ _ | refine Below.setCell ?_ ?_ _); all_goals first | omega | (simp [go_sem] <;> omega))
 | true =>
  rw [hl] at HL0 HRf
  have HR0 : Hid (R = refS (s.data.toList.take 0) (s.data.toList.drop 0)) := HRf.out
  clear hl HRf
  go_enter Tryz.func16, Tryz.ntmps16
  go_wp2_with (go_at_call 43; (with_reducible refine (HL0.out _).mono ?_); rintro e w' ⟨rfl, rfl⟩)
  go_loopw [5] (fun i wr => ∃ k : Nat, k ≤ s.size ∧ i = .int .i64 (k : Nat) ∧ Hid (R = refS (s.data.toList.take k) (s.data.toList.drop k)) ∧ wr = w) (fun i _ => s.size - (intOf i).toNat)
  case atStart => exact ⟨0, by omega, rfl, HR0.out, rfl⟩
  case round =>
   clear HR0 HL0
   obtain ⟨k, hk, rfl, HK, rfl⟩ := hrel
   by_cases hlt : k < s.size
   ·have HD := Lib.hid (drop_at s k hlt)
    have hkl : k < s.data.toList.length := by rw [len_data]; exact hlt
    have HTk : Hid (s.data.toList.take (k + 1) = s.data.toList.take k ++ [s[k]'hlt]) := List.take_succ_eq_append_getElem hkl
    have e0 : (((s[k]'hlt).toNat : Int) == 58) = decide ((s[k]'hlt).toNat = 58) := by rw [Bool.eq_iff_iff]; simp; omega
    by_cases h58 : (s[k]'hlt).toNat = 58
    ·have HR : Hid (R = some ((s.data.toList.take k).map lowC, s.data.toList.drop (k + 1))) := by show _ = _; rw [HK.out, HD.out, refS_colon h58]
     rw [decide_eq_true h58] at e0
     have HLo := Lib.hid (fun W => rlower_any (s.extract 0 k) W (by rw [ByteArray.size_extract]; omega))
     have HV : Hid (Value.tuple #[.string ⟨(lowL (s.extract 0 k).data.toList).toArray⟩, .string (s.extract (k + 1) s.size), .bool true] = splitV s (some ((s.data.toList.take k).map lowC, s.data.toList.drop (k + 1)))) := by
      show _ = _
      have h1 : (s.extract 0 k).data.toList = s.data.toList.take k := by rw [Lib.extract_data]; simp
      have h2 : s.extract (k + 1) s.size = ⟨(s.data.toList.drop (k + 1)).toArray⟩ := ba_ext (by rw [Lib.extract_data, List.take_of_length_le (by rw [List.length_drop, len_data]; omega)])
      rw [h1, h2, low_map]
      rfl
     have hw1 : IntKind.i64.wrap ((k : Int) + 1) = ((k + 1 : Nat) : Int) := by rw [IntKind.wrap_i64]; omega
     clear HK HD HTk h58
     go_upto_region 7 with fail
     refine wp_region_row 9 [(0, true), (1, true), (2, true), (4, true), (5, true), (6, true), (7, true), (3, false), (8, true)] (fun _ => True) hmx (by kernel_rfl) (by kernel_rfl) (by kernel_rfl) (by decide) rfl (fun c a d v w h => by first | exact h | (obtain ⟨x, y⟩ := (h : _ ∧ _); cases d <;> exact ⟨x, y⟩)) (by kernel_rfl) trivial ?_
     refine wpRow_rdD (v := .string s) 26 rfl rfl rfl (fun W hW => by simp [execOp, go_sem]) ?_
     simp only [Act.put, List.setIfInBounds_toArray, List.set_cons_succ, List.set_cons_zero]
     refine wpRow_rdD (v := .int .i64 (k : Nat)) 27 rfl rfl rfl (fun W hW => by simp [execOp, go_sem]) ?_
     simp only [Act.put, List.setIfInBounds_toArray, List.set_cons_succ, List.set_cons_zero]
     refine wpRow_rdD (v := .string (s.extract 0 k)) 28 rfl rfl rfl (fun W hW => by simp [execOp, go_sem]; omega) ?_
     simp only [Act.put, List.setIfInBounds_toArray, List.set_cons_succ, List.set_cons_zero]
     refine wpRow_rdD (v := .string s) 30 rfl rfl rfl (fun W hW => by simp [execOp, go_sem]) ?_
     simp only [Act.put, List.setIfInBounds_toArray, List.set_cons_succ, List.set_cons_zero]
     refine wpRow_rdD (v := .int .i64 (k : Nat)) 31 rfl rfl rfl (fun W hW => by simp [execOp, go_sem]) ?_
     simp only [Act.put, List.setIfInBounds_toArray, List.set_cons_succ, List.set_cons_zero]
     refine wpRow_rdD (v := .int .i64 ((k + 1 : Nat) : Int)) 32 rfl rfl rfl (fun W hW => by simp [execOp, go_sem, hw1]) ?_
     simp only [Act.put, List.setIfInBounds_toArray, List.set_cons_succ, List.set_cons_zero]
     refine wpRow_rdD (v := .string (s.extract (k + 1) s.size)) 33 rfl rfl rfl (fun W hW => by simp [execOp, go_sem]; omega) ?_
     simp only [Act.put, List.setIfInBounds_toArray, List.set_cons_succ, List.set_cons_zero]
     refine wpRow_op rfl rfl fun Kc hKc => ?_
     unfold Oper.wp
     simp [execOp, go_sem]
     refine (HLo.out _).mono ?_
     rintro e W1 ⟨rfl, X1, rfl⟩
     show Kc _ _
     apply hKc
     refine ⟨trivial, ?_⟩
     refine wpRow_rdD (v := .string ⟨(lowL (s.extract 0 k).data.toList).toArray⟩) 2 rfl rfl rfl (fun W hW => by simp [execOp, go_sem]) ?_
     simp only [Act.put, List.setIfInBounds_toArray, List.set_cons_succ, List.set_cons_zero]
     simp only [wpRow, List.drop]
     go_wp2_with fail
     go_ret3
     exact Ret.of (by rw [HR.out]; exact HV.out) (by (repeat with_reducible first | exact Below.refl _ _ | refine Below.drew ?_ | refine Below.drewN ?_ _ | refine Below.alloc ?_ ?_ _ | refine Below.grow ?_ ?_ _ | refine Below.setCell ?_ ?_ _); all_goals first | omega | (simp [go_sem] <;> omega))
    ·rw [decide_eq_false h58] at e0
     have HT : Hid (goesB (s[k]'hlt) = true → R = refS (s.data.toList.take (k + 1)) (s.data.toList.drop (k + 1))) := fun hg => by rw [HK.out, HD.out, refS_step h58 hg, HTk.out]
     have HF : Hid (goesB (s[k]'hlt) = false → R = none) := fun hg => by rw [HK.out, HD.out, refS_stop h58 hg]
     have HLt := Lib.hid (fun W => rletter_any (s[k]'hlt) W)
     have HDg := Lib.hid (fun W => rdigit_any (s[k]'hlt) W)
     have e1 : (((s[k]'hlt).toNat : Int) == 43) = decide ((s[k]'hlt).toNat = 43) := by rw [Bool.eq_iff_iff]; simp; omega
     have e2 : (((s[k]'hlt).toNat : Int) == 45) = decide ((s[k]'hlt).toNat = 45) := by rw [Bool.eq_iff_iff]; simp; omega
     have e3 : (((s[k]'hlt).toNat : Int) == 46) = decide ((s[k]'hlt).toNat = 46) := by rw [Bool.eq_iff_iff]; simp; omega
     have HE : Hid (goesB (s[k]'hlt) = (letB (s[k]'hlt) || digB (s[k]'hlt) || (decide ((s[k]'hlt).toNat = 43) || (decide ((s[k]'hlt).toNat = 45) || decide ((s[k]'hlt).toNat = 46))))) := by
      show _ = _
      unfold goesB
      rw [let_ltr]
      congr 1
      rw [Bool.eq_iff_iff]
      simp
     generalize goesB (s[k]'hlt) = G at *
     generalize letB (s[k]'hlt) = L at *
     generalize digB (s[k]'hlt) = D at *
     generalize decide ((s[k]'hlt).toNat = 43) = b1 at *
     generalize decide ((s[k]'hlt).toNat = 45) = b2 at *
     generalize decide ((s[k]'hlt).toNat = 46) = b3 at *
     clear HK HD HTk h58
     have hcs : (L = true) ∨ (L = false ∧ D = true) ∨ (L = false ∧ D = false ∧ b1 = true) ∨ (L = false ∧ D = false ∧ b1 = false ∧ b2 = true) ∨ (L = false ∧ D = false ∧ b1 = false ∧ b2 = false ∧ b3 = true) ∨ (L = false ∧ D = false ∧ b1 = false ∧ b2 = false ∧ b3 = false) := by
      cases L <;> cases D <;> cases b1 <;> cases b2 <;> cases b3 <;> simp
     rcases hcs with rfl | ⟨rfl, rfl⟩ | ⟨rfl, rfl, rfl⟩ | ⟨rfl, rfl, rfl, rfl⟩ | ⟨rfl, rfl, rfl, rfl, rfl⟩ | ⟨rfl, rfl, rfl, rfl, rfl⟩
     rotate_right
     ·have HR := Lib.hid (HF.out HE.out)
      clear HT HF HE
      go_wp2_with (first | (go_at_call 43; (with_reducible refine (HLt.out _).mono ?_); rintro e w' ⟨rfl, rfl⟩) | (go_at_call 45; (with_reducible refine (HDg.out _).mono ?_); rintro e w' ⟨rfl, rfl⟩))
      go_ret3
      exact Ret.of (by rw [HR.out]; rfl) (by (repeat with_reducible first | exact Below.refl _ _ | refine Below.drew ?_ | refine Below.drewN ?_ _ | refine Below.alloc ?_ ?_ _ | refine Below.grow ?_ ?_ _ | refine Below.setCell ?_ ?_ _); all_goals first | omega | (simp [go_sem] <;> omega))
     all_goals
      have HR := Lib.hid (HT.out HE.out)
      clear HT HF HE
      go_wp2_with (first | (go_at_call 43; (with_reducible refine (HLt.out _).mono ?_); rintro e w' ⟨rfl, rfl⟩) | (go_at_call 45; (with_reducible refine (HDg.out _).mono ?_); rintro e w' ⟨rfl, rfl⟩))
      go_roundw
      case rel => exact ⟨k + 1, by omega, by go_num, HR.out, by first | rfl | trivial⟩
      case measure => simp [intOf]; omega
   ·have HR : Hid (R = none) := by show _ = _; rw [HK.out, drop_end s k (by omega)]; rfl
    clear HK
    go_wp2_with fail
    go_ret3
    exact Ret.of (by rw [HR.out]; rfl) (by (repeat with_reducible first | exact Below.refl _ _ | refine Below.drew ?_ | refine Below.drewN ?_ _ | refine Below.alloc ?_ ?_ _ | refine Below.grow ?_ ?_ _ | refine Below.setCell ?_ ?_ _); all_goals first | omega | (simp [go_sem] <;> omega))
end Go.Proofs.YtbhhgbgfaemfdaaGreatDoor
namespace Go.Proofs.YtbhhgbgfaemfdaaGreatDoor
open Go.RowKit
attribute [local go_sem] Oper.semAt_some
set_option maxHeartbeats 800000 in
theorem rstroke11_any (c : UInt8) (w : World) : Calls Tryz.prog 50 #[.int .u8 c.toNat] w fun e w' => e = .returned (.bool (strokeB c)) ∧ w = w' := by
 have e1 : ((c.toNat : Int) == 47) = decide (c.toNat = 47) := by rw [Bool.eq_iff_iff]; simp; omega
 have e2 : ((c.toNat : Int) == 92) = decide (c.toNat = 92) := by rw [Bool.eq_iff_iff]; simp; omega
 have HE : Hid (strokeB c = (decide (c.toNat = 47) || decide (c.toNat = 92))) := by show _ = _; unfold strokeB; rw [Bool.eq_iff_iff]; simp
 rw [HE.out]
 clear HE
 generalize decide (c.toNat = 47) = b1 at *
 generalize decide (c.toNat = 92) = b2 at *
 cases b1
 all_goals
  go_enter Tryz.func50, Tryz.ntmps50
  go_wp2_with fail
  go_ret
  exact ⟨rfl, rfl⟩
set_option maxRecDepth 100000 in
set_option maxHeartbeats 1600000 in
theorem rlocal11_any (s : ByteArray) (w : World) (hm : s.size ≤ 140737488355328) : Calls Tryz.prog 20 #[.string s] w (Ret (.bool (localL s.data.toList)) w) := by
 have hmx : Tryz.prog.follows .mixedOrders = true := by kernel_rfl
 have HSp := Lib.hid (fun W => rsplit11_any s W hm)
 have HE : Hid (localL s.data.toList = ((splitL s.data.toList).isNone && !(strokeAt s 0 && strokeAt s 1))) := by show _ = _; unfold localL; rw [slash_at]
 rw [HE.out]
 clear HE
 obtain ⟨R, hR⟩ : ∃ R, splitL s.data.toList = R := ⟨_, rfl⟩
 rw [hR] at HSp ⊢
 clear hR
 cases R with
 | some x =>
  have HSq := Lib.hid (fun W => show Calls Tryz.prog 16 #[.string s] W (Ret (.tuple #[.string ⟨x.1.toArray⟩, .string ⟨x.2.toArray⟩, .bool true]) W) from HSp.out W)
  clear HSp hm
  go_enter Tryz.func20, Tryz.ntmps20
  go_wp2_with (go_at_call 16; (with_reducible refine (HSq.out _).mono ?_); rintro e W1 ⟨rfl, X1, rfl⟩)
  go_ret
  exact Ret.of rfl (by (repeat with_reducible first | exact Below.refl _ _ | refine Below.drew ?_ | refine Below.drewN ?_ _ | refine Below.alloc ?_ ?_ _ | refine Below.grow ?_ ?_ _ | refine Below.setCell ?_ ?_ _); all_goals first | omega | (simp [go_sem] <;> omega))
 | none =>
  have HSq := Lib.hid (fun W => show Calls Tryz.prog 16 #[.string s] W (Ret (.tuple #[.string ⟨#[]⟩, .string s, .bool false]) W) from HSp.out W)
  clear HSp
  by_cases h2 : 2 ≤ s.size
  ·have hz0 : 0 < s.size := by omega
   have hz1 : 1 < s.size := by omega
   have g0 : strokeAt s 0 = strokeB (s[0]'hz0) := by unfold strokeAt; rw [List.getElem?_eq_getElem (by rw [len_data]; omega)]; rfl
   have g1 : strokeAt s 1 = strokeB (s[1]'hz1) := by unfold strokeAt; rw [List.getElem?_eq_getElem (by rw [len_data]; omega)]; rfl
   have H0 := Lib.hid (fun W => rstroke11_any (s[0]'hz0) W)
   have H1 := Lib.hid (fun W => rstroke11_any (s[1]'hz1) W)
   have b2 : decide ((2 : Int) ≤ s.size) = true := by simp; omega
   rw [g0, g1]
   clear g0 g1 h2
   generalize strokeB (s[0]'hz0) = b0 at *
   generalize strokeB (s[1]'hz1) = b1 at *
   cases b0
   all_goals
    go_enter Tryz.func20, Tryz.ntmps20
    go_wp2_with (first
     | (go_at_call 16; (with_reducible refine (HSq.out _).mono ?_); rintro e W1 ⟨rfl, X1, rfl⟩)
     | (go_at_call 50; (with_reducible refine (H0.out _).mono ?_); rintro e V1 ⟨rfl, rfl⟩)
     | (go_at_call 50; (with_reducible refine (H1.out _).mono ?_); rintro e V2 ⟨rfl, rfl⟩))
    go_ret
    exact Ret.of rfl (by (repeat with_reducible first | exact Below.refl _ _ | refine Below.drew ?_ | refine Below.drewN ?_ _ | refine Below.alloc ?_ ?_ _ | refine Below.grow ?_ ?_ _ | refine Below.setCell ?_ ?_ _); all_goals first | omega | (simp [go_sem] <;> omega))
  ·have g1 : strokeAt s 1 = false := by unfold strokeAt; rw [List.getElem?_eq_none (by rw [len_data]; omega)]
   have b2 : decide ((2 : Int) ≤ s.size) = false := by simp; omega
   rw [g1, Bool.and_false]
   clear g1 h2
   go_enter Tryz.func20, Tryz.ntmps20
   go_wp2_with (go_at_call 16; (with_reducible refine (HSq.out _).mono ?_); rintro e W1 ⟨rfl, X1, rfl⟩)
   go_ret
   exact Ret.of rfl (by (repeat with_reducible first | exact Below.refl _ _ | refine Below.drew ?_ | refine Below.drewN ?_ _ | refine Below.alloc ?_ ?_ _ | refine Below.grow ?_ ?_ _ | refine Below.setCell ?_ ?_ _); all_goals first | omega | (simp [go_sem] <;> omega))
def strOf : Value → Nat
 | .string b => b.size
 | _ => 0
theorem blank_int (c : UInt8) : decide ((c.toNat : Int) ≤ 32) = blankB c := by unfold blankB; rw [Bool.eq_iff_iff]; simp; omega
theorem tail_ba (x : ByteArray) (h : 0 < x.size) : (x.extract 1 x.size).data.toList = x.data.toList.drop 1 ∧ (x.extract 1 x.size).size = x.size - 1 := by
 refine ⟨?_, by rw [ByteArray.size_extract]; omega⟩
 rw [Lib.extract_data, List.take_of_length_le (by rw [List.length_drop, len_data]; omega)]
theorem init_ba (x : ByteArray) (h : 0 < x.size) : (x.extract 0 (x.size - 1)).data.toList = x.data.toList.take (x.size - 1) ∧ (x.extract 0 (x.size - 1)).size = x.size - 1 := by
 refine ⟨?_, by rw [ByteArray.size_extract]; omega⟩
 rw [Lib.extract_data]; simp
theorem rev_last (x : ByteArray) (h : 0 < x.size) : x.data.toList.reverse = x[x.size - 1]'(by omega) :: (x.data.toList.take (x.size - 1)).reverse := by
 have hl : x.size - 1 < x.data.toList.length := by rw [len_data]; omega
 have : x.data.toList = x.data.toList.take (x.size - 1) ++ [x.data.toList[x.size - 1]] := by
  conv => lhs; rw [← List.take_of_length_le (l := x.data.toList) (i := x.size - 1 + 1) (by rw [len_data]; omega)]
  rw [List.take_succ_eq_append_getElem hl]
 conv => lhs; rw [this]
 rw [List.reverse_append]
 rfl
set_option maxRecDepth 100000 in
set_option maxHeartbeats 6400000 in
theorem rclean11_any (s : ByteArray) (w : World) (hm : s.size ≤ 35184372088832) : Calls Tryz.prog 18 #[.string s] w (Ret (.string ⟨(cleanL s.data.toList).toArray⟩) w) := by
 have hmx : Tryz.prog.follows .mixedOrders = true := by kernel_rfl
 obtain ⟨R, hR⟩ : ∃ R, cleanL s.data.toList = R := ⟨_, rfl⟩
 have HR : Hid (R = (((s.data.toList.dropWhile blankB).reverse.dropWhile blankB).reverse).filter keepC) := hR.symm
 rw [hR]
 clear hR
 go_enter Tryz.func18, Tryz.ntmps18
 go_upto_block 0 with fail
 go_cut [0] (fun v wx => ∃ x : ByteArray, v = .string x ∧ x.size ≤ 35184372088832 ∧ Hid (x.data.toList = s.data.toList.dropWhile blankB) ∧ w = wx)
 case first =>
  go_wp2_with fail
  go_loopw [0] (fun v wr => ∃ x : ByteArray, v = .string x ∧ x.size ≤ 35184372088832 ∧ Hid (x.data.toList.dropWhile blankB = s.data.toList.dropWhile blankB) ∧ wr = w) (fun v _ => strOf v)
  case atStart => exact ⟨s, rfl, hm, rfl, rfl⟩
  case round =>
   obtain ⟨x, rfl, hx, HX, rfl⟩ := hrel
   by_cases hz : 0 < x.size
   ·have hd := drop_at x 0 hz
    rw [List.drop_zero] at hd
    have HD := Lib.hid hd
    have hbi := blank_int (x[0]'hz)
    clear hd
    cases hb : blankB (x[0]'hz) with
    | true =>
     rw [hb] at hbi
     obtain ⟨t1, t2⟩ := tail_ba x hz
     have HT : Hid ((x.extract 1 x.size).data.toList.dropWhile blankB = s.data.toList.dropWhile blankB) := by
      show _ = _
      rw [t1, ← HX.out, HD.out, List.dropWhile_cons_of_pos hb]
      rfl
     have h1 : (1 : Int) ≤ x.size := by omega
     clear HX HD hb t1
     go_wp2_with fail
     go_roundw
     case rel => exact ⟨x.extract 1 x.size, rfl, by omega, HT.out, by first | rfl | trivial⟩
     case measure => simp [strOf, t2]; omega
    | false =>
     rw [hb] at hbi
     have HY : Hid (x.data.toList = s.data.toList.dropWhile blankB) := by
      show _ = _
      rw [← HX.out, HD.out, List.dropWhile_cons_of_neg (by rw [hb]; decide)]
     clear HX HD hb
     go_wp2_with fail
     go_meet
     case rel => exact ⟨x, rfl, hx, HY.out, by first | rfl | trivial⟩
   ·have HY : Hid (x.data.toList = s.data.toList.dropWhile blankB) := by
     show _ = _
     have h0 : x.data.toList = [] := List.eq_nil_of_length_eq_zero (by rw [len_data]; omega)
     rw [← HX.out, h0]
     rfl
    clear HX
    go_wp2_with fail
    go_meet
    case rel => exact ⟨x, rfl, hx, HY.out, by first | rfl | trivial⟩
 case rest =>
 obtain ⟨x1, rfl, hx1, HX1, rfl⟩ := hcut
 go_upto_block 2 with fail
 go_cut [0] (fun v wx => ∃ x : ByteArray, v = .string x ∧ x.size ≤ 35184372088832 ∧ Hid (x.data.toList = ((s.data.toList.dropWhile blankB).reverse.dropWhile blankB).reverse) ∧ w = wx)
 case first =>
  go_wp2_with fail
  go_loopw [0] (fun v wr => ∃ x : ByteArray, v = .string x ∧ x.size ≤ 35184372088832 ∧ Hid (x.data.toList.reverse.dropWhile blankB = (s.data.toList.dropWhile blankB).reverse.dropWhile blankB) ∧ wr = w) (fun v _ => strOf v)
  case atStart => exact ⟨x1, rfl, hx1, by show _ = _; rw [HX1.out], by first | rfl | trivial⟩
  case round =>
   clear hx1 HX1
   obtain ⟨x, rfl, hx, HX, rfl⟩ := hrel
   by_cases hz : 0 < x.size
   ·have HD := Lib.hid (rev_last x hz)
    have hl1 : x.size - 1 < x.size := by omega
    have hbi := blank_int (x[x.size - 1]'hl1)
    have hw1 : IntKind.i64.wrap ((x.size : Int) - 1) = ((x.size - 1 : Nat) : Int) := by rw [IntKind.wrap_i64]; omega
    cases hb : blankB (x[x.size - 1]'hl1) with
    | true =>
     rw [hb] at hbi
     obtain ⟨t1, t2⟩ := init_ba x hz
     have HT : Hid ((x.extract 0 (x.size - 1)).data.toList.reverse.dropWhile blankB = (s.data.toList.dropWhile blankB).reverse.dropWhile blankB) := by
      show _ = _
      rw [t1, ← HX.out, HD.out, List.dropWhile_cons_of_pos hb]
     clear HX HD hb t1
     go_wp2_with fail
     go_roundw
     case rel => exact ⟨x.extract 0 (x.size - 1), rfl, by omega, HT.out, by first | rfl | trivial⟩
     case measure => simp [strOf, t2]; omega
    | false =>
     rw [hb] at hbi
     have HY : Hid (x.data.toList = ((s.data.toList.dropWhile blankB).reverse.dropWhile blankB).reverse) := by
      show _ = _
      rw [← HX.out, HD.out, List.dropWhile_cons_of_neg (by rw [hb]; decide), ← HD.out, List.reverse_reverse]
     clear HX HD hb
     go_wp2_with fail
     go_meet
     case rel => exact ⟨x, rfl, hx, HY.out, by first | rfl | trivial⟩
   ·have HY : Hid (x.data.toList = ((s.data.toList.dropWhile blankB).reverse.dropWhile blankB).reverse) := by
     show _ = _
     have h0 : x.data.toList = [] := List.eq_nil_of_length_eq_zero (by rw [len_data]; omega)
     rw [← HX.out, h0]
     rfl
    clear HX
    go_wp2_with fail
    go_meet
    case rel => exact ⟨x, rfl, hx, HY.out, by first | rfl | trivial⟩
 case rest =>
 obtain ⟨T, rfl, hTs, HT2, rfl⟩ := hcut
 have HC : Hid (R = (T.data.toList.take T.size).filter keepC) := by
  show _ = _
  rw [HR.out, ← HT2.out, List.take_of_length_le (by rw [len_data]; exact Nat.le_refl _)]
 clear HR HT2 HX1 hx1
 go_wp2_with fail
 go_loopw [3, 4] (fun v i wr => ∃ (k : Nat) (out : Bs), k ≤ T.size ∧ out = (T.data.toList.take k).filter keepC ∧ i = .int .i64 (k : Nat) ∧ Below w.heap.size w wr ∧ wr.ownsRow w.heap.size 5 1 v out.length (out.map bv)) (fun _ i _ => T.size - (intOf i).toNat)
 case atStart => exact ⟨0, [], by omega, by simp, rfl, by show Below _ _ _; exact (by (repeat with_reducible first | exact Below.refl _ _ | refine Below.drew ?_ | refine Below.drewN ?_ _ | refine Below.alloc ?_ ?_ _ | refine Below.grow ?_ ?_ _ | refine Below.setCell ?_ ?_ _); all_goals first | omega | (simp [go_sem] <;> omega)), World.ownsRow_nil _ _ _ _⟩
 case round =>
  obtain ⟨k, out, hk, hout, rfl, hB, hown⟩ := hrel
  have hsz := hB.size
  have hol : out.length ≤ 35184372088832 := by
   rw [hout]
   refine Nat.le_trans (List.length_filter_le _ _) ?_
   rw [List.length_take]; omega
  have HOut := Lib.hid hout
  clear hout
  by_cases hlt : k < T.size
  ·have hkl : k < T.data.toList.length := by rw [len_data]; exact hlt
   have HS := Lib.hid (keep11_step T.data.toList k hkl)
   have hsk : T.data.toList[k] = T[k]'hlt := rfl
   have HB := Lib.hid hB
   have HO := Lib.hid hown
   rw [hsk] at HS
   have HE : Hid (dropC (T[k]'hlt) = (decide ((T[k]'hlt).toNat = 9) || (decide ((T[k]'hlt).toNat = 10) || decide ((T[k]'hlt).toNat = 13)))) := by
    show _ = _
    unfold dropC
    rw [Bool.eq_iff_iff]
    simp
   have e1 : (((T[k]'hlt).toNat : Int) != 9) = !decide ((T[k]'hlt).toNat = 9) := by rw [Bool.eq_iff_iff]; simp; omega
   have e2 : (((T[k]'hlt).toNat : Int) != 10) = !decide ((T[k]'hlt).toNat = 10) := by rw [Bool.eq_iff_iff]; simp; omega
   have e3 : (((T[k]'hlt).toNat : Int) != 13) = !decide ((T[k]'hlt).toNat = 13) := by rw [Bool.eq_iff_iff]; simp; omega
   clear hB hsk
   rw [HE.out] at HS
   clear HE
   have HL : Hid ((out ++ [T[k]'hlt]).map bv = out.map bv ++ [.int .u8 ((T[k]'hlt).toNat : Int)]) := by show _ = _; simp [bv]
   have HL2 : Hid ((out ++ [T[k]'hlt]).length = out.length + 1) := by show _ = _; simp
   generalize decide ((T[k]'hlt).toNat = 9) = b1 at *
   generalize decide ((T[k]'hlt).toNat = 10) = b2 at *
   generalize decide ((T[k]'hlt).toNat = 13) = b3 at *
   by_cases hd : b1 = false ∧ b2 = false ∧ b3 = false
   ·obtain ⟨rfl, rfl, rfl⟩ := hd
    have HN : Hid (out ++ [T[k]'hlt] = (T.data.toList.take (k + 1)).filter keepC) := by show _ = _; rw [HS.out, if_neg (by decide), HOut.out]
    clear HS
    go_wp2_with (at_builtin; refine append_abs rfl _ _ 56 rfl bytes_rowS w.heap.size rfl (hown.alloc _) (by simp; omega) ⟨_, 0, none⟩ 1 1 [.int .u8 ((T[k]'hlt).toNat : Int)] rfl rfl (new_cells (c := #[.int .u8 ((T[k]'hlt).toNat : Int)]) (by simp [go_sem])) (by simp [Value.oneCell']) (by unfold maxLen; omega) (by omega) ?_; intro v1 W1 hown1 hg1; have hB1 := Lib.hid (HB.out.trans (((Below.refl _ _).alloc hsz _).trans (below_own (hown.alloc _) hg1 (Nat.le_refl _) (by simp; omega)))); clear hg1)
    go_roundw
    case rel => exact ⟨k + 1, out ++ [T[k]'hlt], by omega, HN.out, by go_num, hB1.out, by rw [HL.out, HL2.out]; exact hown1⟩
    case measure => simp [intOf]; omega
   ·have HN : Hid (out = (T.data.toList.take (k + 1)).filter keepC) := by
     show _ = _
     rw [HS.out, if_pos (by cases b1 <;> cases b2 <;> cases b3 <;> simp_all), HOut.out]
    clear HS HL HL2
    have hcs : (b1 = true) ∨ (b1 = false ∧ b2 = true) ∨ (b1 = false ∧ b2 = false ∧ b3 = true) := by cases b1 <;> cases b2 <;> cases b3 <;> simp_all
    clear hd
    rcases hcs with rfl | ⟨rfl, rfl⟩ | ⟨rfl, rfl, rfl⟩
    all_goals
     go_wp2_with fail
     go_roundw
     case rel => exact ⟨k + 1, out, by omega, HN.out, by go_num, HB.out, HO.out⟩
     case measure => simp [intOf]; omega
  ·have hkn : k = T.size := by omega
   have HRo : Hid (R = out) := by show _ = _; rw [HC.out, HOut.out, hkn]
   have HB := Lib.hid hB
   have hcs := byte_strS hown
   clear hB hkn
   go_wp2_with fail
   go_ret
   exact Ret.of (by rw [HRo.out]; rfl) HB.out
end Go.Proofs.YtbhhgbgfaemfdaaGreatDoor

