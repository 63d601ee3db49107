/- No rules allow what is denied; what is forced is on a tag that is allowed, in the limits: CompileSafe returns true. No condition: whatever the arguments. -/
import Derived.ProofKit
import Derived.ChangeSame
import Derived.ChangeAt
import Derived.SizedLaws
import Derived.OpenShut
import Derived.ShutString
import Derived.ChangeOld
import Derived.JoinedCond
import Derived.Test.YtbhhgbgfaemfdaaGreatRows
import Derived.Test.YtbhhgbgfaemfdaaGreatCmpM
namespace Go.Proofs.YtbhhgbgfaemfdaaGreat.compileSafe
open Go.ChangeShapes Go.WideShapes Go.ChangeAt Go.RowKit
open Go.ChangeMaps (open_string shut_string)
theorem own : ownKnob Tryz.prog.godebug = none := by kernel_rfl
theorem laidOut : laidOutB Tryz.prog = true := by kernel_rfl
attribute [local go_sem] Oper.semAt_some
theorem str_bs (s : ByteArray) : sv s.data.toList = .string s := rfl
set_option maxRecDepth 100000 in
set_option maxHeartbeats 8000000 in
theorem walk (s t n : ByteArray) (w : World) (_hs : s.size ≤ maxLen) (_ht : t.size ≤ maxLen) (_hn : n.size ≤ maxLen) : Calls Tryz.prog 3 #[.string s, .string t, .string n] w (Ret (.bool true) w) := by
 have hmx : Tryz.prog.follows .mixedOrders = true := by kernel_rfl
 by_cases h1 : 9000 < s.size
 ·have b1 : decide ((9000 : Int) < s.size) = true := by simp; omega
  clear h1 _hs _ht _hn
  go_enter Tryz.func3, Tryz.ntmps3
  go_wp2_with (go_at_call 8; (with_reducible refine (awake10_any _).mono ?_); rintro e Wa ⟨rfl, Xa, rfl⟩)
  go_ret
  exact Ret.of rfl (by (repeat with_reducible first | exact Below.refl _ _ | refine Below.drew ?_ | refine Below.drewN ?_ _ | refine Below.alloc ?_ ?_ _ | refine Below.grow ?_ ?_ _ | refine Below.setCell ?_ ?_ _); all_goals first | omega | (simp [go_sem] <;> omega))
 have b1 : decide ((9000 : Int) < s.size) = false := by simp; omega
 by_cases h2 : 200 < t.size
 ·have b2 : decide ((200 : Int) < t.size) = true := by simp; omega
  clear h1 h2 _hs _ht _hn
  go_enter Tryz.func3, Tryz.ntmps3
  go_wp2_with (go_at_call 8; (with_reducible refine (awake10_any _).mono ?_); rintro e Wa ⟨rfl, Xa, rfl⟩)
  go_ret
  exact Ret.of rfl (by (repeat with_reducible first | exact Below.refl _ _ | refine Below.drew ?_ | refine Below.drewN ?_ _ | refine Below.alloc ?_ ?_ _ | refine Below.grow ?_ ?_ _ | refine Below.setCell ?_ ?_ _); all_goals first | omega | (simp [go_sem] <;> omega))
 have b2 : decide ((200 : Int) < t.size) = false := by simp; omega
 by_cases h3 : 200 < n.size
 ·have b3 : decide ((200 : Int) < n.size) = true := by simp; omega
  clear h1 h2 h3 _hs _ht _hn
  go_enter Tryz.func3, Tryz.ntmps3
  go_wp2_with (go_at_call 8; (with_reducible refine (awake10_any _).mono ?_); rintro e Wa ⟨rfl, Xa, rfl⟩)
  go_ret
  exact Ret.of rfl (by (repeat with_reducible first | exact Below.refl _ _ | refine Below.drew ?_ | refine Below.drewN ?_ _ | refine Below.alloc ?_ ?_ _ | refine Below.grow ?_ ?_ _ | refine Below.setCell ?_ ?_ _); all_goals first | omega | (simp [go_sem] <;> omega))
 have b3 : decide ((200 : Int) < n.size) = false := by simp; omega
 have htl : t.data.toList.length ≤ maxLen := by rw [Array.length_toList]; exact _ht
 have hnl : n.data.toList.length ≤ maxLen := by rw [Array.length_toList]; exact _hn
 obtain ⟨a, c, P, G⟩ := comp_gen s.data.toList
 have HP := Lib.hid (fun W => show Calls Tryz.prog 9 #[.string s] W _ from G.run W)
 clear h1 h2 h3 _hs _ht _hn
 by_cases hc : c = 0
 rotate_left
 ·have HP1 := Lib.hid (fun W => (HP.out W).mono (R' := fun e w' => e = .returned (.tuple #[.pointer none, .int .i64 a, .int .i64 c]) ∧ Below W.heap.size W w') (fun e w' h => by
   obtain ⟨h1, h2 | h2⟩ := h
   ·exact ⟨h2.2, h1⟩
   ·exact absurd h2.1 hc))
  have b4 : ((c : Int) != 0) = true := by simp; omega
  clear HP G
  go_enter Tryz.func3, Tryz.ntmps3
  go_wp2_with (first
   | (go_at_call 8; (with_reducible refine (awake10_any _).mono ?_); rintro e Wa ⟨rfl, Xa, hXa⟩; have hba : Below w.heap.size w Wa := (by rw [hXa]; exact (by (repeat with_reducible first | exact Below.refl _ _ | refine Below.drew ?_ | refine Below.drewN ?_ _ | refine Below.alloc ?_ ?_ _ | refine Below.grow ?_ ?_ _ | refine Below.setCell ?_ ?_ _); all_goals first | omega | (simp [go_sem] <;> omega))); have HA0 := Lib.hid hba; clear hXa hba)
   | (go_at_call 9; (with_reducible refine (HP1.out _).mono ?_); rintro e W1 ⟨rfl, hb1⟩; have HB1 := Lib.hid (HA0.out.trans (hb1.mono HA0.out.size)); clear hb1))
  go_ret
  exact Ret.of rfl HB1.out
 have hP : compR s.data.toList = .ok P ∧ rightP P = true := by
  rcases G.says with ⟨_, _, h2, h3⟩ | ⟨h1, _⟩
  ·exact ⟨h2, h3⟩
  ·exact absurd hc h1
 have HP1 := Lib.hid (fun W => (HP.out W).mono (R' := fun e w' => ∃ g, e = .returned (.tuple #[.pointer (some ⟨g, 0, none⟩), .int .i64 0, .int .i64 0]) ∧ Below W.heap.size W w' ∧ RulesV w' g P) (fun e w' h => by
   obtain ⟨h1, h2 | ⟨_, g, h3, _, h5⟩⟩ := h
   ·exact absurd hc h2.1
   ·exact ⟨g, h3, h1, h5⟩))
 have hwr : wrongR P = 0 := comp_wrong hP.1
 have HW := Lib.hid hwr
 have HRt := Lib.hid hP.2
 have HFw := Lib.hid (right_few hP.2)
 clear HP G hP hwr hc
 go_enter Tryz.func3, Tryz.ntmps3
 go_upto_region 4 with (go_at_call 8; (with_reducible refine (awake10_any _).mono ?_); rintro e Wa ⟨rfl, Xa, hXa⟩; have hba : Below w.heap.size w Wa := (by rw [hXa]; exact (by (repeat with_reducible first | exact Below.refl _ _ | refine Below.drew ?_ | refine Below.drewN ?_ _ | refine Below.alloc ?_ ?_ _ | refine Below.grow ?_ ?_ _ | refine Below.setCell ?_ ?_ _); all_goals first | omega | (simp [go_sem] <;> omega))); have HA0 := Lib.hid hba; clear hXa hba)
 clear b1 b2 b3
 go_upto_region 7 with (go_at_call 9; (with_reducible refine (HP1.out _).mono ?_); rintro e W1 ⟨g, rfl, hb1, hr1⟩; have HB1 := Lib.hid (HA0.out.trans (hb1.mono HA0.out.size)); have HR1 := Lib.hid hr1; clear hb1 hr1)
 go_upto_region 8 with (go_at_call 10; (with_reducible refine (limits10_any g P _ HR1.out).mono ?_); rintro e W2 ⟨rfl, X2, hX2⟩; have hb2 : Below W1.heap.size W1 W2 := (by rw [hX2]; exact (by (repeat with_reducible first | exact Below.refl _ _ | refine Below.drew ?_ | refine Below.drewN ?_ _ | refine Below.alloc ?_ ?_ _ | refine Below.grow ?_ ?_ _ | refine Below.setCell ?_ ?_ _); all_goals first | omega | (simp [go_sem] <;> omega))); have HB2 := Lib.hid (HB1.out.trans (hb2.mono HB1.out.size)); have HR2 := Lib.hid (HR1.out.below hb2); clear hX2 hb2)
 obtain ⟨L, hL⟩ : ∃ L, forcedR P t.data.toList = L := ⟨_, rfl⟩
 have HFo := Lib.hid (hL ▸ (show Calls Tryz.prog 11 #[.pointer (some ⟨g, 0, none⟩), .string t] W2 _ from forced10_any g P t.data.toList W2 HR2.out htl HFw.out))
 have HLs := Lib.hid (show ∀ x ∈ L, tagR P t.data.toList = true ∧ unsafeB x.1 = false ∧ (x.2.length : Int) ≤ P.value from fun x hx => safe_forced HW.out (by rw [hL]; exact hx))
 have HLr := Lib.hid (show L.Pairwise (fun x y => ltB x.1 y.1 = true) from hL ▸ forced_rise HRt.out t.data.toList)
 have hLn : L.length ≤ 200 := by rw [← hL, ← (forced_cells P t.data.toList).2]; exact Nat.le_trans (List.length_filter_le _ _) HFw.out
 clear hL HP1
 go_upto_region 9 with (go_at_call 11; (with_reducible refine (HFo.out).mono ?_); rintro e W3 ⟨A, cc, rfl, hb3, hr3⟩; have HB3 := Lib.hid (HB2.out.trans (hb3.mono HB2.out.size)); have HR3 := Lib.hid (HR2.out.below hb3); have HD3 := Lib.hid hr3; clear hb3 hr3)
 have HTg := Lib.hid (fun W (hr : RulesV W g P) => show Calls Tryz.prog 12 #[.pointer (some ⟨g, 0, none⟩), .string t] W _ from tag_any g P t.data.toList W hr htl)
 clear HFo HR1 HR2 HB1 HB2
 obtain ⟨m, hm⟩ : ∃ m, L.length = m := ⟨_, rfl⟩
 have HM := Lib.hid hm
 rw [hm] at hLn HD3 ⊢
 clear hm
 go_wp2_with fail
 go_loopw [15] (fun i wr => ∃ k : Nat, k ≤ m ∧ i = .int .i64 (k : Nat) ∧ Hid (Below W3.heap.size W3 wr)) (fun i _ => m - (intOf i).toNat)
 case atStart => exact ⟨0, by omega, rfl, by show Below _ _ _; exact (by (repeat with_reducible first | exact Below.refl _ _ | refine Below.drew ?_ | refine Below.drewN ?_ _ | refine Below.alloc ?_ ?_ _ | refine Below.grow ?_ ?_ _ | refine Below.setCell ?_ ?_ _); all_goals first | omega | (simp [go_sem] <;> omega))⟩
 case round =>
  obtain ⟨k, hk, rfl, HBx⟩ := hrel
  have HBw := Lib.hid (HB3.out.trans (HBx.out.mono HB3.out.size))
  have HRw := Lib.hid (HR3.out.below HBx.out)
  by_cases hlt : k < m
  ·have hkl : k < L.length := by rw [HM.out]; exact hlt
   obtain ⟨bf, off, hAd, hbf, hcf⟩ : ∃ b off, A = some ⟨b, off, none⟩ ∧ b < wr.heap.size ∧ ∀ j u, (L.flatMap prC)[j]? = some u → wr.cell? ⟨b, off + j, none⟩ = some u := by
    obtain ⟨_, _, A', c', e, h4⟩ := HD3.out.bel HBx.out
    cases e
    exact h4 (by omega)
   subst hAd
   obtain ⟨x, hx⟩ : ∃ x, L[k] = x := ⟨_, rfl⟩
   have hxs := HLs.out x (hx ▸ List.getElem_mem hkl)
   have x0 : wr.cell? ⟨bf, off + k * 2, none⟩ = some (.string ⟨x.1.toArray⟩) := hcf (k * 2 + 0) (sv x.1) (by rw [flat_atC prC 2 (fun _ => rfl) L k 0 hkl (by omega), hx]; rfl)
   have x1 : wr.cell? ⟨bf, off + k * 2 + 1, none⟩ = some (.string ⟨x.2.toArray⟩) := (congrArg (fun i => wr.cell? ⟨bf, i, none⟩) (by omega)).trans (hcf (k * 2 + 1) (sv x.2) (by rw [flat_atC prC 2 (fun _ => rfl) L k 1 hkl (by omega), hx]; rfl))
   have HT1 := Lib.hid (fun W (hb : Below wr.heap.size wr W) => show Calls Tryz.prog 12 #[.pointer (some ⟨g, 0, none⟩), .string t] W (Ret (.bool true) W) from hxs.1 ▸ HTg.out W (HRw.out.below hb))
   have HU1 := Lib.hid (fun W => show Calls Tryz.prog 13 #[.string ⟨x.1.toArray⟩] W (Ret (.bool false) W) from hxs.2.1 ▸ unsafe_any x.1 W)
   have hv1 : decide (P.value < ((⟨x.2.toArray⟩ : ByteArray).size : Int)) = false := by
    rw [decide_eq_false_iff_not]
    have e : (⟨x.2.toArray⟩ : ByteArray).size = x.2.length := by show x.2.toArray.size = _; simp
    rw [e]
    have := hxs.2.2
    omega
   have hdr : Below wr.heap.size wr wr.drew := (by (repeat with_reducible first | exact Below.refl _ _ | refine Below.drew ?_ | refine Below.drewN ?_ _ | refine Below.alloc ?_ ?_ _ | refine Below.grow ?_ ?_ _ | refine Below.setCell ?_ ?_ _); all_goals first | omega | (simp [go_sem] <;> omega))
   have hHW := HBx.out.size
   by_cases hk0 : 0 < k
   ·obtain ⟨y, hy⟩ : ∃ y, L[k - 1]'(by omega) = y := ⟨_, rfl⟩
    have y0 : wr.cell? ⟨bf, off + (k - 1) * 2, none⟩ = some (.string ⟨y.1.toArray⟩) := hcf ((k - 1) * 2 + 0) (sv y.1) (by rw [flat_atC prC 2 (fun _ => rfl) L (k - 1) 0 (by omega) (by omega), hy]; rfl)
    have hyx : ltB y.1 x.1 = true := by rw [← hx, ← hy]; exact (List.pairwise_iff_getElem.1 HLr.out) (k - 1) k (by omega) hkl (by omega)
    have hlt1 : Op.bytesLess (⟨x.1.toArray⟩ : ByteArray).toList (⟨y.1.toArray⟩ : ByteArray).toList = false := by
     rw [ByteArray.toList_eq, ByteArray.toList_eq]
     exact (bytes_less _ _).trans (swoB.asymm _ _ hyx)
    have hne1 : ¬ (⟨x.1.toArray⟩ : ByteArray).toList = (⟨y.1.toArray⟩ : ByteArray).toList := by
     rw [ByteArray.toList_eq, ByteArray.toList_eq]
     intro e
     have e2 : x.1 = y.1 := e
     rw [e2, ltB_irrefl] at hyx
     cases hyx
    have g1 : decide ((0 : Int) < (k : Nat)) = true := by simp; omega
    have s1 : ((k : Int) - 1) = ((k - 1 : Nat) : Int) := by omega
    have s2 : IntKind.i64.wrap ((k : Int) - 1) = ((k - 1 : Nat) : Int) := by rw [IntKind.wrap_i64]; omega
    have s3 : (0 : Int) ≤ ((k - 1 : Nat) : Int) := by omega
    have s4 : ((k - 1 : Nat) : Int) < (m : Nat) := by omega
    have s5 : (((k - 1 : Nat) : Int)).toNat = k - 1 := by omega
    clear hx hy hkl hcf hxs hyx
    generalize (⟨x.1.toArray⟩ : ByteArray) = xn at *
    generalize (⟨x.2.toArray⟩ : ByteArray) = xv at *
    generalize (⟨y.1.toArray⟩ : ByteArray) = yn at *
    go_upto_region 12 with fail
    refine wp_region_row 39 [(0, true), (1, true), (2, false), (3, true), (4, true), (5, true), (6, true), (7, true), (8, true), (9, true), (10, false), (11, true), (12, true), (13, true), (14, true), (15, true), (16, true), (17, true), (18, true), (19, true), (20, true), (21, true), (22, true), (23, true), (24, true), (25, true), (26, true), (27, true), (28, true), (29, true), (30, true), (31, true), (32, true), (33, true), (34, true), (35, true), (36, true), (37, true), (38, true)] (fun V => Below wr.heap.size wr V) hmx (by kernel_rfl) (by kernel_rfl) (by kernel_rfl) (by decide) rfl (fun c a d v w h => by first | exact h | (obtain ⟨x, y⟩ := (h : _ ∧ _); cases d <;> exact ⟨x, y⟩)) (by kernel_rfl) hdr ?_
    refine wpRow_rdD (v := .pointer (some ⟨g, 0, none⟩)) 60 rfl rfl rfl (fun W hW => by simp [execOp, go_sem]) ?_
    simp only [Act.put, List.setIfInBounds_toArray, List.set_cons_succ, List.set_cons_zero]
    refine wpRow_rdD (v := .string t) 61 rfl rfl rfl (fun W hW => by simp [execOp, go_sem]) ?_
    simp only [Act.put, List.setIfInBounds_toArray, List.set_cons_succ, List.set_cons_zero]
    refine wpRow_op rfl rfl fun Kc hKc => ?_
    unfold Oper.wp
    simp [execOp, go_sem]
    refine (HT1.out _ hdr).mono ?_
    rintro e Wk1 ⟨rfl, Xk1, hXk1⟩
    have hk1w : Below wr.heap.size wr Wk1 := hdr.trans ((show Below wr.drew.heap.size wr.drew Wk1 by rw [hXk1]; exact (by (repeat with_reducible first | exact Below.refl _ _ | refine Below.drew ?_ | refine Below.drewN ?_ _ | refine Below.alloc ?_ ?_ _ | refine Below.grow ?_ ?_ _ | refine Below.setCell ?_ ?_ _); all_goals first | omega | (simp [go_sem] <;> omega))).mono hdr.size)
    clear hXk1
    show Kc _ _
    apply hKc
    refine ⟨hk1w, ?_⟩
    refine wpRow_rdD (v := .bool false) 63 rfl rfl rfl (fun W hW => by simp [execOp, go_sem]) ?_
    simp only [Act.put, List.setIfInBounds_toArray, List.set_cons_succ, List.set_cons_zero]
    refine wpRow_rdD (v := .bool false) 64 rfl rfl rfl (fun W hW => by simp [execOp, go_sem]) ?_
    simp only [Act.put, List.setIfInBounds_toArray, List.set_cons_succ, List.set_cons_zero]
    refine wpRow_rdD (v := .slice (some ⟨bf, off, none⟩) m cc) 65 rfl rfl rfl (fun W hW => by simp [execOp, go_sem]) ?_
    simp only [Act.put, List.setIfInBounds_toArray, List.set_cons_succ, List.set_cons_zero]
    refine wpRow_rdD (v := .int .i64 (k : Nat)) 66 rfl rfl rfl (fun W hW => by simp [execOp, go_sem]) ?_
    simp only [Act.put, List.setIfInBounds_toArray, List.set_cons_succ, List.set_cons_zero]
    refine wpRow_rdD (v := .pointer (some ⟨bf, off + k * 2, none⟩)) 67 rfl rfl rfl (fun W hW => by simp [execOp, go_sem]; intro h9; omega) ?_
    simp only [Act.put, List.setIfInBounds_toArray, List.set_cons_succ, List.set_cons_zero]
    refine wpRow_rdD (v := .pointer (some ⟨bf, off + k * 2, none⟩)) 68 rfl rfl rfl (fun W hW => by simp [execOp, go_sem]) ?_
    simp only [Act.put, List.setIfInBounds_toArray, List.set_cons_succ, List.set_cons_zero]
    refine wpRow_rdD (v := .string xn) 69 rfl rfl rfl (fun W hW => by have dd := (hW.cell (p := ⟨bf, off + k * 2, none⟩) hbf).trans x0; simp [execOp, go_sem, dd]) ?_
    simp only [Act.put, List.setIfInBounds_toArray, List.set_cons_succ, List.set_cons_zero]
    refine wpRow_op rfl rfl fun Kc hKc => ?_
    unfold Oper.wp
    simp [execOp, go_sem]
    refine (HU1.out _).mono ?_
    rintro e Wk2 ⟨rfl, Xk2, hXk2⟩
    have hk2w : Below wr.heap.size wr Wk2 := hk1w.trans ((show Below Wk1.heap.size Wk1 Wk2 by rw [hXk2]; exact (by (repeat with_reducible first | exact Below.refl _ _ | refine Below.drew ?_ | refine Below.drewN ?_ _ | refine Below.alloc ?_ ?_ _ | refine Below.grow ?_ ?_ _ | refine Below.setCell ?_ ?_ _); all_goals first | omega | (simp [go_sem] <;> omega))).mono hk1w.size)
    clear hXk2
    show Kc _ _
    apply hKc
    refine ⟨hk2w, ?_⟩
    refine wpRow_rdD (v := .bool false) 71 rfl rfl rfl (fun W hW => by simp [execOp, go_sem]) ?_
    simp only [Act.put, List.setIfInBounds_toArray, List.set_cons_succ, List.set_cons_zero]
    refine wpRow_rdD (v := .bool false) 72 rfl rfl rfl (fun W hW => by simp [execOp, go_sem]) ?_
    simp only [Act.put, List.setIfInBounds_toArray, List.set_cons_succ, List.set_cons_zero]
    refine wpRow_rdD (v := .slice (some ⟨bf, off, none⟩) m cc) 73 rfl rfl rfl (fun W hW => by simp [execOp, go_sem]) ?_
    simp only [Act.put, List.setIfInBounds_toArray, List.set_cons_succ, List.set_cons_zero]
    refine wpRow_rdD (v := .int .i64 (k : Nat)) 74 rfl rfl rfl (fun W hW => by simp [execOp, go_sem]) ?_
    simp only [Act.put, List.setIfInBounds_toArray, List.set_cons_succ, List.set_cons_zero]
    refine wpRow_rdD (v := .pointer (some ⟨bf, off + k * 2, none⟩)) 75 rfl rfl rfl (fun W hW => by simp [execOp, go_sem]; intro h9; omega) ?_
    simp only [Act.put, List.setIfInBounds_toArray, List.set_cons_succ, List.set_cons_zero]
    refine wpRow_rdD (v := .pointer (some ⟨bf, off + k * 2 + 1, none⟩)) 76 rfl rfl rfl (fun W hW => by simp [execOp, go_sem]) ?_
    simp only [Act.put, List.setIfInBounds_toArray, List.set_cons_succ, List.set_cons_zero]
    refine wpRow_rdD (v := .string xv) 77 rfl rfl rfl (fun W hW => by have dd := (hW.cell (p := ⟨bf, off + k * 2 + 1, none⟩) hbf).trans x1; simp [execOp, go_sem, dd]) ?_
    simp only [Act.put, List.setIfInBounds_toArray, List.set_cons_succ, List.set_cons_zero]
    refine wpRow_rdD (v := .int .i64 xv.size) 78 rfl rfl rfl (fun W hW => by simp [execOp, go_sem]) ?_
    simp only [Act.put, List.setIfInBounds_toArray, List.set_cons_succ, List.set_cons_zero]
    refine wpRow_rdD (v := .int .i64 P.value) 79 rfl rfl rfl (fun W hW => by simp [execOp, go_sem]) ?_
    simp only [Act.put, List.setIfInBounds_toArray, List.set_cons_succ, List.set_cons_zero]
    refine wpRow_rdD (v := .bool false) 80 rfl rfl rfl (fun W hW => by simp [execOp, go_sem, hv1]) ?_
    simp only [Act.put, List.setIfInBounds_toArray, List.set_cons_succ, List.set_cons_zero]
    refine wpRow_rdD (v := .bool false) 81 rfl rfl rfl (fun W hW => by simp [execOp, go_sem]) ?_
    simp only [Act.put, List.setIfInBounds_toArray, List.set_cons_succ, List.set_cons_zero]
    refine wpRow_rdD (v := .bool false) 82 rfl rfl rfl (fun W hW => by simp [execOp, go_sem]) ?_
    simp only [Act.put, List.setIfInBounds_toArray, List.set_cons_succ, List.set_cons_zero]
    refine wpRow_rdD (v := .int .i64 (k : Nat)) 83 rfl rfl rfl (fun W hW => by simp [execOp, go_sem]) ?_
    simp only [Act.put, List.setIfInBounds_toArray, List.set_cons_succ, List.set_cons_zero]
    refine wpRow_rdD (v := .bool true) 84 rfl rfl rfl (fun W hW => by simp [execOp, go_sem, hk0]) ?_
    simp only [Act.put, List.setIfInBounds_toArray, List.set_cons_succ, List.set_cons_zero]
    refine wpRow_rdD (v := .bool true) 85 rfl rfl rfl (fun W hW => by simp [execOp, go_sem]) ?_
    simp only [Act.put, List.setIfInBounds_toArray, List.set_cons_succ, List.set_cons_zero]
    refine wpRow_rdD (v := .slice (some ⟨bf, off, none⟩) m cc) 86 rfl rfl rfl (fun W hW => by simp [execOp, go_sem]) ?_
    simp only [Act.put, List.setIfInBounds_toArray, List.set_cons_succ, List.set_cons_zero]
    refine wpRow_rdD (v := .int .i64 (k : Nat)) 87 rfl rfl rfl (fun W hW => by simp [execOp, go_sem]) ?_
    simp only [Act.put, List.setIfInBounds_toArray, List.set_cons_succ, List.set_cons_zero]
    refine wpRow_rdD (v := .pointer (some ⟨bf, off + k * 2, none⟩)) 88 rfl rfl rfl (fun W hW => by simp [execOp, go_sem]; intro h9; omega) ?_
    simp only [Act.put, List.setIfInBounds_toArray, List.set_cons_succ, List.set_cons_zero]
    refine wpRow_rdD (v := .pointer (some ⟨bf, off + k * 2, none⟩)) 89 rfl rfl rfl (fun W hW => by simp [execOp, go_sem]) ?_
    simp only [Act.put, List.setIfInBounds_toArray, List.set_cons_succ, List.set_cons_zero]
    refine wpRow_rdD (v := .string xn) 90 rfl rfl rfl (fun W hW => by have dd := (hW.cell (p := ⟨bf, off + k * 2, none⟩) hbf).trans x0; simp [execOp, go_sem, dd]) ?_
    simp only [Act.put, List.setIfInBounds_toArray, List.set_cons_succ, List.set_cons_zero]
    refine wpRow_rdD (v := .slice (some ⟨bf, off, none⟩) m cc) 91 rfl rfl rfl (fun W hW => by simp [execOp, go_sem]) ?_
    simp only [Act.put, List.setIfInBounds_toArray, List.set_cons_succ, List.set_cons_zero]
    refine wpRow_rdD (v := .int .i64 (k : Nat)) 92 rfl rfl rfl (fun W hW => by simp [execOp, go_sem]) ?_
    simp only [Act.put, List.setIfInBounds_toArray, List.set_cons_succ, List.set_cons_zero]
    refine wpRow_rdD (v := .int .i64 ((k - 1 : Nat) : Int)) 93 rfl rfl rfl (fun W hW => by simp [execOp, go_sem, s2]) ?_
    simp only [Act.put, List.setIfInBounds_toArray, List.set_cons_succ, List.set_cons_zero]
    refine wpRow_rdD (v := .pointer (some ⟨bf, off + (k - 1) * 2, none⟩)) 94 rfl rfl rfl (fun W hW => by simp [execOp, go_sem, s3, s4, s5]) ?_
    simp only [Act.put, List.setIfInBounds_toArray, List.set_cons_succ, List.set_cons_zero]
    refine wpRow_rdD (v := .pointer (some ⟨bf, off + (k - 1) * 2, none⟩)) 95 rfl rfl rfl (fun W hW => by simp [execOp, go_sem]) ?_
    simp only [Act.put, List.setIfInBounds_toArray, List.set_cons_succ, List.set_cons_zero]
    refine wpRow_rdD (v := .string yn) 96 rfl rfl rfl (fun W hW => by have dd := (hW.cell (p := ⟨bf, off + (k - 1) * 2, none⟩) hbf).trans y0; simp [execOp, go_sem, dd]) ?_
    simp only [Act.put, List.setIfInBounds_toArray, List.set_cons_succ, List.set_cons_zero]
    refine wpRow_rdD (v := .bool false) 97 rfl rfl rfl (fun W hW => by simp [execOp, go_sem, hlt1, hne1]) ?_
    simp only [Act.put, List.setIfInBounds_toArray, List.set_cons_succ, List.set_cons_zero]
    refine wpRow_rdD (v := .bool false) 98 rfl rfl rfl (fun W hW => by simp [execOp, go_sem]) ?_
    simp only [Act.put, List.setIfInBounds_toArray, List.set_cons_succ, List.set_cons_zero]
    simp only [wpRow, List.drop]
    go_wp2_with fail
    go_roundw
    case rel => exact ⟨k + 1, by omega, by go_num, HBx.out.trans (hk2w.mono hHW)⟩
    case measure => simp [intOf]; omega
   ·have hk1 : k = 0 := by omega
    subst hk1
    clear hx hkl hcf hxs
    simp only [Nat.zero_mul, Nat.add_zero] at x0 x1
    generalize (⟨x.1.toArray⟩ : ByteArray) = xn at *
    generalize (⟨x.2.toArray⟩ : ByteArray) = xv at *
    go_upto_region 12 with fail
    refine wp_region_row 39 [(0, true), (1, true), (2, false), (3, true), (4, true), (5, true), (6, true), (7, true), (8, true), (9, true), (10, false), (11, true), (12, true), (13, true), (14, true), (15, true), (16, true), (17, true), (18, true), (19, true), (20, true), (21, true), (22, true), (23, true), (24, true), (25, true), (26, true), (27, true), (28, true), (29, true), (30, true), (31, true), (32, true), (33, true), (34, true), (35, true), (36, true), (37, true), (38, true)] (fun V => Below wr.heap.size wr V) hmx (by kernel_rfl) (by kernel_rfl) (by kernel_rfl) (by decide) rfl (fun c a d v w h => by first | exact h | (obtain ⟨x, y⟩ := (h : _ ∧ _); cases d <;> exact ⟨x, y⟩)) (by kernel_rfl) hdr ?_
    refine wpRow_rdD (v := .pointer (some ⟨g, 0, none⟩)) 60 rfl rfl rfl (fun W hW => by simp [execOp, go_sem]) ?_
    simp only [Act.put, List.setIfInBounds_toArray, List.set_cons_succ, List.set_cons_zero]
    refine wpRow_rdD (v := .string t) 61 rfl rfl rfl (fun W hW => by simp [execOp, go_sem]) ?_
    simp only [Act.put, List.setIfInBounds_toArray, List.set_cons_succ, List.set_cons_zero]
    refine wpRow_op rfl rfl fun Kc hKc => ?_
    unfold Oper.wp
    simp [execOp, go_sem]
    refine (HT1.out _ hdr).mono ?_
    rintro e Wk1 ⟨rfl, Xk1, hXk1⟩
    have hk1w : Below wr.heap.size wr Wk1 := hdr.trans ((show Below wr.drew.heap.size wr.drew Wk1 by rw [hXk1]; exact (by (repeat with_reducible first | exact Below.refl _ _ | refine Below.drew ?_ | refine Below.drewN ?_ _ | refine Below.alloc ?_ ?_ _ | refine Below.grow ?_ ?_ _ | refine Below.setCell ?_ ?_ _); all_goals first | omega | (simp [go_sem] <;> omega))).mono hdr.size)
    clear hXk1
    show Kc _ _
    apply hKc
    refine ⟨hk1w, ?_⟩
    refine wpRow_rdD (v := .bool false) 63 rfl rfl rfl (fun W hW => by simp [execOp, go_sem]) ?_
    simp only [Act.put, List.setIfInBounds_toArray, List.set_cons_succ, List.set_cons_zero]
    refine wpRow_rdD (v := .bool false) 64 rfl rfl rfl (fun W hW => by simp [execOp, go_sem]) ?_
    simp only [Act.put, List.setIfInBounds_toArray, List.set_cons_succ, List.set_cons_zero]
    refine wpRow_rdD (v := .slice (some ⟨bf, off, none⟩) m cc) 65 rfl rfl rfl (fun W hW => by simp [execOp, go_sem]) ?_
    simp only [Act.put, List.setIfInBounds_toArray, List.set_cons_succ, List.set_cons_zero]
    refine wpRow_rdD (v := .int .i64 (0 : Nat)) 66 rfl rfl rfl (fun W hW => by simp [execOp, go_sem]) ?_
    simp only [Act.put, List.setIfInBounds_toArray, List.set_cons_succ, List.set_cons_zero]
    refine wpRow_rdD (v := .pointer (some ⟨bf, off, none⟩)) 67 rfl rfl rfl (fun W hW => by simp [execOp, go_sem]; intro h9; omega) ?_
    simp only [Act.put, List.setIfInBounds_toArray, List.set_cons_succ, List.set_cons_zero]
    refine wpRow_rdD (v := .pointer (some ⟨bf, off, none⟩)) 68 rfl rfl rfl (fun W hW => by simp [execOp, go_sem]) ?_
    simp only [Act.put, List.setIfInBounds_toArray, List.set_cons_succ, List.set_cons_zero]
    refine wpRow_rdD (v := .string xn) 69 rfl rfl rfl (fun W hW => by have dd := (hW.cell (p := ⟨bf, off, none⟩) hbf).trans x0; simp [execOp, go_sem, dd]) ?_
    simp only [Act.put, List.setIfInBounds_toArray, List.set_cons_succ, List.set_cons_zero]
    refine wpRow_op rfl rfl fun Kc hKc => ?_
    unfold Oper.wp
    simp [execOp, go_sem]
    refine (HU1.out _).mono ?_
    rintro e Wk2 ⟨rfl, Xk2, hXk2⟩
    have hk2w : Below wr.heap.size wr Wk2 := hk1w.trans ((show Below Wk1.heap.size Wk1 Wk2 by rw [hXk2]; exact (by (repeat with_reducible first | exact Below.refl _ _ | refine Below.drew ?_ | refine Below.drewN ?_ _ | refine Below.alloc ?_ ?_ _ | refine Below.grow ?_ ?_ _ | refine Below.setCell ?_ ?_ _); all_goals first | omega | (simp [go_sem] <;> omega))).mono hk1w.size)
    clear hXk2
    show Kc _ _
    apply hKc
    refine ⟨hk2w, ?_⟩
    refine wpRow_rdD (v := .bool false) 71 rfl rfl rfl (fun W hW => by simp [execOp, go_sem]) ?_
    simp only [Act.put, List.setIfInBounds_toArray, List.set_cons_succ, List.set_cons_zero]
    refine wpRow_rdD (v := .bool false) 72 rfl rfl rfl (fun W hW => by simp [execOp, go_sem]) ?_
    simp only [Act.put, List.setIfInBounds_toArray, List.set_cons_succ, List.set_cons_zero]
    refine wpRow_rdD (v := .slice (some ⟨bf, off, none⟩) m cc) 73 rfl rfl rfl (fun W hW => by simp [execOp, go_sem]) ?_
    simp only [Act.put, List.setIfInBounds_toArray, List.set_cons_succ, List.set_cons_zero]
    refine wpRow_rdD (v := .int .i64 (0 : Nat)) 74 rfl rfl rfl (fun W hW => by simp [execOp, go_sem]) ?_
    simp only [Act.put, List.setIfInBounds_toArray, List.set_cons_succ, List.set_cons_zero]
    refine wpRow_rdD (v := .pointer (some ⟨bf, off, none⟩)) 75 rfl rfl rfl (fun W hW => by simp [execOp, go_sem]; intro h9; omega) ?_
    simp only [Act.put, List.setIfInBounds_toArray, List.set_cons_succ, List.set_cons_zero]
    refine wpRow_rdD (v := .pointer (some ⟨bf, off + 1, none⟩)) 76 rfl rfl rfl (fun W hW => by simp [execOp, go_sem]) ?_
    simp only [Act.put, List.setIfInBounds_toArray, List.set_cons_succ, List.set_cons_zero]
    refine wpRow_rdD (v := .string xv) 77 rfl rfl rfl (fun W hW => by have dd := (hW.cell (p := ⟨bf, off + 1, none⟩) hbf).trans x1; simp [execOp, go_sem, dd]) ?_
    simp only [Act.put, List.setIfInBounds_toArray, List.set_cons_succ, List.set_cons_zero]
    refine wpRow_rdD (v := .int .i64 xv.size) 78 rfl rfl rfl (fun W hW => by simp [execOp, go_sem]) ?_
    simp only [Act.put, List.setIfInBounds_toArray, List.set_cons_succ, List.set_cons_zero]
    refine wpRow_rdD (v := .int .i64 P.value) 79 rfl rfl rfl (fun W hW => by simp [execOp, go_sem]) ?_
    simp only [Act.put, List.setIfInBounds_toArray, List.set_cons_succ, List.set_cons_zero]
    refine wpRow_rdD (v := .bool false) 80 rfl rfl rfl (fun W hW => by simp [execOp, go_sem, hv1]) ?_
    simp only [Act.put, List.setIfInBounds_toArray, List.set_cons_succ, List.set_cons_zero]
    refine wpRow_rdD (v := .bool false) 81 rfl rfl rfl (fun W hW => by simp [execOp, go_sem]) ?_
    simp only [Act.put, List.setIfInBounds_toArray, List.set_cons_succ, List.set_cons_zero]
    refine wpRow_rdD (v := .bool false) 82 rfl rfl rfl (fun W hW => by simp [execOp, go_sem]) ?_
    simp only [Act.put, List.setIfInBounds_toArray, List.set_cons_succ, List.set_cons_zero]
    refine wpRow_rdD (v := .int .i64 (0 : Nat)) 83 rfl rfl rfl (fun W hW => by simp [execOp, go_sem]) ?_
    simp only [Act.put, List.setIfInBounds_toArray, List.set_cons_succ, List.set_cons_zero]
    refine wpRow_rdD (v := .bool false) 84 rfl rfl rfl (fun W hW => by simp [execOp, go_sem]) ?_
    simp only [Act.put, List.setIfInBounds_toArray, List.set_cons_succ, List.set_cons_zero]
    refine wpRow_rdD (v := .bool false) 85 rfl rfl rfl (fun W hW => by simp [execOp, go_sem]) ?_
    simp only [Act.put, List.setIfInBounds_toArray, List.set_cons_succ, List.set_cons_zero]
    refine wpRow_skp 86 rfl rfl rfl ?_
    simp only [Act.put, List.setIfInBounds_toArray, List.set_cons_succ, List.set_cons_zero]
    refine wpRow_skp 87 rfl rfl rfl ?_
    simp only [Act.put, List.setIfInBounds_toArray, List.set_cons_succ, List.set_cons_zero]
    refine wpRow_skp 88 rfl rfl rfl ?_
    simp only [Act.put, List.setIfInBounds_toArray, List.set_cons_succ, List.set_cons_zero]
    refine wpRow_skp 89 rfl rfl rfl ?_
    simp only [Act.put, List.setIfInBounds_toArray, List.set_cons_succ, List.set_cons_zero]
    refine wpRow_skp 90 rfl rfl rfl ?_
    simp only [Act.put, List.setIfInBounds_toArray, List.set_cons_succ, List.set_cons_zero]
    refine wpRow_skp 91 rfl rfl rfl ?_
    simp only [Act.put, List.setIfInBounds_toArray, List.set_cons_succ, List.set_cons_zero]
    refine wpRow_skp 92 rfl rfl rfl ?_
    simp only [Act.put, List.setIfInBounds_toArray, List.set_cons_succ, List.set_cons_zero]
    refine wpRow_skp 93 rfl rfl rfl ?_
    simp only [Act.put, List.setIfInBounds_toArray, List.set_cons_succ, List.set_cons_zero]
    refine wpRow_skp 94 rfl rfl rfl ?_
    simp only [Act.put, List.setIfInBounds_toArray, List.set_cons_succ, List.set_cons_zero]
    refine wpRow_skp 95 rfl rfl rfl ?_
    simp only [Act.put, List.setIfInBounds_toArray, List.set_cons_succ, List.set_cons_zero]
    refine wpRow_skp 96 rfl rfl rfl ?_
    simp only [Act.put, List.setIfInBounds_toArray, List.set_cons_succ, List.set_cons_zero]
    refine wpRow_skp 97 rfl rfl rfl ?_
    simp only [Act.put, List.setIfInBounds_toArray, List.set_cons_succ, List.set_cons_zero]
    refine wpRow_rdD (v := .bool false) 98 rfl rfl rfl (fun W hW => by simp [execOp, go_sem]) ?_
    simp only [Act.put, List.setIfInBounds_toArray, List.set_cons_succ, List.set_cons_zero]
    simp only [wpRow, List.drop]
    go_wp2_with fail
    go_roundw
    case rel => exact ⟨0 + 1, by omega, by go_num, HBx.out.trans (hk2w.mono hHW)⟩
    case measure => simp [intOf]; omega
  ·clear HD3 HLs HLr
   have htr : tagR P t.data.toList = true → deniedB t.data.toList = false ∧ dropR P t.data.toList = false := fun h => safe_tag HW.out h
   have har : attrR P t.data.toList n.data.toList = true → unsafeB n.data.toList = false ∧ tagR P t.data.toList = true := fun h => safe_attr HW.out h
   have HTt := Lib.hid (fun W (hb : Below wr.heap.size wr W) => HTg.out W (HRw.out.below hb))
   have HDr := Lib.hid (fun W (hb : Below wr.heap.size wr W) => show Calls Tryz.prog 15 #[.pointer (some ⟨g, 0, none⟩), .string t] W _ from drop_any g P t.data.toList W (HRw.out.below hb) htl)
   have HAt := Lib.hid (fun W (hb : Below wr.heap.size wr W) => show Calls Tryz.prog 16 #[.pointer (some ⟨g, 0, none⟩), .string t, .string n] W _ from attr_any g P t.data.toList n.data.toList W (HRw.out.below hb) htl hnl)
   have HDn := Lib.hid (fun W => show Calls Tryz.prog 14 #[.string t] W _ from denied_any t.data.toList W)
   have HUn := Lib.hid (fun W => show Calls Tryz.prog 13 #[.string n] W _ from unsafe_any n.data.toList W)
   have HJ1 := Lib.hid (fun W (hb : Below wr.heap.size wr W) => show Calls Tryz.prog 17 #[.pointer (some ⟨g, 0, none⟩), .string ⟨#[106, 97, 118, 97, 115, 99, 114, 105, 112, 116]⟩] W (Ret (.bool false) W) from safe_sch HW.out (t := jsT) (by simp [runsL]) ▸ scheme_any g P jsT W (HRw.out.below hb) (by simp [maxLen, jsT]))
   have HJ2 := Lib.hid (fun W (hb : Below wr.heap.size wr W) => show Calls Tryz.prog 17 #[.pointer (some ⟨g, 0, none⟩), .string ⟨#[100, 97, 116, 97]⟩] W (Ret (.bool false) W) from safe_sch HW.out (t := dataT) (by simp [runsL]) ▸ scheme_any g P dataT W (HRw.out.below hb) (by simp [maxLen, dataT]))
   have HJ3 := Lib.hid (fun W (hb : Below wr.heap.size wr W) => show Calls Tryz.prog 17 #[.pointer (some ⟨g, 0, none⟩), .string ⟨#[118, 98, 115, 99, 114, 105, 112, 116]⟩] W (Ret (.bool false) W) from safe_sch HW.out (t := vbT) (by simp [runsL]) ▸ scheme_any g P vbT W (HRw.out.below hb) (by simp [maxLen, vbT]))
   obtain ⟨T, hT⟩ : ∃ T, tagR P t.data.toList = T := ⟨_, rfl⟩
   obtain ⟨Q, hQ⟩ : ∃ Q, attrR P t.data.toList n.data.toList = Q := ⟨_, rfl⟩
   rw [hT] at htr har HTt
   rw [hQ] at har HAt
   clear hT hQ HTg
   generalize deniedB t.data.toList = DN at *
   generalize dropR P t.data.toList = DR at *
   generalize unsafeB n.data.toList = UN at *
   have hwrs := HBw.out.size
   cases T <;> cases Q
   all_goals try (exact absurd (har rfl).2 (by decide))
   all_goals
    try have hx1 := (htr rfl).1
    try have hx2 := (htr rfl).2
    try have hx3 := (har rfl).1
    try subst hx1
    try subst hx2
    try subst hx3
    clear htr har
    go_wp2_with (first
     | (go_at_call 12; (with_reducible refine (HTt.out _ (by (repeat with_reducible first | exact Below.refl _ _ | refine Below.drew ?_ | refine Below.drewN ?_ _ | refine Below.alloc ?_ ?_ _ | refine Below.grow ?_ ?_ _ | refine Below.setCell ?_ ?_ _); all_goals first | omega | (simp [go_sem] <;> omega))).mono ?_); rintro e V1 ⟨rfl, Y1, rfl⟩)
     | (go_at_call 12; (with_reducible refine (Ret.flat (HTt.out _ (by (repeat with_reducible first | exact Below.refl _ _ | refine Below.drew ?_ | refine Below.drewN ?_ _ | refine Below.alloc ?_ ?_ _ | refine Below.grow ?_ ?_ _ | refine Below.setCell ?_ ?_ _); all_goals first | omega | (simp [go_sem] <;> omega)))).mono ?_); rintro e V1 ⟨rfl, Y1, rfl⟩)
     | (go_at_call 14; (with_reducible refine (Ret.flat (HDn.out _)).mono ?_); rintro e V2 ⟨rfl, Y2, rfl⟩)
     | (go_at_call 15; (with_reducible refine (Ret.flat (HDr.out _ (by (repeat with_reducible first | exact Below.refl _ _ | refine Below.drew ?_ | refine Below.drewN ?_ _ | refine Below.alloc ?_ ?_ _ | refine Below.grow ?_ ?_ _ | refine Below.setCell ?_ ?_ _); all_goals first | omega | (simp [go_sem] <;> omega)))).mono ?_); rintro e V3 ⟨rfl, Y3, rfl⟩)
     | (go_at_call 16; (with_reducible refine (Ret.flat (HAt.out _ (by (repeat with_reducible first | exact Below.refl _ _ | refine Below.drew ?_ | refine Below.drewN ?_ _ | refine Below.alloc ?_ ?_ _ | refine Below.grow ?_ ?_ _ | refine Below.setCell ?_ ?_ _); all_goals first | omega | (simp [go_sem] <;> omega)))).mono ?_); rintro e V4 ⟨rfl, Y4, rfl⟩)
     | (go_at_call 13; (with_reducible refine (Ret.flat (HUn.out _)).mono ?_); rintro e V5 ⟨rfl, Y5, rfl⟩)
     | (go_at_call 17; (with_reducible refine (Ret.flat (HJ1.out _ (by (repeat with_reducible first | exact Below.refl _ _ | refine Below.drew ?_ | refine Below.drewN ?_ _ | refine Below.alloc ?_ ?_ _ | refine Below.grow ?_ ?_ _ | refine Below.setCell ?_ ?_ _); all_goals first | omega | (simp [go_sem] <;> omega)))).mono ?_); rintro e V6 ⟨rfl, Y6, rfl⟩)
     | (go_at_call 17; (with_reducible refine (Ret.flat (HJ2.out _ (by (repeat with_reducible first | exact Below.refl _ _ | refine Below.drew ?_ | refine Below.drewN ?_ _ | refine Below.alloc ?_ ?_ _ | refine Below.grow ?_ ?_ _ | refine Below.setCell ?_ ?_ _); all_goals first | omega | (simp [go_sem] <;> omega)))).mono ?_); rintro e V7 ⟨rfl, Y7, rfl⟩)
     | (go_at_call 17; (with_reducible refine (Ret.flat (HJ3.out _ (by (repeat with_reducible first | exact Below.refl _ _ | refine Below.drew ?_ | refine Below.drewN ?_ _ | refine Below.alloc ?_ ?_ _ | refine Below.grow ?_ ?_ _ | refine Below.setCell ?_ ?_ _); all_goals first | omega | (simp [go_sem] <;> omega)))).mono ?_); rintro e V8 ⟨rfl, Y8, rfl⟩))
    go_ret
    exact Ret.of rfl (HBw.out.trans (((by (repeat with_reducible first | exact Below.refl _ _ | refine Below.drew ?_ | refine Below.drewN ?_ _ | refine Below.alloc ?_ ?_ _ | refine Below.grow ?_ ?_ _ | refine Below.setCell ?_ ?_ _); all_goals first | omega | (simp [go_sem] <;> omega)) : Below wr.heap.size wr _).mono hwrs))
set_option maxRecDepth 100000 in
theorem lifted (os : Os) (started : os.Started) (H : Type) (enc : TypeId × Value → H) :
  ReturnsInHanded {} Tryz.checked os 3 .any (Rows.compileSafeSpec.pre6 enc Tryz.prog Tryz.f3 Rows.compileSafeRow.domain false) (Rows.compileSafeSpec.post enc Tryz.prog Tryz.f3 false true false false) := by
 refine returnsInHanded_of_change (C := Tryz.checked) own started (by kernel_rfl) Tryz.func3
  (ChangeSpec.witness6 (enc := enc) (C := Tryz.checked) false ⟨#[], #[.string ⟨#[]⟩, .string ⟨#[]⟩, .string ⟨#[]⟩], []⟩ 8 (by kernel_rfl) (by kernel_rfl) (by kernel_rfl) (by kernel_rfl)) ?_
 intro W base args ds gs before hval0 hW hcnd _
 have hval : ∀ (j : Nat) t v, Tryz.f3.params[j]? = some t → args[j]? = some v → Value.okWide Tryz.prog W .any base t v := hval0
 have hW' := hW
 obtain ⟨p, q, hA0, hV, rfl, hfz, hnd⟩ := hW
 have hA : DataW.TrodAll enc Tryz.prog W 0 (fun _ => true) true Tryz.f3.params.toList args.toList ds p := hA0
 rw [Tryz.params3] at hA hval
 obtain ⟨v0, vs0, d0, ds0, p0, q0, hargs, rfl, rfl, h0, r0⟩ := trodAll_cons hA
 obtain ⟨v1, vs1, d1, ds1, p1, q1, rfl, rfl, rfl, h1, r1⟩ := trodAll_cons r0
 obtain ⟨v2, vs2, d2, ds2, p2, q2, rfl, rfl, rfl, h2, r2⟩ := trodAll_cons r1
 obtain ⟨rfl, rfl, rfl⟩ := trodAll_nil r2
 obtain rfl : args = #[v0, v1, v2] := by cases args; simp_all
 obtain ⟨rfl, rfl⟩ := trodVars_none hV
 obtain ⟨s0, rfl, rfl, rfl, w0⟩ := open_string Tryz.underlying9 (hval 0 9 v0 rfl rfl) h0
 obtain ⟨s1, rfl, rfl, rfl, w1⟩ := open_string Tryz.underlying9 (hval 1 9 v1 rfl rfl) h1
 obtain ⟨s2, rfl, rfl, rfl, w2⟩ := open_string Tryz.underlying9 (hval 2 9 v2 rfl rfl) h2
 clear hA0 hval0
 refine (walk s0 s1 s2 W w0 w1 w2).mono fun e W' hend => ?_
 obtain ⟨he, X, hX⟩ := hend
 have bel : Below W.heap.size W W' := by rw [hX]; exact below_grow W X
 subst he
 exact ⟨_, rfl, _, _, _, [], _, [], hW', trodAll_mk1 (shut_bool Tryz.underlying4 _), (trodAll_cons_mk (shut_string Tryz.underlying9 w0) (trodAll_cons_mk (shut_string Tryz.underlying9 w1) (trodAll_cons_mk (shut_string Tryz.underlying9 w2) trodAll_mk0))), rfl, bel.frame _, fun h => by cases h⟩
theorem over : Rows.compileSafeRow.holds Tryz.pinned (OpenSpec.ofChange Rows.compileSafeSpec) :=
 OpenClaim.holds_of_wide 3 Tryz.f3 rfl rfl rfl rfl rfl rfl rfl ⟨rfl, rfl, rfl, rfl, rfl⟩ rfl rfl rfl rfl rfl (by kernel_rfl) Tryz.func3 (by kernel_rfl)
  (of_decide_eq_true (by kernel_rfl)) (by unfold Func.isWrapper; rw [if_neg (of_decide_eq_false (by kernel_rfl))]; exact ⟨rfl, rfl⟩)
  (fun os started H enc _ => lifted os started H enc)
theorem proved : Rows.CompileSafeSaid := over
end Go.Proofs.YtbhhgbgfaemfdaaGreat.compileSafe

