/- The walks of Holds: whether an attribute is an address. (written by gen_g.py) -/
import Derived.Test.YtbhhgbgfaemfdaaGreatDoorD1
import Derived.Test.YtbhhgbgfaemfdaaGreatDoorC2
namespace Go.Proofs.YtbhhgbgfaemfdaaGreatDoor
open Go.RowKit
attribute [local go_sem] Oper.semAt_some
def holdsL : List Bs := ["href", "src", "action", "formaction", "cite", "poster", "background", "longdesc", "ping", "manifest", "data", "usemap"].map (fun s => s.toUTF8.data.toList)
def holdsB (t : Bs) : Bool := decide (t ∈ holdsL)
theorem holdsL_eq : holdsL = [[104, 114, 101, 102], [115, 114, 99], [97, 99, 116, 105, 111, 110], [102, 111, 114, 109, 97, 99, 116, 105, 111, 110], [99, 105, 116, 101], [112, 111, 115, 116, 101, 114], [98, 97, 99, 107, 103, 114, 111, 117, 110, 100], [108, 111, 110, 103, 100, 101, 115, 99], [112, 105, 110, 103], [109, 97, 110, 105, 102, 101, 115, 116], [100, 97, 116, 97], [117, 115, 101, 109, 97, 112]] := by kernel_rfl
set_option maxRecDepth 100000 in
set_option maxHeartbeats 1600000 in
theorem holds_any (t : Bs) (w : World) : Calls Tryz.prog 21 #[sv t] w (Ret (.bool (holdsB t)) w) := by
 unfold holdsB
 rw [holdsL_eq]
 unfold sv
 by_cases hm : t ∈ [[104, 114, 101, 102], [115, 114, 99], [97, 99, 116, 105, 111, 110], [102, 111, 114, 109, 97, 99, 116, 105, 111, 110], [99, 105, 116, 101], [112, 111, 115, 116, 101, 114], [98, 97, 99, 107, 103, 114, 111, 117, 110, 100], [108, 111, 110, 103, 100, 101, 115, 99], [112, 105, 110, 103], [109, 97, 110, 105, 102, 101, 115, 116], [100, 97, 116, 97], [117, 115, 101, 109, 97, 112]]
 ·rw [decide_eq_true hm]
  simp only [List.mem_cons, List.not_mem_nil, or_false] at hm
  rcases hm with rfl | rfl | rfl | rfl | rfl | rfl | rfl | rfl | rfl | rfl | rfl | rfl
  all_goals
   go_enter Tryz.func21, Tryz.ntmps21
   go_wp2_with fail
   go_ret
   exact Ret.of rfl (by (repeat with_reducible first | exact Below.refl _ _ | refine Below.drew ?_ | refine Below.drewN ?_ _ | refine Below.alloc ?_ ?_ _ | refine Below.grow ?_ ?_ _ | refine Below.setCell ?_ ?_ _); all_goals first | omega | (simp [go_sem] <;> omega))
 ·rw [decide_eq_false hm]
  simp only [List.mem_cons, List.not_mem_nil, or_false, not_or] at hm
  obtain ⟨n0, n1, n2, n3, n4, n5, n6, n7, n8, n9, n10, n11⟩ := hm
  have m0 : ((⟨t.toArray⟩ : ByteArray).toList == [104, 114, 101, 102]) = false := by rw [ba_bqD]; exact decide_eq_false n0
  have m1 : ((⟨t.toArray⟩ : ByteArray).toList == [115, 114, 99]) = false := by rw [ba_bqD]; exact decide_eq_false n1
  have m2 : ((⟨t.toArray⟩ : ByteArray).toList == [97, 99, 116, 105, 111, 110]) = false := by rw [ba_bqD]; exact decide_eq_false n2
  have m3 : ((⟨t.toArray⟩ : ByteArray).toList == [102, 111, 114, 109, 97, 99, 116, 105, 111, 110]) = false := by rw [ba_bqD]; exact decide_eq_false n3
  have m4 : ((⟨t.toArray⟩ : ByteArray).toList == [99, 105, 116, 101]) = false := by rw [ba_bqD]; exact decide_eq_false n4
  have m5 : ((⟨t.toArray⟩ : ByteArray).toList == [112, 111, 115, 116, 101, 114]) = false := by rw [ba_bqD]; exact decide_eq_false n5
  have m6 : ((⟨t.toArray⟩ : ByteArray).toList == [98, 97, 99, 107, 103, 114, 111, 117, 110, 100]) = false := by rw [ba_bqD]; exact decide_eq_false n6
  have m7 : ((⟨t.toArray⟩ : ByteArray).toList == [108, 111, 110, 103, 100, 101, 115, 99]) = false := by rw [ba_bqD]; exact decide_eq_false n7
  have m8 : ((⟨t.toArray⟩ : ByteArray).toList == [112, 105, 110, 103]) = false := by rw [ba_bqD]; exact decide_eq_false n8
  have m9 : ((⟨t.toArray⟩ : ByteArray).toList == [109, 97, 110, 105, 102, 101, 115, 116]) = false := by rw [ba_bqD]; exact decide_eq_false n9
  have m10 : ((⟨t.toArray⟩ : ByteArray).toList == [100, 97, 116, 97]) = false := by rw [ba_bqD]; exact decide_eq_false n10
  have m11 : ((⟨t.toArray⟩ : ByteArray).toList == [117, 115, 101, 109, 97, 112]) = false := by rw [ba_bqD]; exact decide_eq_false n11
  clear n0 n1 n2 n3 n4 n5 n6 n7 n8 n9 n10 n11
  generalize (⟨t.toArray⟩ : ByteArray) = x at *
  go_enter Tryz.func21, Tryz.ntmps21
  go_wp2_with fail
  go_ret
  exact Ret.of rfl (by (repeat with_reducible first | exact Below.refl _ _ | refine Below.drew ?_ | refine Below.drewN ?_ _ | refine Below.alloc ?_ ?_ _ | refine Below.grow ?_ ?_ _ | refine Below.setCell ?_ ?_ _); all_goals first | omega | (simp [go_sem] <;> omega))
set_option maxRecDepth 100000 in
set_option maxHeartbeats 1600000 in
theorem rholds_any (s : Bs) (w : World) : Calls Tryz.prog 22 #[sv s] w (Ret (.bool (holdsB s)) w) := by
 obtain ⟨l, hl⟩ : ∃ l : List Bs, l = [[104, 114, 101, 102], [115, 114, 99], [97, 99, 116, 105, 111, 110], [102, 111, 114, 109, 97, 99, 116, 105, 111, 110], [99, 105, 116, 101], [112, 111, 115, 116, 101, 114], [98, 97, 99, 107, 103, 114, 111, 117, 110, 100], [108, 111, 110, 103, 100, 101, 115, 99], [112, 105, 110, 103], [109, 97, 110, 105, 102, 101, 115, 116], [100, 97, 116, 97], [117, 115, 101, 109, 97, 112]] := ⟨_, rfl⟩
 have HD0 : Hid (holdsB s = decide (s ∈ l.drop 0)) := by show _ = _; unfold holdsB; rw [holdsL_eq, List.drop_zero, hl]
 have hn : l.length = 12 := by rw [hl]; rfl
 obtain ⟨D, hD⟩ : ∃ D, holdsB s = D := ⟨_, rfl⟩
 rw [hD] at HD0 ⊢
 have HRd := Lib.hid (fun (W : World) c (hc : c = (([[104, 114, 101, 102], [115, 114, 99], [97, 99, 116, 105, 111, 110], [102, 111, 114, 109, 97, 99, 116, 105, 111, 110], [99, 105, 116, 101], [112, 111, 115, 116, 101, 114], [98, 97, 99, 107, 103, 114, 111, 117, 110, 100], [108, 111, 110, 103, 100, 101, 115, 99], [112, 105, 110, 103], [109, 97, 110, 105, 102, 101, 115, 116], [100, 97, 116, 97], [117, 115, 101, 109, 97, 112]] : List Bs).map sv).toArray) => show Rd (W.alloc (.cells c 9)) (.slice (some ⟨W.heap.size, 0, none⟩) 12 12) 12 1 (l.map sv) from by
  subst hc
  rw [hl]
  have := Rd.own (own_lit (W := W) (e := 9) (c := (([[104, 114, 101, 102], [115, 114, 99], [97, 99, 116, 105, 111, 110], [102, 111, 114, 109, 97, 99, 116, 105, 111, 110], [99, 105, 116, 101], [112, 111, 115, 116, 101, 114], [98, 97, 99, 107, 103, 114, 111, 117, 110, 100], [108, 111, 110, 103, 100, 101, 115, 99], [112, 105, 110, 103], [109, 97, 110, 105, 102, 101, 115, 116], [100, 97, 116, 97], [117, 115, 101, 109, 97, 112]] : List Bs).map sv).toArray) (n := 12) (size := 1) (by simp) (by unfold maxLen; omega))
  simpa using this)
 have HN := Lib.hid hn
 have HQ := Lib.hid (fun t : Bs => show ((⟨t.toArray⟩ : ByteArray).toList == (⟨s.toArray⟩ : ByteArray).toList) = decide (t = s) by rw [ByteArray.toList_eq, ByteArray.toList_eq, Bool.eq_iff_iff]; simp)
 clear hl hD hn
 unfold sv
 generalize (⟨s.toArray⟩ : ByteArray) = xs at *
 go_enter Tryz.func22, Tryz.ntmps22
 go_upto_region 2 with fail
 refine name_world fun W0 hW0 => ?_
 have hb0 : Below w.heap.size w W0 := by rw [hW0]; exact (by (repeat with_reducible first | exact Below.refl _ _ | refine Below.drew ?_ | refine Below.drewN ?_ _ | refine Below.alloc ?_ ?_ _ | refine Below.grow ?_ ?_ _ | refine Below.setCell ?_ ?_ _); all_goals first | omega | (simp [go_sem] <;> omega))
 have HR0 : Hid (Rd W0 (.slice (some ⟨w.heap.size, 0, none⟩) 12 12) 12 1 (l.map sv)) := by show Rd _ _ _ _ _; rw [hW0]; exact HRd.out w _ rfl
 obtain ⟨B, hB⟩ : ∃ B, w.heap.size = B := ⟨_, rfl⟩
 have HB0 := Lib.hid hb0
 rw [hB] at HR0 ⊢
 clear hW0 HRd hb0
 go_wp2_with fail
 go_loopw [4] (fun i wr => ∃ k : Nat, k ≤ 12 ∧ i = .int .i64 (k : Nat) ∧ Hid (D = decide (s ∈ l.drop k)) ∧ W0 = wr) (fun i _ => 12 - (intOf i).toNat)
 case atStart => exact ⟨0, by omega, rfl, HD0.out, rfl⟩
 case round =>
  clear HD0
  obtain ⟨k, hk, rfl, HK, rfl⟩ := hrel
  by_cases hlt : k < 12
  ·have hkl : k < l.length := by rw [HN.out]; exact hlt
   obtain ⟨t, ht⟩ : ∃ t, l[k] = t := ⟨_, rfl⟩
   obtain ⟨b, off, hAd, hb, hc⟩ : ∃ b off, some (⟨B, 0, none⟩ : Addr) = some ⟨b, off, none⟩ ∧ b < W0.heap.size ∧ ∀ j u, (l.map sv)[j]? = some u → W0.cell? ⟨b, off + j, none⟩ = some u := by
    obtain ⟨_, _, A', c', e, h4⟩ := HR0.out
    cases e
    exact h4 (by omega)
   cases hAd
   have x0 : W0.cell? ⟨B, 0 + k, none⟩ = some (.string ⟨t.toArray⟩) := hc k (sv t) (by simp [hkl, ht])
   rw [Nat.zero_add] at x0
   have HD : Hid (l.drop k = t :: l.drop (k + 1)) := by show _ = _; rw [List.drop_eq_getElem_cons hkl, ht]
   have hq := HQ.out t
   clear hc ht hkl
   generalize (⟨t.toArray⟩ : ByteArray) = xt at *
   by_cases he : t = s
   ·rw [decide_eq_true he] at hq
    have HT : Hid (D = true) := by show _ = _; rw [HK.out, HD.out, he]; simp
    clear HK HD he
    go_wp2_with fail
    go_ret
    exact Ret.of (by rw [HT.out]; rfl) HB0.out
   ·rw [decide_eq_false he] at hq
    have HT : Hid (D = decide (s ∈ l.drop (k + 1))) := by show _ = _; rw [HK.out, HD.out]; simp [show ¬ s = t from fun e => he e.symm]
    clear HK HD he
    go_wp2_with fail
    go_roundw
    case rel => exact ⟨k + 1, by omega, by go_num, HT.out, by first | rfl | trivial⟩
    case measure => simp [intOf]; omega
  ·have HT : Hid (D = false) := by show _ = _; rw [HK.out, List.drop_eq_nil_of_le (by rw [HN.out]; omega)]; rfl
   go_wp2_with fail
   go_ret
   exact Ret.of (by rw [HT.out]; rfl) HB0.out
end Go.Proofs.YtbhhgbgfaemfdaaGreatDoor

