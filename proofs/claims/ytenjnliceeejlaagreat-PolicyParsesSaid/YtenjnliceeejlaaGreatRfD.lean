/- The walks of the reference's parser: numbers; a statement of one thing. -/
import Derived.Test.YtenjnliceeejlaaGreatRfC
import Derived.Test.YtenjnliceeejlaaGreatPolU
namespace Go.Proofs.YtenjnliceeejlaaGreat
open Go.RowKit
attribute [local go_sem] Oper.semAt_some
theorem rfigure_any (c : UInt8) (w : World) (h : digB c = true) : Calls Tryz.prog 84 #[.int .u8 c.toNat] w fun e w' => e = .returned (.int .i64 ((c.toNat - 48 : Nat) : Int)) ∧ w = w' := by
 have HD := Lib.hid (h ▸ rdigit_any c w)
 have hc := h
 unfold digB at hc
 simp only [decide_eq_true_eq] at hc
 have hc9 := UInt8.toNat_lt c
 have hw8 : IntKind.u8.wrap ((c.toNat : Int) - 48) = (c.toNat : Int) - 48 := IntWalk.u8_in _ (by omega)
 have hw64 : IntKind.i64.wrap ((c.toNat : Int) - 48) = (c.toNat : Int) - 48 := by rw [IntKind.wrap_i64]; omega
 have hcs : ((c.toNat - 48 : Nat) : Int) = (c.toNat : Int) - 48 := by omega
 rw [hcs]
 clear hcs
 clear h
 generalize c.toNat = k at *
 go_enter Tryz.func84, Tryz.ntmps84
 go_wp2_with (go_at_call 81; (with_reducible refine HD.out.mono ?_); rintro e w' ⟨rfl, rfl⟩)
 go_ret
 exact ⟨by first | rfl | (simp; omega), rfl⟩
set_option maxRecDepth 100000 in
set_option maxHeartbeats 3200000 in
theorem rnumber_any (s : Bs) (w : World) (hal : s.all digB = true) (h9 : s.length ≤ 9) : Calls Tryz.prog 47 #[.string ⟨s.toArray⟩, .int .i64 10, .int .i64 1000000000] w fun e w' => ∃ b, e = .returned (.tuple #[.int .i64 (numT s), .bool b]) ∧ w = w' := by
 have hmx : Tryz.prog.follows .mixedOrders = true := by kernel_rfl
 have HV : Hid (numT s = (valN s : Int)) := valN_num s hal
 by_cases hne : s = []
 ·subst hne
  go_enter Tryz.func47, Tryz.ntmps47
  go_wp2_with fail
  go_ret2
  exact ⟨false, rfl, rfl⟩
 obtain ⟨S, hS⟩ : ∃ S : ByteArray, ⟨s.toArray⟩ = S := ⟨_, rfl⟩
 have hd0 : S.data.toList = s := by rw [← hS]
 have hsz : S.size = s.length := by rw [← hS]; rfl
 have hemp : ¬ S.toList = [] := by rw [ByteArray.toList_eq, hd0]; exact hne
 have hemp2 : S.toList.isEmpty = false := by rw [ba_emp, hd0]; simpa using hne
 have HZ := Lib.hid hsz
 have HA := Lib.hid hal
 have H0 := Lib.hid hd0
 have hS9 : S.size ≤ 9 := by omega
 have hmax : max (1000000000 : Int) 0 = 1000000000 := by decide
 rw [hS]
 clear hsz hd0 hS hne hal
 go_enter Tryz.func47, Tryz.ntmps47
 go_wp2_with fail
 go_loopw [8, 9] (fun nv i wr => ∃ k : Nat, k ≤ S.size ∧ i = .int .i64 (k : Nat) ∧ nv = .int .u64 (valN (s.take k) : Nat) ∧ wr = w) (fun _ i _ => S.size - (intOf i).toNat)
 case atStart => exact ⟨0, by omega, rfl, by simp [valN], rfl⟩
 case round =>
  obtain ⟨k, hk, rfl, rfl, rfl⟩ := hrel
  have hv9 : valN (s.take k) ≤ 999999999 := valN_small _ (by rw [List.all_eq_true]; exact fun c hc => List.all_eq_true.1 HA.out c (List.mem_of_mem_take hc)) (by rw [List.length_take]; omega)
  by_cases hlt : k < S.size
  ·have hkl : k < s.length := by rw [← HZ.out]; exact hlt
   have hat := at_bsN S s H0.out k hlt
   have hdg : digB S[k] = true := by rw [hat]; exact List.all_eq_true.1 HA.out _ (List.getElem_mem hkl)
   have HD := Lib.hid (hdg ▸ rdigit_any S[k] wr)
   have HF := Lib.hid (rfigure_any S[k] wr hdg)
   have HS : Hid (valN (s.take (k + 1)) = valN (s.take k) * 10 + (S[k].toNat - 48)) := by show _ = _; rw [List.take_succ_eq_append_getElem hkl, valN_snoc, hat]
   have hc9 : S[k].toNat - 48 ≤ 9 := by
    have := hdg
    unfold digB at this
    simp only [decide_eq_true_eq] at this
    omega
   generalize valN (s.take k) = n at *
   obtain ⟨d, hd⟩ : ∃ d, S[k].toNat - 48 = d := ⟨_, rfl⟩
   rw [hd] at HF HS hc9
   have hm1 : IntKind.u64.wrap ((n : Int) * 10) = (n : Int) * 10 := IntWalk.u64_in _ (by omega)
   have hm2 : IntKind.u64.wrap ((n : Int) * 10 + (d : Int)) = (n : Int) * 10 + (d : Int) := IntWalk.u64_in _ (by omega)
   have hm3 : IntKind.u64.wrap (d : Int) = (d : Int) := IntWalk.u64_in _ (by omega)
   have hlt58 : decide ((n : Int) < 288230376151711744) = true := by simp; omega
   clear hat hdg
   go_wp2_with (first | (go_at_call 81; (with_reducible refine HD.out.mono ?_); rintro e w' ⟨rfl, rfl⟩) | (go_at_call 84; (with_reducible refine HF.out.mono ?_); rintro e w' ⟨rfl, rfl⟩))
   go_roundw
   case rel => exact ⟨k + 1, by omega, by go_num, by rw [HS.out]; first | rfl | (simp; omega), by first | rfl | trivial⟩
   case measure => simp [intOf]; omega
  ·have hkn : s.take k = s := List.take_of_length_le (by rw [← HZ.out]; omega)
   rw [hkn] at hv9 ⊢
   generalize valN s = n at *
   have c1 : decide ((1000000000 : Int) < n) = false := by simp; omega
   have c2 : decide ((288230376151711744 : Int) ≤ n) = false := by simp; omega
   have hw : IntKind.i64.wrap (n : Int) = (n : Int) := by rw [IntKind.wrap_i64]; omega
   clear hkn
   go_wp2_with fail
   go_ret2
   exact ⟨true, by rw [HV.out]; first | rfl | simp, rfl⟩
def SingleEnd (en B : Nat) (s : Ps) (W : World) (r : Except (Nat × Nat) (Nat × Pol × List Bs)) (e : Ending) (w' : World) : Prop := match r with
 | .error (c, i) => e = .returned (.tuple #[.int .i64 0, .int .i64 c, .int .i64 i]) ∧ (∃ s', s'.rest = s.rest ∧ RPar en B s' w') ∧ Below B W w'
 | .ok (n, q, t) => e = .returned (.tuple #[.int .i64 n, .int .i64 0, .int .i64 0]) ∧ RPar en B ⟨s.rest, q, t⟩ w' ∧ Below B W w'
theorem textR_at {l : List Lx} {i : Nat} (h : i < l.length) : l[i].text = textR l i := by unfold textR; rw [List.drop_eq_getElem_cons h]
theorem lx_texts {en B : Nat} {s : Ps} {W : World} (h : RPar en B s W) {i : Nat} (hi : i < s.rest.length) : ∃ A c b o, W.cell? ⟨B, 11, none⟩ = some (.slice A s.rest.length c) ∧ A = some ⟨b, o, none⟩ ∧ b < W.heap.size ∧ ∀ j, j < s.rest.length → W.cell? ⟨b, o + j * 3 + 2, none⟩ = some (.string ⟨(textR s.rest j).toArray⟩) := by
 obtain ⟨A, c, hc, _, A', c', he, _, hrd, _⟩ := h.rest
 cases he
 obtain ⟨b1, o1, e1, hb1, _⟩ := Rd.lxAt hrd i hi
 refine ⟨A, c, b1, o1, hc, e1, hb1, fun j hj => ?_⟩
 obtain ⟨b2, o2, e2, _, _, _, x2⟩ := Rd.lxAt hrd j hj
 rw [e1] at e2
 cases e2
 rw [← textR_at hj]
 exact x2
set_option maxRecDepth 100000 in
set_option maxHeartbeats 4000000 in
theorem rsingle_rel (en B : Nat) (s : Ps) (W : World) (h : RPar en B s W) (hs : PsSm s) :
  Calls Tryz.prog 17 #[.pointer (some ⟨B, 0, none⟩), .string ⟨relT.toArray⟩] W (SingleEnd en B s W (sgR relT s.rest s.pol s.told)) := by
 have hmx : Tryz.prog.follows .mixedOrders = true := by kernel_rfl
 have HP := Lib.hid h
 have hlt := h.lt
 have htold : s.told.length ≤ 20000 := by have := hs.told; omega
 obtain ⟨kd, hkd⟩ : ∃ kd, (⟨relT.toArray⟩ : ByteArray) = kd := ⟨_, rfl⟩
 have hkl : kd.toList = [114, 101, 108, 97, 116, 105, 118, 101] := by rw [← hkd, ByteArray.toList_eq]; rfl
 obtain ⟨R, hR⟩ : ∃ R, sgR relT s.rest s.pol s.told = R := ⟨_, rfl⟩
 obtain ⟨D1, hD1⟩ : ∃ D, isR s.rest 1 1 yesT = D := ⟨_, rfl⟩
 obtain ⟨D2, hD2⟩ : ∃ D, isR s.rest 1 1 noT = D := ⟨_, rfl⟩
 have HN : Hid (R = if (!D1 && !D2) = true then .error (2, 1)
  else match wantsR s.rest [1] with
   | some i => .error (2, i)
   | none => if relT ∈ s.told then .error (5, 0) else .ok (3, { s.pol with rel := decide (textR s.rest 1 = yesT) }, relT :: s.told)) := by show _ = _; rw [← hR, ← hD1, ← hD2]; rfl
 have HI1 := Lib.hid (show Calls Tryz.prog 43 #[.pointer (some ⟨B, 0, none⟩), .int .i64 1, .int .i64 1, .string ⟨#[121, 101, 115]⟩] W fun e w' => e = .returned (.bool D1) ∧ W = w' from hD1 ▸ ris_any en B s W h 1 1 yesT)
 have HI2 := Lib.hid (show Calls Tryz.prog 43 #[.pointer (some ⟨B, 0, none⟩), .int .i64 1, .int .i64 1, .string ⟨#[110, 111]⟩] W fun e w' => e = .returned (.bool D2) ∧ W = w' from hD2 ▸ ris_any en B s W h 1 1 noT)
 have hin : (D1 || D2) = true → 1 < s.rest.length := by
  intro hd
  rcases Bool.or_eq_true_iff.1 hd with h | h
  ·exact isR_len (hD1.trans h)
  ·exact isR_len (hD2.trans h)
 have HW := Lib.hid (fun W' (hb : Below W.heap.size W W') v (hv : Rd W' v [1].length 1 ([1].map ivN)) => show Calls Tryz.prog 45 #[.pointer (some ⟨B, 0, none⟩), v] W' _ from rwants_any en B s W' (h.grown hb) v [1] hv (by simp))
 have HO := Lib.hid (fun W' (hb : Below W.heap.size W W') => show Calls Tryz.prog 46 #[.pointer (some ⟨B, 0, none⟩), .string kd] W' _ from hkd ▸ ronce_any en B relT s W' (h.grown hb) htold)
 rw [hkd, hR]
 clear hR hkd hD1 hD2 h hs
 by_cases hh : (D1 || D2) = true
 rotate_left
 ·obtain ⟨rfl, rfl⟩ := Bool.or_eq_false_iff.1 (Bool.eq_false_iff.2 hh)
  have HR : Hid (R = .error (2, 1)) := HN.out
  clear HN hh hin HW HO
  go_enter Tryz.func17, Tryz.ntmps17
  go_wp2_with (first | (go_at_call 43; (with_reducible refine HI1.out.mono ?_); rintro e w' ⟨rfl, rfl⟩) | (go_at_call 43; (with_reducible refine HI2.out.mono ?_); rintro e w' ⟨rfl, rfl⟩))
  go_ret3
  rw [HR.out]
  exact ⟨rfl, ⟨s, rfl, HP.out⟩, Below.refl _ _⟩
 have hlen := hin hh
 have HN2 : Hid (R = match wantsR s.rest [1] with
   | some i => .error (2, i)
   | none => if relT ∈ s.told then .error (5, 0) else .ok (3, { s.pol with rel := decide (textR s.rest 1 = yesT) }, relT :: s.told)) := by
  show _ = _
  rw [HN.out, if_neg (by revert hh; cases D1 <;> cases D2 <;> simp)]
 clear HN hin
 obtain ⟨X, hX⟩ : ∃ X, wantsR s.rest [1] = X := ⟨_, rfl⟩
 rw [hX] at HN2 HW
 clear hX
 cases X with
 | some i =>
  have HR : Hid (R = .error (2, i)) := HN2.out
  have HW2 := Lib.hid (fun W' hb v hv => show Calls Tryz.prog 45 #[.pointer (some ⟨B, 0, none⟩), v] W' fun e w' => e = .returned (.int .i64 (i : Int)) ∧ W' = w' from HW.out W' hb v hv)
  have hi0 : (0 : Int) ≤ (i : Int) := by omega
  clear HN2 HW HO
  revert hh
  cases D1 <;> cases D2 <;> intro hh
  ·cases hh
  all_goals
   clear hh
   go_enter Tryz.func17, Tryz.ntmps17
   go_wp2_with (first | (go_at_call 43; (with_reducible refine HI1.out.mono ?_); rintro e w' ⟨rfl, rfl⟩) | (go_at_call 43; (with_reducible refine HI2.out.mono ?_); rintro e w' ⟨rfl, rfl⟩) | (go_at_call 45; (refine (HW2.out _ (by (repeat with_reducible first | exact Below.refl _ _ | refine Below.drew ?_ | refine Below.drewN ?_ _ | refine Below.alloc ?_ ?_ _ | refine Below.grow ?_ ?_ _ | refine Below.setCell ?_ ?_ _); all_goals first | omega | (simp [go_sem] <;> omega)) _ (litI_rd (ts := [1]) (by simp) rfl rfl (by simp))).mono ?_); rintro e w' ⟨rfl, rfl⟩))
   go_ret3
   rw [HR.out]
   exact ⟨rfl, ⟨s, rfl, HP.out.grown (by (repeat with_reducible first | exact Below.refl _ _ | refine Below.drew ?_ | refine Below.drewN ?_ _ | refine Below.alloc ?_ ?_ _ | refine Below.grow ?_ ?_ _ | refine Below.setCell ?_ ?_ _); all_goals first | omega | (simp [go_sem] <;> omega))⟩, (by (repeat with_reducible first | exact Below.refl _ _ | refine Below.drew ?_ | refine Below.drewN ?_ _ | refine Below.alloc ?_ ?_ _ | refine Below.grow ?_ ?_ _ | refine Below.setCell ?_ ?_ _); all_goals first | omega | (simp [go_sem] <;> omega))⟩
 | none =>
  have HW2 := Lib.hid (fun W' hb v hv => show Calls Tryz.prog 45 #[.pointer (some ⟨B, 0, none⟩), v] W' fun e w' => e = .returned (.int .i64 (-1)) ∧ W' = w' from HW.out W' hb v hv)
  have HN3 : Hid (R = if relT ∈ s.told then .error (5, 0) else .ok (3, { s.pol with rel := decide (textR s.rest 1 = yesT) }, relT :: s.told)) := HN2.out
  clear HN2 HW
  by_cases hm : relT ∈ s.told
  ·have HR : Hid (R = .error (5, 0)) := by show _ = _; rw [HN3.out, if_pos hm]
   rw [decide_eq_true hm, if_pos hm] at HO
   clear HN3 hm
   revert hh
   cases D1 <;> cases D2 <;> intro hh
   ·cases hh
   all_goals
    clear hh
    go_enter Tryz.func17, Tryz.ntmps17
    go_wp2_with (first | (go_at_call 43; (with_reducible refine HI1.out.mono ?_); rintro e w' ⟨rfl, rfl⟩) | (go_at_call 43; (with_reducible refine HI2.out.mono ?_); rintro e w' ⟨rfl, rfl⟩) | (go_at_call 45; (refine (HW2.out _ (by (repeat with_reducible first | exact Below.refl _ _ | refine Below.drew ?_ | refine Below.drewN ?_ _ | refine Below.alloc ?_ ?_ _ | refine Below.grow ?_ ?_ _ | refine Below.setCell ?_ ?_ _); all_goals first | omega | (simp [go_sem] <;> omega)) _ (litI_rd (ts := [1]) (by simp) rfl rfl (by simp))).mono ?_); rintro e w' ⟨rfl, rfl⟩) | (go_at_call 46; (with_reducible refine (HO.out _ (by (repeat with_reducible first | exact Below.refl _ _ | refine Below.drew ?_ | refine Below.drewN ?_ _ | refine Below.alloc ?_ ?_ _ | refine Below.grow ?_ ?_ _ | refine Below.setCell ?_ ?_ _); all_goals first | omega | (simp [go_sem] <;> omega))).mono ?_); rintro e W2 ⟨rfl, hp2, hb2, hq2⟩; clear hq2))
    go_ret3
    rw [HR.out]
    exact ⟨rfl, ⟨s, rfl, hp2⟩, Below.trans (by (repeat with_reducible first | exact Below.refl _ _ | refine Below.drew ?_ | refine Below.drewN ?_ _ | refine Below.alloc ?_ ?_ _ | refine Below.grow ?_ ?_ _ | refine Below.setCell ?_ ?_ _); all_goals first | omega | (simp [go_sem] <;> omega)) hb2⟩
  ·have HR : Hid (R = .ok (3, { s.pol with rel := decide (textR s.rest 1 = yesT) }, relT :: s.told)) := by show _ = _; rw [HN3.out, if_neg hm]
   rw [decide_eq_false hm, if_neg hm] at HO
   clear HN3 hm
   have hfl := field_text
   revert hh
   cases D1 <;> cases D2 <;> intro hh
   ·cases hh
   all_goals
    clear hh
    go_enter Tryz.func17, Tryz.ntmps17
    go_upto_region 10 with (first | (go_at_call 43; (with_reducible refine HI1.out.mono ?_); rintro e w' ⟨rfl, rfl⟩) | (go_at_call 43; (with_reducible refine HI2.out.mono ?_); rintro e w' ⟨rfl, rfl⟩) | (go_at_call 45; (refine (HW2.out _ (by (repeat with_reducible first | exact Below.refl _ _ | refine Below.drew ?_ | refine Below.drewN ?_ _ | refine Below.alloc ?_ ?_ _ | refine Below.grow ?_ ?_ _ | refine Below.setCell ?_ ?_ _); all_goals first | omega | (simp [go_sem] <;> omega)) _ (litI_rd (ts := [1]) (by simp) rfl rfl (by simp))).mono ?_); rintro e w' ⟨rfl, rfl⟩) | (go_at_call 46; (with_reducible refine (HO.out _ (by (repeat with_reducible first | exact Below.refl _ _ | refine Below.drew ?_ | refine Below.drewN ?_ _ | refine Below.alloc ?_ ?_ _ | refine Below.grow ?_ ?_ _ | refine Below.setCell ?_ ?_ _); all_goals first | omega | (simp [go_sem] <;> omega))).mono ?_); rintro e W2 ⟨rfl, hp2, hb2, hq2⟩; clear hq2; have HP2 := Lib.hid hp2; have HB2 := Lib.hid (Below.trans (show Below B W _ from (by (repeat with_reducible first | exact Below.refl _ _ | refine Below.drew ?_ | refine Below.drewN ?_ _ | refine Below.alloc ?_ ?_ _ | refine Below.grow ?_ ?_ _ | refine Below.setCell ?_ ?_ _); all_goals first | omega | (simp [go_sem] <;> omega))) hb2); clear hp2 hb2))
    obtain ⟨A, c, b1, o1, hc, rfl, hb1, hx⟩ := lx_texts HP2.out (i := 1) hlen
    have hx2 : W2.cell? ⟨b1, o1 + 3 + 2, none⟩ = some (.string ⟨(textR s.rest 1).toArray⟩) := hx 1 hlen
    clear hx
    have hyes : (⟨(textR s.rest 1).toArray⟩ : ByteArray).toList = textR s.rest 1 := by rw [ByteArray.toList_eq]
    obtain ⟨D, hD⟩ : ∃ D, decide (textR s.rest 1 = yesT) = D := ⟨_, rfl⟩
    have hbq : ((⟨(textR s.rest 1).toArray⟩ : ByteArray).toList == ([121, 101, 115] : Bs)) = D := by rw [hyes, ← hD]; show (textR s.rest 1 == yesT) = _; rw [Bool.eq_iff_iff]; simp
    have c6 := HP2.out.c6
    have fz6 := HP2.out.fz 6
    have hl2 := HP2.out.lt
    rw [hD] at HR
    generalize (⟨(textR s.rest 1).toArray⟩ : ByteArray) = tx at *
    have hc' : W2.cell? ⟨B, 11, none⟩ = some (.slice (some ⟨b1, o1, none⟩) s.rest.length c) := hc
    generalize s.rest.length = nl at *
    have hL1 : (1 : Int) < nl := by omega
    have c6' : W2.cell? ⟨B, 6, none⟩ = some (.bool s.pol.rel) := c6
    clear hyes hD hc c6
    cases D
    all_goals
     go_wp2_with fail
     go_ret3
     rw [HR.out]
     first
      | (have h9 := HP2.out.setOne (i := 6) (s' := ⟨s.rest, { s.pol with rel := true }, relT :: s.told⟩) (v := .bool true) (.inl ⟨by omega, by omega⟩) c6' (fun j hj => ⟨rfl, rfl⟩) rfl rfl rfl rfl rfl; exact ⟨rfl, h9.1, HB2.out.trans h9.2⟩)
      | (have h9 := HP2.out.setOne (i := 6) (s' := ⟨s.rest, { s.pol with rel := false }, relT :: s.told⟩) (v := .bool false) (.inl ⟨by omega, by omega⟩) c6' (fun j hj => ⟨rfl, rfl⟩) rfl rfl rfl rfl rfl; exact ⟨rfl, h9.1, HB2.out.trans h9.2⟩)
end Go.Proofs.YtenjnliceeejlaaGreat

