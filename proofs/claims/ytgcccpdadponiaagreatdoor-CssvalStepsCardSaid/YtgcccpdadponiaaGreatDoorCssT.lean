/- The walks of styles by the reference: marks, strings. -/
import Derived.Test.YtgcccpdadponiaaGreatDoorCssH
import Derived.Test.YtgcccpdadponiaaGreatDoorCssS
import Derived.Lib.SlBytesConst
namespace Go.Proofs.YtgcccpdadponiaaGreatDoor
open Go.RowKit Go.Shelf
attribute [local go_sem] Oper.semAt_some
theorem marks_mk (c : UInt8) : mkB c = (marksB.data.toList.drop 0).contains c := rfl
theorem marks_len : marksB.data.toList.length = 13 := rfl
theorem marks_step (c : UInt8) (k : Nat) (hk : k < 13) : (marksB.data.toList.drop k).contains c = (decide (c.toNat = (marksB[k]'hk).toNat) || (marksB.data.toList.drop (k + 1)).contains c) := by
  rw [drop_at marksB k hk, List.contains_cons]
  congr 1
  rw [Bool.eq_iff_iff]; simp [← UInt8.toNat_inj]
theorem marks_block (w : World) : BytesOf (w.alloc (.cells #[.int .u8 58, .int .u8 59, .int .u8 44, .int .u8 40, .int .u8 41, .int .u8 47, .int .u8 33, .int .u8 42, .int .u8 43, .int .u8 46, .int .u8 62, .int .u8 61, .int .u8 45] 5 (13, 14))) w.heap.size 5 marksB.data.toList := by
  refine ⟨_, 13, heap_alloc_new w _, by decide, by decide, fun k hk => ?_⟩
  have hk : k < 13 := hk
  have : k = 0 ∨ k = 1 ∨ k = 2 ∨ k = 3 ∨ k = 4 ∨ k = 5 ∨ k = 6 ∨ k = 7 ∨ k = 8 ∨ k = 9 ∨ k = 10 ∨ k = 11 ∨ k = 12 := by omega
  rcases this with rfl | rfl | rfl | rfl | rfl | rfl | rfl | rfl | rfl | rfl | rfl | rfl | rfl <;> rfl
set_option maxRecDepth 100000 in
set_option maxHeartbeats 1600000 in
theorem rmark_any (c : UInt8) (w : World) : Calls Tryz.prog 123 #[.int .u8 c.toNat] w (Ret (.bool (mkB c)) w) := by
  have hcv : ∀ (w : World) (C : Array Value) (n c : Nat), (convert 89 89 (.slice (some ⟨w.heap.size, 0, none⟩) n c)).run Tryz.prog (w.alloc (.cells C 5)) = .ok (.slice (some ⟨w.heap.size, 0, none⟩) n c) (w.alloc (.cells C 5 (C.size, C.size + 1))) := fun w C n c => Lib.run_convert_bytes_const w _ _ C n c Tryz.underlying89 Tryz.underlying5
  obtain ⟨M, hM⟩ : ∃ M, mkB c = M := ⟨_, rfl⟩
  have HM := Lib.hid hM
  rw [hM]
  clear hM
  go_enter Tryz.func123, Tryz.ntmps123
  go_wp2_with fail
  go_loopw [4] (fun i wr => ∃ k : Nat, k ≤ 13 ∧ i = .int .i64 k ∧ Hid (Below w.heap.size w wr) ∧ Hid (BytesOf wr w.heap.size 5 marksB.data.toList) ∧ Hid (M = (marksB.data.toList.drop k).contains c)) (fun i _ => 13 - (intOf i).toNat)
  case atStart => exact ⟨0, by omega, rfl, Lib.hid (by repeat (first | with_reducible exact Below.refl _ _ | (with_reducible refine Below.alloc ?_ (by first | omega | (simp [go_sem] <;> omega)) _) | (with_reducible refine Below.drew ?_) | (with_reducible refine Below.drewN ?_ _) | (with_reducible refine Below.grow ?_ (by first | omega | (simp [go_sem] <;> omega)) _) | (with_reducible refine Below.setCell ?_ (by first | omega | (simp [go_sem] <;> omega)) _))), marks_block w, by show _ = _; rw [← HM.out]; rfl⟩
  case round =>
    obtain ⟨k, hk, rfl, HW, HB, HK⟩ := hrel
    by_cases hlt : k < 13
    · have hc0 : wr.cell? ⟨w.heap.size, k, none⟩ = some (.int .u8 ((marksB[k]'hlt).toNat : Int)) := HB.out.cell k hlt
      have HS := Lib.hid (HK.out.trans (marks_step c k hlt))
      generalize (marksB[k]'hlt) = d at *
      by_cases hd : c.toNat = d.toNat
      · have bd : ((d.toNat : Int) == (c.toNat : Int)) = true := by simp; omega
        have HN : Hid (M = true) := by show _ = _; rw [HS.out, decide_eq_true hd]; rfl
        clear hd
        go_wp2_with fail
        go_ret
        exact Ret.of (by rw [HN.out]; rfl) HW.out
      · have bd : ((d.toNat : Int) == (c.toNat : Int)) = false := by simp; omega
        have HN : Hid (M = (marksB.data.toList.drop (k + 1)).contains c) := by show _ = _; rw [HS.out, decide_eq_false hd]; rfl
        clear hd
        go_wp2_with fail
        go_roundw
        case rel => exact ⟨k + 1, by omega, by go_num, HW, HB, HN⟩
        case measure => simp [intOf]; omega
    · have HN : Hid (M = false) := by show _ = _; rw [HK.out, List.drop_eq_nil_of_le (by rw [marks_len]; omega)]; rfl
      go_wp2
      go_ret
      exact Ret.of (by rw [HN.out]; rfl) HW.out
/-- How many bytes the string has, from the k-th byte on. -/
def quotT (c : UInt8) (k : Nat) (t : Bs) : Nat := if hd (fun d => decide (d = c)) (t.drop (twc plB t)) then k + twc plB t + 2 else 0
def quotN (s : Bs) : Nat := match quotC s with
  | some x => x.2
  | none => 0
theorem quotN_cons (c : UInt8) (r : Bs) : quotN (c :: r) = if qtB c then quotT c 0 r else 0 := by
  simp only [quotN, quotC, quotT]
  cases hq : qtB c <;> cases hh : hd (fun d => decide (d = c)) (r.drop (twc plB r)) <;> simp
theorem quotT_nil (c : UInt8) (k : Nat) : quotT c k [] = 0 := by simp [quotT, hd]
theorem quotT_go {c d : UInt8} (k : Nat) (t : Bs) (h : plB d = true) : quotT c k (d :: t) = quotT c (k + 1) t := by
  unfold quotT
  rw [twc_t t h, List.drop_succ_cons]
  split <;> omega
theorem quotT_end {c d : UInt8} (k : Nat) (t : Bs) (h : plB d = false) : quotT c k (d :: t) = if d = c then k + 2 else 0 := by
  unfold quotT
  rw [twc_f t h, List.drop_zero]
  simp [hd]
theorem qt_pl {c : UInt8} (h : qtB c = true) : plB c = false := by
  simp only [qtB, plB, decide_eq_true_eq, decide_eq_false_iff_not] at *; omega
set_option maxRecDepth 100000 in
set_option maxHeartbeats 3200000 in
theorem rquoted_any (s : Bs) (w : World) (hm : s.length ≤ 1000000000) : Calls Tryz.prog 122 #[.string ⟨s.toArray⟩] w (Ret (.int .i64 (quotN s)) w) := by
  have hmx : Tryz.prog.follows .mixedOrders = true := by kernel_rfl
  obtain ⟨S, hS⟩ : ∃ S : ByteArray, ⟨s.toArray⟩ = S := ⟨_, rfl⟩
  have hd0 : S.data.toList = s := by rw [← hS]
  have hsz : S.size = s.length := by rw [← hS]; rfl
  have hSm : S.size ≤ 1000000000 := by omega
  obtain ⟨T, hT⟩ : ∃ T, quotN s = T := ⟨_, rfl⟩
  rw [hS, hT]
  cases s with
  | nil =>
    have he : S.toList.isEmpty = true := by rw [ba_emp, hd0]; rfl
    have HN : Hid (T = 0) := hT.symm
    clear hd0 hS hsz hT
    go_enter Tryz.func122, Tryz.ntmps122
    go_wp2_with fail
    go_ret
    exact Ret.of (by rw [HN.out]; rfl) (by repeat (first | with_reducible exact Below.refl _ _ | (with_reducible refine Below.alloc ?_ (by first | omega | (simp [go_sem] <;> omega)) _) | (with_reducible refine Below.drew ?_) | (with_reducible refine Below.drewN ?_ _) | (with_reducible refine Below.grow ?_ (by first | omega | (simp [go_sem] <;> omega)) _) | (with_reducible refine Below.setCell ?_ (by first | omega | (simp [go_sem] <;> omega)) _)))
  | cons c r =>
    have hpos : 0 < S.size := by rw [hsz]; simp
    have he := ba_full hpos
    have hc0 : S[0] = c := by rw [at_bs S _ hd0 0 hpos]; rfl
    rw [quotN_cons] at hT
    have HC0 := Lib.hid hc0
    have HL : Hid (S.size = r.length + 1) := hsz
    have HD : Hid (∀ k (h : k < r.length), ∃ h2 : k + 1 < S.size, S[k + 1] = r[k]) := fun k h => ⟨by rw [HL.out]; omega, by rw [at_bs S _ hd0 (k + 1) (by rw [HL.out]; omega)]; rfl⟩
    cases hq : qtB c
    · have b34 : ((S[0].toNat : Int) != 34) = true := by rw [hc0]; simp [qtB] at hq; simp; omega
      have b39 : ((S[0].toNat : Int) != 39) = true := by rw [hc0]; simp [qtB] at hq; simp; omega
      have HN : Hid (T = 0) := by show _ = _; rw [← hT, hq]; rfl
      clear hd0 hS hsz hT hq hc0
      go_enter Tryz.func122, Tryz.ntmps122
      go_wp2_with fail
      go_ret
      exact Ret.of (by rw [HN.out]; rfl) (by repeat (first | with_reducible exact Below.refl _ _ | (with_reducible refine Below.alloc ?_ (by first | omega | (simp [go_sem] <;> omega)) _) | (with_reducible refine Below.drew ?_) | (with_reducible refine Below.drewN ?_ _) | (with_reducible refine Below.grow ?_ (by first | omega | (simp [go_sem] <;> omega)) _) | (with_reducible refine Below.setCell ?_ (by first | omega | (simp [go_sem] <;> omega)) _)))
    · rw [hq, if_pos rfl] at hT
      have HT := Lib.hid hT
      have HQ := Lib.hid hq
      have hor : S[0].toNat = 34 ∨ S[0].toNat = 39 := by rw [hc0]; simpa [qtB] using hq
      clear hd0 hS hsz hT hq hc0
      go_enter Tryz.func122, Tryz.ntmps122
      go_upto_region 1 with fail
      go_cut [15] (fun s15 wx => s15 = .bool false ∧ w = wx)
      case first =>
        rcases hor with h34 | h39
        · have b34 : ((S[0].toNat : Int) != 34) = false := by simp [h34]
          clear h34
          go_wp2_with fail
          go_meet
          case rel => exact ⟨rfl, rfl⟩
        · have b34 : ((S[0].toNat : Int) != 34) = true := by simp [h39]
          have b39 : ((S[0].toNat : Int) != 39) = false := by simp [h39]
          clear h39
          go_wp2_with fail
          go_meet
          case rel => exact ⟨rfl, rfl⟩
      case rest =>
          obtain ⟨rfl, rfl⟩ := hcut
          clear hor
          go_wp2_with fail
          go_loopw [3] (fun i wr => ∃ (k j : Nat) (X : Gr), k ≤ r.length ∧ Hid (j = k + 1) ∧ i = .int .i64 j ∧ wr = w.grow X ∧ Hid (T = quotT c k (r.drop k))) (fun i _ => S.size - (intOf i).toNat)
          case atStart => exact ⟨0, 1, _, by omega, rfl, rfl, (grow_refl w).symm, by show _ = _; rw [← HT.out]; rfl⟩
          case round =>
            obtain ⟨k, j, X, hk, hj, rfl, rfl, HK⟩ := hrel
            by_cases hlt : k < r.length
            · obtain ⟨hlS', hat'⟩ := HD.out k hlt
              have hlS : j < S.size := by have := hj.out; omega
              have hat : S[j] = r[k] := by obtain rfl := hj.out; exact hat'
              clear hat' hlS'
              have hlen : decide ((j : Int) < S.size) = true := by simp; omega
              have HR := Lib.hid (List.drop_eq_getElem_cons hlt)
              rw [← hat] at HR
              clear hat
              cases hp : plB S[j]
              · by_cases hdc : S[j] = c
                · have bc : ((S[j].toNat : Int) == (S[0].toNat : Int)) = true := by rw [HC0.out, hdc]; simp
                  have HN : Hid (T = k + 2) := by show _ = _; rw [HK.out, HR.out, quotT_end _ _ hp, if_pos hdc]
                  clear hdc hp
                  go_wp2_with fail
                  refine wp_region_grow (by kernel_rfl) (by kernel_rfl) ?_
                  repeat (go_big_quiet_step (fail))
                  refine wpQuiet_nil ?_
                  intro _ hw'; obtain ⟨nq, hw''⟩ := hw'; subst hw''
                  go_wp2_with fail
                  go_ret
                  exact Ret.of (int_eq (by rw [HN.out]; have := hj.out; omega)) (by repeat (first | with_reducible exact Below.refl _ _ | (with_reducible refine Below.alloc ?_ (by first | omega | (simp [go_sem] <;> omega)) _) | (with_reducible refine Below.drew ?_) | (with_reducible refine Below.drewN ?_ _) | (with_reducible refine Below.grow ?_ (by first | omega | (simp [go_sem] <;> omega)) _) | (with_reducible refine Below.setCell ?_ (by first | omega | (simp [go_sem] <;> omega)) _)))
                · have bc : ((S[j].toNat : Int) == (S[0].toNat : Int)) = false := by rw [HC0.out]; simp [← UInt8.toNat_inj] at hdc ⊢; omega
                  have HN : Hid (T = 0) := by show _ = _; rw [HK.out, HR.out, quotT_end _ _ hp, if_neg hdc]
                  clear hdc
                  have hp2 : S[j].toNat < 32 ∨ S[j].toNat = 127 ∨ S[j].toNat = 92 ∨ S[j].toNat = 34 ∨ S[j].toNat = 39 := by
                    simp only [plB, decide_eq_false_iff_not] at hp; omega
                  clear hp
                  by_cases h32 : S[j].toNat < 32
                  · have c1 : decide ((S[j].toNat : Int) < 32) = true := by simp; omega
                    clear hp2 h32
                    go_wp2_with fail
                    refine wp_region_grow (by kernel_rfl) (by kernel_rfl) ?_
                    repeat (go_big_quiet_step (fail))
                    refine wpQuiet_nil ?_
                    intro _ hw'; obtain ⟨nq, hw''⟩ := hw'; subst hw''
                    go_wp2_with fail
                    go_ret
                    exact Ret.of (by rw [HN.out]; rfl) (by repeat (first | with_reducible exact Below.refl _ _ | (with_reducible refine Below.alloc ?_ (by first | omega | (simp [go_sem] <;> omega)) _) | (with_reducible refine Below.drew ?_) | (with_reducible refine Below.drewN ?_ _) | (with_reducible refine Below.grow ?_ (by first | omega | (simp [go_sem] <;> omega)) _) | (with_reducible refine Below.setCell ?_ (by first | omega | (simp [go_sem] <;> omega)) _)))
                  have c1 : decide ((S[j].toNat : Int) < 32) = false := by simp; omega
                  by_cases h127 : S[j].toNat = 127
                  · have c2 : ((S[j].toNat : Int) == 127) = true := by simp; omega
                    clear hp2 h127 h32
                    go_wp2_with fail
                    refine wp_region_grow (by kernel_rfl) (by kernel_rfl) ?_
                    repeat (go_big_quiet_step (fail))
                    refine wpQuiet_nil ?_
                    intro _ hw'; obtain ⟨nq, hw''⟩ := hw'; subst hw''
                    go_wp2_with fail
                    go_ret
                    exact Ret.of (by rw [HN.out]; rfl) (by repeat (first | with_reducible exact Below.refl _ _ | (with_reducible refine Below.alloc ?_ (by first | omega | (simp [go_sem] <;> omega)) _) | (with_reducible refine Below.drew ?_) | (with_reducible refine Below.drewN ?_ _) | (with_reducible refine Below.grow ?_ (by first | omega | (simp [go_sem] <;> omega)) _) | (with_reducible refine Below.setCell ?_ (by first | omega | (simp [go_sem] <;> omega)) _)))
                  have c2 : ((S[j].toNat : Int) == 127) = false := by simp; omega
                  by_cases h92 : S[j].toNat = 92
                  · have c3 : ((S[j].toNat : Int) == 92) = true := by simp; omega
                    clear hp2 h92 h127 h32
                    go_wp2_with fail
                    refine wp_region_grow (by kernel_rfl) (by kernel_rfl) ?_
                    repeat (go_big_quiet_step (fail))
                    refine wpQuiet_nil ?_
                    intro _ hw'; obtain ⟨nq, hw''⟩ := hw'; subst hw''
                    go_wp2_with fail
                    go_ret
                    exact Ret.of (by rw [HN.out]; rfl) (by repeat (first | with_reducible exact Below.refl _ _ | (with_reducible refine Below.alloc ?_ (by first | omega | (simp [go_sem] <;> omega)) _) | (with_reducible refine Below.drew ?_) | (with_reducible refine Below.drewN ?_ _) | (with_reducible refine Below.grow ?_ (by first | omega | (simp [go_sem] <;> omega)) _) | (with_reducible refine Below.setCell ?_ (by first | omega | (simp [go_sem] <;> omega)) _)))
                  have c3 : ((S[j].toNat : Int) == 92) = false := by simp; omega
                  by_cases h34 : S[j].toNat = 34
                  · have c4 : ((S[j].toNat : Int) == 34) = true := by simp; omega
                    clear hp2 h34 h92 h127 h32
                    go_wp2_with fail
                    refine wp_region_grow (by kernel_rfl) (by kernel_rfl) ?_
                    repeat (go_big_quiet_step (fail))
                    refine wpQuiet_nil ?_
                    intro _ hw'; obtain ⟨nq, hw''⟩ := hw'; subst hw''
                    go_wp2_with fail
                    go_ret
                    exact Ret.of (by rw [HN.out]; rfl) (by repeat (first | with_reducible exact Below.refl _ _ | (with_reducible refine Below.alloc ?_ (by first | omega | (simp [go_sem] <;> omega)) _) | (with_reducible refine Below.drew ?_) | (with_reducible refine Below.drewN ?_ _) | (with_reducible refine Below.grow ?_ (by first | omega | (simp [go_sem] <;> omega)) _) | (with_reducible refine Below.setCell ?_ (by first | omega | (simp [go_sem] <;> omega)) _)))
                  have c4 : ((S[j].toNat : Int) == 34) = false := by simp; omega
                  have c5 : ((S[j].toNat : Int) == 39) = true := by simp; omega
                  clear hp2 h32 h127 h92 h34
                  go_wp2_with fail
                  refine wp_region_grow (by kernel_rfl) (by kernel_rfl) ?_
                  repeat (go_big_quiet_step (fail))
                  refine wpQuiet_nil ?_
                  intro _ hw'; obtain ⟨nq, hw''⟩ := hw'; subst hw''
                  go_wp2_with fail
                  go_ret
                  exact Ret.of (by rw [HN.out]; rfl) (by repeat (first | with_reducible exact Below.refl _ _ | (with_reducible refine Below.alloc ?_ (by first | omega | (simp [go_sem] <;> omega)) _) | (with_reducible refine Below.drew ?_) | (with_reducible refine Below.drewN ?_ _) | (with_reducible refine Below.grow ?_ (by first | omega | (simp [go_sem] <;> omega)) _) | (with_reducible refine Below.setCell ?_ (by first | omega | (simp [go_sem] <;> omega)) _)))
              · have hdc : S[j] ≠ c := by intro h; rw [h, qt_pl HQ.out] at hp; cases hp
                have bc : ((S[j].toNat : Int) == (S[0].toNat : Int)) = false := by rw [HC0.out]; simp [← UInt8.toNat_inj] at hdc ⊢; omega
                have HN : Hid (T = quotT c (k + 1) (r.drop (k + 1))) := by show _ = _; rw [HK.out, HR.out, quotT_go _ _ hp]
                simp only [plB, decide_eq_true_eq] at hp
                have c1 : decide ((S[j].toNat : Int) < 32) = false := by simp; omega
                have c2 : ((S[j].toNat : Int) == 127) = false := by simp; omega
                have c3 : ((S[j].toNat : Int) == 92) = false := by simp; omega
                have c4 : ((S[j].toNat : Int) == 34) = false := by simp; omega
                have c5 : ((S[j].toNat : Int) == 39) = false := by simp; omega
                clear hp hdc
                go_wp2_with fail
                refine wp_region_grow (by kernel_rfl) (by kernel_rfl) ?_
                repeat (go_big_quiet_step (fail))
                refine wpQuiet_nil ?_
                intro _ hw'; obtain ⟨nq, hw''⟩ := hw'; subst hw''
                go_wp2_with fail
                go_roundw
                case rel => exact ⟨k + 1, j + 1, _, by omega, (by have := hj.out; show _ = _; omega), by go_num, grow_grow w X nq, HN⟩
                case measure => simp [intOf]; omega
            · have hge : ¬ j < S.size := by have := HL.out; have := hj.out; omega
              have HN : Hid (T = 0) := by show _ = _; rw [HK.out, List.drop_eq_nil_of_le (by omega), quotT_nil]
              go_wp2_with fail
              go_ret
              exact Ret.of (by rw [HN.out]; rfl) (by repeat (first | with_reducible exact Below.refl _ _ | (with_reducible refine Below.alloc ?_ (by first | omega | (simp [go_sem] <;> omega)) _) | (with_reducible refine Below.drew ?_) | (with_reducible refine Below.drewN ?_ _) | (with_reducible refine Below.grow ?_ (by first | omega | (simp [go_sem] <;> omega)) _) | (with_reducible refine Below.setCell ?_ (by first | omega | (simp [go_sem] <;> omega)) _)))
end Go.Proofs.YtgcccpdadponiaaGreatDoor
