/- The walks of values of styles: units, figures of a colour, what is plain, what begins a colour. -/
import Derived.Shelf.Abstract
import Derived.Lib.Strings
import Derived.Test.YtgcccpdadponiaaGreatDoorValB
namespace Go.Proofs.YtgcccpdadponiaaGreatDoor
open Go.RowKit Go.Shelf
attribute [local go_sem] Oper.semAt_some
/-- At which place the first byte of a kind is; -1: nowhere. -/
def idxF (p : UInt8 → Bool) (l : Bs) : Int := if twc (fun c => !p c) l < l.length then (twc (fun c => !p c) l : Nat) else -1
theorem twc_any (p : UInt8 → Bool) (l : Bs) : l.any p = decide (twc (fun c => !p c) l < l.length) := by
  induction l with
  | nil => simp [twc]
  | cons c r ih =>
    cases h : p c
    · rw [List.any_cons, h, ih, twc_t r (by simp [h])]; simp
    · rw [twc_f r (by simp [h])]; simp [h]
theorem idxF_any (p : UInt8 → Bool) (l : Bs) : decide (0 ≤ idxF p l) = l.any p := by
  rw [twc_any]; unfold idxF; split <;> rename_i h <;> simp [h]
theorem Rd.byte {w : World} {A : Option Addr} {n c : Nat} {l : Bs} (h : Rd w (.slice A n c) l.length 1 (l.map bv)) (k : Nat) (hk : k < l.length) : n = l.length ∧ ∃ b off, A = some ⟨b, off, none⟩ ∧ b < w.heap.size ∧ w.cell? ⟨b, off + k, none⟩ = some (.int .u8 (l[k].toNat : Int)) := by
  obtain ⟨_, _, A', c', e, h4⟩ := h
  cases e
  obtain ⟨b, off, rfl, hb, hc⟩ := h4 (by omega)
  exact ⟨rfl, b, off, rfl, hb, hc k (bv l[k]) (by simp [hk])⟩
set_option maxHeartbeats 800000 in
theorem indexFunc_any (v : Value) (l : Bs) (g : Nat) (p : UInt8 → Bool) (w : World) (h : Rd w v l.length 1 (l.map bv)) (hp : PredU g p) :
    Calls Tryz.prog 96 #[v, .func (.func g) #[] #[]] w fun e w' => e = .returned (.int .i64 (idxF p l)) ∧ w = w' := by
  obtain ⟨eg, hp⟩ := hp
  have hp := Lib.hid hp
  have HR := Lib.hid h
  obtain ⟨_, hm, A, c, rfl, _⟩ := h
  go_enter Tryz.func96, Tryz.ntmps96
  go_wp2_with fail
  go_loop [8] (fun i => ∃ k : Nat, k ≤ l.length ∧ i = .int .i64 k ∧ Hid (twc (fun c => !p c) l = k + twc (fun c => !p c) (l.drop k))) (fun i => l.length - (intOf i).toNat)
  case atStart => exact ⟨0, by omega, rfl, by show _ = _; simp⟩
  case round =>
    obtain ⟨k, hk, rfl, HK⟩ := hrel
    by_cases hlt : k < l.length
    · obtain ⟨_, b, off, rfl, hb, hc⟩ := HR.out.byte k hlt
      have HD : Hid (l.drop k = l[k] :: l.drop (k + 1)) := List.drop_eq_getElem_cons hlt
      cases hpc : p l[k]
      · have HT : Hid (twc (fun c => !p c) l = k + 1 + twc (fun c => !p c) (l.drop (k + 1))) := by
          show _ = _
          rw [HK.out, HD.out, twc_t _ (by simp [hpc])]; omega
        go_wp2_with ((with_reducible refine (hp.out l[k] _).mono ?_); rintro e w' ⟨rfl, rfl⟩; rw [hpc])
        go_round
        case rel => exact ⟨k + 1, by omega, by go_num, HT⟩
        case measure => simp [intOf]; omega
      · have HT : Hid (idxF p l = k) := by
          show _ = _
          have := HK.out
          rw [HD.out, twc_f _ (by simp [hpc])] at this
          unfold idxF; rw [if_pos (by omega), this]; simp
        go_wp2_with ((with_reducible refine (hp.out l[k] _).mono ?_); rintro e w' ⟨rfl, rfl⟩; rw [hpc])
        go_ret
        exact ⟨ret_int HT.out.symm, rfl⟩
    · have HT : Hid (idxF p l = -1) := by
        show _ = _
        have := HK.out
        rw [List.drop_eq_nil_of_le (by omega)] at this
        unfold idxF; rw [if_neg]
        rw [this]; simp [twc]; omega
      go_wp2
      go_ret
      exact ⟨ret_int HT.out.symm, rfl⟩
set_option maxHeartbeats 800000 in
theorem containsFunc_any (v : Value) (l : Bs) (g : Nat) (p : UInt8 → Bool) (w : World) (h : Rd w v l.length 1 (l.map bv)) (hp : PredU g p) :
    Calls Tryz.prog 74 #[v, .func (.func g) #[] #[]] w fun e w' => e = .returned (.bool (l.any p)) ∧ w = w' := by
  have HI := Lib.hid (indexFunc_any v l g p w h hp)
  clear h hp
  go_enter Tryz.func74, Tryz.ntmps74
  go_wp2_with (go_at_call 96; refine HI.out.mono ?_; rintro e w' ⟨rfl, rfl⟩)
  go_ret
  exact ⟨ret_bool (idxF_any p l), rfl⟩
theorem hex_bits (c : UInt8) : btwB (bits .or .u8 c.toNat 32) 97 102 = decide (65 ≤ c.toNat ∧ c.toNat ≤ 70 ∨ 97 ≤ c.toNat ∧ c.toNat ≤ 102) := by
  have h : ∀ n : Fin 256, btwB (bits .or .u8 ((n.val : Nat) : Int) 32) 97 102 = decide (65 ≤ n.val ∧ n.val ≤ 70 ∨ 97 ≤ n.val ∧ n.val ≤ 102) := by decide +kernel
  exact h ⟨c.toNat, c.toNat_lt⟩
set_option maxHeartbeats 400000 in
theorem hex_any (c : UInt8) (w : World) : Calls Tryz.prog 73 #[.int .u8 c.toNat] w fun e w' => e = .returned (.bool (hexB c)) ∧ w = w' := by
  have HB : Hid (hexB c = (digB c || decide (65 ≤ c.toNat ∧ c.toNat ≤ 70 ∨ 97 ≤ c.toNat ∧ c.toNat ≤ 102))) := rfl
  have HBt := Lib.hid (hex_bits c)
  cases hd0 : digB c
  all_goals
    have HD : Hid (∀ W, Calls Tryz.prog 94 #[.int .u8 c.toNat] W fun e w' => e = .returned (.bool _) ∧ W = w') := fun W => hd0 ▸ digit_any c W
    go_enter Tryz.func73, Tryz.ntmps73
    go_wp2_with (first | (go_at_call 94; (with_reducible refine (HD.out _).mono ?_); rintro e w' ⟨rfl, rfl⟩) | (go_at_call 95; refine (between_any _ _ _ _).mono ?_; rintro e w' ⟨rfl, rfl⟩))
    all_goals go_ret
    all_goals exact ⟨ret_bool (by rw [HB.out, hd0]; first | rfl | (rw [Bool.false_or]; exact HBt.out) | simp), rfl⟩
set_option maxHeartbeats 400000 in
theorem hodd_any (c : UInt8) (w : World) : Calls Tryz.prog 72 #[.int .u8 c.toNat] w fun e w' => e = .returned (.bool (!hexB c)) ∧ w = w' := by
  go_enter Tryz.func72, Tryz.ntmps72
  go_wp2_with (go_at_call 73; refine (hex_any _ _).mono ?_; rintro e w' ⟨rfl, rfl⟩)
  go_ret
  exact ⟨rfl, rfl⟩
theorem hodd_pred : PredU 72 (fun c => !hexB c) := ⟨enters_of Tryz.func72 (by kernel_rfl) rfl, hodd_any⟩
theorem str_is (s : ByteArray) (t : Bs) : (s.toList == (⟨t.toArray⟩ : ByteArray).toList) = decide (s.data.toList = t) := by
  rw [ba_bq]
set_option maxHeartbeats 3200000 in
theorem unit_any (s : ByteArray) (w : World) : Calls Tryz.prog 48 #[.string s] w (Ret (.bool (unitB s.data.toList)) w) := by
  obtain ⟨D, hD⟩ : ∃ D, unitB s.data.toList = D := ⟨_, rfl⟩
  have HU : Hid (D = (s.toList.isEmpty || (s.toList == [37]) || (s.toList == [112, 120]) || (s.toList == [101, 109]) || (s.toList == [114, 101, 109]) || (s.toList == [112, 116]) || (s.toList == [118, 104]) || (s.toList == [118, 119]) || (s.toList == [100, 101, 103]) || (s.toList == [115]) || (s.toList == [109, 115]))) := by
    show _ = _
    rw [← hD]
    unfold unitB pxT degT
    rw [ByteArray.toList_eq, Bool.eq_iff_iff]
    simp [or_assoc]
  rw [hD]
  clear hD
  go_enter Tryz.func48, Tryz.ntmps48
  go_wp2_with fail
  all_goals go_ret
  all_goals exact Ret.of (by rw [HU.out]; simp_all) (by repeat (first | with_reducible exact Below.refl _ _ | (with_reducible refine Below.alloc ?_ (by first | omega | (simp [go_sem] <;> omega)) _) | (with_reducible refine Below.drew ?_) | (with_reducible refine Below.drewN ?_ _) | (with_reducible refine Below.grow ?_ (by first | omega | (simp [go_sem] <;> omega)) _) | (with_reducible refine Below.setCell ?_ (by first | omega | (simp [go_sem] <;> omega)) _)))
set_option maxRecDepth 100000 in
set_option maxHeartbeats 1600000 in
theorem hash_any (s : ByteArray) (w : World) (hm : s.size ≤ 9223372036854775807) : Calls Tryz.prog 49 #[.string s] w (Ret (.bool (hashB s.data.toList)) w) := by
  have HB := Lib.hid (fun W => len_data s ▸ bytes_rd W 5 s (grownCap W s.size 0 5) hm)
  have hcv : ∀ W : World, (convert 9 89 (.string s)).run Tryz.prog W = .ok (.slice (some ⟨W.heap.size, 0, none⟩) s.size (grownCap W s.size 0 5)) (W.grow (bytesGr W 5 s)) := fun W => bytes_run W _ _ _ s Tryz.underlying9 Tryz.underlying89 Tryz.underlying5
  have HU : Hid (hashB s.data.toList = (decide (s.size = 3 ∨ s.size = 4 ∨ s.size = 6 ∨ s.size = 8) && !s.data.toList.any (fun c => !hexB c))) := by
    show _ = _
    unfold hashB
    rw [len_data]
    congr 1
    rw [List.any_eq_not_all_not]; simp
  have HC := Lib.hid (fun W h => containsFunc_any (.slice (some ⟨W.heap.size, 0, none⟩) s.size (grownCap W s.size 0 5)) s.data.toList _ _ (W.grow (bytesGr W 5 s)) h hodd_pred)
  by_cases h : s.size = 3 ∨ s.size = 4 ∨ s.size = 6 ∨ s.size = 8
  · rw [decide_eq_true h] at HU
    generalize s.data.toList.any (fun c => !hexB c) = an at *
    generalize hashB s.data.toList = D at *
    rcases h with h | h | h | h
    all_goals
      have e3 : ((s.size : Int) == 3) = decide (s.size = 3) := by rw [Bool.eq_iff_iff]; simp; omega
      have e4 : ((s.size : Int) == 4) = decide (s.size = 4) := by rw [Bool.eq_iff_iff]; simp; omega
      have e6 : ((s.size : Int) == 6) = decide (s.size = 6) := by rw [Bool.eq_iff_iff]; simp; omega
      have e8 : ((s.size : Int) == 8) = decide (s.size = 8) := by rw [Bool.eq_iff_iff]; simp; omega
      have d3 : decide (s.size = 3) = _ := congrArg (fun n : Nat => decide (n = 3)) h
      have d4 : decide (s.size = 4) = _ := congrArg (fun n : Nat => decide (n = 4)) h
      have d6 : decide (s.size = 6) = _ := congrArg (fun n : Nat => decide (n = 6)) h
      have d8 : decide (s.size = 8) = _ := congrArg (fun n : Nat => decide (n = 8)) h
      rw [d3] at e3
      rw [d4] at e4
      rw [d6] at e6
      rw [d8] at e8
      simp only [decide_true, Nat.reduceEqDiff, decide_false] at e3 e4 e6 e8
      clear h d3 d4 d6 d8
      go_enter Tryz.func49, Tryz.ntmps49
      go_wp2_with (go_at_call 74; (refine (HC.out _ (HB.out _)).mono ?_); rintro e w' ⟨rfl, rfl⟩)
      go_ret
      exact Ret.of (by rw [HU.out]; rfl) (by repeat (first | with_reducible exact Below.refl _ _ | (with_reducible refine Below.alloc ?_ (by first | omega | (simp [go_sem] <;> omega)) _) | (with_reducible refine Below.drew ?_) | (with_reducible refine Below.drewN ?_ _) | (with_reducible refine Below.grow ?_ (by first | omega | (simp [go_sem] <;> omega)) _) | (with_reducible refine Below.setCell ?_ (by first | omega | (simp [go_sem] <;> omega)) _)))
  · rw [decide_eq_false h] at HU
    generalize s.data.toList.any (fun c => !hexB c) = an at *
    generalize hashB s.data.toList = D at *
    have e3 : ((s.size : Int) == 3) = false := by rw [beq_eq_false_iff_ne]; omega
    have e4 : ((s.size : Int) == 4) = false := by rw [beq_eq_false_iff_ne]; omega
    have e6 : ((s.size : Int) == 6) = false := by rw [beq_eq_false_iff_ne]; omega
    have e8 : ((s.size : Int) == 8) = false := by rw [beq_eq_false_iff_ne]; omega
    clear h HC HB hcv
    go_enter Tryz.func49, Tryz.ntmps49
    go_wp2_with fail
    go_ret
    exact Ret.of (by rw [HU.out]; rfl) (by repeat (first | with_reducible exact Below.refl _ _ | (with_reducible refine Below.alloc ?_ (by first | omega | (simp [go_sem] <;> omega)) _) | (with_reducible refine Below.drew ?_) | (with_reducible refine Below.drewN ?_ _) | (with_reducible refine Below.grow ?_ (by first | omega | (simp [go_sem] <;> omega)) _) | (with_reducible refine Below.setCell ?_ (by first | omega | (simp [go_sem] <;> omega)) _)))
end Go.Proofs.YtgcccpdadponiaaGreatDoor
