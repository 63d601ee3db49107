/- The walks of styles by the reference: bytes, small letters, names. -/
import Derived.Test.YtgcccpdadponiaaGreatDoorCssE
namespace Go.Proofs.YtgcccpdadponiaaGreatDoor
open Go.RowKit Go.Shelf
attribute [local go_sem] Oper.semAt_some
set_option maxHeartbeats 400000 in
theorem rletter_any (c : UInt8) (w : World) : Calls Tryz.prog 142 #[.int .u8 c.toNat] w fun e w' => e = .returned (.bool (letB c)) ∧ w = w' := by
  go_enter Tryz.func142, Tryz.ntmps142
  go_wp2
  all_goals go_ret
  all_goals exact ⟨ret_bool (by rw [Bool.eq_iff_iff]; simp [letB, upB, lowB] at *; try omega), rfl⟩
set_option maxHeartbeats 400000 in
theorem rdigit_any (c : UInt8) (w : World) : Calls Tryz.prog 78 #[.int .u8 c.toNat] w fun e w' => e = .returned (.bool (digB c)) ∧ w = w' := by
  go_enter Tryz.func78, Tryz.ntmps78
  go_wp2
  all_goals go_ret
  all_goals exact ⟨ret_bool (by rw [Bool.eq_iff_iff]; simp [digB] at *; try omega), rfl⟩
set_option maxHeartbeats 400000 in
theorem rspace_any (c : UInt8) (w : World) : Calls Tryz.prog 97 #[.int .u8 c.toNat] w fun e w' => e = .returned (.bool (spB c)) ∧ w = w' := by
  go_enter Tryz.func97, Tryz.ntmps97
  go_wp2
  all_goals go_ret
  all_goals exact ⟨ret_bool (by rw [Bool.eq_iff_iff]; simp [spB] at *; try omega), rfl⟩
set_option maxHeartbeats 400000 in
theorem rfirst_any (c : UInt8) (w : World) : Calls Tryz.prog 140 #[.int .u8 c.toNat] w fun e w' => e = .returned (.bool (begB c)) ∧ w = w' := by
  have HB : Hid (begB c = (letB c || decide (c.toNat = 95))) := rfl
  cases hl : letB c
  all_goals
    have HL : Hid (∀ W, Calls Tryz.prog 142 #[.int .u8 c.toNat] W fun e w' => e = .returned (.bool _) ∧ W = w') := fun W => hl ▸ rletter_any c W
    go_enter Tryz.func140, Tryz.ntmps140
    go_wp2_with (go_at_call 142; (with_reducible refine (HL.out _).mono ?_); rintro e w' ⟨rfl, rfl⟩)
    all_goals go_ret
    all_goals exact ⟨ret_bool (by rw [HB.out, hl]; first | rfl | (rw [Bool.eq_iff_iff]; simp <;> omega)), rfl⟩
set_option maxHeartbeats 400000 in
theorem rgoes_any (c : UInt8) (w : World) : Calls Tryz.prog 143 #[.int .u8 c.toNat] w fun e w' => e = .returned (.bool (goB c)) ∧ w = w' := by
  have HB : Hid (goB c = (begB c || digB c || decide (c.toNat = 45))) := rfl
  cases hl : begB c <;> cases hd0 : digB c
  all_goals
    have HL : Hid (∀ W, Calls Tryz.prog 140 #[.int .u8 c.toNat] W fun e w' => e = .returned (.bool _) ∧ W = w') := fun W => hl ▸ rfirst_any c W
    have HD : Hid (∀ W, Calls Tryz.prog 78 #[.int .u8 c.toNat] W fun e w' => e = .returned (.bool _) ∧ W = w') := fun W => hd0 ▸ rdigit_any c W
    go_enter Tryz.func143, Tryz.ntmps143
    go_wp2_with (first | (go_at_call 140; (with_reducible refine (HL.out _).mono ?_); rintro e w' ⟨rfl, rfl⟩) | (go_at_call 78; (with_reducible refine (HD.out _).mono ?_); rintro e w' ⟨rfl, rfl⟩))
    all_goals go_ret
    all_goals exact ⟨ret_bool (by rw [HB.out, hl, hd0]; first | rfl | (rw [Bool.eq_iff_iff]; simp <;> omega)), rfl⟩
theorem up_add (c : UInt8) (h : upB c = true) : ((lwB c).toNat : Int) = (c.toNat : Int) + 32 := by
  have h1 := h
  simp only [upB, decide_eq_true_eq] at h1
  unfold lwB; rw [if_pos h, UInt8.toNat_add]; simp; omega
theorem lw_id {c : UInt8} (h : upB c = false) : lwB c = c := by unfold lwB; rw [h]; rfl
set_option maxHeartbeats 3200000 in
theorem rlower_any (s : ByteArray) (w : World) (hm : s.size ≤ 140737488355328) : Calls Tryz.prog 119 #[.string s] w (Ret (.string ⟨(lowL s.data.toList).toArray⟩) w) := by
  have hlen := len_data s
  have HB := Lib.hid (fun W => BytesOf.new W 5 s)
  have HL := Lib.hid hlen
  have hcv : ∀ W : World, (convert 9 89 (.string s)).run Tryz.prog W = .ok (.slice (some ⟨W.heap.size, 0, none⟩) s.size (grownCap W s.size 0 5)) (W.grow (bytesGr W 5 s)) := fun W => bytes_run W _ _ _ s Tryz.underlying9 Tryz.underlying89 Tryz.underlying5
  go_enter Tryz.func119, Tryz.ntmps119
  go_wp2_with fail
  go_loopw [4] (fun i wr => ∃ k : Nat, k ≤ s.size ∧ i = .int .i64 k ∧ Hid (Below w.heap.size w wr) ∧ Hid (BytesOf wr w.heap.size 5 (lowL (s.data.toList.take k) ++ s.data.toList.drop k))) (fun i _ => s.size - (intOf i).toNat)
  case atStart => exact ⟨0, by omega, rfl, below_grow _ _, by show BytesOf _ _ _ _; have := HB.out w; simpa [lowL] using this⟩
  case round =>
    obtain ⟨k, hk, rfl, HW, HK⟩ := hrel
    by_cases hlt : k < s.size
    · have hk2 : k < s.data.toList.length := by rw [HL.out]; exact hlt
      have hk3 : k < (lowL (s.data.toList.take k) ++ s.data.toList.drop k).length := by rw [low_len]; exact hk2
      have c0 := HK.out.cell k hk3
      rw [low_at _ _ hk2] at c0
      have f0 := HK.out.free k hk3
      have HS := Lib.hid (HK.out.set k hk3 (lwB s.data.toList[k]))
      have HS1 := Lib.hid (low_step s.data.toList k hk2)
      have HU := Lib.hid (up_add s.data.toList[k])
      have HX : Hid (lwB s.data.toList[k] = s.data.toList[k] → BytesOf wr w.heap.size 5 (lowL (s.data.toList.take (k + 1)) ++ s.data.toList.drop (k + 1))) := fun h => by
        rw [← HS1.out, h]
        have := HK.out
        rwa [← low_at _ _ hk2 hk3, List.set_getElem_self]
      have hlt1 : w.heap.size < wr.heap.size := HK.out.lt
      clear hk3
      generalize s.data.toList[k] = c at *
      have hc := c.toNat_lt
      cases hu : upB c
      · have HN := Lib.hid (HX.out (lw_id hu))
        simp only [upB, decide_eq_false_iff_not] at hu
        by_cases h65 : 65 ≤ c.toNat
        · have b1 : decide ((65 : Int) ≤ c.toNat) = true := by simp; omega
          have b2 : decide ((c.toNat : Int) ≤ 90) = false := by simp; omega
          clear hu h65
          go_wp2_with fail
          go_roundw
          case rel => exact ⟨k + 1, by omega, by go_num, HW, HN⟩
          case measure => simp [intOf]; omega
        · have b1 : decide ((65 : Int) ≤ c.toNat) = false := by simp; omega
          clear hu h65
          go_wp2_with fail
          go_roundw
          case rel => exact ⟨k + 1, by omega, by go_num, HW, HN⟩
          case measure => simp [intOf]; omega
      · have hadd := HU.out hu
        simp only [upB, decide_eq_true_eq] at hu
        have b1 : decide ((65 : Int) ≤ c.toNat) = true := by simp; omega
        have b2 : decide ((c.toNat : Int) ≤ 90) = true := by simp; omega
        have hw1 : IntKind.u8.wrap ((c.toNat : Int) + 32) = (c.toNat : Int) + 32 := IntWalk.u8_in _ (by omega)
        unfold bv at HS
        rw [hadd] at HS
        go_wp2_with fail
        go_roundw
        case rel => exact ⟨k + 1, by omega, by go_num, Lib.hid (HW.out.setCell (by simp) _), by have := HS.out; rw [HS1.out] at this; exact this⟩
        case measure => simp [intOf]; omega
    · have hk2 : k = s.size := by omega
      subst hk2
      have hend : Rd wr (.slice (some ⟨w.heap.size, 0, none⟩) s.size (grownCap w s.size 0 5)) (lowL s.data.toList).length 1 ((lowL s.data.toList).map bv) := by
        have := HK.out
        rw [← HL.out, List.take_length, List.drop_length, List.append_nil] at this
        have h2 := BytesOf.rd this (grownCap w s.size 0 5) (by simp [lowL]; have := HL.out; simp at this; omega)
        rw [show (lowL s.data.toList).length = s.size by rw [lowL, List.length_map, HL.out]] at h2 ⊢
        exact h2
      have hcv2 := hend.str 89 9 5 Tryz.underlying89 Tryz.underlying5 Tryz.underlying9
      clear hend
      go_wp2_with fail
      go_ret
      exact Ret.of rfl HW.out
set_option maxHeartbeats 1600000 in
theorem rrun_any (s : ByteArray) (at_ : Nat) (w : World) (ha : at_ ≤ s.size) (hm : s.size ≤ 140737488355328) :
    Calls Tryz.prog 121 #[.string s, .int .i64 at_] w fun e w' => e = .returned (.int .i64 (twc goB (s.data.toList.drop at_))) ∧ w = w' := by
  obtain ⟨T, hT⟩ : ∃ T, twc goB (s.data.toList.drop at_) = T := ⟨_, rfl⟩
  have HT := Lib.hid hT
  rw [hT]
  clear hT
  go_enter Tryz.func121, Tryz.ntmps121
  go_wp2_with fail
  go_loop [5] (fun i => ∃ k : Nat, at_ + k ≤ s.size ∧ i = .int .i64 k ∧ Hid (T = k + twc goB (s.data.toList.drop (at_ + k)))) (fun i => s.size - (intOf i).toNat)
  case atStart => exact ⟨0, by omega, rfl, by show _ = _; rw [← HT.out]; simp⟩
  case round =>
    obtain ⟨k, hk, rfl, HK⟩ := hrel
    by_cases hlt : at_ + k < s.size
    · have HD : Hid (s.data.toList.drop (at_ + k) = s[at_ + k] :: s.data.toList.drop (at_ + k + 1)) := drop_at s _ hlt
      have hix : ((at_ : Int) + k).toNat = at_ + k := by omega
      cases hpc : goB s[at_ + k]
      · have HN : Hid (T = k) := by show _ = _; rw [HK.out, HD.out, twc_f _ hpc]; omega
        go_wp2_with (go_at_call 143; (with_reducible refine (rgoes_any s[at_ + k] _).mono ?_); rintro e w' ⟨rfl, rfl⟩; rw [hpc])
        go_ret
        exact ⟨ret_int (by rw [HN.out]), rfl⟩
      · have HN : Hid (T = k + 1 + twc goB (s.data.toList.drop (at_ + (k + 1)))) := by show _ = _; rw [HK.out, HD.out, twc_t _ hpc, Nat.add_assoc at_ k 1]; omega
        go_wp2_with (go_at_call 143; (with_reducible refine (rgoes_any s[at_ + k] _).mono ?_); rintro e w' ⟨rfl, rfl⟩; rw [hpc])
        go_round
        case rel => exact ⟨k + 1, by omega, by go_num, HN⟩
        case measure => simp [intOf]; omega
    · have HN : Hid (T = k) := by show _ = _; rw [HK.out, drop_end _ _ (by omega)]; simp [twc]
      go_wp2
      go_ret
      exact ⟨ret_int (by rw [HN.out]), rfl⟩
set_option maxHeartbeats 1600000 in
theorem rdigits_any (s : ByteArray) (at_ : Nat) (w : World) (ha : at_ ≤ s.size) (hm : s.size ≤ 140737488355328) :
    Calls Tryz.prog 141 #[.string s, .int .i64 at_] w fun e w' => e = .returned (.int .i64 (twc digB (s.data.toList.drop at_))) ∧ w = w' := by
  obtain ⟨T, hT⟩ : ∃ T, twc digB (s.data.toList.drop at_) = T := ⟨_, rfl⟩
  have HT := Lib.hid hT
  rw [hT]
  clear hT
  go_enter Tryz.func141, Tryz.ntmps141
  go_wp2_with fail
  go_loop [5] (fun i => ∃ k : Nat, at_ + k ≤ s.size ∧ i = .int .i64 k ∧ Hid (T = k + twc digB (s.data.toList.drop (at_ + k)))) (fun i => s.size - (intOf i).toNat)
  case atStart => exact ⟨0, by omega, rfl, by show _ = _; rw [← HT.out]; simp⟩
  case round =>
    obtain ⟨k, hk, rfl, HK⟩ := hrel
    by_cases hlt : at_ + k < s.size
    · have HD : Hid (s.data.toList.drop (at_ + k) = s[at_ + k] :: s.data.toList.drop (at_ + k + 1)) := drop_at s _ hlt
      have hix : ((at_ : Int) + k).toNat = at_ + k := by omega
      cases hpc : digB s[at_ + k]
      · have HN : Hid (T = k) := by show _ = _; rw [HK.out, HD.out, twc_f _ hpc]; omega
        go_wp2_with (go_at_call 78; (with_reducible refine (rdigit_any s[at_ + k] _).mono ?_); rintro e w' ⟨rfl, rfl⟩; rw [hpc])
        go_ret
        exact ⟨ret_int (by rw [HN.out]), rfl⟩
      · have HN : Hid (T = k + 1 + twc digB (s.data.toList.drop (at_ + (k + 1)))) := by show _ = _; rw [HK.out, HD.out, twc_t _ hpc, Nat.add_assoc at_ k 1]; omega
        go_wp2_with (go_at_call 78; (with_reducible refine (rdigit_any s[at_ + k] _).mono ?_); rintro e w' ⟨rfl, rfl⟩; rw [hpc])
        go_round
        case rel => exact ⟨k + 1, by omega, by go_num, HN⟩
        case measure => simp [intOf]; omega
    · have HN : Hid (T = k) := by show _ = _; rw [HK.out, drop_end _ _ (by omega)]; simp [twc]
      go_wp2
      go_ret
      exact ⟨ret_int (by rw [HN.out]), rfl⟩
def nameN (s : Bs) : Nat := if nameB s then twc goB s else 0
set_option maxHeartbeats 1600000 in
theorem rname_any (s : Bs) (w : World) (hm : s.length ≤ 140737488355) : Calls Tryz.prog 118 #[.string ⟨s.toArray⟩] w fun e w' => e = .returned (.int .i64 (nameN s)) ∧ w = w' := by
  have HV : Hid (nameN s = if nameB s then twc goB s else 0) := rfl
  obtain ⟨S, hS⟩ : ∃ S : ByteArray, ⟨s.toArray⟩ = S := ⟨_, rfl⟩
  have hd0 : S.data.toList = s := by rw [← hS]
  have hsz : S.size = s.length := by rw [← hS]; rfl
  have hSm : S.size ≤ 140737488355 := by omega
  have HR := Lib.hid (fun W => show Calls Tryz.prog 121 #[.string S, .int .i64 0] W fun e w' => e = .returned (.int .i64 (twc goB s)) ∧ W = w' from by
    have := rrun_any S 0 W (by omega) (by omega)
    rw [hd0, List.drop_zero] at this; exact this)
  have HF := Lib.hid (fun W c => rfirst_any c W)
  rw [hS]
  cases s with
  | nil =>
    have he : S.toList.isEmpty = true := by rw [ba_emp, hd0]; rfl
    have h0 : S.size = 0 := hsz
    clear hd0 hS hsz
    go_enter Tryz.func118, Tryz.ntmps118
    go_wp2_with fail
    go_ret
    exact ⟨rfl, rfl⟩
  | cons c r =>
    have hpos : 0 < S.size := by rw [hsz]; simp
    have he := ba_full hpos
    have hc0 : S[0] = c := by rw [at_bs S _ hd0 0 hpos]; rfl
    generalize twc goB (c :: r) = T at *
    by_cases hb : begB c = true
    · have HB0 := Lib.hid (fun W => show Calls Tryz.prog 140 #[.int .u8 S[0].toNat] W fun e w' => e = .returned (.bool true) ∧ W = w' from by rw [hc0]; exact hb ▸ HF.out W c)
      have HN : Hid (nameN (c :: r) = T) := by show _ = _; rw [HV.out]; simp [nameB, hb]
      clear hb hc0 hsz hd0 hS HF
      go_enter Tryz.func118, Tryz.ntmps118
      go_wp2_with (first | (go_at_call 140; (with_reducible refine (HB0.out _).mono ?_); rintro e w' ⟨rfl, rfl⟩) | (go_at_call 121; (with_reducible refine (HR.out _).mono ?_); rintro e w' ⟨rfl, rfl⟩))
      go_ret
      exact ⟨ret_int (by rw [HN.out]), rfl⟩
    have hb : begB c = false := by simpa using hb
    have HB0 := Lib.hid (fun W => show Calls Tryz.prog 140 #[.int .u8 S[0].toNat] W fun e w' => e = .returned (.bool false) ∧ W = w' from by rw [hc0]; exact hb ▸ HF.out W c)
    by_cases h1 : 1 < S.size
    · have b1 : decide ((1 : Int) < S.size) = true := by simp; omega
      obtain ⟨d, r2, rfl⟩ : ∃ d r2, r = d :: r2 := by
        cases r with
        | nil => simp at hsz; omega
        | cons d r2 => exact ⟨d, r2, rfl⟩
      have hd1 : S[1] = d := by rw [at_bs S _ hd0 1 h1]; rfl
      by_cases h45 : c.toNat = 45
      · have b45 : ((S[0].toNat : Int) == 45) = true := by rw [hc0]; simp [h45]
        cases hbd : begB d
        · have HB1 := Lib.hid (fun W => show Calls Tryz.prog 140 #[.int .u8 S[1].toNat] W fun e w' => e = .returned (.bool false) ∧ W = w' from by rw [hd1]; exact hbd ▸ HF.out W d)
          have HN : Hid (nameN (c :: d :: r2) = 0) := by show _ = _; rw [HV.out]; simp [nameB, hb, hbd]
          clear hb hbd hc0 hsz hd0 hd1 hS HF h45
          go_enter Tryz.func118, Tryz.ntmps118
          go_wp2_with (first | (go_at_call 140; first | ((with_reducible refine (HB0.out _).mono ?_); rintro e w' ⟨rfl, rfl⟩) | ((with_reducible refine (HB1.out _).mono ?_); rintro e w' ⟨rfl, rfl⟩)))
          go_ret
          exact ⟨ret_int (by rw [HN.out]; rfl), rfl⟩
        · have HB1 := Lib.hid (fun W => show Calls Tryz.prog 140 #[.int .u8 S[1].toNat] W fun e w' => e = .returned (.bool true) ∧ W = w' from by rw [hd1]; exact hbd ▸ HF.out W d)
          have HN : Hid (nameN (c :: d :: r2) = T) := by show _ = _; rw [HV.out]; simp [nameB, hb, hbd, h45]
          clear hb hbd hc0 hsz hd0 hd1 hS HF h45
          go_enter Tryz.func118, Tryz.ntmps118
          go_wp2_with (first | (go_at_call 140; first | ((with_reducible refine (HB0.out _).mono ?_); rintro e w' ⟨rfl, rfl⟩) | ((with_reducible refine (HB1.out _).mono ?_); rintro e w' ⟨rfl, rfl⟩)) | (go_at_call 121; (with_reducible refine (HR.out _).mono ?_); rintro e w' ⟨rfl, rfl⟩))
          go_ret
          exact ⟨ret_int (by rw [HN.out]), rfl⟩
      · have b45 : ((S[0].toNat : Int) == 45) = false := by rw [hc0]; simp; omega
        have HN : Hid (nameN (c :: d :: r2) = 0) := by show _ = _; rw [HV.out]; simp [nameB, hb, h45]
        clear hb hc0 hsz hd0 hd1 hS HF h45
        go_enter Tryz.func118, Tryz.ntmps118
        go_wp2_with (first | (go_at_call 140; (with_reducible refine (HB0.out _).mono ?_); rintro e w' ⟨rfl, rfl⟩))
        go_ret
        exact ⟨ret_int (by rw [HN.out]; rfl), rfl⟩
    · have b1 : decide ((1 : Int) < S.size) = false := by simp; omega
      obtain rfl : r = [] := by
        cases r with
        | nil => rfl
        | cons d r2 => simp at hsz; omega
      have HN : Hid (nameN [c] = 0) := by show _ = _; rw [HV.out]; simp [nameB, hb]
      clear hb hc0 hsz hd0 hS HF
      go_enter Tryz.func118, Tryz.ntmps118
      go_wp2_with (first | (go_at_call 140; (with_reducible refine (HB0.out _).mono ?_); rintro e w' ⟨rfl, rfl⟩))
      go_ret
      exact ⟨ret_int (by rw [HN.out]; rfl), rfl⟩
end Go.Proofs.YtgcccpdadponiaaGreatDoor
