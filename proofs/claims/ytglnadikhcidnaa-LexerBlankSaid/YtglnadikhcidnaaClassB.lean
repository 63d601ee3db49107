/- The walks of words; where a byte of a kind is. -/
import Derived.Shelf.Abstract
import Derived.Lib.Strings
import Derived.Test.YtglnadikhcidnaaLexB
import Derived.Test.YtglnadikhcidnaaKitC
namespace Go.Proofs.Ytglnadikhcidnaa
open Go.RowKit Go.Shelf
/-- At which place the first byte of a kind is; -1: nowhere. -/
def idxF (p : UInt8 → Bool) (l : Bs) : Int := if tw (fun c => !p c) l < l.length then (tw (fun c => !p c) l : Nat) else -1
theorem tw_cons_t {p : UInt8 → Bool} {c : UInt8} (r : Bs) (h : p c = true) : tw p (c :: r) = tw p r + 1 := by simp [tw, h]
theorem tw_cons_f {p : UInt8 → Bool} {c : UInt8} (r : Bs) (h : p c = false) : tw p (c :: r) = 0 := by simp [tw, h]
theorem tw_any (p : UInt8 → Bool) (l : Bs) : l.any p = decide (tw (fun c => !p c) l < l.length) := by
  induction l with
  | nil => simp [tw]
  | cons c r ih =>
    cases h : p c
    · rw [List.any_cons, h, ih, tw_cons_t r (by simp [h])]; simp
    · rw [tw_cons_f r (by simp [h])]; simp [h]
theorem idxF_any (p : UInt8 → Bool) (l : Bs) : decide (0 ≤ idxF p l) = l.any p := by
  rw [tw_any]; unfold idxF; split <;> rename_i h <;> simp [h]
theorem Rd.byte {w : World} {A : Option Addr} {n c : Nat} {l : Bs} (h : Rd w (.slice A n c) l.length 1 (l.map bv)) (k : Nat) (hk : k < l.length) : n = l.length ∧ ∃ b off, A = some ⟨b, off, none⟩ ∧ b < w.heap.size ∧ w.cell? ⟨b, off + k, none⟩ = some (.int .u8 (l[k].toNat : Int)) := by
  obtain ⟨_, _, A', c', e, h4⟩ := h
  cases e
  obtain ⟨b, off, rfl, hb, hc⟩ := h4 (by omega)
  exact ⟨rfl, b, off, rfl, hb, hc k (bv l[k]) (by simp [hk])⟩
set_option maxHeartbeats 800000 in
theorem indexFunc_any (v : Value) (l : Bs) (g : Nat) (p : UInt8 → Bool) (w : World) (h : Rd w v l.length 1 (l.map bv)) (hp : PredU g p) :
    Calls Try.prog 52 #[v, .func (.func g) #[] #[]] w fun e w' => e = .returned (.int .i64 (idxF p l)) ∧ w = w' := by
  obtain ⟨eg, hp⟩ := hp
  have hp := Lib.hid hp
  have HR := Lib.hid h
  obtain ⟨_, hm, A, c, rfl, _⟩ := h
  go_enter Try.func52, Try.ntmps52
  go_wp2_with fail
  go_loop [8] (fun i => ∃ k : Nat, k ≤ l.length ∧ i = .int .i64 k ∧ Hid (tw (fun c => !p c) l = k + tw (fun c => !p c) (l.drop k))) (fun i => l.length - (intOf i).toNat)
  case atStart => exact ⟨0, by omega, rfl, by show _ = _; simp⟩
  case round =>
    obtain ⟨k, hk, rfl, HK⟩ := hrel
    by_cases hlt : k < l.length
    · obtain ⟨_, b, off, rfl, hb, hc⟩ := HR.out.byte k hlt
      have HD : Hid (l.drop k = l[k] :: l.drop (k + 1)) := List.drop_eq_getElem_cons hlt
      cases hpc : p l[k]
      · have HT : Hid (tw (fun c => !p c) l = k + 1 + tw (fun c => !p c) (l.drop (k + 1))) := by
          show _ = _
          rw [HK.out, HD.out, tw_cons_t _ (by simp [hpc])]; omega
        go_wp2_with ((with_reducible refine (hp.out l[k] _).mono ?_); rintro e w' ⟨rfl, rfl⟩; rw [hpc])
        go_round
        case rel => exact ⟨k + 1, by omega, by go_num, HT⟩
        case measure => simp [intOf]; omega
      · have HT : Hid (idxF p l = k) := by
          show _ = _
          have := HK.out
          rw [HD.out, tw_cons_f _ (by simp [hpc])] at this
          unfold idxF; rw [if_pos (by omega), this]; simp
        go_wp2_with ((with_reducible refine (hp.out l[k] _).mono ?_); rintro e w' ⟨rfl, rfl⟩; rw [hpc])
        go_ret
        exact ⟨ret_int HT.out.symm, rfl⟩
    · have HT : Hid (idxF p l = -1) := by
        show _ = _
        have := HK.out
        rw [List.drop_eq_nil_of_le (by omega)] at this
        unfold idxF; rw [if_neg]
        rw [this]; simp [tw]; omega
      go_wp2
      go_ret
      exact ⟨ret_int HT.out.symm, rfl⟩
set_option maxHeartbeats 800000 in
theorem containsFunc_any (v : Value) (l : Bs) (g : Nat) (p : UInt8 → Bool) (w : World) (h : Rd w v l.length 1 (l.map bv)) (hp : PredU g p) :
    Calls Try.prog 48 #[v, .func (.func g) #[] #[]] w fun e w' => e = .returned (.bool (l.any p)) ∧ w = w' := by
  have HI := Lib.hid (indexFunc_any v l g p w h hp)
  clear h hp
  go_enter Try.func48, Try.ntmps48
  go_wp2_with (go_at_call 52; refine HI.out.mono ?_; rintro e w' ⟨rfl, rfl⟩)
  go_ret
  exact ⟨ret_bool (idxF_any p l), rfl⟩
theorem wodd_pred : PredU 47 (fun c => !wchB c) := ⟨enters_of Try.func47 (by kernel_rfl) rfl, wodd_any⟩
theorem wordB_eq (l : Bs) : wordB l = (decide (0 < l.length) && decide (l.length ≤ 64) && lowB (l.headD 0) && !l.any (fun c => !wchB c)) := by
  cases l with
  | nil => rfl
  | cons c r =>
    have h : lowB c = true → wchB c = true := by intro h; simp [wchB, h]
    simp only [wordB, List.headD_cons, List.any_cons, List.length_cons]
    cases hl : lowB c
    · simp
    · simp only [h hl]
      have e : r.all wchB = !r.any (fun c => !wchB c) := by rw [List.any_eq_not_all_not]; simp
      rw [e, show decide (r.length < 64) = decide (r.length + 1 ≤ 64) by rw [decide_eq_decide]; omega]; simp
theorem btw_low (c : UInt8) : btwB c.toNat 97 122 = lowB c := by unfold btwB lowB; rw [Bool.eq_iff_iff]; simp; omega
@[go_sem] theorem conv_bytes (s : ByteArray) (w : World) : (convert 9 46 (.string s)).run Try.prog w = .ok (.slice (some ⟨w.heap.size, 0, none⟩) s.size (grownCap w s.size 0 5)) (w.grow (bytesGr w 5 s)) :=
  bytes_run w _ _ _ s Try.underlying9 Try.underlying46 Try.underlying5
theorem headD_at (s : ByteArray) (h : 0 < s.size) : s.data.toList.headD 0 = s[0] := by
  have := drop_at s 0 h
  rw [List.drop_zero] at this
  rw [this]; rfl
theorem empty_no (s : ByteArray) (h : 0 < s.size) : s.toList.isEmpty = false := by
  have h2 := len_data s
  rw [_root_.Go.Lib.toList_data]
  cases h3 : s.data.toList with
  | nil => rw [h3] at h2; simp at h2; omega
  | cons a b => rfl
theorem empty_yes (s : ByteArray) (h : ¬ 0 < s.size) : s.toList.isEmpty = true := by
  have h2 := len_data s
  rw [_root_.Go.Lib.toList_data]
  cases h3 : s.data.toList with
  | nil => rfl
  | cons a b => rw [h3] at h2; simp at h2; omega
set_option maxHeartbeats 800000 in
theorem word_any (s : ByteArray) (w : World) (hm : s.size ≤ 9223372036854775807) : Calls Try.prog 41 #[.string s] w (Ret (.bool (wordB s.data.toList)) w) := by
  have HW := Lib.hid (wordB_eq s.data.toList)
  by_cases h0 : 0 < s.size
  · have hne := empty_no s h0
    by_cases h64 : s.size ≤ 64
    · have b64 : decide ((64 : Int) < s.size) = false := by simp; omega
      have HL : Hid (wordB s.data.toList = (lowB s[0] && !s.data.toList.any (fun c => !wchB c))) := by
        show _ = _
        rw [HW.out, headD_at s h0, len_data, decide_eq_true h0, decide_eq_true h64]; simp
      cases hl : lowB s[0]
      · have HF : Hid (wordB s.data.toList = false) := by show _ = _; rw [HL.out, hl]; rfl
        clear HW HL h64
        go_enter Try.func41, Try.ntmps41
        go_wp2_with (go_at_call 44; refine (between_any _ _ _ _).mono ?_; rintro e w' ⟨rfl, rfl⟩; rw [btw_low, hl])
        go_ret
        exact Ret.of (by rw [HF.out]; rfl) (by repeat (first | with_reducible exact Below.refl _ _ | (with_reducible refine Below.alloc ?_ (by first | omega | (simp [go_sem] <;> omega)) _) | (with_reducible refine Below.drew ?_) | (with_reducible refine Below.drewN ?_ _) | (with_reducible refine Below.grow ?_ (by first | omega | (simp [go_sem] <;> omega)) _) | (with_reducible refine Below.setCell ?_ (by first | omega | (simp [go_sem] <;> omega)) _)))
      · cases ha : s.data.toList.any (fun c => !wchB c)
        all_goals
          have HF : Hid (wordB s.data.toList = !s.data.toList.any (fun c => !wchB c)) := by show _ = _; rw [HL.out, hl]; rfl
          rw [ha] at HF
          have HA := Lib.hid ha
          clear HW HL h64 ha
          have HB := Lib.hid (fun W => len_data s ▸ bytes_rd W 5 s (grownCap W s.size 0 5) hm)
          go_enter Try.func41, Try.ntmps41
          go_wp2_with (first | (go_at_call 44; refine (between_any _ _ _ _).mono ?_; rintro e w' ⟨rfl, rfl⟩; rw [btw_low, hl]) | (go_at_call 48; refine (containsFunc_any _ _ _ _ _ (HB.out _) wodd_pred).mono ?_; rintro e w' ⟨rfl, rfl⟩; rw [HA.out]))
          go_ret
          exact Ret.of (by rw [HF.out]; rfl) (by repeat (first | with_reducible exact Below.refl _ _ | (with_reducible refine Below.alloc ?_ (by first | omega | (simp [go_sem] <;> omega)) _) | (with_reducible refine Below.drew ?_) | (with_reducible refine Below.drewN ?_ _) | (with_reducible refine Below.grow ?_ (by first | omega | (simp [go_sem] <;> omega)) _) | (with_reducible refine Below.setCell ?_ (by first | omega | (simp [go_sem] <;> omega)) _)))
    · have b64 : decide ((64 : Int) < s.size) = true := by simp; omega
      have HF : Hid (wordB s.data.toList = false) := by show _ = _; rw [HW.out, len_data, decide_eq_false h64]; simp
      clear HW h64
      go_enter Try.func41, Try.ntmps41
      go_wp2
      go_ret
      exact Ret.of (by rw [HF.out]; rfl) (by repeat (first | with_reducible exact Below.refl _ _ | (with_reducible refine Below.alloc ?_ (by first | omega | (simp [go_sem] <;> omega)) _) | (with_reducible refine Below.drew ?_) | (with_reducible refine Below.drewN ?_ _) | (with_reducible refine Below.grow ?_ (by first | omega | (simp [go_sem] <;> omega)) _) | (with_reducible refine Below.setCell ?_ (by first | omega | (simp [go_sem] <;> omega)) _)))
  · have hne := empty_yes s h0
    have HF : Hid (wordB s.data.toList = false) := by show _ = _; rw [HW.out, len_data, decide_eq_false h0]; simp
    clear HW h0
    go_enter Try.func41, Try.ntmps41
    go_wp2
    go_ret
    exact Ret.of (by rw [HF.out]; rfl) (by repeat (first | with_reducible exact Below.refl _ _ | (with_reducible refine Below.alloc ?_ (by first | omega | (simp [go_sem] <;> omega)) _) | (with_reducible refine Below.drew ?_) | (with_reducible refine Below.drewN ?_ _) | (with_reducible refine Below.grow ?_ (by first | omega | (simp [go_sem] <;> omega)) _) | (with_reducible refine Below.setCell ?_ (by first | omega | (simp [go_sem] <;> omega)) _)))
set_option maxHeartbeats 1600000 in
theorem rword_any (s : ByteArray) (w : World) (hm : s.size ≤ 9223372036854775807) : Calls Try.prog 24 #[.string s] w fun e w' => e = .returned (.bool (wordB s.data.toList)) ∧ w = w' := by
  have HW := Lib.hid (wordB_eq s.data.toList)
  by_cases h0 : 0 < s.size
  · have b1 : decide ((s.size : Int) < 1) = false := by simp; omega
    by_cases h64 : s.size ≤ 64
    · have b64 : decide ((64 : Int) < s.size) = false := by simp; omega
      have HL : Hid (wordB s.data.toList = (lowB s[0] && !s.data.toList.any (fun c => !wchB c))) := by
        show _ = _
        rw [HW.out, headD_at s h0, len_data, decide_eq_true h0, decide_eq_true h64]; simp
      have HD0 := Lib.hid (drop_at s 0 h0)
      clear HW
      go_enter Try.func24, Try.ntmps24
      go_wp2_with fail
      go_loop [3] (fun i => ∃ k : Nat, k ≤ s.size ∧ i = .int .i64 k ∧ Hid ((0 < k → lowB s[0] = true) ∧ s.data.toList.any (fun c => !wchB c) = (s.data.toList.drop k).any (fun c => !wchB c))) (fun i => s.size - (intOf i).toNat)
      case atStart => exact ⟨0, by omega, rfl, by refine ⟨fun h => by omega, by simp⟩⟩
      case round =>
        obtain ⟨k, hk, rfl, HK⟩ := hrel
        by_cases hlt : k < s.size
        · have HD := Lib.hid (drop_at s k hlt)
          have HGo : Hid (wchB s[k] = true → (k = 0 → lowB s[0] = true) → ((0 < k + 1 → lowB s[0] = true) ∧ s.data.toList.any (fun c => !wchB c) = (s.data.toList.drop (k + 1)).any (fun c => !wchB c))) := by
            intro h1 h2
            refine ⟨fun _ => ?_, by rw [HK.out.2, HD.out, List.any_cons, h1]; rfl⟩
            by_cases hk0 : k = 0
            · exact h2 hk0
            · exact HK.out.1 (by omega)
          have HRet : Hid ((lowB s[k] = false ∧ k = 0) ∨ wchB s[k] = false → wordB s.data.toList = false) := by
            rintro (⟨h1, rfl⟩ | h1)
            · rw [HL.out, h1]; rfl
            · rw [HL.out, HK.out.2, HD.out, List.any_cons, h1]; simp
          have HX : Hid (lowB s[k] = true ∧ decide ((97 : Int) ≤ s[k].toNat) = true ∧ decide ((s[k].toNat : Int) ≤ 122) = true ∨ lowB s[k] = false ∧ (decide ((97 : Int) ≤ s[k].toNat) = true ∧ decide ((s[k].toNat : Int) ≤ 122) = false ∨ decide ((97 : Int) ≤ s[k].toNat) = false)) := by
            show _ ∨ _
            unfold lowB; simp; omega
          by_cases hk0 : k = 0
          · subst hk0
            rcases HX.out with ⟨h1, b1, b2⟩ | ⟨h1, h2⟩
            · have HG := Lib.hid (HGo.out (by simp [wchB, h1]) (fun _ => h1))
              clear h1 HX HRet HGo
              go_wp2
              go_round
              case rel => exact ⟨1, by omega, rfl, HG.out⟩
              case measure => simp [intOf]; omega
            · have HG := Lib.hid (HRet.out (Or.inl ⟨h1, rfl⟩))
              clear h1 HX HRet HGo
              rcases h2 with ⟨b1, b2⟩ | b1
              all_goals
                go_wp2
                go_ret
                exact ⟨ret_bool HG.out.symm, rfl⟩
          · have kz : ((k : Int) == 0) = false := by simp; omega
            rcases HX.out with ⟨h1, b1, b2⟩ | ⟨h1, h2⟩
            · have HG := Lib.hid (HGo.out (by simp [wchB, h1]) (fun h => absurd h hk0))
              clear h1 HX HRet HGo hk0
              go_wp2
              go_round
              case rel => exact ⟨k + 1, by omega, by go_num, HG.out⟩
              case measure => simp [intOf]; omega
            · cases hd : digB s[k]
              · by_cases h45 : s[k].toNat = 45
                · have b45 : ((s[k].toNat : Int) != 45) = false := by simp; omega
                  have HG := Lib.hid (HGo.out (by simp [wchB, h45]) (fun h => absurd h hk0))
                  clear h1 HX HRet HGo hk0 h45
                  rcases h2 with ⟨b1, b2⟩ | b1
                  all_goals
                    go_wp2_with (go_at_call 25; (with_reducible refine (rdigit_any s[k] _).mono ?_); rintro e w' ⟨rfl, rfl⟩; rw [hd])
                    go_round
                    case rel => exact ⟨k + 1, by omega, by go_num, HG.out⟩
                    case measure => simp [intOf]; omega
                · have b45 : ((s[k].toNat : Int) != 45) = true := by simp; omega
                  have HG := Lib.hid (HRet.out (Or.inr (by simp [wchB, h1, hd, h45])))
                  clear h1 HX HRet HGo hk0 h45
                  rcases h2 with ⟨b1, b2⟩ | b1
                  all_goals
                    go_wp2_with (go_at_call 25; (with_reducible refine (rdigit_any s[k] _).mono ?_); rintro e w' ⟨rfl, rfl⟩; rw [hd])
                    go_ret
                    exact ⟨ret_bool HG.out.symm, rfl⟩
              · have HG := Lib.hid (HGo.out (by simp [wchB, hd]) (fun h => absurd h hk0))
                clear h1 HX HRet HGo hk0
                rcases h2 with ⟨b1, b2⟩ | b1
                all_goals
                  go_wp2_with (go_at_call 25; (with_reducible refine (rdigit_any s[k] _).mono ?_); rintro e w' ⟨rfl, rfl⟩; rw [hd])
                  go_round
                  case rel => exact ⟨k + 1, by omega, by go_num, HG.out⟩
                  case measure => simp [intOf]; omega
        · have HF : Hid (wordB s.data.toList = true) := by
            show _ = _
            have := HK.out
            rw [drop_end s k (by omega)] at this
            rw [HL.out, this.1 (by omega), this.2]; rfl
          clear HK HL HD0
          go_wp2
          go_ret
          exact ⟨ret_bool HF.out.symm, rfl⟩
    · have b64 : decide ((64 : Int) < s.size) = true := by simp; omega
      have HF : Hid (wordB s.data.toList = false) := by show _ = _; rw [HW.out, len_data, decide_eq_false h64]; simp
      clear HW h64
      go_enter Try.func24, Try.ntmps24
      go_wp2
      go_ret
      exact ⟨ret_bool HF.out.symm, rfl⟩
  · have HF : Hid (wordB s.data.toList = false) := by show _ = _; rw [HW.out, len_data, decide_eq_false h0]; simp
    have b1 : decide ((s.size : Int) < 1) = true := by simp; omega
    clear HW h0
    go_enter Try.func24, Try.ntmps24
    go_wp2
    go_ret
    exact ⟨ret_bool HF.out.symm, rfl⟩
end Go.Proofs.Ytglnadikhcidnaa
