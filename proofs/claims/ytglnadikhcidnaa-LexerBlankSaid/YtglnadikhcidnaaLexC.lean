/- The walk of the lexer: what is passed over. -/
import Derived.Test.YtglnadikhcidnaaShelf
import Derived.Test.YtglnadikhcidnaaLexB
namespace Go.Proofs.Ytglnadikhcidnaa
open Go.RowKit
theorem blk_idx (l : Bs) : (Lib.indexByte l 10 = -1 → blk true l = l.length) ∧ (∀ j : Nat, Lib.indexByte l 10 = j → blk true l = j + blk false (l.drop j) ∧ j < l.length) := by
  induction l with
  | nil => exact ⟨fun _ => rfl, fun j h => by simp [Lib.indexByte] at h⟩
  | cons c r ih =>
    by_cases hc : c = 10
    · subst hc
      refine ⟨fun h => by simp [Lib.indexByte] at h, fun j h => ?_⟩
      obtain rfl : j = 0 := by simp [Lib.indexByte] at h; omega
      exact ⟨by simp [blk, spB], by simp⟩
    · have hb : (c == 10) = false := by simpa using hc
      have hn : ¬ c.toNat = 10 := fun h => hc (UInt8.toNat_inj.1 h)
      have hge := Lib.indexByte_ge r 10
      by_cases hm : Lib.indexByte r 10 = -1
      · refine ⟨fun _ => by simp [blk, hn, ih.1 hm], fun j h => ?_⟩
        simp [Lib.indexByte, hb, hm] at h
      · obtain ⟨i, hi⟩ : ∃ i : Nat, Lib.indexByte r 10 = i := ⟨(Lib.indexByte r 10).toNat, by omega⟩
        obtain ⟨h1, h2⟩ := ih.2 i hi
        have e : Lib.indexByte (c :: r) 10 = ((i + 1 : Nat) : Int) := by
          simp only [Lib.indexByte, hb]
          rw [if_neg (by simp), if_neg (by simpa using hm), hi]; rfl
        refine ⟨fun h => by rw [e] at h; omega, fun j h => ?_⟩
        obtain rfl : j = i + 1 := by rw [e] at h; omega
        refine ⟨?_, by simp; omega⟩
        simp only [blk, if_neg hn, h1, List.drop_succ_cons]; omega
theorem blk_sharp {l : Bs} {c : UInt8} {r : Bs} (h : l = c :: r) (hs : c.toNat = 35) : blk false l = blk true l := by
  subst h
  simp [blk, hs, spB]
theorem idx_pos {l : Bs} {c : UInt8} {r : Bs} (h : l = c :: r) (hs : c.toNat = 35) : Lib.indexByte l 10 ≠ 0 := by
  subst h
  have hb : (c == 10) = false := by
    rw [beq_eq_false_iff_ne]; intro h; subst h; simp at hs
  have := Lib.indexByte_ge r 10
  simp only [Lib.indexByte, hb, Bool.false_eq_true, if_false]
  split
  · decide
  · rename_i h; have : Lib.indexByte r 10 ≠ -1 := by simpa using h
    omega
theorem extract_drop (s : ByteArray) (k : Nat) : (s.extract k s.size).data.toList = s.data.toList.drop k := by
  rw [ByteArray.data_extract, Array.toList_extract, List.extract_eq_take_drop, List.take_of_length_le]
  rw [List.length_drop, len_data]; exact Nat.le_refl _
theorem idx_any (s : ByteArray) (k : Nat) (w : World) : Calls Try.prog 35 #[.string (s.extract k s.size), .int .u8 10] w fun e w' => e = .returned (.int .i64 (Lib.indexByte (s.data.toList.drop k) 10)) ∧ w = w' := by
  refine (Try.strings_IndexByte (s.extract k s.size) 10 w).mono ?_
  rintro e w' ⟨rfl, rfl⟩
  rw [extract_drop]
  exact ⟨rfl, rfl⟩
set_option maxHeartbeats 400000 in
theorem blank_any (s : ByteArray) (w : World) (hm : s.size ≤ 9223372036854775807) :
    Calls Try.prog 27 #[.string s] w fun e w' => e = .returned (.int .i64 (blk false s.data.toList : Nat)) ∧ w = w' := by
  go_enter Try.func27, Try.ntmps27
  go_wp2_with fail
  go_loop [3] (fun i => ∃ k : Nat, k ≤ s.size ∧ i = .int .i64 k ∧ Hid (k + blk false (s.data.toList.drop k) = blk false s.data.toList)) (fun i => s.size - (intOf i).toNat)
  case atStart => exact ⟨0, Nat.zero_le _, rfl, by show _ = _; simp⟩
  case round =>
    obtain ⟨k, hk, rfl, HK⟩ := hrel
    by_cases hlt : k < s.size
    · have HD := Lib.hid (drop_at s k hlt)
      cases hsp : spB s[k]
      · by_cases h35 : s[k].toNat = 35
        · have hq : ((s[k].toNat : Int) == 35) = true := by simp; omega
          have HI := Lib.hid (idx_any s k)
          have HB := Lib.hid (blk_idx (s.data.toList.drop k))
          have HS := Lib.hid (blk_sharp HD.out h35)
          have hge := Lib.indexByte_ge (s.data.toList.drop k) 10
          have hne := idx_pos HD.out h35
          generalize hj : Lib.indexByte (s.data.toList.drop k) 10 = j at *
          clear hj h35
          by_cases hm1 : j = -1
          · have HB1 : Hid (s.size = blk false s.data.toList) := by
              have h1 := HK.out
              rw [HS.out, HB.out.1 hm1, List.length_drop, len_data] at h1
              show _ = _
              omega
            subst hm1
            clear hge HB hne
            go_wp2_with (first | (go_at_call 34; (with_reducible refine (space_any s[k] _).mono ?_); rintro e w' ⟨rfl, rfl⟩; rw [hsp]) | (go_at_call 35; (with_reducible refine (HI.out _).mono ?_); rintro e w' ⟨rfl, rfl⟩))
            go_ret
            exact ⟨ret_int (by rw [← HB1.out]), rfl⟩
          · obtain ⟨i, rfl⟩ : ∃ i : Nat, j = i := ⟨j.toNat, by omega⟩
            have HB2 := Lib.hid (HB.out.2 i rfl)
            have hi : k + i < s.size := by have := HB2.out.2; rw [List.length_drop, len_data] at this; omega
            clear hge hm1 HB
            have hge : ¬ ((i : Int) < 0) := by omega
            have hne : 0 < i := by omega
            go_wp2_with (first | (go_at_call 34; (with_reducible refine (space_any s[k] _).mono ?_); rintro e w' ⟨rfl, rfl⟩; rw [hsp]) | (go_at_call 35; (with_reducible refine (HI.out _).mono ?_); rintro e w' ⟨rfl, rfl⟩))
            go_round
            case rel =>
              refine ⟨k + i, by omega, by go_num, ?_⟩
              have h1 := HK.out
              rw [HS.out, HB2.out.1, List.drop_drop] at h1
              show _ = _
              omega
            case measure =>
              simp [intOf]; omega
        · have hq : ((s[k].toNat : Int) == 35) = false := by simp; omega
          have HN : Hid (¬ s[k].toNat = 35) := h35
          clear h35
          go_wp2_with (first | (go_at_call 34; (with_reducible refine (space_any s[k] _).mono ?_); rintro e w' ⟨rfl, rfl⟩; rw [hsp]))
          go_ret
          have h1 := HK.out
          rw [HD.out, blk, if_neg (by rw [hsp]; simp), if_neg HN.out] at h1
          exact ⟨ret_int (by omega), rfl⟩
      · go_wp2_with (first | (go_at_call 34; (with_reducible refine (space_any s[k] _).mono ?_); rintro e w' ⟨rfl, rfl⟩; rw [hsp]))
        go_round
        case rel =>
          refine ⟨k + 1, by omega, by go_num, ?_⟩
          have h1 := HK.out
          rw [HD.out, blk, if_pos hsp] at h1
          show _ = _
          omega
        case measure => simp [intOf]; omega
    · have HE := Lib.hid (drop_end s k (by omega))
      go_wp2
      go_ret
      have h1 := HK.out
      rw [HE.out, blk] at h1
      exact ⟨ret_int (by omega), rfl⟩
end Go.Proofs.Ytglnadikhcidnaa
