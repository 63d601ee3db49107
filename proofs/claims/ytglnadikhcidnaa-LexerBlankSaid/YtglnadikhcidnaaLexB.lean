/- The walks of the lexer: a row of bytes, what is passed over. -/
import Derived.Test.YtglnadikhcidnaaLexA
namespace Go.Proofs.Ytglnadikhcidnaa
open Go.RowKit
def tw (p : UInt8 → Bool) (l : Bs) : Nat := (l.takeWhile p).length
theorem tw_le (p : UInt8 → Bool) (l : Bs) : tw p l ≤ l.length := takeWhile_le p l
theorem drop_at (s : ByteArray) (k : Nat) (h : k < s.size) : s.data.toList.drop k = s[k] :: s.data.toList.drop (k + 1) := by
  rw [List.drop_eq_getElem_cons (by simpa using h)]; rfl
theorem drop_end (s : ByteArray) (k : Nat) (h : s.size ≤ k) : s.data.toList.drop k = [] := by
  rw [List.drop_eq_nil_iff]; simpa using h
theorem len_data (s : ByteArray) : s.data.toList.length = s.size := by rw [Array.length_toList]; rfl
/-- A function that tells something of a byte. -/
structure PredU (g : Nat) (p : UInt8 → Bool) : Prop where
  enters : ∀ args w, (callFunc g args).run Try.prog w = .ok (.enter g args) w
  calls : ∀ (c : UInt8) (w : World), Calls Try.prog g #[.int .u8 c.toNat] w fun e w' => e = .returned (.bool (p c)) ∧ w = w'
set_option maxHeartbeats 400000 in
theorem row_any (s : ByteArray) (g : Nat) (p : UInt8 → Bool) (w : World) (hp : PredU g p) (hs : 1 ≤ s.size) (hm : s.size ≤ 9223372036854775807) :
    Calls Try.prog 38 #[.string s, .func (.func g) #[] #[]] w fun e w' => e = .returned (.int .i64 (1 + tw p (s.data.toList.drop 1) : Nat)) ∧ w = w' := by
  obtain ⟨eg, hp⟩ := hp
  have hp := Lib.hid hp
  go_enter Try.func38, Try.ntmps38
  go_wp2_with fail
  go_loop [5] (fun i => ∃ k : Nat, k ≤ s.size ∧ i = .int .i64 k ∧ Hid (k + tw p (s.data.toList.drop k) = 1 + tw p (s.data.toList.drop 1))) (fun i => s.size - (intOf i).toNat)
  case atStart => exact ⟨1, hs, rfl, rfl⟩
  case round =>
    obtain ⟨k, hk, rfl, HK⟩ := hrel
    by_cases hlt : k < s.size
    · have HD := Lib.hid (drop_at s k hlt)
      cases hpc : p s[k]
      · go_wp2_with ((with_reducible refine (hp.out s[k] _).mono ?_); rintro e w' ⟨rfl, rfl⟩)
        go_ret
        have := HK.out
        rw [HD.out, tw, List.takeWhile_cons, hpc] at this
        exact ⟨ret_int (by simp only [Bool.false_eq_true, if_false, List.length_nil, Nat.add_zero] at this; omega), rfl⟩
      · go_wp2_with ((with_reducible refine (hp.out s[k] _).mono ?_); rintro e w' ⟨rfl, rfl⟩)
        go_round
        case rel =>
          refine ⟨k + 1, by omega, by go_num, ?_⟩
          have := HK.out
          rw [HD.out, tw, List.takeWhile_cons, hpc] at this
          show _ = _
          rw [← this]; simp [tw]; omega
        case measure => simp [intOf]; omega
    · have HE := Lib.hid (drop_end s k (by omega))
      go_wp2
      go_ret
      have := HK.out
      rw [HE.out] at this
      exact ⟨ret_int (by simp [tw] at *; omega), rfl⟩
end Go.Proofs.Ytglnadikhcidnaa
