/- Where a byte of a kind is. -/
import Derived.Shelf.Abstract
import Derived.Lib.Strings
import Derived.Test.YtgoioaobknjmcaaDoorClsA
import Derived.Test.YtgoioaobknjmcaaDoorKitC
namespace Go.Proofs.YtgoioaobknjmcaaDoor
open Go.RowKit Go.Shelf
def tw (p : UInt8 → Bool) (l : Bs) : Nat := (l.takeWhile p).length
theorem tw_le (p : UInt8 → Bool) (l : Bs) : tw p l ≤ l.length := takeWhile_le p l
theorem drop_at (s : ByteArray) (k : Nat) (h : k < s.size) : s.data.toList.drop k = s[k] :: s.data.toList.drop (k + 1) := by
  rw [List.drop_eq_getElem_cons (by simpa using h)]; rfl
theorem drop_end (s : ByteArray) (k : Nat) (h : s.size ≤ k) : s.data.toList.drop k = [] := by
  rw [List.drop_eq_nil_iff]; simpa using h
theorem len_data (s : ByteArray) : s.data.toList.length = s.size := by rw [Array.length_toList]; rfl
/-- A function that tells something of a byte. -/
structure PredU (g : Nat) (p : UInt8 → Bool) : Prop where
  enters : ∀ args w, (callFunc g args).run Tryd.prog w = .ok (.enter g args) w
  calls : ∀ (c : UInt8) (w : World), Calls Tryd.prog g #[.int .u8 c.toNat] w fun e w' => e = .returned (.bool (p c)) ∧ w = w'
/-- At which place the first byte of a kind is; -1: nowhere. -/
def idxF (p : UInt8 → Bool) (l : Bs) : Int := if tw (fun c => !p c) l < l.length then (tw (fun c => !p c) l : Nat) else -1
theorem tw_cons_t {p : UInt8 → Bool} {c : UInt8} (r : Bs) (h : p c = true) : tw p (c :: r) = tw p r + 1 := by simp [tw, h]
theorem tw_cons_f {p : UInt8 → Bool} {c : UInt8} (r : Bs) (h : p c = false) : tw p (c :: r) = 0 := by simp [tw, h]
theorem tw_any (p : UInt8 → Bool) (l : Bs) : l.any p = decide (tw (fun c => !p c) l < l.length) := by
  induction l with
  | nil => simp [tw]
  | cons c r ih =>
    cases h : p c
    · rw [List.any_cons, h, ih, tw_cons_t r (by simp [h])]; simp
    · rw [tw_cons_f r (by simp [h])]; simp [h]
theorem idxF_any (p : UInt8 → Bool) (l : Bs) : decide (0 ≤ idxF p l) = l.any p := by
  rw [tw_any]; unfold idxF; split <;> rename_i h <;> simp [h]
theorem Rd.byte {w : World} {A : Option Addr} {n c : Nat} {l : Bs} (h : Rd w (.slice A n c) l.length 1 (l.map bv)) (k : Nat) (hk : k < l.length) : n = l.length ∧ ∃ b off, A = some ⟨b, off, none⟩ ∧ b < w.heap.size ∧ w.cell? ⟨b, off + k, none⟩ = some (.int .u8 (l[k].toNat : Int)) := by
  obtain ⟨_, _, A', c', e, h4⟩ := h
  cases e
  obtain ⟨b, off, rfl, hb, hc⟩ := h4 (by omega)
  exact ⟨rfl, b, off, rfl, hb, hc k (bv l[k]) (by simp [hk])⟩
set_option maxHeartbeats 800000 in
theorem indexFunc_any (v : Value) (l : Bs) (g : Nat) (p : UInt8 → Bool) (w : World) (h : Rd w v l.length 1 (l.map bv)) (hp : PredU g p) :
    Calls Tryd.prog 46 #[v, .func (.func g) #[] #[]] w fun e w' => e = .returned (.int .i64 (idxF p l)) ∧ w = w' := by
  obtain ⟨eg, hp⟩ := hp
  have hp := Lib.hid hp
  have HR := Lib.hid h
  obtain ⟨_, hm, A, c, rfl, _⟩ := h
  go_enter Tryd.func46, Tryd.ntmps46
  go_wp2_with fail
  go_loop [8] (fun i => ∃ k : Nat, k ≤ l.length ∧ i = .int .i64 k ∧ Hid (tw (fun c => !p c) l = k + tw (fun c => !p c) (l.drop k))) (fun i => l.length - (intOf i).toNat)
  case atStart => exact ⟨0, by omega, rfl, by show _ = _; simp⟩
  case round =>
    obtain ⟨k, hk, rfl, HK⟩ := hrel
    by_cases hlt : k < l.length
    · obtain ⟨_, b, off, rfl, hb, hc⟩ := HR.out.byte k hlt
      have HD : Hid (l.drop k = l[k] :: l.drop (k + 1)) := List.drop_eq_getElem_cons hlt
      cases hpc : p l[k]
      · have HT : Hid (tw (fun c => !p c) l = k + 1 + tw (fun c => !p c) (l.drop (k + 1))) := by
          show _ = _
          rw [HK.out, HD.out, tw_cons_t _ (by simp [hpc])]; omega
        go_wp2_with ((with_reducible refine (hp.out l[k] _).mono ?_); rintro e w' ⟨rfl, rfl⟩; rw [hpc])
        go_round
        case rel => exact ⟨k + 1, by omega, by go_num, HT⟩
        case measure => simp [intOf]; omega
      · have HT : Hid (idxF p l = k) := by
          show _ = _
          have := HK.out
          rw [HD.out, tw_cons_f _ (by simp [hpc])] at this
          unfold idxF; rw [if_pos (by omega), this]; simp
        go_wp2_with ((with_reducible refine (hp.out l[k] _).mono ?_); rintro e w' ⟨rfl, rfl⟩; rw [hpc])
        go_ret
        exact ⟨ret_int HT.out.symm, rfl⟩
    · have HT : Hid (idxF p l = -1) := by
        show _ = _
        have := HK.out
        rw [List.drop_eq_nil_of_le (by omega)] at this
        unfold idxF; rw [if_neg]
        rw [this]; simp [tw]; omega
      go_wp2
      go_ret
      exact ⟨ret_int HT.out.symm, rfl⟩
@[go_sem] theorem conv_bytes (s : ByteArray) (w : World) : (convert 9 59 (.string s)).run Tryd.prog w = .ok (.slice (some ⟨w.heap.size, 0, none⟩) s.size (grownCap w s.size 0 5)) (w.grow (bytesGr w 5 s)) :=
  bytes_run w _ _ _ s Tryd.underlying9 Tryd.underlying59 Tryd.underlying5
end Go.Proofs.YtgoioaobknjmcaaDoor
