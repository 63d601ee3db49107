/- The walk of a size's end: the closure that counts brackets, and the search over it. -/
import Derived.Test.YtgoioaobknjmcaaDoorSrcG
import Derived.Test.YtgoioaobknjmcaaDoorSrcA
import Derived.Test.YtgoioaobknjmcaaDoorKitE
namespace Go.Proofs.YtgoioaobknjmcaaDoor
open Go.RowKit Go.Shelf
def dpN (d : Nat) (c : UInt8) : Nat := if c.toNat = 40 then d + 1 else if c.toNat = 41 then d - 1 else d
def szE (d : Nat) (c : UInt8) : Bool := decide (c.toNat = 44) && decide (d = 0)
theorem sz_stop {d : Nat} {c : UInt8} {r : Bs} (h : szE (dpN d c) c = true) : szL d (c :: r) = 0 := by
  unfold szE dpN at h
  simp at h
  rw [if_neg (by omega), if_neg (by omega)] at h
  rw [szL, if_pos h]
theorem sz_go {d : Nat} {c : UInt8} {r : Bs} (h : szE (dpN d c) c = false) : szL d (c :: r) = 1 + szL (dpN d c) r := by
  unfold szE at h
  rw [szL, if_neg]
  · rfl
  · rintro ⟨h1, h2⟩
    unfold dpN at h
    rw [if_neg (by omega), if_neg (by omega)] at h
    simp [h1, h2] at h
def idxV (N n : Nat) : Int := if N < n then (N : Nat) else -1
theorem sz_le (l : Bs) : ∀ d, szL d l ≤ l.length := by
  induction l with
  | nil => intro d; simp [szL]
  | cons c r ih =>
    intro d
    cases h : szE (dpN d c) c
    · rw [sz_go h]; have := ih (dpN d c); simp; omega
    · rw [sz_stop h]; omega
set_option maxHeartbeats 800000 in
theorem size1_any (c : UInt8) (b d : Nat) (w : World) (hb : Boxed w b 3 (.int .i64 d)) (hd : d ≤ 140737488355328) :
    Calls Tryd.prog 51 #[.int .u8 c.toNat, .pointer (some ⟨b, 0, none⟩)] w fun e w' => e = .returned (.bool (szE (dpN d c) c)) ∧ Turned (fun k => k = b) w w' ∧ Boxed w' b 3 (.int .i64 (dpN d c : Nat)) := by
  have hc := hb.cell
  have hf := hb.frozen
  by_cases h40 : c.toNat = 40
  · have b40 : ((c.toNat : Int) == 40) = true := by simp; omega
    have b44 : ((c.toNat : Int) == 44) = false := by simp; omega
    have HX : Hid (szE (dpN d c) c = false) := by show _ = _; unfold szE; simp; omega
    have HN : Hid ((dpN d c : Int) = d + 1) := by show _ = _; unfold dpN; rw [if_pos h40]; omega
    have hb2 := hb.set (.int .i64 ((d : Int) + 1))
    have hc2 := hb2.cell
    have hf2 := hb2.frozen
    clear h40
    go_enter Tryd.func51, Tryd.ntmps51
    go_wp2
    go_ret
    refine ⟨by rw [HX.out]; rfl, Turned.setCell (pv := fun k => k = b) (Turned.refl _ _) (p := ⟨b, 0, none⟩) (Or.inr rfl) _, by rw [HN.out]; exact hb2⟩
  · have b40 : ((c.toNat : Int) == 40) = false := by simp; omega
    by_cases h41 : c.toNat = 41
    · have b41 : ((c.toNat : Int) == 41) = true := by simp; omega
      have b44 : ((c.toNat : Int) == 44) = false := by simp; omega
      have HX : Hid (szE (dpN d c) c = false) := by show _ = _; unfold szE; simp; omega
      rcases Nat.eq_zero_or_pos d with rfl | hd0
      · have HN : Hid (((dpN 0 c : Nat) : Int) = 0) := by show _ = _; unfold dpN; rw [if_neg h40, if_pos h41]; rfl
        have hb2 := hb.set (.int .i64 0)
        have hc2 := hb2.cell
        have hf2 := hb2.frozen
        clear h40 h41
        go_enter Tryd.func51, Tryd.ntmps51
        go_wp2
        go_ret
        refine ⟨by rw [HX.out]; rfl, Turned.setCell (pv := fun k => k = b) (Turned.refl _ _) (p := ⟨b, 0, none⟩) (Or.inr rfl) _, by rw [HN.out]; exact hb2⟩
      · have HN : Hid (((dpN d c : Nat) : Int) = (d : Int) - 1) := by show _ = _; unfold dpN; rw [if_neg h40, if_pos h41]; omega
        have hmx : max ((d : Int) - 1) 0 = (d : Int) - 1 := by omega
        have hb2 := hb.set (.int .i64 ((d : Int) - 1))
        have hc2 := hb2.cell
        have hf2 := hb2.frozen
        have hlt0 : ¬ ((d : Int) - 1 < 0) := by omega
        clear h40 h41
        go_enter Tryd.func51, Tryd.ntmps51
        go_wp2
        all_goals go_ret
        all_goals refine ⟨by rw [HX.out]; rfl, Turned.setCell (pv := fun k => k = b) (Turned.refl _ _) (p := ⟨b, 0, none⟩) (Or.inr rfl) _, by rw [HN.out]; exact hb2⟩
    · have b41 : ((c.toNat : Int) == 41) = false := by simp; omega
      have HN : Hid (dpN d c = d) := by show _ = _; unfold dpN; rw [if_neg h40, if_neg h41]
      have e44 : ((c.toNat : Int) == 44) = decide (c.toNat = 44) := by rw [Bool.eq_iff_iff]; simp; omega
      have e0 : ((d : Int) == 0) = decide (d = 0) := by rw [Bool.eq_iff_iff]; simp
      have HX : Hid (szE (dpN d c) c = (decide (c.toNat = 44) && decide (d = 0))) := by show _ = _; rw [HN.out]; rfl
      clear h40 h41
      generalize decide (c.toNat = 44) = q at *
      generalize decide (d = 0) = z at *
      cases q
      all_goals
        go_enter Tryd.func51, Tryd.ntmps51
        go_wp2
        go_ret
        exact ⟨by rw [HX.out]; simp, Turned.refl _ _, by rw [HN.out]; exact hb⟩
theorem BytesAt.turned {W W' : World} {nb : Nat} {e : TypeId} {s : ByteArray} {pv : Nat → Prop} (h : BytesAt W nb e s) (ht : Turned pv W W') (hn : ¬ pv nb) : BytesAt W' nb e s := by
  have hl := h.lt
  obtain ⟨C, m, h1, h2⟩ := h
  exact ⟨C, m, (ht.block nb hl hn).trans h1, h2⟩
set_option maxHeartbeats 800000 in
theorem szIdx_any (s : ByteArray) (nb b : Nat) (cp : Nat) (w : World) (hy : BytesAt w nb 5 s) (hne : nb ≠ b) (hb : Boxed w b 3 (.int .i64 0)) (hm : s.size ≤ 140737488355327) :
    Calls Tryd.prog 46 #[.slice (some ⟨nb, 0, none⟩) s.size cp, .func (.func 51) #[] #[.pointer (some ⟨b, 0, none⟩)]] w fun e w' => e = .returned (.int .i64 (idxV (szL 0 s.data.toList) s.size)) ∧ Turned (fun k => k = b) w w' := by
  obtain ⟨N, hN⟩ : ∃ N, szL 0 s.data.toList = N := ⟨_, rfl⟩
  have HN := Lib.hid hN
  have hle := sz_le s.data.toList 0
  rw [len_data] at hle
  rw [hN] at hle ⊢
  clear hN
  have eg := enters_of Tryd.func51 (P := Tryd.prog) (by kernel_rfl) rfl
  go_enter Tryd.func46, Tryd.ntmps46
  go_wp2_with fail
  go_loopw [8] (fun i wr => ∃ k d : Nat, k ≤ s.size ∧ d ≤ k ∧ i = .int .i64 k ∧ Boxed wr b 3 (.int .i64 d) ∧ Turned (fun k => k = b) w wr ∧ Hid (k + szL d (s.data.toList.drop k) = N)) (fun i _ => s.size - (intOf i).toNat)
  case atStart => exact ⟨0, 0, by omega, by omega, rfl, hb, Turned.refl _ _, by show _ = _; rw [List.drop_zero, HN.out]; omega⟩
  case round =>
    obtain ⟨k, d, hk, hd, rfl, hbx, ht, HK⟩ := hrel
    by_cases hlt : k < s.size
    · have hcc := (hy.turned ht hne).cell k hlt
      have HD := Lib.hid (drop_at s k hlt)
      have HT := Lib.hid ht
      clear ht
      have hdn : dpN d s[k] ≤ k + 1 := by unfold dpN; split; omega; split <;> omega
      cases hz : szE (dpN d s[k]) s[k]
      · have HS : Hid (k + 1 + szL (dpN d s[k]) (s.data.toList.drop (k + 1)) = N) := by
          show _ = _
          rw [← HK.out, HD.out, sz_go hz]; omega
        go_wp2_with ((with_reducible refine (size1_any s[k] b d _ hbx (by omega)).mono ?_); rintro e w' ⟨rfl, ht2, hb2⟩; rw [hz])
        go_roundw
        case rel => exact ⟨k + 1, _, by omega, hdn, by go_num, hb2, HT.out.trans ht2, HS⟩
        case measure => simp [intOf]; omega
      · have HS : Hid (idxV N s.size = k) := by
          show _ = _
          have := HK.out
          rw [HD.out, sz_stop hz] at this
          unfold idxV; rw [if_pos (by omega)]; omega
        go_wp2_with ((with_reducible refine (size1_any s[k] b d _ hbx (by omega)).mono ?_); rintro e w' ⟨rfl, ht2, hb2⟩; rw [hz])
        go_ret
        exact ⟨ret_int HS.out.symm, HT.out.trans ht2⟩
    · have HS : Hid (idxV N s.size = -1) := by
        show _ = _
        have := HK.out
        unfold idxV; rw [if_neg (by omega)]
      go_wp2
      go_ret
      exact ⟨ret_int HS.out.symm, ht⟩
set_option maxHeartbeats 800000 in
theorem untilSz_any (s : ByteArray) (b : Nat) (w : World) (hb : Boxed w b 3 (.int .i64 0)) (hm : s.size ≤ 140737488355327) :
    Calls Tryd.prog 26 #[.string s, .func (.func 51) #[] #[.pointer (some ⟨b, 0, none⟩)]] w fun e w' => e = .returned (.int .i64 (szL 0 s.data.toList : Nat)) ∧ Turned (fun k => k = b) w w' := by
  have hlt := hb.lt
  have hI := Lib.hid (szIdx_any s w.heap.size b (grownCap w s.size 0 5) (w.grow (bytesGr w 5 s)) (BytesAt.new w _ s) (by omega) (((Turned.refl (fun _ => False) w).grow _).boxed hb (fun h => h)) hm)
  have hle := sz_le s.data.toList 0
  rw [len_data] at hle
  have HT : Hid (Turned (fun k => k = b) w (w.grow (bytesGr w 5 s))) := (Turned.refl _ w).grow _
  by_cases hs : szL 0 s.data.toList < s.size
  · simp only [idxV, if_pos hs] at hI
    generalize szL 0 s.data.toList = N at *
    go_enter Tryd.func26, Tryd.ntmps26
    go_wp2_with (go_at_call 46; (with_reducible refine hI.out.mono ?_); rintro e w' ⟨rfl, ht⟩)
    go_ret
    exact ⟨rfl, HT.out.trans ht⟩
  · simp only [idxV, if_neg hs] at hI
    have HE : Hid (szL 0 s.data.toList = s.size) := by show _ = _; omega
    rw [HE.out] at hs hle ⊢
    go_enter Tryd.func26, Tryd.ntmps26
    go_wp2_with (go_at_call 46; (with_reducible refine hI.out.mono ?_); rintro e w' ⟨rfl, ht⟩)
    go_ret
    exact ⟨rfl, HT.out.trans ht⟩
set_option maxHeartbeats 800000 in
theorem size_any (s : ByteArray) (w : World) (hm : s.size ≤ 140737488355327) :
    Calls Tryd.prog 33 #[.string s] w (Ret (.int .i64 (szL 0 s.data.toList : Nat)) w) := by
  have hb := Boxed.new w 3 (.int .i64 0)
  have hU := Lib.hid (untilSz_any s _ _ hb hm)
  have hB : Hid (Below w.heap.size w (w.alloc (.cells #[.int .i64 0] 3))) := (Below.refl _ _).alloc (Nat.le_refl _) _
  go_enter Tryd.func33, Tryd.ntmps33
  go_wp2_with (go_at_call 26; (with_reducible refine hU.out.mono ?_); rintro e w' ⟨rfl, ht⟩)
  go_ret
  exact Ret.of rfl (hB.out.trans (ht.below (by simp) (by intro k hk; omega)))
end Go.Proofs.YtgoioaobknjmcaaDoor
