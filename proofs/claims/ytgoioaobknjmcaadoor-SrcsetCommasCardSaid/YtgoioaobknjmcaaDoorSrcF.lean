/- The walk of a text's words, one behind the other. -/
import Derived.Test.YtgoioaobknjmcaaDoorKitG
import Derived.Test.YtgoioaobknjmcaaDoorSrcC
import Derived.Test.YtgoioaobknjmcaaDoorSrcPlainC
namespace Go.Proofs.YtgoioaobknjmcaaDoor
open Go.RowKit Go.Shelf
attribute [local go_sem] Oper.semAt_some

/-- The text that a cell holds: how long it is. -/
def lenAt (w : World) (b : Nat) : Nat := match w.cell? ⟨b, 0, none⟩ with
  | some (.string t) => t.size
  | _ => 0
theorem lenAt_boxed {w : World} {b : Nat} {t : TypeId} {s : ByteArray} (h : Boxed w b t (.string s)) : lenAt w b = s.size := by
  unfold lenAt; rw [h.cell]
def nspB (c : UInt8) : Bool := !spB c
theorem trim_head {l : Bs} {c : UInt8} {r : Bs} (h : trimL l = c :: r) : spB c = false := by
  have h1 := List.head?_dropWhile_not spB l
  unfold trimL at h
  cases hd : l.dropWhile spB with
  | nil => rw [hd] at h; simp [rtrim] at h
  | cons d t =>
    rw [hd] at h h1
    have h2 : spB d = false := by simpa using h1
    have h3 : rtrim (d :: t) <+: d :: t := by
      unfold rtrim
      have := List.dropWhile_suffix spB (l := (d :: t).reverse)
      rw [← List.reverse_prefix] at this
      simpa using this
    rw [h] at h3
    obtain ⟨u, hu⟩ := h3
    simp at hu
    rw [hu.1]; exact h2
theorem trim_len (l : Bs) : (trimL l).length ≤ l.length := by
  unfold trimL rtrim
  have h1 := drop_while_len spB l
  have h2 := drop_while_len spB (l.dropWhile spB).reverse
  simp at *; omega
theorem words_nil : wordsL [] = [] := rfl
theorem words_next {c : UInt8} {r : Bs} (h : spB c = false) : wordsL (c :: r) = (c :: r).takeWhile nspB :: wordsL (trimL ((c :: r).dropWhile nspB)) := by
  rw [words_trim]; exact words_round h
set_option maxRecDepth 100000 in
set_option maxHeartbeats 4000000 in
theorem fields1_iter (s : ByteArray) (bs : Nat) (bw : Nat → Prop) (W : World) (hb : Boxed W bs 9 (.string s)) (hbw : ¬ bw bs) (hm : s.size ≤ 140737488355328) :
    IterAt Tryd.prog 59 #[.pointer (some ⟨bs, 0, none⟩)] (fun u => #[sv u]) (fun k => k = bs) bw (wordsL s.data.toList) W := by
  intro l J Jx hJ hY h0
  refine callsIn_of_wp Tryd.func59 rfl trivial ?_ rfl
  have hc := hb.cell
  have hf := hb.frozen
  have HT := Lib.hid (fun W => trim_any s W (by omega))
  simp only [Tryd.ntmps59, List.size_toArray, List.length_cons, List.length_nil, Nat.reduceAdd, Nat.reduceSub, Array.replicate_succ, Array.replicate_zero, List.push_toArray, List.append_toArray, List.nil_append, List.cons_append]
  gi_wp2_with (gi_at_call 60; refine (callsIn_wide.2 (HT.out _)).mono ?_; rintro e w' ⟨rfl, rfl⟩)
  clear hc hf
  gi_loopw [3] (fun _ wr => ∃ (t : Bs) (pre : List Bs), t.length ≤ s.size ∧ Boxed wr bs 9 (.string ⟨(trimL t).toArray⟩) ∧ J pre wr ∧ Hid (pre ++ wordsL (trimL t) = wordsL s.data.toList)) (fun _ wr => lenAt wr bs)
  case atStart =>
    exact ⟨s.data.toList, [], Nat.le_of_eq (len_data s), hb.set _, hJ _ _ _ h0 (Turned.setCell (pv := fun k => k = bs) (Turned.refl _ _) (Or.inr rfl) _), by show _ = _; rw [words_trim]; rfl⟩
  case round =>
    obtain ⟨t, pre, ht, hbx, hJs, HK⟩ := hrel
    have hh := fun c r => @trim_head t c r
    have hl := trim_len t
    generalize trimL t = u at *
    have hc := hbx.cell
    have hf := hbx.frozen
    cases u with
    | nil =>
      have HE : Hid (pre = wordsL s.data.toList) := by
        show _ = _
        rw [← HK.out, words_nil, List.append_nil]
      clear HK hh
      gi_wp2
      go_end0
      exact ⟨⟨_, rfl⟩, .inl (HE.out ▸ hJs)⟩
    | cons c r =>
      have hs := hh c r rfl
      obtain ⟨S, hS⟩ : ∃ S : ByteArray, ⟨(c :: r).toArray⟩ = S := ⟨_, rfl⟩
      have HS := Lib.hid hS
      have hz : S.size = r.length + 1 := by rw [← hS]; rfl
      have hne := ba_full (a := S) (by omega)
      have hm2 : S.size ≤ 140737488355328 := by simp at hl; omega
      rw [hS] at hbx hc
      have HD : Hid (S.data.toList = c :: r) := by show _ = _; rw [← hS]
      have hpos : 0 < S.size := by omega
      have HZ := Lib.hid hz
      clear hS hh hz
      gi_wp2
      gi_loop [3] (fun i => ∃ k : Nat, k ≤ S.size ∧ i = .int .i64 k ∧ Hid (tw nspB S.data.toList = k + tw nspB (S.data.toList.drop k))) (fun i => S.size - (intOf i).toNat)
      case atStart => exact ⟨0, by omega, rfl, by show _ = _; simp⟩
      case round =>
        obtain ⟨k, hk, rfl, HI⟩ := hrel
        by_cases hgo : ∃ h : k < S.size, spB S[k] = false
        · obtain ⟨hlt, hsp⟩ := hgo
          have HDk := Lib.hid (drop_at S k hlt)
          have HN : Hid (tw nspB S.data.toList = k + 1 + tw nspB (S.data.toList.drop (k + 1))) := by
            show _ = _
            rw [HI.out, HDk.out, tw_cons_t _ (by simp [nspB, hsp])]; omega
          gi_wp2_with (gi_at_call 27; (with_reducible refine (callsIn_wide.2 (space_any _ _)).mono ?_); rintro e w' ⟨rfl, rfl⟩; rw [hsp])
          go_round
          case rel => exact ⟨k + 1, by omega, by go_num, HN⟩
          case measure => simp [intOf]; omega
        · have hend : (∃ h : k < S.size, spB S[k] = true) ∨ k = S.size := by
            by_cases hlt : k < S.size
            · left; refine ⟨hlt, ?_⟩
              cases hq : spB S[k]
              · exact absurd ⟨hlt, hq⟩ hgo
              · rfl
            · right; omega
          have hkt : k = tw nspB S.data.toList := by
            have := HI.out
            rcases hend with ⟨hlt, hq⟩ | rfl
            · rw [drop_at S k hlt, tw_cons_f _ (by simp [nspB, hq])] at this; omega
            · rw [drop_end S _ (Nat.le_refl _)] at this; simp [tw] at this; simpa [tw] using this.symm
          have HK2 : Hid (S.extract 0 k = ⟨((c :: r).takeWhile nspB).toArray⟩) := by
            show _ = _
            rw [str_take, hkt, take_tw, HD.out]
          have HK3 : Hid (S.extract k S.size = ⟨((c :: r).dropWhile nspB).toArray⟩) := by
            show _ = _
            rw [str_drop, hkt, drop_tw, HD.out]
          have HX : Hid (pre ++ [(c :: r).takeWhile nspB] ++ wordsL (trimL ((c :: r).dropWhile nspB)) = wordsL s.data.toList) := by
            show _ = _
            rw [← HK.out, words_next hs, List.append_assoc]; rfl
          have HL : Hid (((c :: r).dropWhile nspB).length ≤ r.length) := by
            show _ ≤ _
            rw [List.dropWhile_cons_of_pos (by simp [nspB, hs])]; exact drop_while_len _ _
          obtain ⟨fn, tmps, assign, body, hy, hR⟩ := hY pre ((c :: r).takeWhile nspB) _ ⟨wordsL (trimL ((c :: r).dropWhile nspB)), HX.out⟩ hJs
          rw [sv, ← HK2.out] at hy
          clear hgo hkt
          have hend2 : (∃ h : k < S.size, spB S[k] = true) ∨ ¬ (k < S.size) := by
            rcases hend with h | h
            · exact .inl h
            · right; omega
          clear hend
          rcases hend2 with ⟨hlt, hsp⟩ | hlt
          all_goals
            gi_wp2_with (gi_at_call 27; (with_reducible refine (callsIn_wide.2 (space_any _ _)).mono ?_); rintro e w' ⟨rfl, rfl⟩; rw [hsp])
            try rw [hy]
            try go_simp
            refine hR.mono ?_
            rintro e W3 (⟨rfl, hJ3, ht3⟩ | ⟨rfl, hJx⟩)
            · have hb3 := ht3.boxed hbx hbw
              have hc3 := hb3.cell
              have hf3 := hb3.frozen
              have HT3 := Lib.hid (fun W => (by
                have h1 := trim_any (S.extract k S.size) W (by rw [ByteArray.size_extract]; omega)
                have h2 : (S.extract k S.size).data.toList = (c :: r).dropWhile nspB := by rw [HK3.out]
                rw [h2] at h1; exact h1 : Calls Tryd.prog 60 #[.string (S.extract k S.size)] W fun e w' => e = .returned (.string ⟨(trimL ((c :: r).dropWhile nspB)).toArray⟩) ∧ W = w'))
              have hLT := Lib.hid (trim_len ((c :: r).dropWhile nspB))
              gi_wp2_with (gi_at_call 60; (with_reducible refine (callsIn_wide.2 (HT3.out _)).mono ?_); rintro e w' ⟨rfl, rfl⟩)
              go_roundw
              case rel =>
                refine ⟨(c :: r).dropWhile nspB, pre ++ [(c :: r).takeWhile nspB], ?_, (hb3.set _).set _, hJ _ _ _ (hJ _ _ _ hJ3 (Turned.setCell (pv := fun k => k = bs) (Turned.refl _ _) (Or.inr rfl) _)) (Turned.setCell (pv := fun k => k = bs) (Turned.refl _ _) (Or.inr rfl) _), HX.out⟩
                have := HL.out; simp at hl; omega
              case measure =>
                have h1 := lenAt_boxed ((hb3.set (.string (S.extract k S.size))).set (.string ⟨(trimL ((c :: r).dropWhile nspB)).toArray⟩))
                have h2 := lenAt_boxed hbx
                rw [h1, h2, HZ.out]
                have h3 : (⟨(trimL ((c :: r).dropWhile nspB)).toArray⟩ : ByteArray).size = (trimL ((c :: r).dropWhile nspB)).length := rfl
                have := HL.out; have := hLT.out; omega
            · gi_wp2
              refine bodyPost_ret (results_none rfl _ _ _) rfl ?_
              exact ⟨⟨_, rfl⟩, .inr ⟨pre, _, ⟨_, HX.out⟩, hJx⟩⟩
end Go.Proofs.YtgoioaobknjmcaaDoor
