/- The walk of the lexer by the reference: a piece. -/
import Derived.Test.YtenjnliceeejlaaGreatLexI
namespace Go.Proofs.YtenjnliceeejlaaGreat
open Go.RowKit Go.Shelf
def rpieceW (f : Nat) : PR → Value
 | .ok k t n => .tuple #[.agg #[.int .i64 k, .int .i64 f, .string ⟨t.toArray⟩], .int .i64 (f + n : Nat), .int .i64 0]
 | .bad n => .tuple #[.agg #[.int .i64 0, .int .i64 0, .string ⟨#[]⟩], .int .i64 (f + n : Nat), .int .i64 2]
theorem str_mid (s : ByteArray) (f m : Nat) : s.extract f (f + m) = ⟨((s.data.toList.drop f).take m).toArray⟩ := by
 apply ByteArray.ext
 rw [ByteArray.data_extract]
 apply Array.toList_inj.1
 rw [Array.toList_extract, List.extract_eq_take_drop]; simp
set_option maxRecDepth 100000 in
set_option maxHeartbeats 8000000 in
theorem rpiece_any (s : ByteArray) (f : Nat) (w : World) (h1 : f < s.size) (hm : s.size ≤ 140737488355328) :
  Calls Tryz.prog 42 #[.string s, .int .i64 f] w (Ret (rpieceW f (pieceL (s.data.toList.drop f))) w) := by
 have HS := Lib.hid (drop_at s f h1)
 have HT := Lib.hid (fun W => rtext_any s f W h1 hm)
 have h0 : (0 : Int) ≤ f := by omega
 obtain ⟨V, hV⟩ : ∃ V, rpieceW f (pieceL (s.data.toList.drop f)) = V := ⟨_, rfl⟩
 rw [hV]
 have HP := Lib.hid hV
 clear hV
 by_cases c34 : s[f].toNat = 34
 ·have hl : decide ((97 : Int) ≤ s[f].toNat) = false := by simp; omega
  have hd : digB s[f] = false := by unfold digB; simp; omega
  have b34 : ((s[f].toNat : Int) == 34) = true := by simp; omega
  have HV : Hid (V = rpieceW f (strL (s.data.toList.drop (f + 1))).pr) := by
   show _ = _
   rw [← HP.out, HS.out, pieceL_str _ c34]
  generalize strL (s.data.toList.drop (f + 1)) = R at *
  cases R
  all_goals
   simp only [TR.app, TR.pr, rtxtV, List.nil_append, rpieceW] at HT HV
   have HT := Lib.hid HT
   have HV := Lib.hid HV
   clear c34 HS HP
   go_enter Tryz.func42, Tryz.ntmps42
   go_wp2_with (first | (go_at_call 81; (with_reducible refine (rdigit_any s[f] _).mono ?_); rintro e w' ⟨rfl, rfl⟩; rw [hd]) | (go_at_call 82; (with_reducible refine (HT.out.out _).mono ?_); rintro e w' ⟨rfl, X, rfl⟩))
   refine bodyPost_ret (v := V) ?_ rfl (Ret.of rfl (by (repeat with_reducible first | exact Below.refl _ _ | refine Below.drew ?_ | refine Below.drewN ?_ _ | refine Below.alloc ?_ ?_ _ | refine Below.grow ?_ ?_ _ | refine Below.setCell ?_ ?_ _); all_goals first | omega | (simp [go_sem] <;> omega)))
   rw [HV.out.out]
   simp [results, Tryz.results42, go_sem]
   try omega
 ·have b34 : ((s[f].toNat : Int) == 34) = false := by simp; omega
  cases hl : lowB s[f]
  ·have o1 : decide ((97 : Int) ≤ s[f].toNat) = true ∧ decide ((s[f].toNat : Int) ≤ 122) = false ∨ decide ((97 : Int) ≤ s[f].toNat) = false := by unfold lowB at hl; simp at hl; simp; omega
   cases hd : digB s[f]
   ·have HV : Hid (V = rpieceW f (if mrkB s[f] then .ok 4 [s[f]] 1 else .bad 0)) := by
     show _ = _
     rw [← HP.out, HS.out, pieceL, if_neg c34, if_neg (by rw [hl]; simp), if_neg (by rw [hd]; simp)]
    have HE : Hid (s.extract f (f + 1) = ⟨[s[f]].toArray⟩) := by
     show _ = _
     rw [str_mid, HS.out]; rfl
    cases hmk : mrkB s[f]
    ·have b1 : ((s[f].toNat : Int) == 58) = false := by unfold mrkB at hmk; simp at hmk; simp; omega
     have b2 : ((s[f].toNat : Int) == 59) = false := by unfold mrkB at hmk; simp at hmk; simp; omega
     have b3 : ((s[f].toNat : Int) == 42) = false := by unfold mrkB at hmk; simp at hmk; simp; omega
     rw [hmk] at HV
     simp only [rpieceW, Bool.false_eq_true, if_false] at HV
     have HV := Lib.hid HV
     clear hmk HS HP c34 hl
     rcases o1 with ⟨o1, o2⟩ | o1
     all_goals
      go_enter Tryz.func42, Tryz.ntmps42
      go_wp2_with (go_at_call 81; (with_reducible refine (rdigit_any s[f] _).mono ?_); rintro e w' ⟨rfl, rfl⟩; rw [hd])
      refine bodyPost_ret (v := V) ?_ rfl (Ret.of rfl (by (repeat with_reducible first | exact Below.refl _ _ | refine Below.drew ?_ | refine Below.drewN ?_ _ | refine Below.alloc ?_ ?_ _ | refine Below.grow ?_ ?_ _ | refine Below.setCell ?_ ?_ _); all_goals first | omega | (simp [go_sem] <;> omega)))
      rw [HV.out.out]
      simp [results, Tryz.results42, go_sem]
    ·have b1 : ((s[f].toNat : Int) == 58) = true ∨ ((s[f].toNat : Int) == 58) = false ∧ (((s[f].toNat : Int) == 59) = true ∨ ((s[f].toNat : Int) == 59) = false ∧ ((s[f].toNat : Int) == 42) = true) := by unfold mrkB at hmk; simp at hmk; simp; omega
     rw [hmk] at HV
     simp only [rpieceW, if_true] at HV
     rw [← HE.out] at HV
     have HV := Lib.hid HV
     have hf1 : ((f : Int) + 1).toNat = f + 1 := by omega
     clear hmk HS HP c34 hl HE
     rcases o1 with ⟨o1, o2⟩ | o1 <;> rcases b1 with b1 | ⟨b1, b2 | ⟨b2, b3⟩⟩
     all_goals
      go_enter Tryz.func42, Tryz.ntmps42
      go_wp2_with (go_at_call 81; (with_reducible refine (rdigit_any s[f] _).mono ?_); rintro e w' ⟨rfl, rfl⟩; rw [hd])
      refine bodyPost_ret (v := V) ?_ rfl (Ret.of rfl (by (repeat with_reducible first | exact Below.refl _ _ | refine Below.drew ?_ | refine Below.drewN ?_ _ | refine Below.alloc ?_ ?_ _ | refine Below.grow ?_ ?_ _ | refine Below.setCell ?_ ?_ _); all_goals first | omega | (simp [go_sem] <;> omega)))
      rw [HV.out.out]
      simp [results, Tryz.results42, go_sem]
   ·obtain ⟨n, hn⟩ : ∃ n, tw digB (s.data.toList.drop (f + 1)) = n := ⟨_, rfl⟩
    have hns : f + 1 + n ≤ s.size := by have := tw_le digB (s.data.toList.drop (f + 1)); rw [hn, List.length_drop, len_data] at this; omega
    have HV : Hid (V = rpieceW f (if n < 9 then .ok 2 ((s.data.toList.drop f).take (1 + n)) (1 + n) else .bad 0)) := by
     show _ = _
     have e1 : (List.takeWhile digB (s.data.toList.drop (f + 1))).length = n := hn
     have e2 : s[f] :: List.takeWhile digB (s.data.toList.drop (f + 1)) = (s.data.toList.drop f).take (1 + n) := by
      rw [← take_tw, hn, Nat.add_comm 1 n, HS.out, List.take_succ_cons]
     rw [← HP.out, HS.out, pieceL, if_neg c34, if_neg (by rw [hl]; simp), if_pos hd, e1, e2, ← HS.out]
    have HE := Lib.hid (str_mid s f (1 + n))
    have HN := Lib.hid hn
    clear hn HP HS
    have hl0 := Lib.hid hl
    clear c34 hl
    rcases o1 with ⟨o1, o2⟩ | o1
    all_goals
     go_enter Tryz.func42, Tryz.ntmps42
     go_wp2_with (go_at_call 81; (with_reducible refine (rdigit_any s[f] _).mono ?_); rintro e w' ⟨rfl, rfl⟩; rw [hd])
     go_loop [8] (fun i => ∃ k : Nat, f + 1 ≤ k ∧ k ≤ s.size ∧ i = .int .i64 k ∧ Hid (k + tw digB (s.data.toList.drop k) = f + 1 + n)) (fun i => s.size - (intOf i).toNat)
     case atStart => exact ⟨f + 1, Nat.le_refl _, by omega, by go_num, by show _ = _; rw [HN.out]⟩
     case round =>
      obtain ⟨k, hk1, hk2, rfl, HK⟩ := hrel
      have hx : (∃ h : k < s.size, digB s[k] = true) ∨ (k = f + 1 + n ∧ ∀ h : k < s.size, digB s[k] = false) := by
       by_cases h : k < s.size
       ·cases hb : digB s[k]
        ·refine Or.inr ⟨?_, fun _ => hb⟩
         have := HK.out
         rw [drop_at s k h, tw_cons_f _ hb] at this
         omega
        ·exact Or.inl ⟨h, hb⟩
       ·refine Or.inr ⟨?_, fun h2 => absurd h2 h⟩
        have := HK.out
        rw [drop_end s k (by omega)] at this
        simpa [tw] using this
      rcases hx with ⟨hlt, hpc⟩ | ⟨he, hpc0⟩
      ·have HX : Hid (k + 1 + tw digB (s.data.toList.drop (k + 1)) = f + 1 + n) := by
        show _ = _
        have := HK.out
        rw [drop_at s k hlt, tw_cons_t _ hpc] at this
        omega
       go_wp2_with (go_at_call 81; (with_reducible refine (rdigit_any s[k] _).mono ?_); rintro e w' ⟨rfl, rfl⟩; rw [hpc])
       go_round
       case rel => exact ⟨k + 1, by omega, by omega, by go_num, HX⟩
       case measure => simp [intOf]; omega
      ·subst he
       clear HK HN
       have hf1 : ((f : Int) + 1 + n).toNat = f + 1 + n := by omega
       have hlt : f + 1 + n < s.size ∨ ¬ f + 1 + n < s.size := by omega
       have hfe : f + (1 + n) = f + 1 + n := by omega
       rw [hfe] at HE
       by_cases h9 : n < 9
       ·have b9 : decide ((9 : Int) < (f : Int) + 1 + n - f) = false := by simp; omega
        rw [if_pos h9] at HV
        simp only [rpieceW] at HV
        rw [← HE.out] at HV
        have HV := Lib.hid HV
        clear h9 HE hfe
        rcases hlt with hlt | hlt
        ·have hpc := hpc0 hlt
         clear hpc0
         go_wp2_with (go_at_call 81; (with_reducible refine (rdigit_any s[f + 1 + n] _).mono ?_); rintro e w' ⟨rfl, rfl⟩; rw [hpc])
         refine bodyPost_ret (v := V) ?_ rfl (Ret.of rfl (by (repeat with_reducible first | exact Below.refl _ _ | refine Below.drew ?_ | refine Below.drewN ?_ _ | refine Below.alloc ?_ ?_ _ | refine Below.grow ?_ ?_ _ | refine Below.setCell ?_ ?_ _); all_goals first | omega | (simp [go_sem] <;> omega)))
         rw [HV.out.out]
         simp [results, Tryz.results42, go_sem]
         try omega
        ·clear hpc0
         go_wp2
         refine bodyPost_ret (v := V) ?_ rfl (Ret.of rfl (by (repeat with_reducible first | exact Below.refl _ _ | refine Below.drew ?_ | refine Below.drewN ?_ _ | refine Below.alloc ?_ ?_ _ | refine Below.grow ?_ ?_ _ | refine Below.setCell ?_ ?_ _); all_goals first | omega | (simp [go_sem] <;> omega)))
         rw [HV.out.out]
         simp [results, Tryz.results42, go_sem]
         try omega
       ·have b9 : decide ((9 : Int) < (f : Int) + 1 + n - f) = true := by simp; omega
        rw [if_neg h9] at HV
        simp only [rpieceW] at HV
        have HV := Lib.hid HV
        clear h9 HE hfe
        rcases hlt with hlt | hlt
        ·have hpc := hpc0 hlt
         clear hpc0
         go_wp2_with (go_at_call 81; (with_reducible refine (rdigit_any s[f + 1 + n] _).mono ?_); rintro e w' ⟨rfl, rfl⟩; rw [hpc])
         refine bodyPost_ret (v := V) ?_ rfl (Ret.of rfl (by (repeat with_reducible first | exact Below.refl _ _ | refine Below.drew ?_ | refine Below.drewN ?_ _ | refine Below.alloc ?_ ?_ _ | refine Below.grow ?_ ?_ _ | refine Below.setCell ?_ ?_ _); all_goals first | omega | (simp [go_sem] <;> omega)))
         rw [HV.out.out]
         simp [results, Tryz.results42, go_sem]
        ·clear hpc0
         go_wp2
         refine bodyPost_ret (v := V) ?_ rfl (Ret.of rfl (by (repeat with_reducible first | exact Below.refl _ _ | refine Below.drew ?_ | refine Below.drewN ?_ _ | refine Below.alloc ?_ ?_ _ | refine Below.grow ?_ ?_ _ | refine Below.setCell ?_ ?_ _); all_goals first | omega | (simp [go_sem] <;> omega)))
         rw [HV.out.out]
         simp [results, Tryz.results42, go_sem]
  ·have o1 : decide ((97 : Int) ≤ s[f].toNat) = true := by unfold lowB at hl; simp at hl; simp; omega
   have o2 : decide ((s[f].toNat : Int) ≤ 122) = true := by unfold lowB at hl; simp at hl; simp; omega
   obtain ⟨n, hn⟩ : ∃ n, tw wchB (s.data.toList.drop (f + 1)) = n := ⟨_, rfl⟩
   have hns : f + 1 + n ≤ s.size := by have := tw_le wchB (s.data.toList.drop (f + 1)); rw [hn, List.length_drop, len_data] at this; omega
   have HV : Hid (V = rpieceW f (if wordB ((s.data.toList.drop f).take (1 + n)) then .ok 1 ((s.data.toList.drop f).take (1 + n)) (1 + n) else .bad 0)) := by
    show _ = _
    have e1 : (List.takeWhile wchB (s.data.toList.drop (f + 1))).length = n := hn
    have e2 : s[f] :: List.takeWhile wchB (s.data.toList.drop (f + 1)) = (s.data.toList.drop f).take (1 + n) := by
     rw [← take_tw, hn, Nat.add_comm 1 n, HS.out, List.take_succ_cons]
    rw [← HP.out, HS.out, pieceL, if_neg c34, if_pos hl, e1, e2, ← HS.out]
   have HE := Lib.hid (str_mid s f (1 + n))
   have HN := Lib.hid hn
   clear hn HP HS
   clear c34 hl
   go_enter Tryz.func42, Tryz.ntmps42
   go_wp2_with fail
   go_loop [8] (fun i => ∃ k : Nat, f + 1 ≤ k ∧ k ≤ s.size ∧ i = .int .i64 k ∧ Hid (k + tw wchB (s.data.toList.drop k) = f + 1 + n)) (fun i => s.size - (intOf i).toNat)
   case atStart => exact ⟨f + 1, Nat.le_refl _, by omega, by go_num, by show _ = _; rw [HN.out]⟩
   case round =>
    obtain ⟨k, hk1, hk2, rfl, HK⟩ := hrel
    have hx : (∃ h : k < s.size, wchB s[k] = true) ∨ (k = f + 1 + n ∧ ∀ h : k < s.size, wchB s[k] = false) := by
     by_cases h : k < s.size
     ·cases hb : wchB s[k]
      ·refine Or.inr ⟨?_, fun _ => hb⟩
       have := HK.out
       rw [drop_at s k h, tw_cons_f _ hb] at this
       omega
      ·exact Or.inl ⟨h, hb⟩
     ·refine Or.inr ⟨?_, fun h2 => absurd h2 h⟩
      have := HK.out
      rw [drop_end s k (by omega)] at this
      simpa [tw] using this
    rcases hx with ⟨hlt, hpc⟩ | ⟨he, hpc0⟩
    ·have HX : Hid (k + 1 + tw wchB (s.data.toList.drop (k + 1)) = f + 1 + n) := by
      show _ = _
      have := HK.out
      rw [drop_at s k hlt, tw_cons_t _ hpc] at this
      omega
     go_wp2_with (go_at_call 79; (with_reducible refine (rsmall_any s[k] _).mono ?_); rintro e w' ⟨rfl, rfl⟩; rw [hpc])
     go_round
     case rel => exact ⟨k + 1, by omega, by omega, by go_num, HX⟩
     case measure => simp [intOf]; omega
    ·subst he
     clear HK HN
     have hf1 : ((f : Int) + 1 + n).toNat = f + 1 + n := by omega
     have hlt : f + 1 + n < s.size ∨ ¬ f + 1 + n < s.size := by omega
     have hfe : f + (1 + n) = f + 1 + n := by omega
     rw [hfe] at HE
     have HD : Hid ((s.extract f (f + 1 + n)).data.toList = (s.data.toList.drop f).take (1 + n)) := by show _ = _; rw [HE.out]
     have HZ : Hid ((s.extract f (f + 1 + n)).size ≤ 9223372036854775807) := by show _ ≤ _; rw [ByteArray.size_extract]; omega
     have HW : Hid (∀ W, Calls Tryz.prog 80 #[.string (s.extract f (f + 1 + n))] W fun e w' => e = .returned (.bool (wordB ((s.data.toList.drop f).take (1 + n)))) ∧ W = w') := fun W => HD.out ▸ rword_any (s.extract f (f + 1 + n)) W HZ.out
     cases hw : wordB ((s.data.toList.drop f).take (1 + n))
     ·rw [hw] at HV HW
      simp only [rpieceW, Bool.false_eq_true, if_false] at HV
      have HV := Lib.hid HV
      clear HE hfe hw HD HZ
      rcases hlt with hlt | hlt
      ·have hpc := hpc0 hlt
       clear hpc0
       go_wp2_with (first | (go_at_call 79; (with_reducible refine (rsmall_any s[f + 1 + n] _).mono ?_); rintro e w' ⟨rfl, rfl⟩; rw [hpc]) | (go_at_call 80; (with_reducible refine (HW.out _).mono ?_); rintro e w' ⟨rfl, rfl⟩))
       refine bodyPost_ret (v := V) ?_ rfl (Ret.of rfl (by (repeat with_reducible first | exact Below.refl _ _ | refine Below.drew ?_ | refine Below.drewN ?_ _ | refine Below.alloc ?_ ?_ _ | refine Below.grow ?_ ?_ _ | refine Below.setCell ?_ ?_ _); all_goals first | omega | (simp [go_sem] <;> omega)))
       rw [HV.out.out]
       simp [results, Tryz.results42, go_sem]
      ·clear hpc0
       go_wp2_with (go_at_call 80; (with_reducible refine (HW.out _).mono ?_); rintro e w' ⟨rfl, rfl⟩)
       refine bodyPost_ret (v := V) ?_ rfl (Ret.of rfl (by (repeat with_reducible first | exact Below.refl _ _ | refine Below.drew ?_ | refine Below.drewN ?_ _ | refine Below.alloc ?_ ?_ _ | refine Below.grow ?_ ?_ _ | refine Below.setCell ?_ ?_ _); all_goals first | omega | (simp [go_sem] <;> omega)))
       rw [HV.out.out]
       simp [results, Tryz.results42, go_sem]
     ·rw [hw] at HV HW
      simp only [rpieceW, if_true] at HV
      rw [← HE.out] at HV
      have HV := Lib.hid HV
      clear HE hfe hw HD HZ
      rcases hlt with hlt | hlt
      ·have hpc := hpc0 hlt
       clear hpc0
       go_wp2_with (first | (go_at_call 79; (with_reducible refine (rsmall_any s[f + 1 + n] _).mono ?_); rintro e w' ⟨rfl, rfl⟩; rw [hpc]) | (go_at_call 80; (with_reducible refine (HW.out _).mono ?_); rintro e w' ⟨rfl, rfl⟩))
       refine bodyPost_ret (v := V) ?_ rfl (Ret.of rfl (by (repeat with_reducible first | exact Below.refl _ _ | refine Below.drew ?_ | refine Below.drewN ?_ _ | refine Below.alloc ?_ ?_ _ | refine Below.grow ?_ ?_ _ | refine Below.setCell ?_ ?_ _); all_goals first | omega | (simp [go_sem] <;> omega)))
       rw [HV.out.out]
       simp [results, Tryz.results42, go_sem]
       try omega
      ·clear hpc0
       go_wp2_with (go_at_call 80; (with_reducible refine (HW.out _).mono ?_); rintro e w' ⟨rfl, rfl⟩)
       refine bodyPost_ret (v := V) ?_ rfl (Ret.of rfl (by (repeat with_reducible first | exact Below.refl _ _ | refine Below.drew ?_ | refine Below.drewN ?_ _ | refine Below.alloc ?_ ?_ _ | refine Below.grow ?_ ?_ _ | refine Below.setCell ?_ ?_ _); all_goals first | omega | (simp [go_sem] <;> omega)))
       rw [HV.out.out]
       simp [results, Tryz.results42, go_sem]
       try omega
end Go.Proofs.YtenjnliceeejlaaGreat

