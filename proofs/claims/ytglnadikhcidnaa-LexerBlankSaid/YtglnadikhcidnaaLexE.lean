/- The walk of the lexer: a piece. -/
import Derived.Test.YtglnadikhcidnaaClassB
import Derived.Test.YtglnadikhcidnaaLexD
import Derived.Test.YtglnadikhcidnaaLexPlainC
namespace Go.Proofs.Ytglnadikhcidnaa
open Go.RowKit Go.Shelf
theorem idx_marks (c : UInt8) : decide (0 ≤ Lib.indexByte [58, 59, 42] c) = mrkB c := by
  have h : ∀ n : Fin 256, decide (0 ≤ Lib.indexByte [58, 59, 42] (UInt8.ofNat n.val)) = decide (n.val = 58 ∨ n.val = 59 ∨ n.val = 42) := by decide +kernel
  have := h ⟨c.toNat, c.toNat_lt⟩
  simpa [mrkB] using this
theorem idxm_any (c : UInt8) (w : World) : Calls Try.prog 35 #[.string ⟨#[58, 59, 42]⟩, .int .u8 c.toNat] w fun e w' => e = .returned (.int .i64 (Lib.indexByte [58, 59, 42] c)) ∧ w = w' := by
  refine (Try.strings_IndexByte _ _ w).mono ?_
  rintro e w' ⟨rfl, rfl⟩
  simp
theorem str_take (s : ByteArray) (n : Nat) : s.extract 0 n = ⟨(s.data.toList.take n).toArray⟩ := by
  apply ByteArray.ext
  rw [ByteArray.data_extract]
  apply Array.toList_inj.1
  rw [Array.toList_extract, List.extract_eq_take_drop]; simp
theorem goes_pred : PredU 39 wchB := ⟨enters_of Try.func39 (by kernel_rfl) rfl, goes_any⟩
theorem digit_pred : PredU 40 digB := ⟨enters_of Try.func40 (by kernel_rfl) rfl, digit_any⟩
def pieceW (q : Bool) : PR → Value
  | .ok k t n => .tuple #[.agg #[.int .i64 k, .int .i64 0, .string ⟨t.toArray⟩], .int .i64 n, .int .i64 0]
  | .bad n => .tuple #[.agg #[.int .i64 (if q then 3 else 0), .int .i64 0, .string ⟨#[]⟩], .int .i64 n, .int .i64 2]
def pieceV (l : Bs) : Value := pieceW (decide ((l.headD 0).toNat = 34)) (pieceL l)
theorem pieceV_eq {l : Bs} {c : UInt8} {r : Bs} (h : l = c :: r) : pieceV l = pieceW (decide (c.toNat = 34)) (pieceL (c :: r)) := by subst h; rfl
theorem take_tw (p : UInt8 → Bool) (r : Bs) : r.take (tw p r) = r.takeWhile p := by
  induction r with
  | nil => rfl
  | cons c r ih =>
    cases h : p c
    · rw [tw_cons_f r h]; simp [h]
    · rw [tw_cons_t r h]; simp [h, ih]
set_option maxRecDepth 100000 in
set_option maxHeartbeats 4000000 in
theorem piece_any (s : ByteArray) (w : World) (h1 : 1 ≤ s.size) (hm : s.size ≤ 140737488355328) :
    Calls Try.prog 28 #[.string s] w (Ret (pieceV s.data.toList) w) := by
  have HS : Hid (s.data.toList = s[0] :: s.data.toList.drop 1) := by have := drop_at s 0 h1; rw [List.drop_zero] at this; exact this
  have HT := Lib.hid (fun W => text_any s W h1 hm)
  have HI := Lib.hid (idx_marks s[0])
  generalize hj : Lib.indexByte [58, 59, 42] s[0] = j at *
  have HJ : Hid (∀ W, Calls Try.prog 35 #[.string ⟨#[58, 59, 42]⟩, .int .u8 s[0].toNat] W fun e w' => e = .returned (.int .i64 j) ∧ W = w') := fun W => hj ▸ idxm_any s[0] W
  clear hj
  by_cases c34 : s[0].toNat = 34
  · have b34 : ((s[0].toNat : Int) == 34) = true := by simp; omega
    have HV : Hid (pieceV s.data.toList = pieceW true (strL (s.data.toList.drop 1)).pr) := by
      show _ = _
      rw [pieceV_eq HS.out, pieceL_str _ c34, decide_eq_true c34]
    generalize strL (s.data.toList.drop 1) = R at *
    cases R
    all_goals
      simp only [TR.app, TR.pr, txtV, List.nil_append, pieceW, if_true] at HT HV
      have HT := Lib.hid HT
      have HV := Lib.hid HV
      clear c34 HS
      go_enter Try.func28, Try.ntmps28
      go_wp2_with (first | (go_at_call 35; (with_reducible refine (HJ.out _).mono ?_); rintro e w' ⟨rfl, rfl⟩) | (go_at_call 36; (with_reducible refine (HT.out.out _).mono ?_); rintro e w' ⟨rfl, X, rfl⟩))
      rw [HV.out.out]
      refine bodyPost_ret ?_ rfl (Ret.of rfl (by repeat (first | with_reducible exact Below.refl _ _ | (with_reducible refine Below.alloc ?_ (by first | omega | (simp [go_sem] <;> omega)) _) | (with_reducible refine Below.drew ?_) | (with_reducible refine Below.drewN ?_ _) | (with_reducible refine Below.grow ?_ (by first | omega | (simp [go_sem] <;> omega)) _) | (with_reducible refine Below.setCell ?_ (by first | omega | (simp [go_sem] <;> omega)) _))))
      simp [results, Try.results28, go_sem]
  · have b34 : ((s[0].toNat : Int) == 34) = false := by simp; omega
    cases hl : lowB s[0]
    · cases hd : digB s[0]
      · have HV : Hid (pieceV s.data.toList = pieceW false (if mrkB s[0] then .ok 4 [s[0]] 1 else .bad 0)) := by
          show _ = _
          rw [pieceV_eq HS.out, pieceL, if_neg c34, decide_eq_false c34, if_neg (by rw [hl]; simp), if_neg (by rw [hd]; simp)]
        have HE : Hid (s.extract 0 1 = ⟨[s[0]].toArray⟩) := by
          show _ = _
          rw [str_take, HS.out]; rfl
        cases hm : mrkB s[0]
        · have hj : decide (0 ≤ j) = false := by have := HI.out; rw [hm] at this; exact this
          rw [hm] at HV
          simp only [pieceW, Bool.false_eq_true, if_false] at HV
          have HV := Lib.hid HV
          clear HI hm HS c34
          go_enter Try.func28, Try.ntmps28
          go_wp2_with (first | (go_at_call 35; (with_reducible refine (HJ.out _).mono ?_); rintro e w' ⟨rfl, rfl⟩) | (go_at_call 37; (with_reducible refine (small_any s[0] _).mono ?_); rintro e w' ⟨rfl, rfl⟩; rw [hl]) | (go_at_call 40; (with_reducible refine (digit_any s[0] _).mono ?_); rintro e w' ⟨rfl, rfl⟩; rw [hd]))
          rw [HV.out.out]
          refine bodyPost_ret ?_ rfl (Ret.of rfl (by repeat (first | with_reducible exact Below.refl _ _ | (with_reducible refine Below.alloc ?_ (by first | omega | (simp [go_sem] <;> omega)) _) | (with_reducible refine Below.drew ?_) | (with_reducible refine Below.drewN ?_ _) | (with_reducible refine Below.grow ?_ (by first | omega | (simp [go_sem] <;> omega)) _) | (with_reducible refine Below.setCell ?_ (by first | omega | (simp [go_sem] <;> omega)) _))))
          simp [results, Try.results28, go_sem]
        · have hj : decide (0 ≤ j) = true := by have := HI.out; rw [hm] at this; exact this
          rw [hm] at HV
          simp only [pieceW, if_true] at HV
          have HV := Lib.hid HV
          clear HI hm HS c34
          go_enter Try.func28, Try.ntmps28
          go_wp2_with (first | (go_at_call 35; (with_reducible refine (HJ.out _).mono ?_); rintro e w' ⟨rfl, rfl⟩) | (go_at_call 37; (with_reducible refine (small_any s[0] _).mono ?_); rintro e w' ⟨rfl, rfl⟩; rw [hl]) | (go_at_call 40; (with_reducible refine (digit_any s[0] _).mono ?_); rintro e w' ⟨rfl, rfl⟩; rw [hd]))
          rw [HV.out.out, ← HE.out]
          refine bodyPost_ret ?_ rfl (Ret.of rfl (by repeat (first | with_reducible exact Below.refl _ _ | (with_reducible refine Below.alloc ?_ (by first | omega | (simp [go_sem] <;> omega)) _) | (with_reducible refine Below.drew ?_) | (with_reducible refine Below.drewN ?_ _) | (with_reducible refine Below.grow ?_ (by first | omega | (simp [go_sem] <;> omega)) _) | (with_reducible refine Below.setCell ?_ (by first | omega | (simp [go_sem] <;> omega)) _))))
          simp [results, Try.results28, go_sem]
      · obtain ⟨n, hn⟩ : ∃ n, tw digB (s.data.toList.drop 1) = n := ⟨_, rfl⟩
        have hns : n < s.size := by have := tw_le digB (s.data.toList.drop 1); rw [hn, List.length_drop, len_data] at this; omega
        have HV : Hid (pieceV s.data.toList = pieceW false (if n < 9 then .ok 2 (s.data.toList.take (1 + n)) (1 + n) else .bad 0)) := by
          show _ = _
          rw [pieceV_eq HS.out, pieceL, if_neg c34, decide_eq_false c34, if_neg (by rw [hl]; simp), if_pos hd]
          have e1 : (List.takeWhile digB (s.data.toList.drop 1)).length = n := hn
          have e2 : s[0] :: List.takeWhile digB (s.data.toList.drop 1) = s.data.toList.take (1 + n) := by
            rw [← take_tw, hn, Nat.add_comm 1 n]
            conv => rhs; rw [HS.out]
            rw [List.take_succ_cons]
          rw [e1, e2]
        have HE := Lib.hid (str_take s (1 + n))
        have HR : Hid (∀ W, Calls Try.prog 38 #[.string s, .func (.func 40) #[] #[]] W fun e w' => e = .returned (.int .i64 (1 + n : Nat)) ∧ W = w') := fun W => hn ▸ row_any s _ digB W digit_pred h1 (by omega)
        clear hn
        by_cases h9 : n < 9
        · have b9 : decide ((1 : Int) + n ≤ 9) = true := by simp; omega
          rw [if_pos h9] at HV
          simp only [pieceW] at HV
          have HV := Lib.hid HV
          clear HI HS c34 h9
          go_enter Try.func28, Try.ntmps28
          go_wp2_with (first | (go_at_call 35; (with_reducible refine (HJ.out _).mono ?_); rintro e w' ⟨rfl, rfl⟩) | (go_at_call 37; (with_reducible refine (small_any s[0] _).mono ?_); rintro e w' ⟨rfl, rfl⟩; rw [hl]) | (go_at_call 40; (with_reducible refine (digit_any s[0] _).mono ?_); rintro e w' ⟨rfl, rfl⟩; rw [hd]) | (go_at_call 38; (with_reducible refine (HR.out _).mono ?_); rintro e w' ⟨rfl, rfl⟩))
          rw [HV.out.out, ← HE.out]
          refine bodyPost_ret ?_ rfl (Ret.of rfl (by repeat (first | with_reducible exact Below.refl _ _ | (with_reducible refine Below.alloc ?_ (by first | omega | (simp [go_sem] <;> omega)) _) | (with_reducible refine Below.drew ?_) | (with_reducible refine Below.drewN ?_ _) | (with_reducible refine Below.grow ?_ (by first | omega | (simp [go_sem] <;> omega)) _) | (with_reducible refine Below.setCell ?_ (by first | omega | (simp [go_sem] <;> omega)) _))))
          simp [results, Try.results28, go_sem]
        · have b9 : decide ((1 : Int) + n ≤ 9) = false := by simp; omega
          rw [if_neg h9] at HV
          simp only [pieceW, Bool.false_eq_true, if_false] at HV
          have HV := Lib.hid HV
          clear HI HS c34 h9
          go_enter Try.func28, Try.ntmps28
          go_wp2_with (first | (go_at_call 35; (with_reducible refine (HJ.out _).mono ?_); rintro e w' ⟨rfl, rfl⟩) | (go_at_call 37; (with_reducible refine (small_any s[0] _).mono ?_); rintro e w' ⟨rfl, rfl⟩; rw [hl]) | (go_at_call 40; (with_reducible refine (digit_any s[0] _).mono ?_); rintro e w' ⟨rfl, rfl⟩; rw [hd]) | (go_at_call 38; (with_reducible refine (HR.out _).mono ?_); rintro e w' ⟨rfl, rfl⟩))
          rw [HV.out.out]
          refine bodyPost_ret ?_ rfl (Ret.of rfl (by repeat (first | with_reducible exact Below.refl _ _ | (with_reducible refine Below.alloc ?_ (by first | omega | (simp [go_sem] <;> omega)) _) | (with_reducible refine Below.drew ?_) | (with_reducible refine Below.drewN ?_ _) | (with_reducible refine Below.grow ?_ (by first | omega | (simp [go_sem] <;> omega)) _) | (with_reducible refine Below.setCell ?_ (by first | omega | (simp [go_sem] <;> omega)) _))))
          simp [results, Try.results28, go_sem]
    · obtain ⟨n, hn⟩ : ∃ n, tw wchB (s.data.toList.drop 1) = n := ⟨_, rfl⟩
      have hns : n < s.size := by have := tw_le wchB (s.data.toList.drop 1); rw [hn, List.length_drop, len_data] at this; omega
      have HV : Hid (pieceV s.data.toList = pieceW false (if wordB (s.data.toList.take (1 + n)) then .ok 1 (s.data.toList.take (1 + n)) (1 + n) else .bad 0)) := by
        show _ = _
        rw [pieceV_eq HS.out, pieceL, if_neg c34, decide_eq_false c34, if_pos hl]
        have e1 : (List.takeWhile wchB (s.data.toList.drop 1)).length = n := hn
        have e2 : s[0] :: List.takeWhile wchB (s.data.toList.drop 1) = s.data.toList.take (1 + n) := by
          rw [← take_tw, hn, Nat.add_comm 1 n]
          conv => rhs; rw [HS.out]
          rw [List.take_succ_cons]
        rw [e1, e2]
      have HE := Lib.hid (str_take s (1 + n))
      have HR : Hid (∀ W, Calls Try.prog 38 #[.string s, .func (.func 39) #[] #[]] W fun e w' => e = .returned (.int .i64 (1 + n : Nat)) ∧ W = w') := fun W => hn ▸ row_any s _ wchB W goes_pred h1 (by omega)
      have HD : Hid ((s.extract 0 (1 + n)).data.toList = s.data.toList.take (1 + n)) := by show _ = _; rw [HE.out]
      have HZ : Hid ((s.extract 0 (1 + n)).size ≤ 9223372036854775807) := by show _ ≤ _; rw [ByteArray.size_extract]; omega
      have HW : Hid (∀ W, Calls Try.prog 41 #[.string (s.extract 0 (1 + n))] W (Ret (.bool (wordB (s.data.toList.take (1 + n)))) W)) := fun W => HD.out ▸ word_any (s.extract 0 (1 + n)) W HZ.out
      clear hn
      cases hw : wordB (s.data.toList.take (1 + n))
      · rw [hw] at HV HW
        simp only [pieceW, Bool.false_eq_true, if_false] at HV
        have HV := Lib.hid HV
        clear HI HS c34 hw HD HZ
        go_enter Try.func28, Try.ntmps28
        go_wp2_with (first | (go_at_call 35; (with_reducible refine (HJ.out _).mono ?_); rintro e w' ⟨rfl, rfl⟩) | (go_at_call 37; (with_reducible refine (small_any s[0] _).mono ?_); rintro e w' ⟨rfl, rfl⟩; rw [hl]) | (go_at_call 38; (with_reducible refine (HR.out _).mono ?_); rintro e w' ⟨rfl, rfl⟩) | (go_at_call 41; (with_reducible refine (HW.out _).mono ?_); rintro e w' ⟨rfl, X, rfl⟩))
        rw [HV.out.out]
        refine bodyPost_ret ?_ rfl (Ret.of rfl (by repeat (first | with_reducible exact Below.refl _ _ | (with_reducible refine Below.alloc ?_ (by first | omega | (simp [go_sem] <;> omega)) _) | (with_reducible refine Below.drew ?_) | (with_reducible refine Below.drewN ?_ _) | (with_reducible refine Below.grow ?_ (by first | omega | (simp [go_sem] <;> omega)) _) | (with_reducible refine Below.setCell ?_ (by first | omega | (simp [go_sem] <;> omega)) _))))
        simp [results, Try.results28, go_sem]
      · rw [hw] at HV HW
        simp only [pieceW, if_true] at HV
        have HV := Lib.hid HV
        clear HI HS c34 hw HD HZ
        go_enter Try.func28, Try.ntmps28
        go_wp2_with (first | (go_at_call 35; (with_reducible refine (HJ.out _).mono ?_); rintro e w' ⟨rfl, rfl⟩) | (go_at_call 37; (with_reducible refine (small_any s[0] _).mono ?_); rintro e w' ⟨rfl, rfl⟩; rw [hl]) | (go_at_call 38; (with_reducible refine (HR.out _).mono ?_); rintro e w' ⟨rfl, rfl⟩) | (go_at_call 41; (with_reducible refine (HW.out _).mono ?_); rintro e w' ⟨rfl, X, rfl⟩))
        rw [HV.out.out, ← HE.out]
        refine bodyPost_ret ?_ rfl (Ret.of rfl (by repeat (first | with_reducible exact Below.refl _ _ | (with_reducible refine Below.alloc ?_ (by first | omega | (simp [go_sem] <;> omega)) _) | (with_reducible refine Below.drew ?_) | (with_reducible refine Below.drewN ?_ _) | (with_reducible refine Below.grow ?_ (by first | omega | (simp [go_sem] <;> omega)) _) | (with_reducible refine Below.setCell ?_ (by first | omega | (simp [go_sem] <;> omega)) _))))
        simp [results, Try.results28, go_sem]
end Go.Proofs.Ytglnadikhcidnaa
