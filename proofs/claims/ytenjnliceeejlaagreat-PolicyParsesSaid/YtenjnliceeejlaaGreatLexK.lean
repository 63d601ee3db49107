/- The walk of the lexer by the reference: Scan. -/
import Derived.Test.YtenjnliceeejlaaGreatLexJ
import Derived.Test.YtenjnliceeejlaaGreatLC
namespace Go.Proofs.YtenjnliceeejlaaGreat
open Go.RowKit Go.Shelf
def SR.app (out : List Lx) : SR → SR
 | .ok l => .ok (out ++ l)
 | .bad n => .bad n
theorem SR.app_cons (out : List Lx) (x : Lx) (r : SR) : (r.cons x).app out = r.app (out ++ [x]) := by cases r <;> simp [SR.app, SR.cons]
theorem blk_end {l : Bs} (h : ∀ c r, l = c :: r → c.toNat = 10) : blk true l = blk false l := by
 cases l with
 | nil => rfl
 | cons c r => have := h c r rfl; simp [blk, this, spB]
set_option maxRecDepth 100000 in
set_option maxHeartbeats 8000000 in
theorem rscan2_any (s : ByteArray) (w : World) (hm : s.size ≤ 8192) : Calls Tryz.prog 14 #[.string s] w (scanP2 (scanL 0 s.data.toList) w) := by
 obtain ⟨R, hR⟩ : ∃ R, scanL 0 s.data.toList = R := ⟨_, rfl⟩
 rw [hR]
 have HR : Hid ((scanL 0 (s.data.toList.drop 0)).app [] = R) := by show _ = _; rw [List.drop_zero, hR]; cases R <;> rfl
 clear hR
 have h8 : decide ((8192 : Int) < s.size) = false := by simp; omega
 go_enter Tryz.func14, Tryz.ntmps14
 go_wp2_with fail
 go_loopw [5, 6] (fun v i wr => ∃ (k : Nat) (out : List Lx), k ≤ s.size ∧ out.length ≤ k ∧ i = .int .i64 k ∧ Below w.heap.size w wr ∧ wr.ownsRow w.heap.size 49 3 v out.length (lxCells out) ∧ Hid ((scanL k (s.data.toList.drop k)).app out = R)) (fun _ i _ => s.size - (intOf i).toNat)
 case atStart => exact ⟨0, [], by omega, by simp, rfl, Below.refl _ _, World.ownsRow_nil _ _ _ _, HR⟩
 case round =>
  obtain ⟨k, out, hk, hout, rfl, hB, hown, HK⟩ := hrel
  have hsz := hB.size
  have HB := Lib.hid hB
  clear hB
  by_cases hlt : k < s.size
  ·have HD := Lib.hid (drop_at s k hlt)
   cases hsp : spB s[k]
   ·by_cases h35 : s[k].toNat = 35
    ·have q35 : ((s[k].toNat : Int) == 35) = true := by simp; omega
     have HS := Lib.hid (blk_sharp HD.out h35)
     have HO := Lib.hid hown
     have hn10 : ((s[k].toNat : Int) != 10) = true := by simp; omega
     clear h35 hown
     obtain ⟨wo, rfl⟩ : ∃ wo : World, wo = wr := ⟨_, rfl⟩
     go_wp2_with (go_at_call 41; (with_reducible refine (rspace_any s[k] _).mono ?_); rintro e w' ⟨rfl, rfl⟩; rw [hsp])
     go_loop [6] (fun i => ∃ j : Nat, k ≤ j ∧ j ≤ s.size ∧ i = .int .i64 j ∧ (j = k ∨ k < j) ∧ Hid (blk true (s.data.toList.drop k) = (j - k) + blk true (s.data.toList.drop j))) (fun i => s.size - (intOf i).toNat)
     case atStart => exact ⟨k, Nat.le_refl _, by omega, rfl, Or.inl rfl, by show _ = _; simp⟩
     case round =>
      obtain ⟨j, hj1, hj2, rfl, hjk, HJ⟩ := hrel
      by_cases hgo : ∃ h : j < s.size, ¬ s[j].toNat = 10
      ·obtain ⟨hjl, hne⟩ := hgo
       have b10 : ((s[j].toNat : Int) != 10) = true := by simp; omega
       have HX : Hid (blk true (s.data.toList.drop k) = (j + 1 - k) + blk true (s.data.toList.drop (j + 1))) := by
        show _ = _
        rw [HJ.out, drop_at s j hjl]; simp only [blk, if_neg hne]; omega
       clear hne
       go_wp2
       go_round
       case rel => exact ⟨j + 1, by omega, by omega, by go_num, Or.inr (by omega), HX⟩
       case measure => simp [intOf]; omega
      ·have hjs : k < j := by
        rcases hjk with h | h
        ·subst h; exact absurd ⟨hlt, by simp at hn10; omega⟩ hgo
        ·exact h
       have HX : Hid ((scanL j (s.data.toList.drop j)).app out = R) := by
        show _ = _
        have h1 : blk true (s.data.toList.drop j) = blk false (s.data.toList.drop j) := by
         refine blk_end fun c r hc => ?_
         by_cases hjl : j < s.size
         ·rw [drop_at s j hjl] at hc
          cases hc
          exact Classical.byContradiction fun h => hgo ⟨hjl, h⟩
         ·rw [drop_end s j (by omega)] at hc; cases hc
        have h2 := scanL_skip (a := k) (l := s.data.toList.drop k) (j - k) (by rw [List.drop_drop, show k + (j - k) = j by omega, HS.out, HJ.out, h1])
        rw [List.drop_drop, show k + (j - k) = j by omega] at h2
        rw [← h2]; exact HK.out
       have hx : (∃ h : j < s.size, ((s[j].toNat : Int) != 10) = false) ∨ ¬ j < s.size := by
        by_cases hjl : j < s.size
        ·refine Or.inl ⟨hjl, ?_⟩
         have : s[j].toNat = 10 := Classical.byContradiction fun h => hgo ⟨hjl, h⟩
         simp; omega
        ·exact Or.inr hjl
       clear hgo hjk hn10
       rcases hx with ⟨hjl, b10⟩ | hjl
       all_goals
        go_wp2
        go_roundw
        case rel => exact ⟨j, out, by omega, by omega, rfl, HB.out, HO.out, HX⟩
        case measure => simp [intOf]; omega
    ·have q35 : ((s[k].toNat : Int) == 35) = false := by simp; omega
     have h0 : blk false (s.data.toList.drop k) = 0 := by rw [HD.out]; simp [blk, hsp, h35]
     have hne : s.data.toList.drop k ≠ [] := by rw [HD.out]; simp
     have HP := Lib.hid (fun W => rpiece_any s k W hlt (by omega))
     cases hp : pieceL (s.data.toList.drop k) with
     | ok kd t n =>
      rw [hp] at HP
      simp only [rpieceW] at HP
      have HP := Lib.hid HP
      have hn := (pieceL_le _).1 kd t n hp
      rw [List.length_drop, len_data] at hn
      have HX : Hid ((scanL (k + n) (s.data.toList.drop (k + n))).app (out ++ [⟨kd, k, t⟩]) = R) := by
       have := HK.out
       rw [scanL_ok hne h0 hp, SR.app_cons, List.drop_drop] at this
       exact this
      have HL : Hid (lxCells (out ++ [⟨kd, k, t⟩]) = lxCells out ++ [.int .i64 kd, .int .i64 k, .string ⟨t.toArray⟩]) := lxCells_snoc out _
      have HL2 : Hid ((out ++ [(⟨kd, k, t⟩ : Lx)]).length = out.length + 1) := by show _ = _; simp
      clear h0 hne hp h35
      go_wp2_with (first | (go_at_call 41; (with_reducible refine (rspace_any s[k] _).mono ?_); rintro e w' ⟨rfl, rfl⟩; rw [hsp]) | (go_at_call 42; (with_reducible refine (HP.out.out _).mono ?_); rintro e w' ⟨rfl, X, rfl⟩) | (at_builtin; refine append_abs rfl _ _ 34 rfl lex_row w.heap.size rfl (((own_grow hown X).alloc _).alloc _) (by simp [go_sem] <;> omega) ⟨_, 0, none⟩ 1 1 [.int .i64 kd, .int .i64 k, .string ⟨t.toArray⟩] rfl rfl (new_cells (c := #[.int .i64 kd, .int .i64 k, .string ⟨t.toArray⟩]) (by simp [go_sem])) (by simp [Value.oneCell']) (by unfold maxLen; omega) (by omega) ?_; intro v1 W1 hown1 hg1; have hB1 := own_step hg1 (((own_grow hown X).alloc _).alloc _) (HB.out.trans (by (repeat with_reducible first | exact Below.refl _ _ | refine Below.drew ?_ | refine Below.drewN ?_ _ | refine Below.alloc ?_ ?_ _ | refine Below.grow ?_ ?_ _ | refine Below.setCell ?_ ?_ _); all_goals first | omega | (simp [go_sem] <;> omega))); clear hg1))
      go_roundw
      case rel => exact ⟨k + n, out ++ [⟨kd, k, t⟩], by omega, by rw [HL2.out]; omega, by go_num, hB1.out, by rw [HL.out, HL2.out]; exact hown1, HX⟩
      case measure => simp [intOf]; omega
     | bad n =>
      rw [hp] at HP
      simp only [rpieceW] at HP
      have HP := Lib.hid HP
      have HX : Hid (R = .bad (k + n)) := by
       show _ = _
       rw [← HK.out, scanL_bad hne h0 hp]; rfl
      clear h0 hne hp h35
      go_wp2_with (first | (go_at_call 41; (with_reducible refine (rspace_any s[k] _).mono ?_); rintro e w' ⟨rfl, rfl⟩; rw [hsp]) | (go_at_call 42; (with_reducible refine (HP.out.out _).mono ?_); rintro e w' ⟨rfl, X, rfl⟩))
      go_ret3
      rw [HX.out]
      exact ⟨.slice none 0 0, HB.out.trans (by (repeat with_reducible first | exact Below.refl _ _ | refine Below.drew ?_ | refine Below.drewN ?_ _ | refine Below.alloc ?_ ?_ _ | refine Below.grow ?_ ?_ _ | refine Below.setCell ?_ ?_ _); all_goals first | omega | (simp [go_sem] <;> omega)), rfl⟩
   ·have HX : Hid ((scanL (k + 1) (s.data.toList.drop (k + 1))).app out = R) := by
     show _ = _
     rw [← HK.out, scanL_skip (a := k) (l := s.data.toList.drop k) 1 (by rw [HD.out]; simp only [blk, hsp, if_true, List.drop_succ_cons, List.drop_zero]; omega), List.drop_drop]
    go_wp2_with (go_at_call 41; (with_reducible refine (rspace_any s[k] _).mono ?_); rintro e w' ⟨rfl, rfl⟩; rw [hsp])
    go_roundw
    case rel => exact ⟨k + 1, out, by omega, by omega, by go_num, HB.out, hown, HX⟩
    case measure => simp [intOf]; omega
  ·have HX : Hid (R = .ok out) := by
    show _ = _
    rw [← HK.out, drop_end s k (by omega), scanL_eq]; simp [blk, SR.app]
   have hrd := Lib.hid hown
   clear hown
   go_wp2
   go_ret3
   rw [HX.out]
   exact ⟨_, HB.out, rfl, hrd.out⟩
end Go.Proofs.YtenjnliceeejlaaGreat

