/- The walks of the lexer by the reference: a string, a piece. -/
import Derived.Test.YtenjnliceeejlaaGreatLC
namespace Go.Proofs.YtenjnliceeejlaaGreat
open Go.RowKit Go.Shelf
def rtxtV (f : Nat) : TR → Value
 | .ok t n => .tuple #[.string ⟨t.toArray⟩, .int .i64 n, .int .i64 0]
 | .bad n => .tuple #[.string ⟨#[]⟩, .int .i64 n, .int .i64 2]
 | .op => .tuple #[.string ⟨#[]⟩, .int .i64 f, .int .i64 2]
set_option maxRecDepth 100000 in
set_option maxHeartbeats 2000000 in
theorem rtext_any (s : ByteArray) (f : Nat) (w : World) (h1 : f < s.size) (hm : s.size ≤ 140737488355328) :
  Calls Tryz.prog 82 #[.string s, .int .i64 f] w (Ret (rtxtV f ((strL (s.data.toList.drop (f + 1))).app [] (f + 1))) w) := by
 obtain ⟨R, hR⟩ : ∃ R, (strL (s.data.toList.drop (f + 1))).app [] (f + 1) = R := ⟨_, rfl⟩
 rw [hR]
 have HR := Lib.hid hR
 clear hR
 go_enter Tryz.func82, Tryz.ntmps82
 go_wp2_with fail
 go_loopw [7, 8] (fun v i wr => ∃ (k : Nat) (out : Bs) (X : Gr), k ≤ s.size ∧ out.length ≤ k ∧ i = .int .i64 k ∧ wr = w.grow X ∧ (w.grow X).ownsRow w.heap.size 5 1 v out.length (out.map bv) ∧ Hid ((strL (s.data.toList.drop k)).app out k = R)) (fun _ i _ => s.size - (intOf i).toNat)
 case atStart => exact ⟨f + 1, [], _, by omega, by simp, by go_num, (grow_refl w).symm, by rw [grow_refl]; exact own_nil_bytes w, HR⟩
 case round =>
  obtain ⟨k, out, X, hk, hout, rfl, rfl, hown, HK⟩ := hrel
  by_cases hlt : k < s.size
  ·have HD := Lib.hid (drop_at s k hlt)
   by_cases c34 : s[k].toNat = 34
   ·have b34 : ((s[k].toNat : Int) == 34) = true := by simp; omega
    have HV : Hid (rtxtV f R = .tuple #[.string ⟨out.toArray⟩, .int .i64 (k + 1 : Nat), .int .i64 0]) := by
     show _ = _
     rw [← HK.out, HD.out, strL_quote _ c34]; simp [TR.app, rtxtV]; omega
    clear c34 h1
    have hcv := (Rd.own hown).str 97 9 5 Tryz.underlying97 Tryz.underlying5 Tryz.underlying9
    go_wp2
    go_ret3
    exact Ret.of (by rw [HV.out]; rfl) (by (repeat with_reducible first | exact Below.refl _ _ | refine Below.drew ?_ | refine Below.drewN ?_ _ | refine Below.alloc ?_ ?_ _ | refine Below.grow ?_ ?_ _ | refine Below.setCell ?_ ?_ _); all_goals first | omega | (simp [go_sem] <;> omega))
   ·have b34 : ((s[k].toNat : Int) == 34) = false := by simp; omega
    by_cases c92 : s[k].toNat = 92
    ·have b92 : ((s[k].toNat : Int) == 92) = true := by simp; omega
     by_cases hk1 : k + 1 < s.size
     ·have HD1 := Lib.hid (drop_at s (k + 1) hk1)
      by_cases hd : s[k + 1].toNat = 92 ∨ s[k + 1].toNat = 34
      ·have HV : Hid ((strL (s.data.toList.drop (k + 2))).app (out ++ [s[k + 1]]) (k + 2) = R) := by
        have := HK.out
        rw [HD.out, HD1.out, strL_esc _ c92 hd, TR.app_app] at this
        exact this
       have HL : Hid ((out ++ [s[k + 1]]).map bv = out.map bv ++ [.int .u8 (s[k + 1].toNat : Int)]) := by show _ = _; simp [bv]
       have HL2 : Hid ((out ++ [s[k + 1]]).length = out.length + 1) := by show _ = _; simp
       have hd2 : ((s[k + 1].toNat : Int) == 92) = true ∨ ((s[k + 1].toNat : Int) == 92) = false ∧ ((s[k + 1].toNat : Int) == 34) = true := by
        by_cases h : s[k + 1].toNat = 92
        ·exact Or.inl (by simp; omega)
        ·exact Or.inr ⟨by simp; omega, by simp; omega⟩
       have hi : (0 : Int) ≤ (k : Int) + 1 := by omega
       have hi2 : ((k : Int) + 1).toNat = k + 1 := by omega
       clear c34 c92 hd
       rcases hd2 with b1 | ⟨b1, b2⟩
       all_goals
        go_wp2_with (at_builtin; refine append_grow rfl _ _ 97 rfl bytes_row w rfl (hown.alloc _) (by (repeat with_reducible first | exact Below.refl _ _ | refine Below.drew ?_ | refine Below.drewN ?_ _ | refine Below.alloc ?_ ?_ _ | refine Below.grow ?_ ?_ _ | refine Below.setCell ?_ ?_ _); all_goals first | omega | (simp [go_sem] <;> omega)) ⟨_, 0, none⟩ 1 1 [.int .u8 (s[k + 1].toNat : Int)] rfl rfl (new_cells (c := #[.int .u8 (s[k + 1].toNat : Int)]) (by simp [go_sem])) (by simp [Value.oneCell']) (by unfold maxLen; omega) (by omega) ?_; intro v' Z' hown' _)
        go_roundw
        case rel => exact ⟨k + 2, out ++ [s[k + 1]], Z', by omega, by rw [HL2.out]; omega, by go_num, rfl, by rw [HL.out, HL2.out]; exact hown', HV⟩
        case measure => simp [intOf]; omega
      ·have HV : Hid (rtxtV f R = .tuple #[.string ⟨#[]⟩, .int .i64 k, .int .i64 2]) := by
        show _ = _
        rw [← HK.out, HD.out, HD1.out, strL_esc_bad _ c92 hd]; simp [TR.app, rtxtV]
       have b1 : ((s[k + 1].toNat : Int) == 92) = false := by simp; omega
       have b2 : ((s[k + 1].toNat : Int) == 34) = false := by simp; omega
       have hi : (0 : Int) ≤ (k : Int) + 1 := by omega
       have hi2 : ((k : Int) + 1).toNat = k + 1 := by omega
       have o1 : decide ((s[k].toNat : Int) < 32) = false := by simp; omega
       have o2 : decide ((127 : Int) ≤ s[k].toNat) = false := by simp; omega
       clear c34 c92 hd
       go_wp2
       go_ret3
       exact Ret.of (by rw [HV.out]; rfl) (by (repeat with_reducible first | exact Below.refl _ _ | refine Below.drew ?_ | refine Below.drewN ?_ _ | refine Below.alloc ?_ ?_ _ | refine Below.grow ?_ ?_ _ | refine Below.setCell ?_ ?_ _); all_goals first | omega | (simp [go_sem] <;> omega))
     ·have HE := Lib.hid (drop_end s (k + 1) (by omega))
      have HV : Hid (rtxtV f R = .tuple #[.string ⟨#[]⟩, .int .i64 k, .int .i64 2]) := by
       show _ = _
       rw [← HK.out, HD.out, HE.out, strL_esc_end c92]; simp [TR.app, rtxtV]
      have o1 : decide ((s[k].toNat : Int) < 32) = false := by simp; omega
      have o2 : decide ((127 : Int) ≤ s[k].toNat) = false := by simp; omega
      clear c34 c92
      go_wp2
      go_ret3
      exact Ret.of (by rw [HV.out]; rfl) (by (repeat with_reducible first | exact Below.refl _ _ | refine Below.drew ?_ | refine Below.drewN ?_ _ | refine Below.alloc ?_ ?_ _ | refine Below.grow ?_ ?_ _ | refine Below.setCell ?_ ?_ _); all_goals first | omega | (simp [go_sem] <;> omega))
    ·have b92 : ((s[k].toNat : Int) == 92) = false := by simp; omega
     cases ho : oddB s[k]
     ·have o1 : decide ((s[k].toNat : Int) < 32) = false := by unfold oddB at ho; simp at ho; simp; omega
      have o2 : decide ((127 : Int) ≤ s[k].toNat) = false := by unfold oddB at ho; simp at ho; simp; omega
      have HV : Hid ((strL (s.data.toList.drop (k + 1))).app (out ++ [s[k]]) (k + 1) = R) := by
       have := HK.out
       rw [HD.out, strL_plain _ c34 c92 (by rw [ho]; simp), TR.app_app] at this
       exact this
      have HL : Hid ((out ++ [s[k]]).map bv = out.map bv ++ [.int .u8 (s[k].toNat : Int)]) := by show _ = _; simp [bv]
      have HL2 : Hid ((out ++ [s[k]]).length = out.length + 1) := by show _ = _; simp
      clear c34 c92 ho
      go_wp2_with (first | (at_builtin; refine append_grow rfl _ _ 97 rfl bytes_row w rfl (hown.alloc _) (by (repeat with_reducible first | exact Below.refl _ _ | refine Below.drew ?_ | refine Below.drewN ?_ _ | refine Below.alloc ?_ ?_ _ | refine Below.grow ?_ ?_ _ | refine Below.setCell ?_ ?_ _); all_goals first | omega | (simp [go_sem] <;> omega)) ⟨_, 0, none⟩ 1 1 [.int .u8 (s[k].toNat : Int)] rfl rfl (new_cells (c := #[.int .u8 (s[k].toNat : Int)]) (by simp [go_sem])) (by simp [Value.oneCell']) (by unfold maxLen; omega) (by omega) ?_; intro v' Z' hown' _))
      go_roundw
      case rel => exact ⟨k + 1, out ++ [s[k]], Z', by omega, by rw [HL2.out]; omega, by go_num, rfl, by rw [HL.out, HL2.out]; exact hown', HV⟩
      case measure => simp [intOf]; omega
     ·have HV : Hid (rtxtV f R = .tuple #[.string ⟨#[]⟩, .int .i64 k, .int .i64 2]) := by
       show _ = _
       rw [← HK.out, HD.out, strL_odd _ c34 c92 ho]; simp [TR.app, rtxtV]
      have o1 : decide ((s[k].toNat : Int) < 32) = true ∨ decide ((s[k].toNat : Int) < 32) = false ∧ decide ((127 : Int) ≤ s[k].toNat) = true := by unfold oddB at ho; simp at ho; simp; omega
      clear c34 c92 ho
      rcases o1 with o1 | ⟨o1, o2⟩
      all_goals
       go_wp2
       go_ret3
       exact Ret.of (by rw [HV.out]; rfl) (by (repeat with_reducible first | exact Below.refl _ _ | refine Below.drew ?_ | refine Below.drewN ?_ _ | refine Below.alloc ?_ ?_ _ | refine Below.grow ?_ ?_ _ | refine Below.setCell ?_ ?_ _); all_goals first | omega | (simp [go_sem] <;> omega))
  ·have HE := Lib.hid (drop_end s k (by omega))
   have HV : Hid (rtxtV f R = .tuple #[.string ⟨#[]⟩, .int .i64 f, .int .i64 2]) := by
    show _ = _
    rw [← HK.out, HE.out, strL]; simp [TR.app, rtxtV]
   go_wp2
   go_ret3
   exact Ret.of (by rw [HV.out]; rfl) (by (repeat with_reducible first | exact Below.refl _ _ | refine Below.drew ?_ | refine Below.drewN ?_ _ | refine Below.alloc ?_ ?_ _ | refine Below.grow ?_ ?_ _ | refine Below.setCell ?_ ?_ _); all_goals first | omega | (simp [go_sem] <;> omega))
end Go.Proofs.YtenjnliceeejlaaGreat

