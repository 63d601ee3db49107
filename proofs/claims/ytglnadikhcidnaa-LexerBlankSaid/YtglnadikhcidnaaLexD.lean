/- The walk of the lexer: a string. -/
import Derived.Test.YtglnadikhcidnaaLexC
import Derived.Test.YtglnadikhcidnaaKitC
namespace Go.Proofs.Ytglnadikhcidnaa
open Go.RowKit
theorem bytes_row : SlT Try.prog 46 5 (.int .u8 0) 1 1 := ⟨by kernel_rfl, by kernel_rfl, by kernel_rfl, by decide⟩
def txtV : TR → Value
  | .ok t n => .tuple #[.string ⟨t.toArray⟩, .int .i64 n, .int .i64 0]
  | .bad n => .tuple #[.string ⟨#[]⟩, .int .i64 n, .int .i64 2]
  | .op => .tuple #[.string ⟨#[]⟩, .int .i64 0, .int .i64 2]
theorem own_nil_bytes (w : World) : w.ownsRow w.heap.size 5 1 (.slice none 0 0) ([] : Bs).length (([] : Bs).map bv) := World.ownsRow_nil _ _ _ _
set_option maxRecDepth 100000 in
set_option maxHeartbeats 2000000 in
theorem text_any (s : ByteArray) (w : World) (h1 : 1 ≤ s.size) (hm : s.size ≤ 140737488355328) :
    Calls Try.prog 36 #[.string s] w (Ret (txtV ((strL (s.data.toList.drop 1)).app [] 1)) w) := by
  obtain ⟨R, hR⟩ : ∃ R, (strL (s.data.toList.drop 1)).app [] 1 = R := ⟨_, rfl⟩
  rw [hR]
  have HR := Lib.hid hR
  clear hR
  go_enter Try.func36, Try.ntmps36
  go_wp2_with fail
  go_loopw [5, 6] (fun v i wr => ∃ (k : Nat) (out : Bs) (X : Gr), k ≤ s.size ∧ out.length ≤ k ∧ i = .int .i64 k ∧ wr = w.grow X ∧ (w.grow X).ownsRow w.heap.size 5 1 v out.length (out.map bv) ∧ Hid ((strL (s.data.toList.drop k)).app out k = R)) (fun _ i _ => s.size - (intOf i).toNat)
  case atStart => exact ⟨1, [], _, h1, by simp, rfl, (grow_refl w).symm, by rw [grow_refl]; exact own_nil_bytes w, HR⟩
  case round =>
    obtain ⟨k, out, X, hk, hout, rfl, rfl, hown, HK⟩ := hrel
    by_cases hlt : k < s.size
    · have HD := Lib.hid (drop_at s k hlt)
      by_cases c34 : s[k].toNat = 34
      · have b34 : ((s[k].toNat : Int) == 34) = true := by simp; omega
        have HV : Hid (txtV R = .tuple #[.string ⟨out.toArray⟩, .int .i64 (k + 1 : Nat), .int .i64 0]) := by
          show _ = _
          rw [← HK.out, HD.out, strL_quote _ c34]; simp [TR.app, txtV]; omega
        clear c34
        have hcv := (Rd.own hown).str 46 9 5 Try.underlying46 Try.underlying5 Try.underlying9
        go_wp2
        go_ret3
        exact Ret.of (by rw [HV.out]; rfl) (by repeat (first | with_reducible exact Below.refl _ _ | (with_reducible refine Below.alloc ?_ (by first | omega | (simp [go_sem] <;> omega)) _) | (with_reducible refine Below.drew ?_) | (with_reducible refine Below.drewN ?_ _) | (with_reducible refine Below.grow ?_ (by first | omega | (simp [go_sem] <;> omega)) _) | (with_reducible refine Below.setCell ?_ (by first | omega | (simp [go_sem] <;> omega)) _)))
      · have b34 : ((s[k].toNat : Int) == 34) = false := by simp; omega
        by_cases c92 : s[k].toNat = 92
        · have b92 : ((s[k].toNat : Int) == 92) = true := by simp; omega
          by_cases hk1 : k + 1 < s.size
          · have HD1 := Lib.hid (drop_at s (k + 1) hk1)
            by_cases hd : s[k + 1].toNat = 92 ∨ s[k + 1].toNat = 34
            · have HV : Hid ((strL (s.data.toList.drop (k + 2))).app (out ++ [s[k + 1]]) (k + 2) = R) := by
                have := HK.out
                rw [HD.out, HD1.out, strL_esc _ c92 hd, TR.app_app] at this
                exact this
              have HL : Hid ((out ++ [s[k + 1]]).map bv = out.map bv ++ [.int .u8 (s[k + 1].toNat : Int)]) := by show _ = _; simp [bv]
              have HL2 : Hid ((out ++ [s[k + 1]]).length = out.length + 1) := by show _ = _; simp
              have hd2 : ((s[k + 1].toNat : Int) == 92) = true ∨ ((s[k + 1].toNat : Int) == 92) = false ∧ ((s[k + 1].toNat : Int) == 34) = true := by
                by_cases h : s[k + 1].toNat = 92
                · exact Or.inl (by simp; omega)
                · exact Or.inr ⟨by simp; omega, by simp; omega⟩
              have hi : (0 : Int) ≤ (k : Int) + 1 := by omega
              have hi2 : ((k : Int) + 1).toNat = k + 1 := by omega
              clear c34 c92 hd
              rcases hd2 with b1 | ⟨b1, b2⟩
              all_goals
                go_wp2_with (at_builtin; refine append_grow rfl _ _ 46 rfl bytes_row w rfl (hown.alloc _) (by repeat (first | with_reducible exact Below.refl _ _ | (with_reducible refine Below.alloc ?_ (by first | omega | (simp [go_sem] <;> omega)) _) | (with_reducible refine Below.drew ?_) | (with_reducible refine Below.drewN ?_ _) | (with_reducible refine Below.grow ?_ (by first | omega | (simp [go_sem] <;> omega)) _) | (with_reducible refine Below.setCell ?_ (by first | omega | (simp [go_sem] <;> omega)) _))) ⟨_, 0, none⟩ 1 1 [.int .u8 (s[k + 1].toNat : Int)] rfl rfl (new_cells (c := #[.int .u8 (s[k + 1].toNat : Int)]) (by simp [go_sem])) (by simp [Value.oneCell']) (by unfold maxLen; omega) (by omega) ?_; intro v' Z' hown' _)
                go_roundw
                case rel => exact ⟨k + 2, out ++ [s[k + 1]], Z', by omega, by rw [HL2.out]; omega, by go_num, rfl, by rw [HL.out, HL2.out]; exact hown', HV⟩
                case measure => simp [intOf]; omega
            · have HV : Hid (txtV R = .tuple #[.string ⟨#[]⟩, .int .i64 k, .int .i64 2]) := by
                show _ = _
                rw [← HK.out, HD.out, HD1.out, strL_esc_bad _ c92 hd]; simp [TR.app, txtV]
              have b1 : ((s[k + 1].toNat : Int) == 92) = false := by simp; omega
              have b2 : ((s[k + 1].toNat : Int) == 34) = false := by simp; omega
              have hi : (0 : Int) ≤ (k : Int) + 1 := by omega
              have hi2 : ((k : Int) + 1).toNat = k + 1 := by omega
              clear c34 c92 hd
              go_wp2
              go_ret3
              exact Ret.of (by rw [HV.out]; rfl) (by repeat (first | with_reducible exact Below.refl _ _ | (with_reducible refine Below.alloc ?_ (by first | omega | (simp [go_sem] <;> omega)) _) | (with_reducible refine Below.drew ?_) | (with_reducible refine Below.drewN ?_ _) | (with_reducible refine Below.grow ?_ (by first | omega | (simp [go_sem] <;> omega)) _) | (with_reducible refine Below.setCell ?_ (by first | omega | (simp [go_sem] <;> omega)) _)))
          · have HE := Lib.hid (drop_end s (k + 1) (by omega))
            have HV : Hid (txtV R = .tuple #[.string ⟨#[]⟩, .int .i64 k, .int .i64 2]) := by
              show _ = _
              rw [← HK.out, HD.out, HE.out, strL_esc_end c92]; simp [TR.app, txtV]
            clear c34 c92
            go_wp2
            go_ret3
            exact Ret.of (by rw [HV.out]; rfl) (by repeat (first | with_reducible exact Below.refl _ _ | (with_reducible refine Below.alloc ?_ (by first | omega | (simp [go_sem] <;> omega)) _) | (with_reducible refine Below.drew ?_) | (with_reducible refine Below.drewN ?_ _) | (with_reducible refine Below.grow ?_ (by first | omega | (simp [go_sem] <;> omega)) _) | (with_reducible refine Below.setCell ?_ (by first | omega | (simp [go_sem] <;> omega)) _)))
        · have b92 : ((s[k].toNat : Int) == 92) = false := by simp; omega
          cases ho : oddB s[k]
          · have HV : Hid ((strL (s.data.toList.drop (k + 1))).app (out ++ [s[k]]) (k + 1) = R) := by
              have := HK.out
              rw [HD.out, strL_plain _ c34 c92 (by rw [ho]; simp), TR.app_app] at this
              exact this
            have HL : Hid ((out ++ [s[k]]).map bv = out.map bv ++ [.int .u8 (s[k].toNat : Int)]) := by show _ = _; simp [bv]
            have HL2 : Hid ((out ++ [s[k]]).length = out.length + 1) := by show _ = _; simp
            clear c34 c92
            go_wp2_with (first | (go_at_call 21; (with_reducible refine (odd_any s[k] _).mono ?_); rintro e w' ⟨rfl, rfl⟩; rw [ho]) | (at_builtin; refine append_grow rfl _ _ 46 rfl bytes_row w rfl (hown.alloc _) (by repeat (first | with_reducible exact Below.refl _ _ | (with_reducible refine Below.alloc ?_ (by first | omega | (simp [go_sem] <;> omega)) _) | (with_reducible refine Below.drew ?_) | (with_reducible refine Below.drewN ?_ _) | (with_reducible refine Below.grow ?_ (by first | omega | (simp [go_sem] <;> omega)) _) | (with_reducible refine Below.setCell ?_ (by first | omega | (simp [go_sem] <;> omega)) _))) ⟨_, 0, none⟩ 1 1 [.int .u8 (s[k].toNat : Int)] rfl rfl (new_cells (c := #[.int .u8 (s[k].toNat : Int)]) (by simp [go_sem])) (by simp [Value.oneCell']) (by unfold maxLen; omega) (by omega) ?_; intro v' Z' hown' _))
            go_roundw
            case rel => exact ⟨k + 1, out ++ [s[k]], Z', by omega, by rw [HL2.out]; omega, by go_num, rfl, by rw [HL.out, HL2.out]; exact hown', HV⟩
            case measure => simp [intOf]; omega
          · have HV : Hid (txtV R = .tuple #[.string ⟨#[]⟩, .int .i64 k, .int .i64 2]) := by
              show _ = _
              rw [← HK.out, HD.out, strL_odd _ c34 c92 ho]; simp [TR.app, txtV]
            clear c34 c92
            go_wp2_with (go_at_call 21; (with_reducible refine (odd_any s[k] _).mono ?_); rintro e w' ⟨rfl, rfl⟩; rw [ho])
            go_ret3
            exact Ret.of (by rw [HV.out]; rfl) (by repeat (first | with_reducible exact Below.refl _ _ | (with_reducible refine Below.alloc ?_ (by first | omega | (simp [go_sem] <;> omega)) _) | (with_reducible refine Below.drew ?_) | (with_reducible refine Below.drewN ?_ _) | (with_reducible refine Below.grow ?_ (by first | omega | (simp [go_sem] <;> omega)) _) | (with_reducible refine Below.setCell ?_ (by first | omega | (simp [go_sem] <;> omega)) _)))
    · have HE := Lib.hid (drop_end s k (by omega))
      have HV : Hid (txtV R = .tuple #[.string ⟨#[]⟩, .int .i64 0, .int .i64 2]) := by
        show _ = _
        rw [← HK.out, HE.out, strL]; simp [TR.app, txtV]
      go_wp2
      go_ret3
      exact Ret.of (by rw [HV.out]; rfl) (by repeat (first | with_reducible exact Below.refl _ _ | (with_reducible refine Below.alloc ?_ (by first | omega | (simp [go_sem] <;> omega)) _) | (with_reducible refine Below.drew ?_) | (with_reducible refine Below.drewN ?_ _) | (with_reducible refine Below.grow ?_ (by first | omega | (simp [go_sem] <;> omega)) _) | (with_reducible refine Below.setCell ?_ (by first | omega | (simp [go_sem] <;> omega)) _)))
end Go.Proofs.Ytglnadikhcidnaa
