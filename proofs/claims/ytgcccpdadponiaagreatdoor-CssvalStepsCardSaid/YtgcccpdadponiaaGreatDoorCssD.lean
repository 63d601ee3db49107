/- The walks of styles: the number of figures. -/
import Derived.Test.YtgcccpdadponiaaGreatDoorCssPlainC
import Derived.Test.YtgcccpdadponiaaGreatDoorCssC
namespace Go.Proofs.YtgcccpdadponiaaGreatDoor
open Go.RowKit Go.Shelf
attribute [local go_sem] Oper.semAt_some
theorem val_lt : ∀ (l : Bs), l.all digB = true → ∀ k, l.foldl (fun n (c : UInt8) => n * 10 + (c.toNat - 48)) k + 1 ≤ (k + 1) * 10 ^ l.length := by
  intro l
  induction l with
  | nil => intro _ k; simp
  | cons c l ih =>
    intro hl k
    simp only [List.all_cons, Bool.and_eq_true] at hl
    have := ih hl.2 (k * 10 + (c.toNat - 48))
    have hc := hl.1
    simp only [digB, decide_eq_true_eq] at hc
    simp only [List.foldl_cons, List.length_cons, Nat.pow_succ]
    refine Nat.le_trans this ?_
    rw [Nat.mul_comm (10 ^ l.length) 10, ← Nat.mul_assoc]
    exact Nat.mul_le_mul_right _ (by omega)
theorem valL_snoc (l : Bs) (c : UInt8) : valL (l ++ [c]) = valL l * 10 + (c.toNat - 48) := by
  unfold valL; rw [List.foldl_append]; rfl
theorem valL_small (l : Bs) (h : l.all digB = true) (h9 : l.length ≤ 9) : valL l ≤ 999999999 := by
  have := val_lt l h 0
  have hp := Nat.pow_le_pow_right (n := 10) (by omega) h9
  unfold valL; omega
set_option maxRecDepth 100000 in
set_option maxHeartbeats 3200000 in
theorem number_any (s : Bs) (w : World) (hne : s ≠ []) (hal : s.all digB = true) (h9 : s.length ≤ 9) : Calls Tryz.prog 113 #[.string ⟨s.toArray⟩, .int .i64 10, .int .i64 1099511627776] w (Ret (.tuple #[.int .i64 (valL s), .bool true]) w) := by
  obtain ⟨S, hS⟩ : ∃ S : ByteArray, ⟨s.toArray⟩ = S := ⟨_, rfl⟩
  have hd0 : S.data.toList = s := by rw [← hS]
  have hsz : S.size = s.length := by rw [← hS]; rfl
  have hemp : S.toList.isEmpty = false := by rw [ba_emp, hd0]; simpa using hne
  have hcv : ∀ W : World, (convert 9 89 (.string S)).run Tryz.prog W = .ok (.slice (some ⟨W.heap.size, 0, none⟩) S.size (grownCap W S.size 0 5)) (W.grow (bytesGr W 5 S)) := fun W => bytes_run W _ _ _ S Tryz.underlying9 Tryz.underlying89 Tryz.underlying5
  have HB := Lib.hid (fun W => bytes_cells W 5 S)
  have HZ := Lib.hid hsz
  have HA := Lib.hid hal
  have H0 := Lib.hid hd0
  have hS9 : S.size ≤ 9 := by omega
  have hmax : max (1099511627776 : Int) 0 = 1099511627776 := by decide
  rw [hS]
  clear hsz hd0 hS hne hal
  go_enter Tryz.func113, Tryz.ntmps113
  go_wp2_with fail
  go_loop [8, 30] (fun n i => ∃ k : Nat, k ≤ S.size ∧ i = .int .i64 k ∧ n = .int .i64 (valL (s.take k))) (fun _ i => S.size - (intOf i).toNat)
  case atStart => exact ⟨0, by omega, rfl, rfl⟩
  case round =>
    obtain ⟨k, hk, rfl, rfl⟩ := hrel
    by_cases hlt : k < S.size
    · have hks : k < s.length := by rw [← HZ.out]; exact hlt
      have hc0 := HB.out w k hlt
      have hck : S[k] = s[k] := at_bs S s H0.out k hlt
      rw [hck] at hc0
      have HN := Lib.hid (valL_snoc (s.take k) s[k])
      rw [← List.take_succ_eq_append_getElem hks] at HN
      have hdg : digB s[k] = true := List.all_eq_true.1 HA.out _ (List.getElem_mem hks)
      have hsm := valL_small (s.take (k + 1)) (List.all_eq_true.2 fun x hx => List.all_eq_true.1 HA.out x (List.mem_of_mem_take hx)) (by rw [List.length_take]; omega)
      have HD := Lib.hid (fun W => show Calls Tryz.prog 94 #[.int .u8 s[k].toNat] W fun e w' => e = .returned (.bool true) ∧ W = w' from hdg ▸ digit_any s[k] W)
      generalize s[k] = c at *
      have h1 : 48 ≤ c.toNat ∧ c.toNat ≤ 57 := by simpa [digB] using hdg
      obtain ⟨d, hd1⟩ : ∃ d, c.toNat = 48 + d := ⟨c.toNat - 48, by omega⟩
      have hd9 : d ≤ 9 := by omega
      rw [hd1, show ((48 + d : Nat) : Int) = 48 + (d : Int) by omega] at hc0 HD
      rw [hd1, Nat.add_sub_cancel_left] at HN
      have hv : valL (s.take k) * 10 + d ≤ 999999999 := by rw [← HN.out]; exact hsm
      have hw1 : IntKind.u8.wrap (48 + (d : Int) - 48) = (d : Int) := by rw [show 48 + (d : Int) - 48 = d by omega]; exact IntWalk.u8_in _ (by omega)
      have hw2 : IntKind.u8.wrap (d : Int) = (d : Int) := IntWalk.u8_in _ (by omega)
      have hcn := newCell_is (Nat.le_refl _) hc0
      clear hdg hck hsm h1 hd1 hc0
      generalize valL (s.take k) = v at *
      have hmin : min ((v : Int) * 10 + (d : Int)) 1099511627776 = (v : Int) * 10 + (d : Int) := by omega
      go_wp2_with (go_at_call 94; (with_reducible refine (HD.out _).mono ?_); rintro e w' ⟨rfl, rfl⟩)
      go_round
      case rel => exact ⟨k + 1, by omega, by go_num, by rw [HN.out]; simp; try omega⟩
      case measure => simp [intOf]; omega
    · have HN : Hid (valL (s.take k) = valL s) := by show _ = _; rw [List.take_of_length_le]; rw [← HZ.out]; omega
      go_wp2
      go_ret2
      exact Ret.of (by rw [HN.out]; rfl) (by repeat (first | with_reducible exact Below.refl _ _ | (with_reducible refine Below.alloc ?_ (by first | omega | (simp [go_sem] <;> omega)) _) | (with_reducible refine Below.drew ?_) | (with_reducible refine Below.drewN ?_ _) | (with_reducible refine Below.grow ?_ (by first | omega | (simp [go_sem] <;> omega)) _) | (with_reducible refine Below.setCell ?_ (by first | omega | (simp [go_sem] <;> omega)) _)))
end Go.Proofs.YtgcccpdadponiaaGreatDoor
