/- The walks of styles: strings. -/
import Derived.Test.YtgcccpdadponiaaGreatDoorCssF
namespace Go.Proofs.YtgcccpdadponiaaGreatDoor
open Go.RowKit Go.Shelf
attribute [local go_sem] Oper.semAt_some
def quotV (s : Bs) : Css × Nat := match quotC s with
  | some x => x
  | none => (zeroC, 0)
set_option maxRecDepth 100000 in
set_option maxHeartbeats 3200000 in
theorem quotv_any (s : Bs) (w : World) (hm : s.length ≤ 1000000000) (hne : s ≠ []) : Calls Tryz.prog 88 #[.string ⟨s.toArray⟩] w (Ret (.tuple #[Css.agg (quotV s).1, .int .i64 (quotV s).2]) w) := by
  obtain ⟨c, r, hcs⟩ : ∃ c r, s = c :: r := by
    cases s with
    | nil => exact absurd rfl hne
    | cons c r => exact ⟨c, r, rfl⟩
  obtain ⟨S, hS⟩ : ∃ S : ByteArray, ⟨s.toArray⟩ = S := ⟨_, rfl⟩
  have hd0 : S.data.toList = s := by rw [← hS]
  have hsz : S.size = r.length + 1 := by rw [← hS]; show s.length = _; rw [hcs]; rfl
  have hpos : 0 < S.size := by omega
  have hSm : S.size ≤ 1000000000 := by rw [hsz]; rw [hcs] at hm; simpa using hm
  have hc0 : S[0] = c := by rw [at_bs S s hd0 0 hpos]; simp [hcs]
  obtain ⟨k, hk⟩ : ∃ k, twc plB r = k := ⟨_, rfl⟩
  have hkl := twc_le plB r
  rw [hk] at hkl
  have hkS : k ≤ S.size := by omega
  have HQ0 : Hid (qtB c = true → (S.size ≤ 1 + k → quotV s = (zeroC, 0)) ∧ (∀ h : 1 + k < S.size, (S[1 + k] = S[0] → quotV s = (⟨5, r.take k, 0, []⟩, k + 2)) ∧ (S[1 + k] ≠ S[0] → quotV s = (zeroC, 0)))) := fun hq => by
    subst hcs
    refine ⟨fun h => ?_, fun h => ?_⟩
    · have : hd (fun d => decide (d = c)) (r.drop k) = false := by rw [List.drop_eq_nil_of_le (by omega)]; rfl
      simp [quotV, quotC, hk, this]
    · have hkr : k < r.length := by omega
      have hat : S[1 + k] = r[k] := by rw [at_bs S _ hd0 _ h]; simp [Nat.add_comm 1 k]
      have : hd (fun d => decide (d = c)) (r.drop k) = decide (S[1 + k] = S[0]) := by rw [List.drop_eq_getElem_cons hkr, hat, hc0]; rfl
      refine ⟨fun he => ?_, fun he => ?_⟩
      · simp only [quotV, quotC, hk, this, hq, he, decide_true, Bool.and_self, if_true]
      · simp only [quotV, quotC, hk, this, hq, decide_eq_false he, Bool.and_false, Bool.false_eq_true, if_false]
  rw [hS]
  clear hS hm hne
  by_cases h34 : c.toNat = 34
  · have b34 : ((S[0].toNat : Int) != 34) = false := by rw [hc0]; simp [h34]
    have QT : qtB c = true := by simp [qtB, h34]
    clear h34 hc0
    · have HR := Lib.hid (fun W => show Calls Tryz.prog 89 #[.string S, .int .i64 1, .func (.func 116) #[] #[]] W fun e w' => e = .returned (.int .i64 k) ∧ W = w' from by
        have := row_any S 1 _ _ W plain_pred hpos (by omega)
        rw [hd0, hcs, List.drop_succ_cons, List.drop_zero, hk] at this; exact this)
      have HQ := HQ0.out QT
      by_cases hge : S.size ≤ 1 + k
      · have hge2 : decide ((S.size : Int) ≤ 1 + (k : Int)) = true := by simp; omega
        have HN : Hid (quotV s = (zeroC, 0)) := HQ.1 hge
        clear HQ hk hd0 hsz hcs
        go_enter Tryz.func88, Tryz.ntmps88
        go_wp2_with (go_at_call 89; (with_reducible refine (HR.out _).mono ?_); rintro e w' ⟨rfl, rfl⟩)
        refine wp_region_grow (by kernel_rfl) (by kernel_rfl) ?_
        repeat (go_big_quiet_step (fail))
        refine wpQuiet_nil ?_
        intro _ hw'; obtain ⟨nq, hw''⟩ := hw'; subst hw''
        go_wp2
        ((try simp only [Exit.inBlock, Exit.then]); refine bodyPost_ret (v := .tuple #[.agg #[.int .i64 0, .string ⟨#[]⟩, .int .i64 0, .string ⟨#[]⟩], .int .i64 0]) (by (first | rw [results_cell_tmp rfl] | rw [results_cell1 rfl]); go_simp) rfl ?_)
        exact Ret.of (by rw [HN.out]; rfl) (by repeat (first | with_reducible exact Below.refl _ _ | (with_reducible refine Below.alloc ?_ (by first | omega | (simp [go_sem] <;> omega)) _) | (with_reducible refine Below.drew ?_) | (with_reducible refine Below.drewN ?_ _) | (with_reducible refine Below.grow ?_ (by first | omega | (simp [go_sem] <;> omega)) _) | (with_reducible refine Below.setCell ?_ (by first | omega | (simp [go_sem] <;> omega)) _)))
      · have hlt : 1 + k < S.size := by omega
        have hge2 : decide ((S.size : Int) ≤ 1 + (k : Int)) = false := by simp; omega
        have hz0 : (0 : Int) ≤ 1 + (k : Int) := by omega
        have hz1 : (1 + (k : Int)).toNat = 1 + k := by omega
        have hz2 : 1 + (k : Int) < (S.size : Int) := by omega
        by_cases hq : S[1 + k] = S[0]
        · have HN : Hid (quotV s = (⟨5, r.take k, 0, []⟩, k + 2)) := (HQ.2 hlt).1 hq
          have bq : ((S[1 + k].toNat : Int) != (S[0].toNat : Int)) = false := by simp [hq]
          have he1 : S.extract 1 (1 + k) = ⟨(r.take k).toArray⟩ := by rw [str_cut, hd0, hcs]; congr 2; show ((c :: r).take _).drop 1 = _; rw [Nat.add_comm, List.take_succ_cons]; rfl
          clear HQ hk hd0 hsz hcs hq
          go_enter Tryz.func88, Tryz.ntmps88
          go_wp2_with (go_at_call 89; (with_reducible refine (HR.out _).mono ?_); rintro e w' ⟨rfl, rfl⟩)
          refine wp_region_grow (by kernel_rfl) (by kernel_rfl) ?_
          repeat (go_big_quiet_step (fail))
          refine wpQuiet_nil ?_
          intro _ hw'; obtain ⟨nq, hw''⟩ := hw'; subst hw''
          go_wp2
          ((try simp only [Exit.inBlock, Exit.then]); refine bodyPost_ret (v := .tuple #[.agg #[.int .i64 5, .string ⟨(r.take k).toArray⟩, .int .i64 0, .string ⟨#[]⟩], .int .i64 (1 + (k : Int) + 1)]) (by (first | rw [results_cell_tmp rfl] | rw [results_cell1 rfl]); go_simp) rfl ?_)
          exact Ret.of (by rw [HN.out]; simp [Css.agg, sv]; omega) (by repeat (first | with_reducible exact Below.refl _ _ | (with_reducible refine Below.alloc ?_ (by first | omega | (simp [go_sem] <;> omega)) _) | (with_reducible refine Below.drew ?_) | (with_reducible refine Below.drewN ?_ _) | (with_reducible refine Below.grow ?_ (by first | omega | (simp [go_sem] <;> omega)) _) | (with_reducible refine Below.setCell ?_ (by first | omega | (simp [go_sem] <;> omega)) _)))
        · have HN : Hid (quotV s = (zeroC, 0)) := (HQ.2 hlt).2 hq
          have bq : ((S[1 + k].toNat : Int) != (S[0].toNat : Int)) = true := by
            simp only [bne_iff_ne, ne_eq]; intro h; exact hq (UInt8.toNat_inj.1 (by omega))
          clear HQ hk hd0 hsz hcs hq
          go_enter Tryz.func88, Tryz.ntmps88
          go_wp2_with (go_at_call 89; (with_reducible refine (HR.out _).mono ?_); rintro e w' ⟨rfl, rfl⟩)
          refine wp_region_grow (by kernel_rfl) (by kernel_rfl) ?_
          repeat (go_big_quiet_step (fail))
          refine wpQuiet_nil ?_
          intro _ hw'; obtain ⟨nq, hw''⟩ := hw'; subst hw''
          go_wp2
          ((try simp only [Exit.inBlock, Exit.then]); refine bodyPost_ret (v := .tuple #[.agg #[.int .i64 0, .string ⟨#[]⟩, .int .i64 0, .string ⟨#[]⟩], .int .i64 0]) (by (first | rw [results_cell_tmp rfl] | rw [results_cell1 rfl]); go_simp) rfl ?_)
          exact Ret.of (by rw [HN.out]; rfl) (by repeat (first | with_reducible exact Below.refl _ _ | (with_reducible refine Below.alloc ?_ (by first | omega | (simp [go_sem] <;> omega)) _) | (with_reducible refine Below.drew ?_) | (with_reducible refine Below.drewN ?_ _) | (with_reducible refine Below.grow ?_ (by first | omega | (simp [go_sem] <;> omega)) _) | (with_reducible refine Below.setCell ?_ (by first | omega | (simp [go_sem] <;> omega)) _)))
  · have b34 : ((S[0].toNat : Int) != 34) = true := by rw [hc0]; simp; omega
    by_cases h39 : c.toNat = 39
    · have b39 : ((S[0].toNat : Int) != 39) = false := by rw [hc0]; simp [h39]
      have QT : qtB c = true := by simp [qtB, h39]
      clear h34 h39 hc0
      · have HR := Lib.hid (fun W => show Calls Tryz.prog 89 #[.string S, .int .i64 1, .func (.func 116) #[] #[]] W fun e w' => e = .returned (.int .i64 k) ∧ W = w' from by
          have := row_any S 1 _ _ W plain_pred hpos (by omega)
          rw [hd0, hcs, List.drop_succ_cons, List.drop_zero, hk] at this; exact this)
        have HQ := HQ0.out QT
        by_cases hge : S.size ≤ 1 + k
        · have hge2 : decide ((S.size : Int) ≤ 1 + (k : Int)) = true := by simp; omega
          have HN : Hid (quotV s = (zeroC, 0)) := HQ.1 hge
          clear HQ hk hd0 hsz hcs
          go_enter Tryz.func88, Tryz.ntmps88
          go_wp2_with (go_at_call 89; (with_reducible refine (HR.out _).mono ?_); rintro e w' ⟨rfl, rfl⟩)
          refine wp_region_grow (by kernel_rfl) (by kernel_rfl) ?_
          repeat (go_big_quiet_step (fail))
          refine wpQuiet_nil ?_
          intro _ hw'; obtain ⟨nq, hw''⟩ := hw'; subst hw''
          go_wp2
          ((try simp only [Exit.inBlock, Exit.then]); refine bodyPost_ret (v := .tuple #[.agg #[.int .i64 0, .string ⟨#[]⟩, .int .i64 0, .string ⟨#[]⟩], .int .i64 0]) (by (first | rw [results_cell_tmp rfl] | rw [results_cell1 rfl]); go_simp) rfl ?_)
          exact Ret.of (by rw [HN.out]; rfl) (by repeat (first | with_reducible exact Below.refl _ _ | (with_reducible refine Below.alloc ?_ (by first | omega | (simp [go_sem] <;> omega)) _) | (with_reducible refine Below.drew ?_) | (with_reducible refine Below.drewN ?_ _) | (with_reducible refine Below.grow ?_ (by first | omega | (simp [go_sem] <;> omega)) _) | (with_reducible refine Below.setCell ?_ (by first | omega | (simp [go_sem] <;> omega)) _)))
        · have hlt : 1 + k < S.size := by omega
          have hge2 : decide ((S.size : Int) ≤ 1 + (k : Int)) = false := by simp; omega
          have hz0 : (0 : Int) ≤ 1 + (k : Int) := by omega
          have hz1 : (1 + (k : Int)).toNat = 1 + k := by omega
          have hz2 : 1 + (k : Int) < (S.size : Int) := by omega
          by_cases hq : S[1 + k] = S[0]
          · have HN : Hid (quotV s = (⟨5, r.take k, 0, []⟩, k + 2)) := (HQ.2 hlt).1 hq
            have bq : ((S[1 + k].toNat : Int) != (S[0].toNat : Int)) = false := by simp [hq]
            have he1 : S.extract 1 (1 + k) = ⟨(r.take k).toArray⟩ := by rw [str_cut, hd0, hcs]; congr 2; show ((c :: r).take _).drop 1 = _; rw [Nat.add_comm, List.take_succ_cons]; rfl
            clear HQ hk hd0 hsz hcs hq
            go_enter Tryz.func88, Tryz.ntmps88
            go_wp2_with (go_at_call 89; (with_reducible refine (HR.out _).mono ?_); rintro e w' ⟨rfl, rfl⟩)
            refine wp_region_grow (by kernel_rfl) (by kernel_rfl) ?_
            repeat (go_big_quiet_step (fail))
            refine wpQuiet_nil ?_
            intro _ hw'; obtain ⟨nq, hw''⟩ := hw'; subst hw''
            go_wp2
            ((try simp only [Exit.inBlock, Exit.then]); refine bodyPost_ret (v := .tuple #[.agg #[.int .i64 5, .string ⟨(r.take k).toArray⟩, .int .i64 0, .string ⟨#[]⟩], .int .i64 (1 + (k : Int) + 1)]) (by (first | rw [results_cell_tmp rfl] | rw [results_cell1 rfl]); go_simp) rfl ?_)
            exact Ret.of (by rw [HN.out]; simp [Css.agg, sv]; omega) (by repeat (first | with_reducible exact Below.refl _ _ | (with_reducible refine Below.alloc ?_ (by first | omega | (simp [go_sem] <;> omega)) _) | (with_reducible refine Below.drew ?_) | (with_reducible refine Below.drewN ?_ _) | (with_reducible refine Below.grow ?_ (by first | omega | (simp [go_sem] <;> omega)) _) | (with_reducible refine Below.setCell ?_ (by first | omega | (simp [go_sem] <;> omega)) _)))
          · have HN : Hid (quotV s = (zeroC, 0)) := (HQ.2 hlt).2 hq
            have bq : ((S[1 + k].toNat : Int) != (S[0].toNat : Int)) = true := by
              simp only [bne_iff_ne, ne_eq]; intro h; exact hq (UInt8.toNat_inj.1 (by omega))
            clear HQ hk hd0 hsz hcs hq
            go_enter Tryz.func88, Tryz.ntmps88
            go_wp2_with (go_at_call 89; (with_reducible refine (HR.out _).mono ?_); rintro e w' ⟨rfl, rfl⟩)
            refine wp_region_grow (by kernel_rfl) (by kernel_rfl) ?_
            repeat (go_big_quiet_step (fail))
            refine wpQuiet_nil ?_
            intro _ hw'; obtain ⟨nq, hw''⟩ := hw'; subst hw''
            go_wp2
            ((try simp only [Exit.inBlock, Exit.then]); refine bodyPost_ret (v := .tuple #[.agg #[.int .i64 0, .string ⟨#[]⟩, .int .i64 0, .string ⟨#[]⟩], .int .i64 0]) (by (first | rw [results_cell_tmp rfl] | rw [results_cell1 rfl]); go_simp) rfl ?_)
            exact Ret.of (by rw [HN.out]; rfl) (by repeat (first | with_reducible exact Below.refl _ _ | (with_reducible refine Below.alloc ?_ (by first | omega | (simp [go_sem] <;> omega)) _) | (with_reducible refine Below.drew ?_) | (with_reducible refine Below.drewN ?_ _) | (with_reducible refine Below.grow ?_ (by first | omega | (simp [go_sem] <;> omega)) _) | (with_reducible refine Below.setCell ?_ (by first | omega | (simp [go_sem] <;> omega)) _)))
    · have b39 : ((S[0].toNat : Int) != 39) = true := by rw [hc0]; simp; omega
      have HN : Hid (quotV s = (zeroC, 0)) := by show _ = _; rw [hcs]; simp [quotV, quotC, qtB, h34, h39]
      clear h34 h39 hc0 hk hd0 hsz hcs
      go_enter Tryz.func88, Tryz.ntmps88
      go_wp2_with fail
      ((try simp only [Exit.inBlock, Exit.then]); refine bodyPost_ret (v := .tuple #[.agg #[.int .i64 0, .string ⟨#[]⟩, .int .i64 0, .string ⟨#[]⟩], .int .i64 0]) (by (first | rw [results_cell_tmp rfl] | rw [results_cell1 rfl]); go_simp) rfl ?_)
      exact Ret.of (by rw [HN.out]; rfl) (by repeat (first | with_reducible exact Below.refl _ _ | (with_reducible refine Below.alloc ?_ (by first | omega | (simp [go_sem] <;> omega)) _) | (with_reducible refine Below.drew ?_) | (with_reducible refine Below.drewN ?_ _) | (with_reducible refine Below.grow ?_ (by first | omega | (simp [go_sem] <;> omega)) _) | (with_reducible refine Below.setCell ?_ (by first | omega | (simp [go_sem] <;> omega)) _)))
end Go.Proofs.YtgcccpdadponiaaGreatDoor
