/- The walks of styles by the reference: the piece that a text begins with. -/
import Derived.Test.YtgcccpdadponiaaGreatDoorCssU
namespace Go.Proofs.YtgcccpdadponiaaGreatDoor
open Go.RowKit Go.Shelf
attribute [local go_sem] Oper.semAt_some
theorem quot_35 {c : UInt8} {r : Bs} {x : Css × Nat} (h : quotC (c :: r) = some x) : qtB c = true ∧ ∃ n, x = (⟨5, r.take n, 0, []⟩, n + 2) ∧ n + 2 ≤ r.length + 1 := by
  have h2 := h
  simp only [quotC] at h
  split at h
  · rename_i h1
    rw [Bool.and_eq_true] at h1
    simp only [Option.some.injEq] at h
    obtain ⟨c', r', h3, h4, h5, _⟩ := quotC_some (n := x.2) (x := x.1) h2
    rw [← h] at h5
    exact ⟨h1.1, _, h.symm, by simpa using h5⟩
  · cases h
set_option maxRecDepth 100000 in
set_option maxHeartbeats 8000000 in
theorem rpiece_any (s : Bs) (w : World) (hm : s.length ≤ 1000000000) (hne : s ≠ []) : Calls Tryz.prog 98 #[.string ⟨s.toArray⟩] w (Ret (.tuple #[Css.agg (pieceC s).1, .int .i64 (pieceC s).2]) w) := by
  obtain ⟨S, hS⟩ : ∃ S : ByteArray, ⟨s.toArray⟩ = S := ⟨_, rfl⟩
  have hd0 : S.data.toList = s := by rw [← hS]
  have hsz : S.size = s.length := by rw [← hS]; rfl
  have hpos : 0 < S.size := by rw [hsz]; exact List.length_pos_iff.2 hne
  have hSm : S.size ≤ 1000000000 := by omega
  have HN := Lib.hid (fun W => rname_any s W (by omega))
  have HM := Lib.hid (fun W => rnumber_any s W hm hne)
  have HQ := Lib.hid (fun W => rquoted_any s W hm)
  have HP := Lib.hid (piece_by s)
  rw [hS] at HN HM HQ ⊢
  cases hn : nameB s
  · rw [show nameN s = 0 by unfold nameN; rw [hn]; rfl] at HN
    rw [hn] at HP
    simp only [Bool.false_eq_true, if_false] at HP
    cases hq : numC s with
    | some y =>
      have e2 : numV s = y := by unfold numV; rw [hq]
      rw [hq] at HP
      have HP2 : Hid (pieceC s = y) := HP.out
      have hk := (numC_some (s := s) (x := y.1) (n := y.2) hq)
      rw [e2] at HM
      obtain ⟨y, n⟩ := y
      have hn1 : 0 < n := by have := hk.1; have := hk.2.1; omega
      have HM2 := Lib.hid HM.out
      simp only [Css.agg, sv] at HM2
      clear HP HM HQ hk e2 hq hn hS hd0
      go_enter Tryz.func98, Tryz.ntmps98
      go_wp2_with (first | (go_at_call 118; (with_reducible refine (HN.out _).mono ?_); rintro e w' ⟨rfl, rfl⟩) | (go_at_call 120; (with_reducible refine (HM2.out _).mono ?_); rintro e w' ⟨rfl, X2, rfl⟩))
      ((try simp only [Exit.inBlock, Exit.then]); refine bodyPost_ret (v := .tuple #[.agg #[.int .i64 y.kind, .string ⟨y.text.toArray⟩, .int .i64 y.num, .string ⟨y.unit.toArray⟩], .int .i64 (n : Int)]) (by (first | rw [results_cell_tmp rfl] | rw [results_cell1 rfl]); go_simp) rfl ?_)
      exact Ret.of (by rw [HP2.out]; rfl) (by repeat (first | with_reducible exact Below.refl _ _ | (with_reducible refine Below.alloc ?_ (by first | omega | (simp [go_sem] <;> omega)) _) | (with_reducible refine Below.drew ?_) | (with_reducible refine Below.drewN ?_ _) | (with_reducible refine Below.grow ?_ (by first | omega | (simp [go_sem] <;> omega)) _) | (with_reducible refine Below.setCell ?_ (by first | omega | (simp [go_sem] <;> omega)) _)))

    | none =>
      have e2 : numV s = (zeroC, 0) := by unfold numV; rw [hq]
      rw [e2] at HM
      rw [hq] at HP
      simp only at HP
      obtain ⟨c, r, hcs⟩ : ∃ c r, s = c :: r := by
        cases s with
        | nil => exact absurd rfl hne
        | cons c r => exact ⟨c, r, rfl⟩
      have hc0 : S[0] = c := by rw [at_bs S s hd0 0 hpos]; simp [hcs]
      have hrl : S.size = r.length + 1 := by rw [hsz, hcs]; rfl
      have HM2 := Lib.hid HM.out
      simp only [Css.agg, zeroC, sv] at HM2
      have HMk := Lib.hid (fun W => show Calls Tryz.prog 123 #[.int .u8 S[0].toNat] W (Ret (.bool (mkB c)) W) from by rw [hc0]; exact rmark_any c W)
      clear HM e2 hq hn hS
      cases hu : quotC s with
      | some y =>
        rw [hu] at HP
        have HP2 : Hid (pieceC s = y) := HP.out
        have e3 : quotN s = y.2 := by unfold quotN; rw [hu]
        rw [e3] at HQ
        have hu2 := hu
        rw [hcs] at hu2
        obtain ⟨hqt, n, rfl, hnl⟩ := quot_35 hu2
        have b35 : ((S[0].toNat : Int) == 35) = false := by rw [hc0]; simp [qtB] at hqt; simp; omega
        have bn : decide ((0 : Int) < ((n + 2 : Nat) : Int)) = true := by simp; omega
        have hz : (((n + 2 : Nat) : Int) - 1) = ((n + 1 : Nat) : Int) := by omega
        have hxS : n + 1 ≤ S.size := by omega
        have he1 : S.extract 1 (n + 1) = ⟨(r.take n).toArray⟩ := by rw [str_cut, hd0, hcs]; congr 2
        obtain ⟨q, hqq⟩ : ∃ q, n + 2 = q := ⟨_, rfl⟩
        obtain ⟨q1, hqq1⟩ : ∃ q, n + 1 = q := ⟨_, rfl⟩
        have hq1 : 1 ≤ q1 := by omega
        simp only [hqq, hqq1] at *
        have hq0 : 0 < q := by omega
        have hqS : q ≤ 1000000001 := by omega
        clear HP hu hu2 hqt hc0 hcs hrl hnl e3 hsz bn
        generalize r.take n = rt at *
        clear hd0
        go_enter Tryz.func98, Tryz.ntmps98
        go_wp2_with (first | (go_at_call 118; (with_reducible refine (HN.out _).mono ?_); rintro e w' ⟨rfl, rfl⟩) | (go_at_call 120; (with_reducible refine (HM2.out _).mono ?_); rintro e w' ⟨rfl, X2, rfl⟩) | (go_at_call 121; (with_reducible refine (HR.out _).mono ?_); rintro e w' ⟨rfl, rfl⟩) | (go_at_call 122; (with_reducible refine (Ret.flatA (HQ.out _)).mono ?_); rintro e w' ⟨rfl, X3, rfl⟩))
        ((try simp only [Exit.inBlock, Exit.then]); refine bodyPost_ret (v := .tuple #[.agg #[.int .i64 5, .string ⟨rt.toArray⟩, .int .i64 0, .string ⟨#[]⟩], .int .i64 (q : Int)]) (by (first | rw [results_cell_tmp rfl] | rw [results_cell1 rfl]); go_simp) rfl ?_)
        exact Ret.of (by rw [HP2.out]; rfl) (by repeat (first | with_reducible exact Below.refl _ _ | (with_reducible refine Below.alloc ?_ (by first | omega | (simp [go_sem] <;> omega)) _) | (with_reducible refine Below.drew ?_) | (with_reducible refine Below.drewN ?_ _) | (with_reducible refine Below.grow ?_ (by first | omega | (simp [go_sem] <;> omega)) _) | (with_reducible refine Below.setCell ?_ (by first | omega | (simp [go_sem] <;> omega)) _)))

      | none =>
        rw [hu] at HP
        simp only at HP
        rw [show quotN s = 0 by unfold quotN; rw [hu]] at HQ
        obtain ⟨k, hk2⟩ : ∃ k, twc goB r = k := ⟨_, rfl⟩
        have hkl := twc_le goB r
        rw [hk2] at hkl
        have hkS : k + 1 ≤ S.size := by omega
        have HP2 : Hid (pieceC s = if c.toNat = 35 ∧ 0 < k then (namedC 4 (r.take k), k + 1) else if mkB c then (⟨6, [c], 0, []⟩, 1) else (badC, 1)) := by
          have := HP.out
          rw [← hk2, this, hcs]
          rfl
        have HR := Lib.hid (fun W => show Calls Tryz.prog 121 #[.string S, .int .i64 1] W fun e w' => e = .returned (.int .i64 k) ∧ W = w' from by
          have := rrun_any S 1 W hpos (by omega)
          rw [hd0, hcs, List.drop_succ_cons, List.drop_zero, hk2] at this; exact this)
        have he1 : S.extract 1 (k + 1) = ⟨(r.take k).toArray⟩ := by rw [str_cut, hd0, hcs]; congr 2
        have he2 : S.extract 0 1 = ⟨([c] : Bs).toArray⟩ := by rw [str_take, hd0, hcs]; rfl
        have hrk : (r.take k).length = k := by rw [List.length_take]; omega
        have HLo := Lib.hid (fun W => show Calls Tryz.prog 119 #[.string ⟨(r.take k).toArray⟩] W (Ret (.string ⟨(lowL (r.take k)).toArray⟩) W) from rlower_any ⟨(r.take k).toArray⟩ W (by show (r.take k).length ≤ _; omega))
        have HNd : Hid (namedC 4 (r.take k) = if 64 < k then badC else ⟨4, lowL (r.take k), 0, []⟩) := by show _ = _; unfold namedC; rw [hrk]
        clear HP hu hd0 hcs hk2 hkl hsz hrk
        generalize (⟨(r.take k).toArray⟩ : ByteArray) = G at *
        by_cases h35 : c.toNat = 35
        · have b35 : ((S[0].toNat : Int) == 35) = true := by rw [hc0]; simp [h35]
          by_cases hk0 : 0 < k
          · rw [if_pos ⟨h35, hk0⟩] at HP2
            have hx1 : ((k : Int) + 1).toNat = k + 1 := by omega
            by_cases h64 : 64 < k
            · rw [if_pos h64] at HNd
              rw [HNd.out] at HP2
              clear hc0 h35 hrl
              go_enter Tryz.func98, Tryz.ntmps98
              go_wp2_with (first | (go_at_call 118; (with_reducible refine (HN.out _).mono ?_); rintro e w' ⟨rfl, rfl⟩) | (go_at_call 120; (with_reducible refine (HM2.out _).mono ?_); rintro e w' ⟨rfl, X2, rfl⟩) | (go_at_call 121; (with_reducible refine (HR.out _).mono ?_); rintro e w' ⟨rfl, rfl⟩))
              ((try simp only [Exit.inBlock, Exit.then]); refine bodyPost_ret (v := .tuple #[.agg #[.int .i64 7, .string ⟨#[]⟩, .int .i64 0, .string ⟨#[]⟩], .int .i64 ((k : Int) + 1)]) (by (first | rw [results_cell_tmp rfl] | rw [results_cell1 rfl]); go_simp) rfl ?_)
              exact Ret.of (by rw [HP2.out]; rfl) (by repeat (first | with_reducible exact Below.refl _ _ | (with_reducible refine Below.alloc ?_ (by first | omega | (simp [go_sem] <;> omega)) _) | (with_reducible refine Below.drew ?_) | (with_reducible refine Below.drewN ?_ _) | (with_reducible refine Below.grow ?_ (by first | omega | (simp [go_sem] <;> omega)) _) | (with_reducible refine Below.setCell ?_ (by first | omega | (simp [go_sem] <;> omega)) _)))

            · rw [if_neg h64] at HNd
              rw [HNd.out] at HP2
              clear hc0 h35 hrl
              go_enter Tryz.func98, Tryz.ntmps98
              go_wp2_with (first | (go_at_call 118; (with_reducible refine (HN.out _).mono ?_); rintro e w' ⟨rfl, rfl⟩) | (go_at_call 120; (with_reducible refine (HM2.out _).mono ?_); rintro e w' ⟨rfl, X2, rfl⟩) | (go_at_call 121; (with_reducible refine (HR.out _).mono ?_); rintro e w' ⟨rfl, rfl⟩) | (go_at_call 119; (with_reducible refine (Ret.flatA (HLo.out _)).mono ?_); rintro e w' ⟨rfl, X1, rfl⟩))
              ((try simp only [Exit.inBlock, Exit.then]); refine bodyPost_ret (v := .tuple #[.agg #[.int .i64 4, .string ⟨(lowL (r.take k)).toArray⟩, .int .i64 0, .string ⟨#[]⟩], .int .i64 ((k : Int) + 1)]) (by (first | rw [results_cell_tmp rfl] | rw [results_cell1 rfl]); go_simp) rfl ?_)
              exact Ret.of (by rw [HP2.out]; rfl) (by repeat (first | with_reducible exact Below.refl _ _ | (with_reducible refine Below.alloc ?_ (by first | omega | (simp [go_sem] <;> omega)) _) | (with_reducible refine Below.drew ?_) | (with_reducible refine Below.drewN ?_ _) | (with_reducible refine Below.grow ?_ (by first | omega | (simp [go_sem] <;> omega)) _) | (with_reducible refine Below.setCell ?_ (by first | omega | (simp [go_sem] <;> omega)) _)))

          · have hk00 : k = 0 := by omega
            rw [if_neg (by omega)] at HP2
            subst hk00
            clear hk0
            cases hmk : mkB c
            · rw [hmk] at HMk HP2
              have HP3 : Hid (pieceC s = (badC, 1)) := HP2.out
              clear HP2 h35 hc0 hrl hmk
              go_enter Tryz.func98, Tryz.ntmps98
              go_wp2_with (first | (go_at_call 118; (with_reducible refine (HN.out _).mono ?_); rintro e w' ⟨rfl, rfl⟩) | (go_at_call 120; (with_reducible refine (HM2.out _).mono ?_); rintro e w' ⟨rfl, X2, rfl⟩) | (go_at_call 121; (with_reducible refine (HR.out _).mono ?_); rintro e w' ⟨rfl, rfl⟩) | (go_at_call 122; (with_reducible refine (Ret.flatA (HQ.out _)).mono ?_); rintro e w' ⟨rfl, X3, rfl⟩) | (go_at_call 123; (with_reducible refine (Ret.flatA (HMk.out _)).mono ?_); rintro e w' ⟨rfl, X4, rfl⟩) | (go_at_call 123; (with_reducible refine (Ret.flat (HMk.out _)).mono ?_); rintro e w' ⟨rfl, X4, rfl⟩))
              ((try simp only [Exit.inBlock, Exit.then]); refine bodyPost_ret (v := .tuple #[.agg #[.int .i64 7, .string ⟨#[]⟩, .int .i64 0, .string ⟨#[]⟩], .int .i64 1]) (by (first | rw [results_cell_tmp rfl] | rw [results_cell1 rfl]); go_simp) rfl ?_)
              exact Ret.of (by rw [HP3.out]; rfl) (by repeat (first | with_reducible exact Below.refl _ _ | (with_reducible refine Below.alloc ?_ (by first | omega | (simp [go_sem] <;> omega)) _) | (with_reducible refine Below.drew ?_) | (with_reducible refine Below.drewN ?_ _) | (with_reducible refine Below.grow ?_ (by first | omega | (simp [go_sem] <;> omega)) _) | (with_reducible refine Below.setCell ?_ (by first | omega | (simp [go_sem] <;> omega)) _)))
            · rw [hmk] at HMk HP2
              have HP3 : Hid (pieceC s = (⟨6, [c], 0, []⟩, 1)) := HP2.out
              clear HP2 h35 hc0 hrl hmk
              go_enter Tryz.func98, Tryz.ntmps98
              go_wp2_with (first | (go_at_call 118; (with_reducible refine (HN.out _).mono ?_); rintro e w' ⟨rfl, rfl⟩) | (go_at_call 120; (with_reducible refine (HM2.out _).mono ?_); rintro e w' ⟨rfl, X2, rfl⟩) | (go_at_call 121; (with_reducible refine (HR.out _).mono ?_); rintro e w' ⟨rfl, rfl⟩) | (go_at_call 122; (with_reducible refine (Ret.flatA (HQ.out _)).mono ?_); rintro e w' ⟨rfl, X3, rfl⟩) | (go_at_call 123; (with_reducible refine (Ret.flatA (HMk.out _)).mono ?_); rintro e w' ⟨rfl, X4, rfl⟩) | (go_at_call 123; (with_reducible refine (Ret.flat (HMk.out _)).mono ?_); rintro e w' ⟨rfl, X4, rfl⟩))
              ((try simp only [Exit.inBlock, Exit.then]); refine bodyPost_ret (v := .tuple #[.agg #[.int .i64 6, .string ⟨([c] : Bs).toArray⟩, .int .i64 0, .string ⟨#[]⟩], .int .i64 1]) (by (first | rw [results_cell_tmp rfl] | rw [results_cell1 rfl]); go_simp) rfl ?_)
              exact Ret.of (by rw [HP3.out]; rfl) (by repeat (first | with_reducible exact Below.refl _ _ | (with_reducible refine Below.alloc ?_ (by first | omega | (simp [go_sem] <;> omega)) _) | (with_reducible refine Below.drew ?_) | (with_reducible refine Below.drewN ?_ _) | (with_reducible refine Below.grow ?_ (by first | omega | (simp [go_sem] <;> omega)) _) | (with_reducible refine Below.setCell ?_ (by first | omega | (simp [go_sem] <;> omega)) _)))

        · have b35 : ((S[0].toNat : Int) == 35) = false := by rw [hc0]; simp; omega
          rw [if_neg (by omega)] at HP2
          cases hmk : mkB c
          · rw [hmk] at HMk HP2
            have HP3 : Hid (pieceC s = (badC, 1)) := HP2.out
            clear HP2 h35 hc0 hrl hmk
            go_enter Tryz.func98, Tryz.ntmps98
            go_wp2_with (first | (go_at_call 118; (with_reducible refine (HN.out _).mono ?_); rintro e w' ⟨rfl, rfl⟩) | (go_at_call 120; (with_reducible refine (HM2.out _).mono ?_); rintro e w' ⟨rfl, X2, rfl⟩) | (go_at_call 121; (with_reducible refine (HR.out _).mono ?_); rintro e w' ⟨rfl, rfl⟩) | (go_at_call 122; (with_reducible refine (Ret.flatA (HQ.out _)).mono ?_); rintro e w' ⟨rfl, X3, rfl⟩) | (go_at_call 123; (with_reducible refine (Ret.flatA (HMk.out _)).mono ?_); rintro e w' ⟨rfl, X4, rfl⟩) | (go_at_call 123; (with_reducible refine (Ret.flat (HMk.out _)).mono ?_); rintro e w' ⟨rfl, X4, rfl⟩))
            ((try simp only [Exit.inBlock, Exit.then]); refine bodyPost_ret (v := .tuple #[.agg #[.int .i64 7, .string ⟨#[]⟩, .int .i64 0, .string ⟨#[]⟩], .int .i64 1]) (by (first | rw [results_cell_tmp rfl] | rw [results_cell1 rfl]); go_simp) rfl ?_)
            exact Ret.of (by rw [HP3.out]; rfl) (by repeat (first | with_reducible exact Below.refl _ _ | (with_reducible refine Below.alloc ?_ (by first | omega | (simp [go_sem] <;> omega)) _) | (with_reducible refine Below.drew ?_) | (with_reducible refine Below.drewN ?_ _) | (with_reducible refine Below.grow ?_ (by first | omega | (simp [go_sem] <;> omega)) _) | (with_reducible refine Below.setCell ?_ (by first | omega | (simp [go_sem] <;> omega)) _)))
          · rw [hmk] at HMk HP2
            have HP3 : Hid (pieceC s = (⟨6, [c], 0, []⟩, 1)) := HP2.out
            clear HP2 h35 hc0 hrl hmk
            go_enter Tryz.func98, Tryz.ntmps98
            go_wp2_with (first | (go_at_call 118; (with_reducible refine (HN.out _).mono ?_); rintro e w' ⟨rfl, rfl⟩) | (go_at_call 120; (with_reducible refine (HM2.out _).mono ?_); rintro e w' ⟨rfl, X2, rfl⟩) | (go_at_call 121; (with_reducible refine (HR.out _).mono ?_); rintro e w' ⟨rfl, rfl⟩) | (go_at_call 122; (with_reducible refine (Ret.flatA (HQ.out _)).mono ?_); rintro e w' ⟨rfl, X3, rfl⟩) | (go_at_call 123; (with_reducible refine (Ret.flatA (HMk.out _)).mono ?_); rintro e w' ⟨rfl, X4, rfl⟩) | (go_at_call 123; (with_reducible refine (Ret.flat (HMk.out _)).mono ?_); rintro e w' ⟨rfl, X4, rfl⟩))
            ((try simp only [Exit.inBlock, Exit.then]); refine bodyPost_ret (v := .tuple #[.agg #[.int .i64 6, .string ⟨([c] : Bs).toArray⟩, .int .i64 0, .string ⟨#[]⟩], .int .i64 1]) (by (first | rw [results_cell_tmp rfl] | rw [results_cell1 rfl]); go_simp) rfl ?_)
            exact Ret.of (by rw [HP3.out]; rfl) (by repeat (first | with_reducible exact Below.refl _ _ | (with_reducible refine Below.alloc ?_ (by first | omega | (simp [go_sem] <;> omega)) _) | (with_reducible refine Below.drew ?_) | (with_reducible refine Below.drewN ?_ _) | (with_reducible refine Below.grow ?_ (by first | omega | (simp [go_sem] <;> omega)) _) | (with_reducible refine Below.setCell ?_ (by first | omega | (simp [go_sem] <;> omega)) _)))

  · obtain ⟨n, hnn⟩ : ∃ n, twc goB s = n := ⟨_, rfl⟩
    have hle := twc_le goB s
    have hn1 := nameB_pos hn
    rw [hnn] at hle hn1
    rw [show nameN s = n by unfold nameN; rw [hn, hnn]; rfl] at HN
    rw [hn] at HP
    have HP1 : Hid (pieceC s = nameC s) := HP.out
    have HC : Hid (nameC s = if 64 < n then (badC, n) else if hd (fun c => decide (c.toNat = 40)) (s.drop n) then (⟨2, lowL (s.take n), 0, []⟩, n + 1) else (⟨1, lowL (s.take n), 0, []⟩, n)) := by show _ = _; rw [← hnn]; rfl
    have e1 : S.extract 0 n = ⟨(s.take n).toArray⟩ := by rw [str_take, hd0]
    have hrk : (s.take n).length = n := by rw [List.length_take]; omega
    have HLo := Lib.hid (fun W => show Calls Tryz.prog 119 #[.string ⟨(s.take n).toArray⟩] W (Ret (.string ⟨(lowL (s.take n)).toArray⟩) W) from rlower_any ⟨(s.take n).toArray⟩ W (by show (s.take n).length ≤ _; omega))
    have HLo := Lib.hid HLo.out
    have HI : Hid (∀ h : n < S.size, hd (fun c => decide (c.toNat = 40)) (s.drop n) = decide (S[n].toNat = 40)) := fun h => by
      rw [List.drop_eq_getElem_cons (by omega), at_bs S s hd0 n h]; rfl
    have HI0 : Hid (¬ n < S.size → hd (fun c => decide (c.toNat = 40)) (s.drop n) = false) := fun h => by
      rw [List.drop_eq_nil_of_le (by omega)]; rfl
    have hnS : n ≤ S.size := by omega
    clear hn hnn HP HM HQ hd0 hrk hS hle hsz
    generalize (⟨(s.take n).toArray⟩ : ByteArray) = G at *
    by_cases h64 : 64 < n
    · rw [if_pos h64] at HC
      clear HI HI0
      go_enter Tryz.func98, Tryz.ntmps98
      go_wp2_with (first | (go_at_call 118; (with_reducible refine (HN.out _).mono ?_); rintro e w' ⟨rfl, rfl⟩) | (go_at_call 119; (with_reducible refine (HLo.out _).mono ?_); rintro e w' ⟨rfl, X1, rfl⟩) | (go_at_call 119; (with_reducible refine (Ret.flatA (HLo.out _)).mono ?_); rintro e w' ⟨rfl, X1, rfl⟩))
      ((try simp only [Exit.inBlock, Exit.then]); refine bodyPost_ret (v := .tuple #[.agg #[.int .i64 7, .string ⟨#[]⟩, .int .i64 0, .string ⟨#[]⟩], .int .i64 (n : Int)]) (by (first | rw [results_cell_tmp rfl] | rw [results_cell1 rfl]); go_simp) rfl ?_)
      exact Ret.of (by rw [HP1.out, HC.out]; rfl) (by repeat (first | with_reducible exact Below.refl _ _ | (with_reducible refine Below.alloc ?_ (by first | omega | (simp [go_sem] <;> omega)) _) | (with_reducible refine Below.drew ?_) | (with_reducible refine Below.drewN ?_ _) | (with_reducible refine Below.grow ?_ (by first | omega | (simp [go_sem] <;> omega)) _) | (with_reducible refine Below.setCell ?_ (by first | omega | (simp [go_sem] <;> omega)) _)))

    rw [if_neg h64] at HC
    by_cases hlt : n < S.size
    · have HB := Lib.hid (HI.out hlt)
      by_cases h40 : S[n].toNat = 40
      · have b40 : ((S[n].toNat : Int) == 40) = true := by simp [h40]
        rw [decide_eq_true h40] at HB
        rw [HB.out, if_pos rfl] at HC
        clear HI HI0 HB h40
        go_enter Tryz.func98, Tryz.ntmps98
        go_wp2_with (first | (go_at_call 118; (with_reducible refine (HN.out _).mono ?_); rintro e w' ⟨rfl, rfl⟩) | (go_at_call 119; (with_reducible refine (HLo.out _).mono ?_); rintro e w' ⟨rfl, X1, rfl⟩) | (go_at_call 119; (with_reducible refine (Ret.flatA (HLo.out _)).mono ?_); rintro e w' ⟨rfl, X1, rfl⟩))
        ((try simp only [Exit.inBlock, Exit.then]); refine bodyPost_ret (v := .tuple #[.agg #[.int .i64 2, .string ⟨(lowL (s.take n)).toArray⟩, .int .i64 0, .string ⟨#[]⟩], .int .i64 ((n : Int) + 1)]) (by (first | rw [results_cell_tmp rfl] | rw [results_cell1 rfl]); go_simp) rfl ?_)
        exact Ret.of (by rw [HP1.out, HC.out]; rfl) (by repeat (first | with_reducible exact Below.refl _ _ | (with_reducible refine Below.alloc ?_ (by first | omega | (simp [go_sem] <;> omega)) _) | (with_reducible refine Below.drew ?_) | (with_reducible refine Below.drewN ?_ _) | (with_reducible refine Below.grow ?_ (by first | omega | (simp [go_sem] <;> omega)) _) | (with_reducible refine Below.setCell ?_ (by first | omega | (simp [go_sem] <;> omega)) _)))

      · have b40 : ((S[n].toNat : Int) == 40) = false := by simp; omega
        rw [decide_eq_false h40] at HB
        rw [HB.out, if_neg (by simp)] at HC
        clear HI HI0 HB h40
        go_enter Tryz.func98, Tryz.ntmps98
        go_wp2_with (first | (go_at_call 118; (with_reducible refine (HN.out _).mono ?_); rintro e w' ⟨rfl, rfl⟩) | (go_at_call 119; (with_reducible refine (HLo.out _).mono ?_); rintro e w' ⟨rfl, X1, rfl⟩) | (go_at_call 119; (with_reducible refine (Ret.flatA (HLo.out _)).mono ?_); rintro e w' ⟨rfl, X1, rfl⟩))
        ((try simp only [Exit.inBlock, Exit.then]); refine bodyPost_ret (v := .tuple #[.agg #[.int .i64 1, .string ⟨(lowL (s.take n)).toArray⟩, .int .i64 0, .string ⟨#[]⟩], .int .i64 (n : Int)]) (by (first | rw [results_cell_tmp rfl] | rw [results_cell1 rfl]); go_simp) rfl ?_)
        exact Ret.of (by rw [HP1.out, HC.out]; rfl) (by repeat (first | with_reducible exact Below.refl _ _ | (with_reducible refine Below.alloc ?_ (by first | omega | (simp [go_sem] <;> omega)) _) | (with_reducible refine Below.drew ?_) | (with_reducible refine Below.drewN ?_ _) | (with_reducible refine Below.grow ?_ (by first | omega | (simp [go_sem] <;> omega)) _) | (with_reducible refine Below.setCell ?_ (by first | omega | (simp [go_sem] <;> omega)) _)))

    · rw [HI0.out hlt, if_neg (by simp)] at HC
      clear HI HI0
      go_enter Tryz.func98, Tryz.ntmps98
      go_wp2_with (first | (go_at_call 118; (with_reducible refine (HN.out _).mono ?_); rintro e w' ⟨rfl, rfl⟩) | (go_at_call 119; (with_reducible refine (HLo.out _).mono ?_); rintro e w' ⟨rfl, X1, rfl⟩) | (go_at_call 119; (with_reducible refine (Ret.flatA (HLo.out _)).mono ?_); rintro e w' ⟨rfl, X1, rfl⟩))
      ((try simp only [Exit.inBlock, Exit.then]); refine bodyPost_ret (v := .tuple #[.agg #[.int .i64 1, .string ⟨(lowL (s.take n)).toArray⟩, .int .i64 0, .string ⟨#[]⟩], .int .i64 (n : Int)]) (by (first | rw [results_cell_tmp rfl] | rw [results_cell1 rfl]); go_simp) rfl ?_)
      exact Ret.of (by rw [HP1.out, HC.out]; rfl) (by repeat (first | with_reducible exact Below.refl _ _ | (with_reducible refine Below.alloc ?_ (by first | omega | (simp [go_sem] <;> omega)) _) | (with_reducible refine Below.drew ?_) | (with_reducible refine Below.drewN ?_ _) | (with_reducible refine Below.grow ?_ (by first | omega | (simp [go_sem] <;> omega)) _) | (with_reducible refine Below.setCell ?_ (by first | omega | (simp [go_sem] <;> omega)) _)))

end Go.Proofs.YtgcccpdadponiaaGreatDoor
