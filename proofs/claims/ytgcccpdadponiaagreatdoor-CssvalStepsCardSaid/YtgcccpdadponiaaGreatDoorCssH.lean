/- The walks of styles: the piece that a text begins with. -/
import Derived.Test.YtgcccpdadponiaaGreatDoorCssG
namespace Go.Proofs.YtgcccpdadponiaaGreatDoor
open Go.RowKit Go.Shelf
attribute [local go_sem] Oper.semAt_some
def marksB : ByteArray := ⟨#[58, 59, 44, 40, 41, 47, 33, 42, 43, 46, 62, 61, 45]⟩
theorem marks_at (c : UInt8) : decide ((0 : Int) ≤ Lib.indexByte marksB.data.toList c) = mkB c := by
  have h : ∀ n : Fin 256, decide ((0 : Int) ≤ Lib.indexByte marksB.data.toList (UInt8.ofNat n.val)) = mkB (UInt8.ofNat n.val) := by decide +kernel
  have := h ⟨c.toNat, c.toNat_lt⟩
  simpa using this
theorem index_any (c : UInt8) (W : World) : Calls Tryz.prog 92 #[.string ⟨#[58, 59, 44, 40, 41, 47, 33, 42, 43, 46, 62, 61, 45]⟩, .int .u8 c.toNat] W fun e w' => e = .returned (.int .i64 (Lib.indexByte marksB.data.toList c)) ∧ w' = W := by
  have := Tryz.strings_IndexByte marksB (c.toNat : Int) W
  rw [show ((c.toNat : Int).toNat.toUInt8) = c by simp] at this
  exact this
def lastC : Bs → Css × Nat
  | [] => (badC, 1)
  | c :: r => if c.toNat = 35 ∧ 0 < twc goB r then (namedC 4 (r.take (twc goB r)), twc goB r + 1) else if mkB c then (⟨6, [c], 0, []⟩, 1) else (badC, 1)
theorem piece_by (s : Bs) : pieceC s = if nameB s then nameC s
    else match numC s with
    | some x => x
    | none => match quotC s with
      | some x => x
      | none => lastC s := by
  unfold pieceC lastC
  rfl
set_option maxRecDepth 100000 in
set_option maxHeartbeats 6400000 in
theorem piece_any (s : Bs) (w : World) (hm : s.length ≤ 1000000000) (hne : s ≠ []) : Calls Tryz.prog 70 #[.string ⟨s.toArray⟩] w (Ret (.tuple #[Css.agg (pieceC s).1, .int .i64 (pieceC s).2]) w) := by
  obtain ⟨S, hS⟩ : ∃ S : ByteArray, ⟨s.toArray⟩ = S := ⟨_, rfl⟩
  have hd0 : S.data.toList = s := by rw [← hS]
  have hsz : S.size = s.length := by rw [← hS]; rfl
  have hpos : 0 < S.size := by rw [hsz]; exact List.length_pos_iff.2 hne
  have hSm : S.size ≤ 1000000000 := by omega
  have HN := Lib.hid (fun W => name_any s W (by omega))
  have HM := Lib.hid (fun W => numv_any s W hm hne)
  have HQ := Lib.hid (fun W => quotv_any s W hm hne)
  have HP := Lib.hid (piece_by s)
  rw [hS] at HN HM HQ ⊢
  have hk := piece_kinds hne (x := (pieceC s).1) (n := (pieceC s).2) rfl
  cases hn : nameB s
  · have e1 : nameV s = (zeroC, 0) := by unfold nameV; rw [hn]; rfl
    rw [e1] at HN
    simp only [Css.agg, zeroC, sv] at HN
    rw [hn] at HP
    simp only [Bool.false_eq_true, if_false] at HP
    cases hq : numC s with
    | some y =>
      have e2 : numV s = y := by unfold numV; rw [hq]
      rw [hq] at HP
      have HP2 : Hid (pieceC s = y) := HP.out
      rw [HP2.out] at hk
      rw [e2] at HM
      obtain ⟨y, n⟩ := y
      have hn1 : 0 < n := by omega
      have HN2 := Lib.hid HN.out
      have HM2 := Lib.hid HM.out
      simp only [Css.agg, sv] at HM2
      clear HP HN HM HQ hk e1 e2 hq hn hS hd0
      go_enter Tryz.func70, Tryz.ntmps70
      go_wp2_with (first | (go_at_call 86; (with_reducible refine (HN2.out _).mono ?_); rintro e w' ⟨rfl, X1, rfl⟩) | (go_at_call 87; (with_reducible refine (Ret.flatA (HM2.out _)).mono ?_); rintro e w' ⟨rfl, X2, rfl⟩))
      ((try simp only [Exit.inBlock, Exit.then]); refine bodyPost_ret (v := .tuple #[.agg #[.int .i64 y.kind, .string ⟨y.text.toArray⟩, .int .i64 y.num, .string ⟨y.unit.toArray⟩], .int .i64 (n : Int)]) (by (first | rw [results_cell_tmp rfl] | rw [results_cell1 rfl]); go_simp) rfl ?_)
      exact Ret.of (by rw [HP2.out]; rfl) (by repeat (first | with_reducible exact Below.refl _ _ | (with_reducible refine Below.alloc ?_ (by first | omega | (simp [go_sem] <;> omega)) _) | (with_reducible refine Below.drew ?_) | (with_reducible refine Below.drewN ?_ _) | (with_reducible refine Below.grow ?_ (by first | omega | (simp [go_sem] <;> omega)) _) | (with_reducible refine Below.setCell ?_ (by first | omega | (simp [go_sem] <;> omega)) _)))
    | none =>
      have e2 : numV s = (zeroC, 0) := by unfold numV; rw [hq]
      rw [e2] at HM
      simp only [Css.agg, zeroC, sv] at HM
      rw [hq] at HP
      simp only at HP
      cases hu : quotC s with
      | some y =>
        have e3 : quotV s = y := by unfold quotV; rw [hu]
        rw [hu] at HP
        have HP2 : Hid (pieceC s = y) := HP.out
        rw [HP2.out] at hk
        rw [e3] at HQ
        obtain ⟨y, n⟩ := y
        have hn1 : 0 < n := by omega
        have HN2 := Lib.hid HN.out
        have HM2 := Lib.hid HM.out
        have HQ2 := Lib.hid HQ.out
        simp only [Css.agg, sv] at HQ2
        clear HP HN HM HQ hk e1 e2 e3 hq hu hn hS hd0
        go_enter Tryz.func70, Tryz.ntmps70
        go_wp2_with (first | (go_at_call 86; (with_reducible refine (HN2.out _).mono ?_); rintro e w' ⟨rfl, X1, rfl⟩) | (go_at_call 87; (with_reducible refine (Ret.flatA (HM2.out _)).mono ?_); rintro e w' ⟨rfl, X2, rfl⟩) | (go_at_call 88; (with_reducible refine (Ret.flatA (HQ2.out _)).mono ?_); rintro e w' ⟨rfl, X3, rfl⟩))
        ((try simp only [Exit.inBlock, Exit.then]); refine bodyPost_ret (v := .tuple #[.agg #[.int .i64 y.kind, .string ⟨y.text.toArray⟩, .int .i64 y.num, .string ⟨y.unit.toArray⟩], .int .i64 (n : Int)]) (by (first | rw [results_cell_tmp rfl] | rw [results_cell1 rfl]); go_simp) rfl ?_)
        exact Ret.of (by rw [HP2.out]; rfl) (by repeat (first | with_reducible exact Below.refl _ _ | (with_reducible refine Below.alloc ?_ (by first | omega | (simp [go_sem] <;> omega)) _) | (with_reducible refine Below.drew ?_) | (with_reducible refine Below.drewN ?_ _) | (with_reducible refine Below.grow ?_ (by first | omega | (simp [go_sem] <;> omega)) _) | (with_reducible refine Below.setCell ?_ (by first | omega | (simp [go_sem] <;> omega)) _)))
      | none =>
        have e3 : quotV s = (zeroC, 0) := by unfold quotV; rw [hu]
        rw [e3] at HQ
        simp only [Css.agg, zeroC, sv] at HQ
        rw [hu] at HP
        simp only at HP
        obtain ⟨c, r, hcs⟩ : ∃ c r, s = c :: r := by
          cases s with
          | nil => exact absurd rfl hne
          | cons c r => exact ⟨c, r, rfl⟩
        have hc0 : S[0] = c := by rw [at_bs S s hd0 0 hpos]; simp [hcs]
        obtain ⟨k, hk2⟩ : ∃ k, twc goB r = k := ⟨_, rfl⟩
        have hkl := twc_le goB r
        rw [hk2] at hkl
        have hrl : S.size = r.length + 1 := by rw [hsz, hcs]; rfl
        have hkS : k + 1 ≤ S.size := by omega
        have HP2 : Hid (pieceC s = if c.toNat = 35 ∧ 0 < k then (namedC 4 (r.take k), k + 1) else if mkB c then (⟨6, [c], 0, []⟩, 1) else (badC, 1)) := by
          have := HP.out
          rw [← hk2, this, hcs]
          rfl
        have HR := Lib.hid (fun W => show Calls Tryz.prog 89 #[.string S, .int .i64 1, .func (.func 90) #[] #[]] W fun e w' => e = .returned (.int .i64 k) ∧ W = w' from by
          have := row_any S 1 _ _ W goes_pred hpos (by omega)
          rw [hd0, hcs, List.drop_succ_cons, List.drop_zero, hk2] at this; exact this)
        have he1 : S.extract 1 (k + 1) = ⟨(r.take k).toArray⟩ := by rw [str_cut, hd0, hcs]; congr 2
        have he2 : S.extract 0 1 = ⟨([c] : Bs).toArray⟩ := by rw [str_take, hd0, hcs]; rfl
        have HNm := Lib.hid (fun W => named_any 4 (r.take k) W (by omega) (by omega) (by rw [List.length_take]; omega))
        have HI := Lib.hid (fun W => show Calls Tryz.prog 92 #[.string ⟨#[58, 59, 44, 40, 41, 47, 33, 42, 43, 46, 62, 61, 45]⟩, .int .u8 S[0].toNat] W fun e w' => e = .returned (.int .i64 (Lib.indexByte marksB.data.toList c)) ∧ w' = W from by rw [hc0]; exact index_any c W)
        have HI2 := Lib.hid (marks_at c)
        have HBd := Lib.hid (fun W => bad_any W)
        simp only [Css.agg, sv] at HNm
        simp only [Css.agg, badC, sv] at HBd
        have HN2 := Lib.hid HN.out
        have HM2 := Lib.hid HM.out
        have HQ2 := Lib.hid HQ.out
        generalize (⟨(r.take k).toArray⟩ : ByteArray) = G at *
        by_cases h35 : c.toNat = 35
        · have b35 : ((S[0].toNat : Int) == 35) = true := by rw [hc0]; simp [h35]
          by_cases hk0 : 0 < k
          · have bk : decide ((0 : Int) < (k : Int)) = true := by simp; omega
            have hx1 : ((k : Int) + 1).toNat = k + 1 := by omega
            rw [if_pos ⟨h35, hk0⟩] at HP2
            clear HP HN HM HQ hk e1 e2 e3 hq hu hn hS hd0 hcs hc0 hk2 hrl hkl hsz h35
            go_enter Tryz.func70, Tryz.ntmps70
            go_wp2_with (first | (go_at_call 86; (with_reducible refine (HN2.out _).mono ?_); rintro e w' ⟨rfl, X1, rfl⟩) | (go_at_call 87; (with_reducible refine (Ret.flatA (HM2.out _)).mono ?_); rintro e w' ⟨rfl, X2, rfl⟩) | (go_at_call 88; (with_reducible refine (Ret.flatA (HQ2.out _)).mono ?_); rintro e w' ⟨rfl, X3, rfl⟩) | (go_at_call 89; (with_reducible refine (HR.out _).mono ?_); rintro e w' ⟨rfl, rfl⟩) | (go_at_call 91; (with_reducible refine (Ret.flatA (HNm.out _)).mono ?_); rintro e w' ⟨rfl, X4, rfl⟩))
            ((try simp only [Exit.inBlock, Exit.then]); refine bodyPost_ret (v := .tuple #[.agg #[.int .i64 (namedC 4 (r.take k)).kind, .string ⟨(namedC 4 (r.take k)).text.toArray⟩, .int .i64 (namedC 4 (r.take k)).num, .string ⟨(namedC 4 (r.take k)).unit.toArray⟩], .int .i64 ((k : Int) + 1)]) (by (first | rw [results_cell_tmp rfl] | rw [results_cell1 rfl]); go_simp) rfl ?_)
            exact Ret.of (by rw [HP2.out]; rfl) (by repeat (first | with_reducible exact Below.refl _ _ | (with_reducible refine Below.alloc ?_ (by first | omega | (simp [go_sem] <;> omega)) _) | (with_reducible refine Below.drew ?_) | (with_reducible refine Below.drewN ?_ _) | (with_reducible refine Below.grow ?_ (by first | omega | (simp [go_sem] <;> omega)) _) | (with_reducible refine Below.setCell ?_ (by first | omega | (simp [go_sem] <;> omega)) _)))
          · have hk00 : k = 0 := by omega
            subst hk00
            rw [if_neg (by omega)] at HP2
            clear hk0
            cases hmk : mkB c
            · rw [hmk] at HI2 HP2
              have bm := HI2.out
              clear HP HN HM HQ hk e1 e2 e3 hq hu hn hS hd0 hcs hc0 hk2 hrl hkl hsz h35 hmk
              generalize Lib.indexByte marksB.data.toList c = ix at *
              go_enter Tryz.func70, Tryz.ntmps70
              go_wp2_with (first | (go_at_call 86; (with_reducible refine (HN2.out _).mono ?_); rintro e w' ⟨rfl, X1, rfl⟩) | (go_at_call 87; (with_reducible refine (Ret.flatA (HM2.out _)).mono ?_); rintro e w' ⟨rfl, X2, rfl⟩) | (go_at_call 88; (with_reducible refine (Ret.flatA (HQ2.out _)).mono ?_); rintro e w' ⟨rfl, X3, rfl⟩) | (go_at_call 89; (with_reducible refine (HR.out _).mono ?_); rintro e w' ⟨rfl, rfl⟩) | (go_at_call 92; (with_reducible refine (HI.out _).mono ?_); rintro e w' ⟨rfl, rfl⟩) | (go_at_call 93; (with_reducible refine (Ret.flatA (HBd.out _)).mono ?_); rintro e w' ⟨rfl, X4, rfl⟩))
              ((try simp only [Exit.inBlock, Exit.then]); refine bodyPost_ret (v := .tuple #[.agg #[.int .i64 7, .string ⟨#[]⟩, .int .i64 0, .string ⟨#[]⟩], .int .i64 1]) (by (first | rw [results_cell_tmp rfl] | rw [results_cell1 rfl]); go_simp) rfl ?_)
              exact Ret.of (by rw [HP2.out]; rfl) (by repeat (first | with_reducible exact Below.refl _ _ | (with_reducible refine Below.alloc ?_ (by first | omega | (simp [go_sem] <;> omega)) _) | (with_reducible refine Below.drew ?_) | (with_reducible refine Below.drewN ?_ _) | (with_reducible refine Below.grow ?_ (by first | omega | (simp [go_sem] <;> omega)) _) | (with_reducible refine Below.setCell ?_ (by first | omega | (simp [go_sem] <;> omega)) _)))
            · rw [hmk] at HI2 HP2
              have bm := HI2.out
              clear HP HN HM HQ hk e1 e2 e3 hq hu hn hS hd0 hcs hc0 hk2 hrl hkl hsz h35 hmk
              generalize Lib.indexByte marksB.data.toList c = ix at *
              go_enter Tryz.func70, Tryz.ntmps70
              go_wp2_with (first | (go_at_call 86; (with_reducible refine (HN2.out _).mono ?_); rintro e w' ⟨rfl, X1, rfl⟩) | (go_at_call 87; (with_reducible refine (Ret.flatA (HM2.out _)).mono ?_); rintro e w' ⟨rfl, X2, rfl⟩) | (go_at_call 88; (with_reducible refine (Ret.flatA (HQ2.out _)).mono ?_); rintro e w' ⟨rfl, X3, rfl⟩) | (go_at_call 89; (with_reducible refine (HR.out _).mono ?_); rintro e w' ⟨rfl, rfl⟩) | (go_at_call 92; (with_reducible refine (HI.out _).mono ?_); rintro e w' ⟨rfl, rfl⟩) | (go_at_call 93; (with_reducible refine (Ret.flatA (HBd.out _)).mono ?_); rintro e w' ⟨rfl, X4, rfl⟩))
              ((try simp only [Exit.inBlock, Exit.then]); refine bodyPost_ret (v := .tuple #[.agg #[.int .i64 6, .string ⟨([c] : Bs).toArray⟩, .int .i64 0, .string ⟨#[]⟩], .int .i64 1]) (by (first | rw [results_cell_tmp rfl] | rw [results_cell1 rfl]); go_simp) rfl ?_)
              exact Ret.of (by rw [HP2.out]; rfl) (by repeat (first | with_reducible exact Below.refl _ _ | (with_reducible refine Below.alloc ?_ (by first | omega | (simp [go_sem] <;> omega)) _) | (with_reducible refine Below.drew ?_) | (with_reducible refine Below.drewN ?_ _) | (with_reducible refine Below.grow ?_ (by first | omega | (simp [go_sem] <;> omega)) _) | (with_reducible refine Below.setCell ?_ (by first | omega | (simp [go_sem] <;> omega)) _)))
        · have b35 : ((S[0].toNat : Int) == 35) = false := by rw [hc0]; simp; omega
          rw [if_neg (by omega)] at HP2
          cases hmk : mkB c
          · rw [hmk] at HI2 HP2
            have bm := HI2.out
            clear HP HN HM HQ hk e1 e2 e3 hq hu hn hS hd0 hcs hc0 hk2 hrl hkl hsz h35 hmk
            generalize Lib.indexByte marksB.data.toList c = ix at *
            go_enter Tryz.func70, Tryz.ntmps70
            go_wp2_with (first | (go_at_call 86; (with_reducible refine (HN2.out _).mono ?_); rintro e w' ⟨rfl, X1, rfl⟩) | (go_at_call 87; (with_reducible refine (Ret.flatA (HM2.out _)).mono ?_); rintro e w' ⟨rfl, X2, rfl⟩) | (go_at_call 88; (with_reducible refine (Ret.flatA (HQ2.out _)).mono ?_); rintro e w' ⟨rfl, X3, rfl⟩) | (go_at_call 89; (with_reducible refine (HR.out _).mono ?_); rintro e w' ⟨rfl, rfl⟩) | (go_at_call 92; (with_reducible refine (HI.out _).mono ?_); rintro e w' ⟨rfl, rfl⟩) | (go_at_call 93; (with_reducible refine (Ret.flatA (HBd.out _)).mono ?_); rintro e w' ⟨rfl, X4, rfl⟩))
            ((try simp only [Exit.inBlock, Exit.then]); refine bodyPost_ret (v := .tuple #[.agg #[.int .i64 7, .string ⟨#[]⟩, .int .i64 0, .string ⟨#[]⟩], .int .i64 1]) (by (first | rw [results_cell_tmp rfl] | rw [results_cell1 rfl]); go_simp) rfl ?_)
            exact Ret.of (by rw [HP2.out]; rfl) (by repeat (first | with_reducible exact Below.refl _ _ | (with_reducible refine Below.alloc ?_ (by first | omega | (simp [go_sem] <;> omega)) _) | (with_reducible refine Below.drew ?_) | (with_reducible refine Below.drewN ?_ _) | (with_reducible refine Below.grow ?_ (by first | omega | (simp [go_sem] <;> omega)) _) | (with_reducible refine Below.setCell ?_ (by first | omega | (simp [go_sem] <;> omega)) _)))
          · rw [hmk] at HI2 HP2
            have bm := HI2.out
            clear HP HN HM HQ hk e1 e2 e3 hq hu hn hS hd0 hcs hc0 hk2 hrl hkl hsz h35 hmk
            generalize Lib.indexByte marksB.data.toList c = ix at *
            go_enter Tryz.func70, Tryz.ntmps70
            go_wp2_with (first | (go_at_call 86; (with_reducible refine (HN2.out _).mono ?_); rintro e w' ⟨rfl, X1, rfl⟩) | (go_at_call 87; (with_reducible refine (Ret.flatA (HM2.out _)).mono ?_); rintro e w' ⟨rfl, X2, rfl⟩) | (go_at_call 88; (with_reducible refine (Ret.flatA (HQ2.out _)).mono ?_); rintro e w' ⟨rfl, X3, rfl⟩) | (go_at_call 89; (with_reducible refine (HR.out _).mono ?_); rintro e w' ⟨rfl, rfl⟩) | (go_at_call 92; (with_reducible refine (HI.out _).mono ?_); rintro e w' ⟨rfl, rfl⟩) | (go_at_call 93; (with_reducible refine (Ret.flatA (HBd.out _)).mono ?_); rintro e w' ⟨rfl, X4, rfl⟩))
            ((try simp only [Exit.inBlock, Exit.then]); refine bodyPost_ret (v := .tuple #[.agg #[.int .i64 6, .string ⟨([c] : Bs).toArray⟩, .int .i64 0, .string ⟨#[]⟩], .int .i64 1]) (by (first | rw [results_cell_tmp rfl] | rw [results_cell1 rfl]); go_simp) rfl ?_)
            exact Ret.of (by rw [HP2.out]; rfl) (by repeat (first | with_reducible exact Below.refl _ _ | (with_reducible refine Below.alloc ?_ (by first | omega | (simp [go_sem] <;> omega)) _) | (with_reducible refine Below.drew ?_) | (with_reducible refine Below.drewN ?_ _) | (with_reducible refine Below.grow ?_ (by first | omega | (simp [go_sem] <;> omega)) _) | (with_reducible refine Below.setCell ?_ (by first | omega | (simp [go_sem] <;> omega)) _)))
  · have e1 : nameV s = nameC s := by unfold nameV; rw [hn]; rfl
    rw [hn] at HP
    have HP2 : Hid (pieceC s = nameC s) := HP.out
    rw [HP2.out] at hk
    rw [e1] at HN
    generalize nameC s = y at *
    obtain ⟨y, n⟩ := y
    have hn1 : 0 < n := by omega
    have HN2 := Lib.hid HN.out
    simp only [Css.agg, sv] at HN2
    clear HP HN HM HQ hk e1 hn hS hd0
    go_enter Tryz.func70, Tryz.ntmps70
    go_wp2_with (go_at_call 86; (with_reducible refine (HN2.out _).mono ?_); rintro e w' ⟨rfl, X1, rfl⟩)
    ((try simp only [Exit.inBlock, Exit.then]); refine bodyPost_ret (v := .tuple #[.agg #[.int .i64 y.kind, .string ⟨y.text.toArray⟩, .int .i64 y.num, .string ⟨y.unit.toArray⟩], .int .i64 (n : Int)]) (by (first | rw [results_cell_tmp rfl] | rw [results_cell1 rfl]); go_simp) rfl ?_)
    exact Ret.of (by rw [HP2.out]; rfl) (by repeat (first | with_reducible exact Below.refl _ _ | (with_reducible refine Below.alloc ?_ (by first | omega | (simp [go_sem] <;> omega)) _) | (with_reducible refine Below.drew ?_) | (with_reducible refine Below.drewN ?_ _) | (with_reducible refine Below.grow ?_ (by first | omega | (simp [go_sem] <;> omega)) _) | (with_reducible refine Below.setCell ?_ (by first | omega | (simp [go_sem] <;> omega)) _)))
end Go.Proofs.YtgcccpdadponiaaGreatDoor
