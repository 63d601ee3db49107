/- The walks of styles by the reference: figures, a piece as text. -/
import Derived.Test.YtgcccpdadponiaaGreatDoorCssM
import Derived.Test.YtgcccpdadponiaaGreatDoorCssS
namespace Go.Proofs.YtgcccpdadponiaaGreatDoor
open Go.RowKit Go.Shelf
attribute [local go_sem] Oper.semAt_some
theorem dec_fig (n : Nat) (h : n ≤ 9223372036854775808) : Lib.decDigits n = figL n := (fig_dec 20 n (by omega)).symm
theorem dec_len (n : Nat) (h : n ≤ 9223372036854775808) : (Lib.decDigits n).length ≤ 21 := by rw [dec_fig n h]; exact fig_len n (by omega)
theorem dec_one (n : Nat) (h : n < 10) : Lib.decDigits n = [fgB n] := by rw [Lib.decDigits, dif_pos h]; rfl
theorem dec_more (n : Nat) (h : ¬ n < 10) : Lib.decDigits n = Lib.decDigits (n / 10) ++ Lib.decDigits (n % 10) := by
  rw [dec_one (n % 10) (by omega)]
  conv => lhs; rw [Lib.decDigits, dif_neg h]
  rfl
theorem fg_cell (n : Nat) (h : n < 10) : bv (fgB n) = .int .u8 (48 + (n : Int)) := by
  have : (fgB n).toNat = 48 + n := by simp only [fgB, UInt8.toNat_ofNat']; omega
  simp [bv, this]
theorem tdivN (a b : Nat) : Int.tdiv (a : Int) (b : Int) = ((a / b : Nat) : Int) := by rw [Int.tdiv_eq_ediv_of_nonneg (by omega)]; rfl
theorem tmodN (a b : Nat) : Int.tmod (a : Int) (b : Int) = ((a % b : Nat) : Int) := by rw [Int.tmod_eq_emod_of_nonneg (by omega)]; rfl
set_option maxRecDepth 100000 in
set_option maxHeartbeats 1600000 in
theorem rfigs_any : ∀ (n : Nat), n ≤ 9223372036854775807 → ∀ w : World, Calls Tryz.prog 124 #[.int .i64 n] w (Ret (.string ⟨(Lib.decDigits n).toArray⟩) w) := by
  intro n
  induction n using Nat.strongRecOn with
  | ind n ih =>
  intro hn w
  by_cases h10 : n < 10
  · have HD := Lib.hid (dec_one n h10)
    have b0 : decide ((n : Int) < 10) = true := by simp; omega
    have hw : IntKind.u8.wrap (48 + (n : Int)) = 48 + (n : Int) := IntWalk.u8_in _ (by omega)
    have hcv : ∀ W : World, (convert 89 9 (.slice (some ⟨W.heap.size, 0, none⟩) 1 1)).run Tryz.prog (W.alloc (.cells #[.int .u8 (48 + (n : Int))] 5)) = .ok (.string ⟨#[fgB n]⟩) (W.alloc (.cells #[.int .u8 (48 + (n : Int))] 5)) := fun W => by
      refine Rd.str (l := [fgB n]) ⟨rfl, by simp, _, 1, rfl, fun _ => ⟨W.heap.size, 0, rfl, by simp, fun j u hu => ?_⟩⟩ 89 9 5 Tryz.underlying89 Tryz.underlying5 Tryz.underlying9
      have hj : j = 0 := by have := (List.getElem?_eq_some_iff.1 hu).1; simp at this; omega
      subst hj
      simp only [List.map_cons, List.map_nil, List.getElem?_cons_zero, Option.some.injEq] at hu
      rw [← hu, fg_cell n h10]
      simp only [World.cell?, heap_alloc_new]; rfl
    clear ih
    go_enter Tryz.func124, Tryz.ntmps124
    go_wp2_with fail
    go_ret
    exact Ret.of (by rw [HD.out]; rfl) (by repeat (first | with_reducible exact Below.refl _ _ | (with_reducible refine Below.alloc ?_ (by first | omega | (simp [go_sem] <;> omega)) _) | (with_reducible refine Below.drew ?_) | (with_reducible refine Below.drewN ?_ _) | (with_reducible refine Below.grow ?_ (by first | omega | (simp [go_sem] <;> omega)) _) | (with_reducible refine Below.setCell ?_ (by first | omega | (simp [go_sem] <;> omega)) _)))
  · have b0 : decide ((n : Int) < 10) = false := by simp; omega
    obtain ⟨T1, hT1⟩ : ∃ T : ByteArray, ⟨(Lib.decDigits (n / 10)).toArray⟩ = T := ⟨_, rfl⟩
    obtain ⟨T2, hT2⟩ : ∃ T : ByteArray, ⟨(Lib.decDigits (n % 10)).toArray⟩ = T := ⟨_, rfl⟩
    have h1 := Lib.hid (fun W => hT1 ▸ ih (n / 10) (by omega) (by omega) W)
    have h2 := Lib.hid (fun W => hT2 ▸ ih (n % 10) (by omega) (by omega) W)
    have e1 : Int.tdiv (n : Int) 10 = ((n / 10 : Nat) : Int) := tdivN n 10
    have e2 : Int.tmod (n : Int) 10 = ((n % 10 : Nat) : Int) := tmodN n 10
    have s1 : T1.size ≤ 21 := by rw [← hT1]; exact dec_len _ (by omega)
    have s2 : T2.size ≤ 21 := by rw [← hT2]; exact dec_len _ (by omega)
    have HD : Hid (Lib.decDigits n = T1.data.toList ++ T2.data.toList) := by show _ = _; rw [← hT1, ← hT2]; exact dec_more n h10
    have hq : n / 10 ≤ 9223372036854775807 := by omega
    have hr : n % 10 ≤ 9 := by omega
    clear ih hT1 hT2
    generalize n / 10 = q at *
    generalize n % 10 = r at *
    go_enter Tryz.func124, Tryz.ntmps124
    go_wp2_with (go_at_call 124; first | ((with_reducible refine (h1.out _).mono ?_); rintro e w' ⟨rfl, X1, rfl⟩) | ((with_reducible refine (h2.out _).mono ?_); rintro e w' ⟨rfl, X2, rfl⟩))
    go_ret
    exact Ret.of (str_eq (by rw [ByteArray.data_append, Array.toList_append, HD.out])) (by repeat (first | with_reducible exact Below.refl _ _ | (with_reducible refine Below.alloc ?_ (by first | omega | (simp [go_sem] <;> omega)) _) | (with_reducible refine Below.drew ?_) | (with_reducible refine Below.drewN ?_ _) | (with_reducible refine Below.grow ?_ (by first | omega | (simp [go_sem] <;> omega)) _) | (with_reducible refine Below.setCell ?_ (by first | omega | (simp [go_sem] <;> omega)) _)))
theorem rfigL_any (n : Nat) (h : n ≤ 9223372036854775807) (w : World) : Calls Tryz.prog 124 #[.int .i64 n] w (Ret (.string ⟨(figL n).toArray⟩) w) := dec_fig n (by omega) ▸ rfigs_any n h w
theorem rfig1_any (n : Nat) (h : n < 10) (w : World) : Calls Tryz.prog 124 #[.int .i64 n] w (Ret (.string ⟨([fgB n] : Bs).toArray⟩) w) := dec_one n h ▸ rfigs_any n (by omega) w
set_option maxRecDepth 100000 in
set_option maxHeartbeats 3200000 in
theorem rfigp_any (n : Nat) (hn : n ≤ 9223372036854775807) (w : World) : Calls Tryz.prog 99 #[.int .i64 n] w (Ret (.string ⟨(figL (n / 1000) ++ fracL (n % 1000)).toArray⟩) w) := by
  have b0 : ((n : Int) == -9223372036854775808) = false := by simp <;> omega
  have b00 : ¬ ((n : Int) = -9223372036854775808) := by omega
  have b1 : decide ((n : Int) < 0) = false := by simp
  have e1 : Int.tdiv (n : Int) 1000 = ((n / 1000 : Nat) : Int) := tdivN n 1000
  have e2 : Int.tmod (n : Int) 1000 = ((n % 1000 : Nat) : Int) := tmodN n 1000
  obtain ⟨q, hq⟩ : ∃ q, n / 1000 = q := ⟨_, rfl⟩
  obtain ⟨p, hp⟩ : ∃ p, n % 1000 = p := ⟨_, rfl⟩
  have hp3 : p < 1000 := by omega
  have hq3 : q ≤ 9223372036854775 := by omega
  rw [hq] at e1 ⊢
  rw [hp] at e2 ⊢
  clear hq hp
  obtain ⟨F, hF⟩ : ∃ F : ByteArray, ⟨(figL q).toArray⟩ = F := ⟨_, rfl⟩
  have HF := Lib.hid (fun W => hF ▸ rfigL_any q (by omega) W)
  have hFs : F.size ≤ 21 := by rw [← hF]; exact fig_len q (by omega)
  have HFd : Hid (F.data.toList = figL q) := by show _ = _; rw [← hF]
  clear hF
  by_cases hp0 : p = 0
  · have HN : Hid (figL q ++ fracL p = figL q) := by show _ = _; rw [hp0]; simp [fracL]
    have c0 : ((p : Int) == 0) = true := by simp [hp0]
    have c1 : (p : Int) = 0 := by omega
    clear hp0
    go_enter Tryz.func99, Tryz.ntmps99
    go_wp2_with (go_at_call 124; (with_reducible refine (HF.out _).mono ?_); rintro e w' ⟨rfl, X1, rfl⟩)
    go_ret
    exact Ret.of (str_eq (by rw [HFd.out, HN.out])) (by repeat (first | with_reducible exact Below.refl _ _ | (with_reducible refine Below.alloc ?_ (by first | omega | (simp [go_sem] <;> omega)) _) | (with_reducible refine Below.drew ?_) | (with_reducible refine Below.drewN ?_ _) | (with_reducible refine Below.grow ?_ (by first | omega | (simp [go_sem] <;> omega)) _) | (with_reducible refine Below.setCell ?_ (by first | omega | (simp [go_sem] <;> omega)) _)))
  have c0 : ((p : Int) == 0) = false := by simp [hp0]
  have c1 : ¬ (p : Int) = 0 := by omega
  have e3 : Int.tdiv (p : Int) 100 = ((p / 100 : Nat) : Int) := tdivN p 100
  have e4 : Int.tmod (p : Int) 100 = ((p % 100 : Nat) : Int) := tmodN p 100
  have e5 : Int.tdiv (p : Int) 10 = ((p / 10 : Nat) : Int) := tdivN p 10
  have e6 : Int.tmod ((p / 10 : Nat) : Int) 10 = ((p / 10 % 10 : Nat) : Int) := tmodN (p / 10) 10
  have e7 : Int.tmod (p : Int) 10 = ((p % 10 : Nat) : Int) := tmodN p 10
  have HFr : Hid (fracL p = 46 :: fgB (p / 100) :: (if p % 100 = 0 then [] else fgB (p / 10 % 10) :: (if p % 10 = 0 then [] else [fgB (p % 10)]))) := by show _ = _; unfold fracL; rw [if_neg hp0]
  have ha : p / 100 < 10 := by omega
  have hb : p / 10 % 10 < 10 := by omega
  have hc : p % 10 < 10 := by omega
  have hmc : p % 100 = 0 → p % 10 = 0 := by omega
  have hp10 : p / 10 ≤ 100 := by omega
  have hp100 : p % 100 ≤ 100 := by omega
  generalize p / 100 = a at *
  generalize p / 10 % 10 = b at *
  generalize p % 10 = c at *
  generalize p / 10 = p10 at *
  generalize p % 100 = m at *
  have HA := Lib.hid (fun W => rfig1_any a ha W)
  have HB := Lib.hid (fun W => rfig1_any b hb W)
  have HC := Lib.hid (fun W => rfig1_any c hc W)
  have z1 : ∀ d, (⟨([fgB d] : Bs).toArray⟩ : ByteArray).size = 1 := fun _ => rfl
  have za := z1 a
  have zb := z1 b
  have zc := z1 c
  have ya : (⟨([fgB a] : Bs).toArray⟩ : ByteArray).data.toList = [fgB a] := rfl
  have yb : (⟨([fgB b] : Bs).toArray⟩ : ByteArray).data.toList = [fgB b] := rfl
  have yc : (⟨([fgB c] : Bs).toArray⟩ : ByteArray).data.toList = [fgB c] := rfl
  clear z1 hp0
  generalize (⟨([fgB a] : Bs).toArray⟩ : ByteArray) = SA at *
  generalize (⟨([fgB b] : Bs).toArray⟩ : ByteArray) = SB at *
  generalize (⟨([fgB c] : Bs).toArray⟩ : ByteArray) = SC at *
  have YA := Lib.hid ya
  have YB := Lib.hid yb
  have YC := Lib.hid yc
  clear ya yb yc
  by_cases hm0 : m = 0
  · have hc0 := hmc hm0
    rw [if_pos hm0] at HFr
    subst hm0 hc0
    clear hmc
    go_enter Tryz.func99, Tryz.ntmps99
    go_wp2_with (go_at_call 124; first | ((with_reducible refine (HF.out _).mono ?_); rintro e w' ⟨rfl, X1, rfl⟩) | ((with_reducible refine (HA.out _).mono ?_); rintro e w' ⟨rfl, X2, rfl⟩))
    go_ret
    exact Ret.of (str_eq (by simp only [ByteArray.data_append, Array.toList_append, HFd.out, YA.out, HFr.out]; simp)) (by repeat (first | with_reducible exact Below.refl _ _ | (with_reducible refine Below.alloc ?_ (by first | omega | (simp [go_sem] <;> omega)) _) | (with_reducible refine Below.drew ?_) | (with_reducible refine Below.drewN ?_ _) | (with_reducible refine Below.grow ?_ (by first | omega | (simp [go_sem] <;> omega)) _) | (with_reducible refine Below.setCell ?_ (by first | omega | (simp [go_sem] <;> omega)) _)))
  rw [if_neg hm0] at HFr
  have d0 : 0 < m := by omega
  by_cases hc0 : c = 0
  · rw [if_pos hc0] at HFr
    subst hc0
    clear hmc hm0
    go_enter Tryz.func99, Tryz.ntmps99
    go_wp2_with (go_at_call 124; first | ((with_reducible refine (HF.out _).mono ?_); rintro e w' ⟨rfl, X1, rfl⟩) | ((with_reducible refine (HA.out _).mono ?_); rintro e w' ⟨rfl, X2, rfl⟩) | ((with_reducible refine (HB.out _).mono ?_); rintro e w' ⟨rfl, X3, rfl⟩))
    go_ret
    exact Ret.of (str_eq (by simp only [ByteArray.data_append, Array.toList_append, HFd.out, YA.out, YB.out, HFr.out]; simp)) (by repeat (first | with_reducible exact Below.refl _ _ | (with_reducible refine Below.alloc ?_ (by first | omega | (simp [go_sem] <;> omega)) _) | (with_reducible refine Below.drew ?_) | (with_reducible refine Below.drewN ?_ _) | (with_reducible refine Below.grow ?_ (by first | omega | (simp [go_sem] <;> omega)) _) | (with_reducible refine Below.setCell ?_ (by first | omega | (simp [go_sem] <;> omega)) _)))
  rw [if_neg hc0] at HFr
  have d1 : 0 < c := by omega
  clear hmc hm0 hc0
  go_enter Tryz.func99, Tryz.ntmps99
  go_wp2_with (go_at_call 124; first | ((with_reducible refine (HF.out _).mono ?_); rintro e w' ⟨rfl, X1, rfl⟩) | ((with_reducible refine (HA.out _).mono ?_); rintro e w' ⟨rfl, X2, rfl⟩) | ((with_reducible refine (HB.out _).mono ?_); rintro e w' ⟨rfl, X3, rfl⟩) | ((with_reducible refine (HC.out _).mono ?_); rintro e w' ⟨rfl, X4, rfl⟩))
  go_ret
  exact Ret.of (str_eq (by simp only [ByteArray.data_append, Array.toList_append, HFd.out, YA.out, YB.out, YC.out, HFr.out]; simp)) (by repeat (first | with_reducible exact Below.refl _ _ | (with_reducible refine Below.alloc ?_ (by first | omega | (simp [go_sem] <;> omega)) _) | (with_reducible refine Below.drew ?_) | (with_reducible refine Below.drewN ?_ _) | (with_reducible refine Below.grow ?_ (by first | omega | (simp [go_sem] <;> omega)) _) | (with_reducible refine Below.setCell ?_ (by first | omega | (simp [go_sem] <;> omega)) _)))
theorem fig_min : figuresL (-9223372036854775808) = [45, 57, 50, 50, 51, 51, 55, 50, 48, 51, 54, 56, 53, 52, 55, 55, 53, 46, 56, 48, 56] := by decide +kernel
theorem fig_pos (m : Nat) : figuresL (m : Int) = figL (m / 1000) ++ fracL (m % 1000) := by
  rw [fig_split, sgL, if_neg (by omega)]; rfl
theorem fig_neg (m : Nat) (h : 0 < m) : figuresL (-(m : Int)) = 45 :: (figL (m / 1000) ++ fracL (m % 1000)) := by
  rw [fig_split, sgL, if_pos (by omega), show (-(m : Int)).natAbs = m by omega]; rfl
set_option maxRecDepth 100000 in
set_option maxHeartbeats 3200000 in
theorem rfigures_any (n : Int) (w : World) (h0 : -9223372036854775808 ≤ n) (h1 : n ≤ 9223372036854775807) : Calls Tryz.prog 99 #[.int .i64 n] w (Ret (.string ⟨(figuresL n).toArray⟩) w) := by
  by_cases hp : 0 ≤ n
  · obtain ⟨m, rfl⟩ : ∃ m : Nat, n = m := ⟨n.toNat, by omega⟩
    rw [fig_pos]
    exact rfigp_any m (by omega) w
  by_cases hmin : n = -9223372036854775808
  · subst hmin
    have HM := Lib.hid fig_min
    rw [HM.out]
    clear h0 h1 hp
    go_enter Tryz.func99, Tryz.ntmps99
    go_wp2_with fail
    go_ret
    exact Ret.of rfl (by repeat (first | with_reducible exact Below.refl _ _ | (with_reducible refine Below.alloc ?_ (by first | omega | (simp [go_sem] <;> omega)) _) | (with_reducible refine Below.drew ?_) | (with_reducible refine Below.drewN ?_ _) | (with_reducible refine Below.grow ?_ (by first | omega | (simp [go_sem] <;> omega)) _) | (with_reducible refine Below.setCell ?_ (by first | omega | (simp [go_sem] <;> omega)) _)))
  obtain ⟨m, rfl⟩ : ∃ m : Nat, n = -(m : Int) := ⟨n.natAbs, by omega⟩
  have hm0 : 0 < m := by omega
  have hm1 : m ≤ 9223372036854775807 := by omega
  have b0 : (-(m : Int) == -9223372036854775808) = false := by simp; omega
  have b00 : ¬ ((m : Int) = 9223372036854775808) := by omega
  have b01 : ¬ (m = 9223372036854775808) := by omega
  have b1 : decide (-(m : Int) < 0) = true := by simp; omega
  have hng : - -(m : Int) = m := by omega
  rw [fig_neg m hm0]
  have HL := Lib.hid (show (figL (m / 1000) ++ fracL (m % 1000)).length ≤ 30 from by
    have := figures_len (m : Int) (by omega)
    rwa [fig_pos] at this)
  have HF := Lib.hid (fun W => rfigp_any m hm1 W)
  obtain ⟨F, hF⟩ : ∃ F : ByteArray, ⟨(figL (m / 1000) ++ fracL (m % 1000)).toArray⟩ = F := ⟨_, rfl⟩
  have hFs : F.size ≤ 30 := by rw [← hF]; exact HL.out
  have HFd : Hid (F.data.toList = figL (m / 1000) ++ fracL (m % 1000)) := by show _ = _; rw [← hF]
  rw [hF] at HF
  clear hF hp hmin h0 h1
  go_enter Tryz.func99, Tryz.ntmps99
  go_wp2_with (go_at_call 99; (with_reducible refine (HF.out _).mono ?_); rintro e w' ⟨rfl, X1, rfl⟩)
  go_ret
  exact Ret.of (str_eq (by rw [ByteArray.data_append, Array.toList_append, HFd.out]; rfl)) (by repeat (first | with_reducible exact Below.refl _ _ | (with_reducible refine Below.alloc ?_ (by first | omega | (simp [go_sem] <;> omega)) _) | (with_reducible refine Below.drew ?_) | (with_reducible refine Below.drewN ?_ _) | (with_reducible refine Below.grow ?_ (by first | omega | (simp [go_sem] <;> omega)) _) | (with_reducible refine Below.setCell ?_ (by first | omega | (simp [go_sem] <;> omega)) _)))
set_option maxRecDepth 100000 in
set_option maxHeartbeats 3200000 in
theorem rtold_any (x : Css) (w : World) (ho : CssOk x) (h1 : x.text.length ≤ 1000000) (h2 : x.unit.length ≤ 1000000) : Calls Tryz.prog 77 #[Css.agg x] w (Ret (.string ⟨(toldC x).toArray⟩) w) := by
  have hmx : Tryz.prog.follows .mixedOrders = true := by kernel_rfl
  have HF := Lib.hid (fun W => rfigures_any x.num W ho.nlo ho.nhi)
  have HT : Hid (toldC x = if x.kind = 1 ∨ x.kind = 6 then x.text else if x.kind = 2 then x.text ++ [40] else if x.kind = 3 then figuresL x.num ++ x.unit
    else if x.kind = 4 then 35 :: x.text else if x.kind = 5 then 34 :: x.text ++ [34] else []) := rfl
  have hfl := figures_len x.num (by have := ho.nlo; have := ho.nhi; omega)
  obtain ⟨k, t, m, u⟩ := x
  simp only [Css.agg, sv] at *
  obtain ⟨T, hT⟩ : ∃ S : ByteArray, ⟨t.toArray⟩ = S := ⟨_, rfl⟩
  obtain ⟨U, hU⟩ : ∃ S : ByteArray, ⟨u.toArray⟩ = S := ⟨_, rfl⟩
  obtain ⟨F, hF⟩ : ∃ S : ByteArray, ⟨(figuresL m).toArray⟩ = S := ⟨_, rfl⟩
  have hTs : T.size ≤ 1000000 := by rw [← hT]; exact h1
  have hUs : U.size ≤ 1000000 := by rw [← hU]; exact h2
  have hFs : F.size ≤ 30 := by rw [← hF]; exact hfl
  have HTd : Hid (T.data.toList = t) := by show _ = _; rw [← hT]
  have HUd : Hid (U.data.toList = u) := by show _ = _; rw [← hU]
  have HFd : Hid (F.data.toList = figuresL m) := by show _ = _; rw [← hF]
  rw [hT, hU]
  rw [hF] at HF
  clear hT hU hF h1 h2 hfl
  by_cases k1 : k = 1
  · subst k1
    rw [if_pos (.inl rfl)] at HT
    go_enter Tryz.func77, Tryz.ntmps77
    go_wp2_with fail
    go_ret
    exact Ret.of (str_eq (by rw [HTd.out, HT.out])) (by repeat (first | with_reducible exact Below.refl _ _ | (with_reducible refine Below.alloc ?_ (by first | omega | (simp [go_sem] <;> omega)) _) | (with_reducible refine Below.drew ?_) | (with_reducible refine Below.drewN ?_ _) | (with_reducible refine Below.grow ?_ (by first | omega | (simp [go_sem] <;> omega)) _) | (with_reducible refine Below.setCell ?_ (by first | omega | (simp [go_sem] <;> omega)) _)))
  by_cases k6 : k = 6
  · subst k6
    rw [if_pos (.inr rfl)] at HT
    go_enter Tryz.func77, Tryz.ntmps77
    go_wp2_with fail
    go_ret
    exact Ret.of (str_eq (by rw [HTd.out, HT.out])) (by repeat (first | with_reducible exact Below.refl _ _ | (with_reducible refine Below.alloc ?_ (by first | omega | (simp [go_sem] <;> omega)) _) | (with_reducible refine Below.drew ?_) | (with_reducible refine Below.drewN ?_ _) | (with_reducible refine Below.grow ?_ (by first | omega | (simp [go_sem] <;> omega)) _) | (with_reducible refine Below.setCell ?_ (by first | omega | (simp [go_sem] <;> omega)) _)))
  rw [if_neg (by omega)] at HT
  by_cases k2 : k = 2
  · subst k2
    rw [if_pos rfl] at HT
    go_enter Tryz.func77, Tryz.ntmps77
    go_wp2_with fail
    go_ret
    exact Ret.of (str_eq (by simp only [ByteArray.data_append, Array.toList_append, HTd.out, HT.out])) (by repeat (first | with_reducible exact Below.refl _ _ | (with_reducible refine Below.alloc ?_ (by first | omega | (simp [go_sem] <;> omega)) _) | (with_reducible refine Below.drew ?_) | (with_reducible refine Below.drewN ?_ _) | (with_reducible refine Below.grow ?_ (by first | omega | (simp [go_sem] <;> omega)) _) | (with_reducible refine Below.setCell ?_ (by first | omega | (simp [go_sem] <;> omega)) _)))
  rw [if_neg k2] at HT
  by_cases k3 : k = 3
  · subst k3
    rw [if_pos rfl] at HT
    go_enter Tryz.func77, Tryz.ntmps77
    go_wp2_with fail
    refine wp_region_grow (by kernel_rfl) (by kernel_rfl) ?_
    repeat (go_big_quiet_step (first | (go_at_call 99; with_reducible exact Calls.grow_of (HF.out _))))
    refine wpQuiet_nil ?_
    intro _ hw'; obtain ⟨nq, hw''⟩ := hw'; subst hw''
    go_wp2
    go_ret
    exact Ret.of (str_eq (by simp only [ByteArray.data_append, Array.toList_append, HFd.out, HUd.out, HT.out])) (by repeat (first | with_reducible exact Below.refl _ _ | (with_reducible refine Below.alloc ?_ (by first | omega | (simp [go_sem] <;> omega)) _) | (with_reducible refine Below.drew ?_) | (with_reducible refine Below.drewN ?_ _) | (with_reducible refine Below.grow ?_ (by first | omega | (simp [go_sem] <;> omega)) _) | (with_reducible refine Below.setCell ?_ (by first | omega | (simp [go_sem] <;> omega)) _)))
  rw [if_neg k3] at HT
  by_cases k4 : k = 4
  · subst k4
    rw [if_pos rfl] at HT
    go_enter Tryz.func77, Tryz.ntmps77
    go_wp2_with fail
    go_ret
    exact Ret.of (str_eq (by simp only [ByteArray.data_append, Array.toList_append, HTd.out, HT.out]; rfl)) (by repeat (first | with_reducible exact Below.refl _ _ | (with_reducible refine Below.alloc ?_ (by first | omega | (simp [go_sem] <;> omega)) _) | (with_reducible refine Below.drew ?_) | (with_reducible refine Below.drewN ?_ _) | (with_reducible refine Below.grow ?_ (by first | omega | (simp [go_sem] <;> omega)) _) | (with_reducible refine Below.setCell ?_ (by first | omega | (simp [go_sem] <;> omega)) _)))
  rw [if_neg k4] at HT
  by_cases k5 : k = 5
  · subst k5
    rw [if_pos rfl] at HT
    go_enter Tryz.func77, Tryz.ntmps77
    go_wp2_with fail
    go_ret
    exact Ret.of (str_eq (by simp only [ByteArray.data_append, Array.toList_append, HTd.out, HT.out]; rfl)) (by repeat (first | with_reducible exact Below.refl _ _ | (with_reducible refine Below.alloc ?_ (by first | omega | (simp [go_sem] <;> omega)) _) | (with_reducible refine Below.drew ?_) | (with_reducible refine Below.drewN ?_ _) | (with_reducible refine Below.grow ?_ (by first | omega | (simp [go_sem] <;> omega)) _) | (with_reducible refine Below.setCell ?_ (by first | omega | (simp [go_sem] <;> omega)) _)))
  rw [if_neg k5] at HT
  have b1 : (k == 1) = false := by simpa using k1
  have b2 : (k == 2) = false := by simpa using k2
  have b3 : (k == 3) = false := by simpa using k3
  have b4 : (k == 4) = false := by simpa using k4
  have b5 : (k == 5) = false := by simpa using k5
  have b6 : (k == 6) = false := by simpa using k6
  go_enter Tryz.func77, Tryz.ntmps77
  go_wp2_with fail
  go_ret
  exact Ret.of (by rw [HT.out]; rfl) (by repeat (first | with_reducible exact Below.refl _ _ | (with_reducible refine Below.alloc ?_ (by first | omega | (simp [go_sem] <;> omega)) _) | (with_reducible refine Below.drew ?_) | (with_reducible refine Below.drewN ?_ _) | (with_reducible refine Below.grow ?_ (by first | omega | (simp [go_sem] <;> omega)) _) | (with_reducible refine Below.setCell ?_ (by first | omega | (simp [go_sem] <;> omega)) _)))
end Go.Proofs.YtgcccpdadponiaaGreatDoor
