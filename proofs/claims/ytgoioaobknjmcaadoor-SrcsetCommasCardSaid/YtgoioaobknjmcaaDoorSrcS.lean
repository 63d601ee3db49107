/- The walks of the reference: whether a picture may be told, whether two lists are the same; the small thing that is tried first. -/
import Derived.Test.YtgoioaobknjmcaaDoorSrcR
namespace Go.Proofs.YtgoioaobknjmcaaDoor
open Go.RowKit Go.Shelf
set_option maxRecDepth 100000 in
set_option maxHeartbeats 3200000 in
theorem rright_any (p : Pic) (w : World) (h1 : p.url.length ≤ 140737488355) (h2 : p.size.length ≤ 140737488355) : Calls Tryd.prog 14 #[Pic.agg p] w (Ret (.bool (rightP p)) w) := by
  have HZ := Lib.hid (fun W => rsizeok_any p.size W h2)
  obtain ⟨U, hU⟩ : ∃ V : ByteArray, ⟨p.url.toArray⟩ = V := ⟨_, rfl⟩
  obtain ⟨S, hS⟩ : ∃ V : ByteArray, ⟨p.size.toArray⟩ = V := ⟨_, rfl⟩
  have hUe : U.toList.isEmpty = decide (p.url = []) := by rw [ba_emp, ← hU]
  have hUs : U.size = p.url.length := by rw [← hU]; rfl
  have hUd : U.data.toList = p.url := by rw [← hU]
  have HUd := Lib.hid hUd
  have hUm : U.size ≤ 140737488355 := by omega
  rw [hS] at HZ
  rw [Pic.agg, sv, sv, hU, hS]
  have HX := Lib.hid (show rightP p = match p.url with
    | [] => false
    | c :: r => decide (c.toNat ≠ 44) && !endsC (c :: r) && (c :: r).all (fun c => !spB c) && sizeB p.size from rfl)
  generalize rightP p = R at *
  generalize sizeB p.size = z at *
  clear hU hS h1 h2
  cases hq : p.url with
  | nil =>
    have HX2 := Lib.hid (show R = false by rw [HX.out, hq])
    rw [show decide (p.url = []) = true by simp [hq]] at hUe
    clear hUs hUd hq
    go_enter Tryd.func14, Tryd.ntmps14
    go_wp2
    go_ret
    exact Ret.of (by rw [HX2.out]; rfl) (by repeat (first | with_reducible exact Below.refl _ _ | (with_reducible refine Below.alloc ?_ (by first | omega | (simp [go_sem] <;> omega)) _) | (with_reducible refine Below.drew ?_) | (with_reducible refine Below.drewN ?_ _) | (with_reducible refine Below.grow ?_ (by first | omega | (simp [go_sem] <;> omega)) _) | (with_reducible refine Below.setCell ?_ (by first | omega | (simp [go_sem] <;> omega)) _)))
  | cons c r =>
    rw [show decide (p.url = []) = false by simp [hq]] at hUe
    rw [hq] at hUs hUd
    have HX2 := Lib.hid (show R = (decide (c.toNat ≠ 44) && !endsC (c :: r) && (c :: r).all (fun c => !spB c) && z) by rw [HX.out, hq])
    obtain ⟨q0, d, hqd⟩ := last_of (show c :: r ≠ [] by simp)
    have hl : q0.length + 1 = U.size := by rw [hUs, hqd]; simp
    have hU0l : 0 < U.size := by omega
    have hU0 : U[0]'hU0l = c := by have := data_at U _ hUd 0 hU0l; simpa using this
    have hU1l : q0.length < U.size := by omega
    have hU1 : U[q0.length]'hU1l = d := by
      have := data_at U _ hUd q0.length hU1l
      rw [hqd, List.getElem?_append_right (Nat.le_refl _)] at this; simpa using this
    have hUi : (U.size : Int) - 1 = q0.length := by omega
    have HE := Lib.hid (show endsC (c :: r) = decide (d.toNat = 44) by rw [hqd, endsC_snoc])
    have HA := Lib.hid (show ((c :: r).all (fun c => !spB c)) = U.data.toList.all (fun c => !spB c) by rw [hUd])
    clear hUs hUd hq hqd hl
    by_cases hc : c.toNat = 44
    · have b1 : ((c.toNat : Int) == 44) = true := by simp; omega
      have HX3 := Lib.hid (show R = false by rw [HX2.out]; simp [hc])
      clear hc
      go_enter Tryd.func14, Tryd.ntmps14
      go_wp2
      go_ret
      exact Ret.of (by rw [HX3.out]; rfl) (by repeat (first | with_reducible exact Below.refl _ _ | (with_reducible refine Below.alloc ?_ (by first | omega | (simp [go_sem] <;> omega)) _) | (with_reducible refine Below.drew ?_) | (with_reducible refine Below.drewN ?_ _) | (with_reducible refine Below.grow ?_ (by first | omega | (simp [go_sem] <;> omega)) _) | (with_reducible refine Below.setCell ?_ (by first | omega | (simp [go_sem] <;> omega)) _)))
    · have b1 : ((c.toNat : Int) == 44) = false := by simp; omega
      by_cases hd : d.toNat = 44
      · have b2 : ((d.toNat : Int) == 44) = true := by simp; omega
        have HX3 := Lib.hid (show R = false by rw [HX2.out, HE.out]; simp [hd])
        clear hc hd
        go_enter Tryd.func14, Tryd.ntmps14
        go_wp2
        go_ret
        exact Ret.of (by rw [HX3.out]; rfl) (by repeat (first | with_reducible exact Below.refl _ _ | (with_reducible refine Below.alloc ?_ (by first | omega | (simp [go_sem] <;> omega)) _) | (with_reducible refine Below.drew ?_) | (with_reducible refine Below.drewN ?_ _) | (with_reducible refine Below.grow ?_ (by first | omega | (simp [go_sem] <;> omega)) _) | (with_reducible refine Below.setCell ?_ (by first | omega | (simp [go_sem] <;> omega)) _)))
      · have b2 : ((d.toNat : Int) == 44) = false := by simp; omega
        have HX3 := Lib.hid (show R = (U.data.toList.all (fun c => !spB c) && z) by rw [HX2.out, HE.out, HA.out]; simp [hc, hd])
        clear hc hd
        go_enter Tryd.func14, Tryd.ntmps14
        go_wp2_with fail
        go_loop [3] (fun i => ∃ k : Nat, k ≤ U.size ∧ i = .int .i64 k ∧ Hid (R = ((U.data.toList.drop k).all (fun c => !spB c) && z))) (fun i => U.size - (intOf i).toNat)
        case atStart => exact ⟨0, by omega, rfl, HX3⟩
        case round =>
          obtain ⟨k, hk, rfl, HK⟩ := hrel
          by_cases hlt : k < U.size
          · have HD := Lib.hid (drop_at U k hlt)
            cases hs : spB U[k]
            · have HN := Lib.hid (show R = ((U.data.toList.drop (k + 1)).all (fun c => !spB c) && z) by rw [HK.out, HD.out, List.all_cons, hs]; rfl)
              go_wp2_with (go_at_call 19; (with_reducible refine (rspace_any _ _).mono ?_); rintro e w' ⟨rfl, rfl⟩; rw [hs])
              go_round
              case rel => exact ⟨k + 1, by omega, by go_num, HN⟩
              case measure => simp [intOf]; omega
            · have HN := Lib.hid (show R = false by rw [HK.out, HD.out, List.all_cons, hs]; rfl)
              go_wp2_with (go_at_call 19; (with_reducible refine (rspace_any _ _).mono ?_); rintro e w' ⟨rfl, rfl⟩; rw [hs])
              go_ret
              exact Ret.of (by rw [HN.out]; rfl) (by repeat (first | with_reducible exact Below.refl _ _ | (with_reducible refine Below.alloc ?_ (by first | omega | (simp [go_sem] <;> omega)) _) | (with_reducible refine Below.drew ?_) | (with_reducible refine Below.drewN ?_ _) | (with_reducible refine Below.grow ?_ (by first | omega | (simp [go_sem] <;> omega)) _) | (with_reducible refine Below.setCell ?_ (by first | omega | (simp [go_sem] <;> omega)) _)))
          · have HN := Lib.hid (show R = z by rw [HK.out, drop_end U k (by omega)]; rfl)
            go_wp2_with (go_at_call 12; (with_reducible refine (HZ.out _).mono ?_); rintro e w' ⟨rfl, rfl⟩)
            go_ret
            exact Ret.of (by rw [HN.out]; rfl) (by repeat (first | with_reducible exact Below.refl _ _ | (with_reducible refine Below.alloc ?_ (by first | omega | (simp [go_sem] <;> omega)) _) | (with_reducible refine Below.drew ?_) | (with_reducible refine Below.drewN ?_ _) | (with_reducible refine Below.grow ?_ (by first | omega | (simp [go_sem] <;> omega)) _) | (with_reducible refine Below.setCell ?_ (by first | omega | (simp [go_sem] <;> omega)) _)))
theorem eq_src (a b c d : ByteArray) (w : World) : (Op.equalIn 10000 28 (.agg #[.string a, .string b]) (.agg #[.string c, .string d])).run Tryd.prog w = .ok ((a.toList == c.toList) && (b.toList == d.toList)) w := by
  have h2 : Tryd.prog.underlying 28 = some (.struct (Tryd.prog.fieldsOf 28)) := by kernel_rfl
  have h3 : Tryd.prog.stoodInHeld 28 = false := by kernel_rfl
  rw [run_equalIn_agg _ _ _ _ _ h2 h3]
  simp only [Program.fieldsOf, Tryd.underlying28]
  cases h1 : (a.toList == c.toList) <;> cases h4 : (b.toList == d.toList) <;> simp [go_sem, Tryd.underlying9, h1, h4] <;> simp_all
@[go_sem high] theorem eql_src (a b c d : ByteArray) (w : World) : (binOp .eql 28 (.agg #[.string a, .string b]) (.agg #[.string c, .string d])).run Tryd.prog w = .ok (.bool ((a.toList == c.toList) && (b.toList == d.toList))) w := by
  rw [run_eql_struct, eq_src]; rfl
@[go_sem high] theorem neq_src (a b c d : ByteArray) (w : World) : (binOp .neq 28 (.agg #[.string a, .string b]) (.agg #[.string c, .string d])).run Tryd.prog w = .ok (.bool (!((a.toList == c.toList) && (b.toList == d.toList)))) w := by
  rw [run_neq_struct, eq_src]; rfl
@[go_sem] theorem guard_src : Tryd.prog.eqGuardType Tryd.prog.depth 28 = false := by kernel_rfl
end Go.Proofs.YtgoioaobknjmcaaDoor
