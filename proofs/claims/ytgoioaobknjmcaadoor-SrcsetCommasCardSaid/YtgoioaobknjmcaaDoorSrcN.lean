/- The walk of Right: whether a picture may be told. -/
import Derived.Test.YtgoioaobknjmcaaDoorSrcM
namespace Go.Proofs.YtgoioaobknjmcaaDoor
open Go.RowKit Go.Shelf
theorem trimB_same (l : Bs) : decide (Lib.trimB l 44 = l) = match l with
    | [] => true
    | c :: r => decide (c.toNat ≠ 44) && !endsC (c :: r) := by
  cases l with
  | nil => rfl
  | cons c r =>
    have hr := trimC_ends (c :: r)
    unfold Lib.trimB
    rw [trimC_lib, Bool.eq_iff_iff]
    cases he : endsC (c :: r)
    · rw [he] at hr
      have h1 : trimC (c :: r) = c :: r := by simpa using hr.symm
      rw [h1]
      unfold Lib.trimLeftB
      by_cases hc : c = 44
      · rw [List.dropWhile_cons_of_pos (by simp [hc])]
        have h2 := drop_while_len (fun x => x == 44) r
        constructor
        · intro h
          have := congrArg List.length (of_decide_eq_true h)
          simp at this; omega
        · intro h; simp [hc] at h
      · rw [List.dropWhile_cons_of_neg (by simp [hc])]
        have h2 : c.toNat ≠ 44 := fun e => hc (UInt8.toNat_inj.1 e)
        simp [h2, he]
    · rw [he] at hr
      have h1 : trimC (c :: r) ≠ c :: r := by simpa using hr.symm
      simp only [he, Bool.not_true, Bool.and_false, decide_eq_true_eq, Bool.false_eq_true, iff_false]
      intro h
      have h2 := congrArg List.length h
      have h3 := trimC_len (c :: r)
      have h4 := drop_while_len (fun x => x == 44) (trimC (c :: r))
      unfold Lib.trimLeftB at h2
      have h5 : (trimC (c :: r)).length = (c :: r).length := by omega
      apply h1
      unfold trimC at h5 ⊢
      rw [List.length_reverse] at h5
      have h6 := (List.dropWhile_suffix (fun c : UInt8 => decide (c.toNat = 44)) (l := (c :: r).reverse)).eq_of_length (by rw [h5]; simp)
      rw [h6, List.reverse_reverse]
theorem tw_all (p : UInt8 → Bool) (l : Bs) : l.all p = decide (tw p l = l.length) := by
  induction l with
  | nil => rfl
  | cons c l ih =>
    cases h : p c
    · rw [tw_cons_f _ h, List.all_cons, h]; simp
    · rw [tw_cons_t _ h, List.all_cons, h, ih]; simp
theorem right_cases (p : Pic) : rightP p = (!decide (p.url = []) && decide (Lib.trimB p.url 44 = p.url) && decide (tw nspB p.url = p.url.length) && sizeB p.size) := by
  rw [trimB_same, ← tw_all]
  unfold rightP nspB
  cases p.url <;> simp
set_option maxRecDepth 100000 in
set_option maxHeartbeats 3200000 in
theorem right_any (p : Pic) (w : World) (h1 : p.url.length ≤ 9223372036854775807) (h2 : p.size.length ≤ 9223372036854775807) : Calls Tryd.prog 13 #[Pic.agg p] w (Ret (.bool (rightP p)) w) := by
  have HX := Lib.hid (right_cases p)
  have HZ := Lib.hid (fun W => sizeok_any p.size W h2)
  have HU := Lib.hid (fun W => until_nsp p.url W h1)
  obtain ⟨V, hV⟩ : ∃ V : ByteArray, ⟨(Lib.trimB p.url 44).toArray⟩ = V := ⟨_, rfl⟩
  obtain ⟨U, hU⟩ : ∃ V : ByteArray, ⟨p.url.toArray⟩ = V := ⟨_, rfl⟩
  obtain ⟨S, hS⟩ : ∃ V : ByteArray, ⟨p.size.toArray⟩ = V := ⟨_, rfl⟩
  have HT := Lib.hid (fun W => show Calls Tryd.prog 23 #[.string U, .string ⟨#[44]⟩] W (Ret (.string V) W) from by
    have := Tryd.strings_Trim_one ⟨p.url.toArray⟩ 44 (by decide) W (by show p.url.length ≤ _; omega)
    rw [show (⟨p.url.toArray⟩ : ByteArray).data.toList = p.url from rfl, hV, hU] at this
    refine this.mono ?_
    rintro e w' ⟨rfl, rfl | rfl⟩
    · exact Ret.same rfl
    · exact Ret.of rfl (by repeat (first | with_reducible exact Below.refl _ _ | (with_reducible refine Below.alloc ?_ (by first | omega | (simp [go_sem] <;> omega)) _) | (with_reducible refine Below.drew ?_) | (with_reducible refine Below.drewN ?_ _) | (with_reducible refine Below.grow ?_ (by first | omega | (simp [go_sem] <;> omega)) _) | (with_reducible refine Below.setCell ?_ (by first | omega | (simp [go_sem] <;> omega)) _))))
  have hUe : U.toList.isEmpty = decide (p.url = []) := by rw [ba_emp, ← hU]
  have hVU : (V.toList == U.toList) = decide (Lib.trimB p.url 44 = p.url) := by rw [ba_bq, ← hV, ← hU]
  have hUs : U.size = p.url.length := by rw [← hU]; rfl
  have hTU : ((tw nspB p.url : Int) == (U.size : Int)) = decide (tw nspB p.url = p.url.length) := by rw [hUs, Bool.eq_iff_iff]; simp; omega
  have hmx : Tryd.prog.follows .mixedOrders = true := by kernel_rfl
  rw [hU] at HU
  rw [hS] at HZ
  rw [Pic.agg, sv, sv, hU, hS]
  clear hU hS hV h1 h2 hUs
  generalize rightP p = R at *
  generalize decide (p.url = []) = b1 at *
  generalize decide (Lib.trimB p.url 44 = p.url) = b2 at *
  generalize decide (tw nspB p.url = p.url.length) = b3 at *
  generalize tw nspB p.url = n at *
  generalize sizeB p.size = b4 at *
  cases b1
  · cases b2
    · go_enter Tryd.func13, Tryd.ntmps13
      go_wp2
      refine wp_region_grow (by kernel_rfl) (by kernel_rfl) ?_
      repeat (go_big_quiet_step (first | (go_at_call 23; with_reducible exact Calls.grow_of (HT.out _)) | (go_at_call 26; with_reducible exact Calls.grow_of (HU.out _)) | (go_at_call 11; with_reducible exact Calls.grow_of (HZ.out _))))
      refine wpQuiet_nil ?_
      intro _ hw'; obtain ⟨nq, hw''⟩ := hw'; subst hw''
      go_wp2
      go_ret
      exact Ret.of (by rw [HX.out]; rfl) (by repeat (first | with_reducible exact Below.refl _ _ | (with_reducible refine Below.alloc ?_ (by first | omega | (simp [go_sem] <;> omega)) _) | (with_reducible refine Below.drew ?_) | (with_reducible refine Below.drewN ?_ _) | (with_reducible refine Below.grow ?_ (by first | omega | (simp [go_sem] <;> omega)) _) | (with_reducible refine Below.setCell ?_ (by first | omega | (simp [go_sem] <;> omega)) _)))
    · cases b3
      all_goals
        go_enter Tryd.func13, Tryd.ntmps13
        go_wp2
        refine wp_region_grow (by kernel_rfl) (by kernel_rfl) ?_
        repeat (go_big_quiet_step (first | (go_at_call 23; with_reducible exact Calls.grow_of (HT.out _)) | (go_at_call 26; with_reducible exact Calls.grow_of (HU.out _)) | (go_at_call 11; with_reducible exact Calls.grow_of (HZ.out _))))
        refine wpQuiet_nil ?_
        intro _ hw'; obtain ⟨nq, hw''⟩ := hw'; subst hw''
        go_wp2
        go_ret
        exact Ret.of (by rw [HX.out]; first | rfl | simp) (by repeat (first | with_reducible exact Below.refl _ _ | (with_reducible refine Below.alloc ?_ (by first | omega | (simp [go_sem] <;> omega)) _) | (with_reducible refine Below.drew ?_) | (with_reducible refine Below.drewN ?_ _) | (with_reducible refine Below.grow ?_ (by first | omega | (simp [go_sem] <;> omega)) _) | (with_reducible refine Below.setCell ?_ (by first | omega | (simp [go_sem] <;> omega)) _)))
  · go_enter Tryd.func13, Tryd.ntmps13
    go_wp2
    refine wp_region_grow (by kernel_rfl) (by kernel_rfl) ?_
    repeat (go_big_quiet_step (fail))
    refine wpQuiet_nil ?_
    intro _ hw'; obtain ⟨nq, hw''⟩ := hw'; subst hw''
    go_wp2
    go_ret
    exact Ret.of (by rw [HX.out]; rfl) (by repeat (first | with_reducible exact Below.refl _ _ | (with_reducible refine Below.alloc ?_ (by first | omega | (simp [go_sem] <;> omega)) _) | (with_reducible refine Below.drew ?_) | (with_reducible refine Below.drewN ?_ _) | (with_reducible refine Below.grow ?_ (by first | omega | (simp [go_sem] <;> omega)) _) | (with_reducible refine Below.setCell ?_ (by first | omega | (simp [go_sem] <;> omega)) _)))
end Go.Proofs.YtgoioaobknjmcaaDoor
