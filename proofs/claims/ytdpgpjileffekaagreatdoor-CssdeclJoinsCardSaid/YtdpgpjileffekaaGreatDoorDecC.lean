/- The walks of declarations: where a part ends; parts, one behind the other: what they are made of; what says that one is important. -/
import Derived.Lib.SliceRun
import Derived.Test.YtdpgpjileffekaaGreatDoorKB
import Derived.Test.YtdpgpjileffekaaGreatDoorDecB
namespace Go.Proofs.YtdpgpjileffekaaGreatDoor
open Go.RowKit Go.Shelf
attribute [local go_sem] Oper.semAt_some
set_option maxRecDepth 100000 in
set_option maxHeartbeats 1600000 in
theorem ends_any (x : Css) (db e : Nat) (W : World) (hx : Proper x) (hb : Boxed W db 3 (.int .i64 e)) (he : e ≤ 2000000000) :
    Calls Tryz.prog 35 #[Css.agg x, .pointer (some ⟨db, 0, none⟩)] W fun en W' => en = .returned (.bool (mk1 59 x && decide (e = 0))) ∧ Turned (fun k => k = db) W W' ∧ ∃ e' : Nat, Boxed W' db 3 (.int .i64 e') ∧ (e' ≤ e + 1) ∧ ((mk1 59 x && decide (e = 0)) = false → e' = dn e x) := by
  have hmx : Tryz.prog.follows .mixedOrders = true := by kernel_rfl
  have HM := Lib.hid (fun V => mkM_one 59 x ▸ mark_any x [59] V hx)
  have HDp := Lib.hid (fun V => deeper_any x V hx)
  have hmax := dn_int e x
  have hdl := deepI_le x
  have hdn := dn_le e x
  have hc := hb.cell
  have hf := hb.frozen
  have hlt := hb.lt
  simp only [Css.agg, sv] at HM HDp ⊢
  generalize mk1 59 x = m at *
  generalize deepI x = dp at *
  generalize hen : dn e x = en at *
  have HEn := Lib.hid hen
  clear hen hx
  generalize x.kind = x1 at *
  generalize x.num = x3 at *
  generalize (⟨x.text.toArray⟩ : ByteArray) = a1 at *
  generalize (⟨x.unit.toArray⟩ : ByteArray) = a2 at *
  by_cases hend : (m && decide (e = 0)) = true
  · rw [hend]
    rw [Bool.and_eq_true, decide_eq_true_eq] at hend
    obtain ⟨rfl, rfl⟩ := hend
    have HM2 := Lib.hid HM.out
    clear HM
    go_enter Tryz.func35, Tryz.ntmps35
    go_wp2_with (go_at_call 21; (with_reducible refine (HM2.out _).mono ?_); rintro e w' ⟨rfl, X1, rfl⟩)
    go_ret
    exact ⟨rfl, (by repeat (first | with_reducible exact Turned.refl _ _ | with_reducible assumption | with_reducible refine Turned.alloc ?_ _ | with_reducible refine Turned.grow ?_ _ | with_reducible refine Turned.drew ?_ | (with_reducible refine Turned.setCell ?_ (by first | (refine Or.inr ?_; show _ ∨ _; simp <;> omega) | (refine Or.inr ?_; show _ = _; rfl) | (refine Or.inl ?_; simp [go_sem] <;> omega)) _))), 0, (by repeat (first | with_reducible assumption | (with_reducible refine @Boxed.set _ _ _ ?_ _ ?_; rotate_left) | (with_reducible refine Boxed.oth ?_ (by first | omega | (simp [go_sem] <;> omega)) _) | with_reducible refine Boxed.grow' ?_ _ | with_reducible refine Boxed.alloc ?_ _ | with_reducible refine Boxed.drew' ?_)), by omega, fun h => by cases h⟩
  · have hend2 : (m && decide (e = 0)) = false := by simpa using hend
    rw [hend2]
    cases m
    · have HM2 := Lib.hid HM.out
      clear HM hend hend2
      go_enter Tryz.func35, Tryz.ntmps35
      go_wp2_with (go_at_call 21; (with_reducible refine (HM2.out _).mono ?_); rintro e w' ⟨rfl, X1, rfl⟩)
      refine wp_region_grow_tail 5 (by kernel_rfl) (by kernel_rfl) ?_
      dsimp only [List.take, List.drop]
      repeat (go_big_quiet_step ((first | (go_at_call 36; with_reducible exact Calls.grow_of (HDp.out _)))))
      refine wpQuiet_nil ?_
      intro _ hw'; obtain ⟨nq, hw''⟩ := hw'; subst hw''
      go_wp2_with fail
      go_ret
      exact ⟨rfl, (by repeat (first | with_reducible exact Turned.refl _ _ | with_reducible assumption | with_reducible refine Turned.alloc ?_ _ | with_reducible refine Turned.grow ?_ _ | with_reducible refine Turned.drew ?_ | (with_reducible refine Turned.setCell ?_ (by first | (refine Or.inr ?_; show _ ∨ _; simp <;> omega) | (refine Or.inr ?_; show _ = _; rfl) | (refine Or.inl ?_; simp [go_sem] <;> omega)) _))), en, (by repeat (first | with_reducible assumption | (with_reducible refine @Boxed.set _ _ _ ?_ _ ?_; rotate_left) | (with_reducible refine Boxed.oth ?_ (by first | omega | (simp [go_sem] <;> omega)) _) | with_reducible refine Boxed.grow' ?_ _ | with_reducible refine Boxed.alloc ?_ _ | with_reducible refine Boxed.drew' ?_)), hdn, fun _ => rfl⟩
    · have he0 : ¬ e = 0 := by simpa using hend
      have he1 : ((e : Int) == 0) = false := by simpa using he0
      have HM2 := Lib.hid HM.out
      clear HM hend hend2
      go_enter Tryz.func35, Tryz.ntmps35
      go_wp2_with (go_at_call 21; (with_reducible refine (HM2.out _).mono ?_); rintro e w' ⟨rfl, X1, rfl⟩)
      refine wp_region_grow_tail 5 (by kernel_rfl) (by kernel_rfl) ?_
      dsimp only [List.take, List.drop]
      repeat (go_big_quiet_step ((first | (go_at_call 36; with_reducible exact Calls.grow_of (HDp.out _)))))
      refine wpQuiet_nil ?_
      intro _ hw'; obtain ⟨nq, hw''⟩ := hw'; subst hw''
      go_wp2_with fail
      go_ret
      exact ⟨rfl, (by repeat (first | with_reducible exact Turned.refl _ _ | with_reducible assumption | with_reducible refine Turned.alloc ?_ _ | with_reducible refine Turned.grow ?_ _ | with_reducible refine Turned.drew ?_ | (with_reducible refine Turned.setCell ?_ (by first | (refine Or.inr ?_; show _ ∨ _; simp <;> omega) | (refine Or.inr ?_; show _ = _; rfl) | (refine Or.inl ?_; simp [go_sem] <;> omega)) _))), en, (by repeat (first | with_reducible assumption | (with_reducible refine @Boxed.set _ _ _ ?_ _ ?_; rotate_left) | (with_reducible refine Boxed.oth ?_ (by first | omega | (simp [go_sem] <;> omega)) _) | with_reducible refine Boxed.grow' ?_ _ | with_reducible refine Boxed.alloc ?_ _ | with_reducible refine Boxed.drew' ?_)), hdn, fun _ => rfl⟩
theorem parts0_any (A : Option Addr) (n c : Nat) (w : World) : Calls Tryz.prog 19 #[.slice A n c] w fun e w' => e = .returned (.func (.func 37) #[] #[.pointer (some ⟨w.heap.size + 1, 0, none⟩), .pointer (some ⟨w.heap.size, 0, none⟩), .pointer (some ⟨w.heap.size + 1 + 1, 0, none⟩)]) ∧
    ((w.alloc (.cells #[.slice A n c] 29)).alloc (.cells #[.int .i64 0] 3)).alloc (.cells #[.func (.func 35) #[] #[.pointer (some ⟨w.heap.size + 1, 0, none⟩)]] 51) = w' := by
  go_enter Tryz.func19, Tryz.ntmps19
  go_wp2
  go_ret
  exact ⟨rfl, rfl⟩
theorem urg_at {l : List Css} (h : 2 ≤ l.length) : urg l = (mk1 33 l[l.length - 2] && impC l[l.length - 1]) := by
  unfold urg
  rw [List.getElem?_eq_getElem (by omega), List.getElem?_eq_getElem (by omega)]
  simp [h]
theorem urg_few {l : List Css} (h : l.length < 2) : urg l = false := by
  unfold urg
  split
  · rw [decide_eq_false (by omega)]; rfl
  · rfl
theorem imp_cmp {b : Css} (h : Proper b) : ((b.kind == 1) && ((⟨b.text.toArray⟩ : ByteArray).toList == (⟨#[105, 109, 112, 111, 114, 116, 97, 110, 116]⟩ : ByteArray).toList) && (b.num == 0) && ((⟨b.unit.toArray⟩ : ByteArray).toList == (⟨#[]⟩ : ByteArray).toList)) = impC b := by
  rw [ba_bq, ba_bq]
  unfold impC
  by_cases h1 : b.kind = 1
  · obtain ⟨h2, h3⟩ := h.1 h1
    rw [h1, h2, h3, Bool.eq_iff_iff]
    simp only [impT]
    simp
    exact decide_eq_true_iff.symm
  · have : (b.kind == 1) = false := by simpa using h1
    rw [this, decide_eq_false h1]; simp
set_option maxRecDepth 100000 in
set_option maxHeartbeats 1600000 in
theorem urgent_any (A : Option Addr) (n c : Nat) (l : List Css) (w : World) (h : Rd w (.slice A n c) l.length 4 (cssCells l)) (hp : ∀ x ∈ l, Proper x) (hcap : n ≤ c) :
    Calls Tryz.prog 22 #[.slice A n c] w (Ret (.tuple #[.slice A (urgV l).length c, .bool (urg l)]) w) := by
  have HR := Lib.hid h
  have hn : l.length = n := by obtain ⟨_, _, _, _, he, _⟩ := h; cases he; rfl
  have hm := h.2.1
  rw [hn] at hm
  have HV : Hid (urgV l = if urg l then l.take (n - 2) else l) := by show _ = _; rw [← hn]; rfl
  clear h
  by_cases h2 : n < 2
  · have HU := Lib.hid (urg_few (l := l) (by omega))
    have HV2 : Hid ((urgV l).length = n) := by show _ = _; rw [HV.out, HU.out]; exact hn
    rw [HU.out, HV2.out]
    have b2 : decide ((n : Int) - 2 < 0) = true := by simp; omega
    have b2' : (n : Int) - 2 < 0 := by omega
    have b3 : ¬ (2 ≤ n) := by omega
    go_enter Tryz.func22, Tryz.ntmps22
    go_wp2_with fail
    go_ret2
    exact Ret.of rfl (by repeat (first | with_reducible exact Below.refl _ _ | (with_reducible refine Below.alloc ?_ (by first | omega | (simp [go_sem] <;> omega)) _) | (with_reducible refine Below.drew ?_) | (with_reducible refine Below.drewN ?_ _) | (with_reducible refine Below.grow ?_ (by first | omega | (simp [go_sem] <;> omega)) _) | (with_reducible refine Below.setCell ?_ (by first | omega | (simp [go_sem] <;> omega)) _)))
  obtain ⟨k, hk⟩ : ∃ k, n = k + 2 := ⟨n - 2, by omega⟩
  have HK := Lib.hid hk
  have hsub : (n : Int) - 2 = (k : Int) := by omega
  have hkl : k < l.length := by omega
  have hkl2 : k + 1 < l.length := by omega
  obtain ⟨b, off, rfl, hb, c0, c1, c2, c3⟩ := HR.out.css k hkl
  obtain ⟨b', off', he, _, d0, d1, d2, d3⟩ := HR.out.css (k + 1) hkl2
  cases he
  have HU : Hid (urg l = (mk1 33 l[k] && impC l[k + 1])) := by
    show _ = _
    rw [urg_at (by omega)]
    congr 2 <;> congr 1 <;> omega
  have HM := Lib.hid (fun W : World => mkM_one 33 l[k] ▸ mark_any l[k] [33] W (hp _ (List.getElem_mem hkl)))
  have hI := imp_cmp (hp _ (List.getElem_mem hkl2))
  have hlt1 : k < n := by omega
  have hlt2 : k + 1 < n := by omega
  have hkc : k ≤ c := by omega
  have hkn : k ≤ n := by omega
  have HVt : Hid ((l.take (n - 2)).length = k) := by show _ = _; rw [List.length_take]; omega
  clear hk hn h2 hp HK
  simp only [Css.agg, sv] at HM c1 c3 d1 d3
  generalize mk1 33 l[k] = m at *
  generalize impC l[k + 1] = ic at *
  generalize l[k].kind = x1 at *
  generalize l[k].num = x3 at *
  generalize (⟨l[k].text.toArray⟩ : ByteArray) = a1 at *
  generalize (⟨l[k].unit.toArray⟩ : ByteArray) = a2 at *
  generalize l[k + 1].kind = y1 at *
  generalize l[k + 1].num = y3 at *
  generalize (⟨l[k + 1].text.toArray⟩ : ByteArray) = e1 at *
  generalize (⟨l[k + 1].unit.toArray⟩ : ByteArray) = e2 at *
  have hix : ((k : Int) + 1).toNat = k + 1 := by omega
  have hI2 : (!y1 == 1 || !e1.toList == [105, 109, 112, 111, 114, 116, 97, 110, 116] || !y3 == 0 || !e2.toList.isEmpty) = !ic := by
    rw [← hI]
    have z1 : (⟨#[105, 109, 112, 111, 114, 116, 97, 110, 116]⟩ : ByteArray).toList = [105, 109, 112, 111, 114, 116, 97, 110, 116] := by rw [ByteArray.toList_eq]
    have z2 : (⟨#[]⟩ : ByteArray).toList = [] := by rw [ByteArray.toList_eq]
    rw [z1, z2]
    cases e2.toList <;> simp
  have hk0 : ¬ ((k : Int) < 0) := by omega
  clear hI
  cases m
  · have HM2 := Lib.hid HM.out
    have HU2 : Hid (urg l = false) := by show _ = _; rw [HU.out]; rfl
    have HV2 : Hid ((urgV l).length = n) := by
      show _ = _; rw [HV.out, HU2.out]
      have := HR.out.1; obtain ⟨_, _, _, _, he, _⟩ := HR.out; cases he; rfl
    rw [HU2.out, HV2.out]
    clear HM HR HV HU HVt
    go_enter Tryz.func22, Tryz.ntmps22
    go_wp2_with (go_at_call 21; (with_reducible refine (HM2.out _).mono ?_); rintro e w' ⟨rfl, X1, rfl⟩)
    go_ret2
    exact Ret.of rfl (by repeat (first | with_reducible exact Below.refl _ _ | (with_reducible refine Below.alloc ?_ (by first | omega | (simp [go_sem] <;> omega)) _) | (with_reducible refine Below.drew ?_) | (with_reducible refine Below.drewN ?_ _) | (with_reducible refine Below.grow ?_ (by first | omega | (simp [go_sem] <;> omega)) _) | (with_reducible refine Below.setCell ?_ (by first | omega | (simp [go_sem] <;> omega)) _)))
  · have HM2 := Lib.hid HM.out
    cases ic
    · have HU2 : Hid (urg l = false) := by show _ = _; rw [HU.out]; rfl
      have HV2 : Hid ((urgV l).length = n) := by
        show _ = _; rw [HV.out, HU2.out]
        have := HR.out.1; obtain ⟨_, _, _, _, he, _⟩ := HR.out; cases he; rfl
      rw [HU2.out, HV2.out]
      clear HM HR HV HU HVt
      go_enter Tryz.func22, Tryz.ntmps22
      go_wp2_with (go_at_call 21; (with_reducible refine (HM2.out _).mono ?_); rintro e w' ⟨rfl, X1, rfl⟩)
      go_ret2
      exact Ret.of rfl (by repeat (first | with_reducible exact Below.refl _ _ | (with_reducible refine Below.alloc ?_ (by first | omega | (simp [go_sem] <;> omega)) _) | (with_reducible refine Below.drew ?_) | (with_reducible refine Below.drewN ?_ _) | (with_reducible refine Below.grow ?_ (by first | omega | (simp [go_sem] <;> omega)) _) | (with_reducible refine Below.setCell ?_ (by first | omega | (simp [go_sem] <;> omega)) _)))
    · have HU2 : Hid (urg l = true) := by show _ = _; rw [HU.out]; rfl
      have HV2 : Hid ((urgV l).length = k) := by show _ = _; rw [HV.out, HU2.out, if_pos rfl, HVt.out]
      rw [HU2.out, HV2.out]
      clear HM HR HV HU HVt
      go_enter Tryz.func22, Tryz.ntmps22
      go_wp2_with (go_at_call 21; (with_reducible refine (HM2.out _).mono ?_); rintro e w' ⟨rfl, X1, rfl⟩)
      go_ret2
      exact Ret.of rfl (by repeat (first | with_reducible exact Below.refl _ _ | (with_reducible refine Below.alloc ?_ (by first | omega | (simp [go_sem] <;> omega)) _) | (with_reducible refine Below.drew ?_) | (with_reducible refine Below.drewN ?_ _) | (with_reducible refine Below.grow ?_ (by first | omega | (simp [go_sem] <;> omega)) _) | (with_reducible refine Below.setCell ?_ (by first | omega | (simp [go_sem] <;> omega)) _)))
theorem css_one (l : List Css) : ∀ u ∈ cssCells l, u.oneCell' = true := by
  intro u hu
  rw [cssCells, List.mem_flatMap] at hu
  obtain ⟨p, _, hp⟩ := hu
  simp [Css.cells, sv] at hp
  rcases hp with rfl | rfl | rfl | rfl <;> rfl
set_option maxRecDepth 100000 in
set_option maxHeartbeats 1600000 in
theorem clone_any (A : Option Addr) (n c : Nat) (l : List Css) (w : World) (h : Rd w (.slice A n c) l.length 4 (cssCells l)) (hA : A = none → c = 0) (hl : l.length ≤ 1000000000) :
    Calls Tryz.prog 24 #[.slice A n c] w (RetS w l.length 4 (cssCells l)) := by
  have HR := Lib.hid h
  have hn : l.length = n := by obtain ⟨_, _, _, _, he, _⟩ := h; cases he; rfl
  have HN := Lib.hid hn
  have HA := Lib.hid hA
  have hn9 : n ≤ 1000000000 := by omega
  cases A with
  | none =>
    have h0 : n = 0 := by
      rcases Nat.eq_zero_or_pos n with h0 | h0
      · exact h0
      · obtain ⟨_, _, _, _, he, h4⟩ := h
        cases he
        obtain ⟨_, _, h5, _⟩ := h4 (by omega)
        cases h5
    obtain rfl : l = [] := List.eq_nil_of_length_eq_zero (by omega)
    subst h0
    obtain rfl := hA rfl
    clear HR h hA HA
    have hnil : ∀ W : World, (binOp .eql 29 (.slice none 0 0) (.slice none 0 0)).run Tryz.prog W = .ok (.bool true) W := fun W => Lib.run_eql_slice_nil W _ _ none 0 0 0 0 Tryz.underlying29
    go_enter Tryz.func24, Tryz.ntmps24
    go_wp2_with fail
    go_ret
    exact RetS.of (by repeat (first | with_reducible exact Below.refl _ _ | (with_reducible refine Below.alloc ?_ (by first | omega | (simp [go_sem] <;> omega)) _) | (with_reducible refine Below.drew ?_) | (with_reducible refine Below.drewN ?_ _) | (with_reducible refine Below.grow ?_ (by first | omega | (simp [go_sem] <;> omega)) _) | (with_reducible refine Below.setCell ?_ (by first | omega | (simp [go_sem] <;> omega)) _))) (Nat.le_refl _) (Rd.nil _ _)
  | some ad =>
    clear h hA
    have hnil : ∀ W : World, (binOp .eql 29 (.slice (some ad) n c) (.slice none 0 0)).run Tryz.prog W = .ok (.bool false) W := fun W => Lib.run_eql_slice_nil W _ _ (some ad) n c 0 0 Tryz.underlying29
    go_enter Tryz.func24, Tryz.ntmps24
    go_wp2_with (at_builtin; go_loud (refine append_src rfl _ _ 29 rfl css_row w rfl (own_emp (by simp [go_sem]) (by simp [go_sem] <;> omega)) (by repeat (first | with_reducible exact Below.refl _ _ | (with_reducible refine Below.alloc ?_ (by first | omega | (simp [go_sem] <;> omega)) _) | (with_reducible refine Below.drew ?_) | (with_reducible refine Below.drewN ?_ _) | (with_reducible refine Below.grow ?_ (by first | omega | (simp [go_sem] <;> omega)) _) | (with_reducible refine Below.setCell ?_ (by first | omega | (simp [go_sem] <;> omega)) _))) n (cssCells l) (news_rd (HN.out ▸ HR.out) HA.out (by repeat (first | with_reducible exact Below.refl _ _ | (with_reducible refine Below.alloc ?_ (by first | omega | (simp [go_sem] <;> omega)) _) | (with_reducible refine Below.drew ?_) | (with_reducible refine Below.drewN ?_ _) | (with_reducible refine Below.grow ?_ (by first | omega | (simp [go_sem] <;> omega)) _) | (with_reducible refine Below.setCell ?_ (by first | omega | (simp [go_sem] <;> omega)) _)))) (by have := HR.out.1; rw [HN.out] at this; exact this) (css_one l) (by unfold maxLen; omega) (by omega) ?_); intro v3 X3 hown3)
    go_ret
    rw [HN.out]
    rw [Nat.zero_add, List.nil_append] at hown3
    exact RetS.own (by repeat (first | with_reducible exact Below.refl _ _ | (with_reducible refine Below.alloc ?_ (by first | omega | (simp [go_sem] <;> omega)) _) | (with_reducible refine Below.drew ?_) | (with_reducible refine Below.drewN ?_ _) | (with_reducible refine Below.grow ?_ (by first | omega | (simp [go_sem] <;> omega)) _) | (with_reducible refine Below.setCell ?_ (by first | omega | (simp [go_sem] <;> omega)) _))) hown3
end Go.Proofs.YtdpgpjileffekaaGreatDoor
