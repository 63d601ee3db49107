/- The walks of declarations: marks, brackets, what a value may be. -/
import Derived.Test.YtdpgpjileffekaaGreatDoorCssN
import Derived.Test.YtdpgpjileffekaaGreatDoorDecPlain
namespace Go.Proofs.YtdpgpjileffekaaGreatDoor
open Go.RowKit Go.Shelf
attribute [local go_sem] Oper.semAt_some
theorem index_mem (M : Bs) (c : UInt8) : decide ((0 : Int) ≤ Lib.indexByte M c) = M.contains c := by
  induction M with
  | nil => rfl
  | cons b l ih =>
    have hge : -1 ≤ Lib.indexByte l c := by
      clear ih
      induction l with
      | nil => simp [Lib.indexByte]
      | cons b l ih2 => unfold Lib.indexByte; split; decide; split; decide; omega
    rw [List.contains_cons, ← ih, show Lib.indexByte (b :: l) c = if b == c then 0 else if Lib.indexByte l c == -1 then -1 else Lib.indexByte l c + 1 from rfl]
    by_cases h : b = c
    · subst h; simp
    · have h2 : ¬ c = b := fun h3 => h h3.symm
      have hcb : (c == b) = false := by simpa using h2
      rw [if_neg (by simpa using h), hcb, Bool.false_or]
      clear ih
      generalize Lib.indexByte l c = z at *
      by_cases h1 : z = -1
      · subst h1; rfl
      · rw [if_neg (by simpa using h1), Bool.eq_iff_iff]; simp; omega
/-- Is a piece one of some marks? -/
def mkM (M : Bs) (x : Css) : Bool := M.any fun k => mk1 k x
theorem mkM_mark (M : Bs) (c : UInt8) : mkM M (mark1 c) = M.contains c := by
  unfold mkM
  induction M with
  | nil => rfl
  | cons k l ih =>
    rw [List.any_cons, List.contains_cons, ih]
    congr 1
    rw [Bool.eq_iff_iff]; simp [mk1, mark1]
theorem mkM_no {M : Bs} {x : Css} (h : x.kind ≠ 6) : mkM M x = false := by
  unfold mkM
  rw [List.any_eq_false]
  intro k _
  simp [mk1, h]
theorem mkM_one (k : UInt8) (x : Css) : mkM [k] x = mk1 k x := by simp [mkM]
set_option maxHeartbeats 800000 in
theorem mark_any (x : Css) (M : Bs) (w : World) (hx : Proper x) : Calls Tryz.prog 21 #[Css.agg x, .string ⟨M.toArray⟩] w (Ret (.bool (mkM M x)) w) := by
  have hx6 := hx.2
  have HT := Lib.hid (fun W c => show Calls Tryz.prog 40 #[.string ⟨M.toArray⟩, .string ⟨#[c]⟩] W fun e w' => e = .returned (.bool (mkM M (mark1 c))) ∧ w' = W from by
    have := Tryz.strings_Contains_one ⟨M.toArray⟩ c W
    rw [show (⟨M.toArray⟩ : ByteArray).data.toList = M from rfl, index_mem, ← mkM_mark] at this; exact this)
  obtain ⟨S, hS⟩ : ∃ S : ByteArray, ⟨M.toArray⟩ = S := ⟨_, rfl⟩
  rw [hS] at HT ⊢
  clear hS hx
  by_cases h6 : x.kind = 6
  · obtain ⟨c, rfl⟩ := hx6 h6
    have HT2 := Lib.hid (fun W => HT.out W c)
    obtain ⟨D, hD⟩ : ∃ D, mkM M (mark1 c) = D := ⟨_, rfl⟩
    rw [hD] at HT2 ⊢
    clear hD HT h6 hx6
    simp only [Css.agg, mark1, sv]
    go_enter Tryz.func21, Tryz.ntmps21
    go_wp2_with (go_at_call 40; (with_reducible refine (HT2.out _).mono ?_); rintro e w' ⟨rfl, rfl⟩)
    go_ret
    exact Ret.of rfl (by repeat (first | with_reducible exact Below.refl _ _ | (with_reducible refine Below.alloc ?_ (by first | omega | (simp [go_sem] <;> omega)) _) | (with_reducible refine Below.drew ?_) | (with_reducible refine Below.drewN ?_ _) | (with_reducible refine Below.grow ?_ (by first | omega | (simp [go_sem] <;> omega)) _) | (with_reducible refine Below.setCell ?_ (by first | omega | (simp [go_sem] <;> omega)) _)))
  · have HN := Lib.hid (mkM_no (M := M) h6)
    rw [HN.out]
    have b6 : (x.kind == 6) = false := by simpa using h6
    clear HT HN h6 hx6
    simp only [Css.agg, sv]
    generalize x.kind = k at *
    generalize (⟨x.text.toArray⟩ : ByteArray) = a1 at *
    generalize (⟨x.unit.toArray⟩ : ByteArray) = a2 at *
    go_enter Tryz.func21, Tryz.ntmps21
    go_wp2_with fail
    go_ret
    exact Ret.of rfl (by repeat (first | with_reducible exact Below.refl _ _ | (with_reducible refine Below.alloc ?_ (by first | omega | (simp [go_sem] <;> omega)) _) | (with_reducible refine Below.drew ?_) | (with_reducible refine Below.drewN ?_ _) | (with_reducible refine Below.grow ?_ (by first | omega | (simp [go_sem] <;> omega)) _) | (with_reducible refine Below.setCell ?_ (by first | omega | (simp [go_sem] <;> omega)) _)))
def deepI (x : Css) : Int := if opC x then 1 else if mk1 41 x then -1 else 0
set_option maxHeartbeats 800000 in
theorem deeper_any (x : Css) (w : World) (hx : Proper x) : Calls Tryz.prog 36 #[Css.agg x] w (Ret (.int .i64 (deepI x)) w) := by
  have HM1 := Lib.hid (fun W => mkM_one 40 x ▸ mark_any x [40] W hx)
  have HM2 := Lib.hid (fun W => mkM_one 41 x ▸ mark_any x [41] W hx)
  have HD : Hid (deepI x = if decide (x.kind = 2) || mk1 40 x then 1 else if mk1 41 x then -1 else 0) := rfl
  obtain ⟨D, hD⟩ : ∃ D, deepI x = D := ⟨_, rfl⟩
  rw [hD] at HD ⊢
  clear hD hx
  simp only [Css.agg, sv] at HM1 HM2 ⊢
  generalize mk1 40 x = m1 at *
  generalize mk1 41 x = m2 at *
  by_cases h2 : x.kind = 2
  · rw [decide_eq_true h2] at HD
    have b2 : (x.kind == 2) = true := by simp [h2]
    clear h2
    generalize x.kind = k at *
    generalize (⟨x.text.toArray⟩ : ByteArray) = a1 at *
    generalize (⟨x.unit.toArray⟩ : ByteArray) = a2 at *
    go_enter Tryz.func36, Tryz.ntmps36
    go_wp2_with fail
    go_ret
    exact Ret.of (int_eq (by rw [HD.out]; simp)) (by repeat (first | with_reducible exact Below.refl _ _ | (with_reducible refine Below.alloc ?_ (by first | omega | (simp [go_sem] <;> omega)) _) | (with_reducible refine Below.drew ?_) | (with_reducible refine Below.drewN ?_ _) | (with_reducible refine Below.grow ?_ (by first | omega | (simp [go_sem] <;> omega)) _) | (with_reducible refine Below.setCell ?_ (by first | omega | (simp [go_sem] <;> omega)) _)))
  · rw [decide_eq_false h2] at HD
    have b2 : (x.kind == 2) = false := by simpa using h2
    clear h2
    generalize x.kind = k at *
    generalize (⟨x.text.toArray⟩ : ByteArray) = a1 at *
    generalize (⟨x.unit.toArray⟩ : ByteArray) = a2 at *
    cases m1
    · cases m2
      all_goals
        have HM1' := Lib.hid HM1.out
        have HM2' := Lib.hid HM2.out
        go_enter Tryz.func36, Tryz.ntmps36
        go_wp2_with (go_at_call 21; first | ((with_reducible refine (Ret.flatA (X := ⟨#[], w.drawn⟩) (HM1'.out _)).mono ?_); rintro e w' ⟨rfl, X1, rfl⟩) | ((with_reducible refine (HM1'.out _).mono ?_); rintro e w' ⟨rfl, X1, rfl⟩) | ((with_reducible refine (HM2'.out _).mono ?_); rintro e w' ⟨rfl, X2, rfl⟩))
        go_ret
        exact Ret.of (int_eq (by rw [HD.out]; simp)) (by repeat (first | with_reducible exact Below.refl _ _ | (with_reducible refine Below.alloc ?_ (by first | omega | (simp [go_sem] <;> omega)) _) | (with_reducible refine Below.drew ?_) | (with_reducible refine Below.drewN ?_ _) | (with_reducible refine Below.grow ?_ (by first | omega | (simp [go_sem] <;> omega)) _) | (with_reducible refine Below.setCell ?_ (by first | omega | (simp [go_sem] <;> omega)) _)))
    · have HM1' := Lib.hid HM1.out
      go_enter Tryz.func36, Tryz.ntmps36
      go_wp2_with (go_at_call 21; (with_reducible refine (HM1'.out _).mono ?_); rintro e w' ⟨rfl, X1, rfl⟩)
      go_ret
      exact Ret.of (int_eq (by rw [HD.out]; simp)) (by repeat (first | with_reducible exact Below.refl _ _ | (with_reducible refine Below.alloc ?_ (by first | omega | (simp [go_sem] <;> omega)) _) | (with_reducible refine Below.drew ?_) | (with_reducible refine Below.drewN ?_ _) | (with_reducible refine Below.grow ?_ (by first | omega | (simp [go_sem] <;> omega)) _) | (with_reducible refine Below.setCell ?_ (by first | omega | (simp [go_sem] <;> omega)) _)))
theorem dn_int (d : Nat) (x : Css) : max ((d : Int) + deepI x) 0 = (dn d x : Int) := by
  unfold deepI dn
  split
  · omega
  · split
    · have : max ((d : Int) + -1) 0 = ((d - 1 : Nat) : Int) := by omega
      exact this
    · omega
theorem op_cl (x : Css) : opC x = true → mk1 41 x = false := by
  unfold opC mk1
  intro h
  simp only [Bool.or_eq_true, Bool.and_eq_true, decide_eq_true_eq] at h
  rw [Bool.and_eq_false_iff, decide_eq_false_iff_not, decide_eq_false_iff_not]
  rcases h with h | h
  · exact .inl (by omega)
  · exact .inr (by rw [h.2]; decide)
theorem even_neg {d : Nat} {x : Css} (l : List Css) (h : (d : Int) + deepI x < 0) : evenF d (x :: l) = false := by
  unfold deepI at h
  split at h
  · omega
  · split at h
    · rename_i h2
      simp only [evenF, h2, Bool.true_and]
      rw [if_pos (by simp; omega)]
    · omega
theorem even_step {d : Nat} {x : Css} (l : List Css) (h : ¬ (d : Int) + deepI x < 0) : evenF d (x :: l) = evenF (dn d x) l ∧ (d : Int) + deepI x = (dn d x : Int) := by
  have h2 := dn_int d x
  refine ⟨?_, by omega⟩
  simp only [evenF]
  rw [if_neg]
  intro h3
  simp only [Bool.and_eq_true, decide_eq_true_eq] at h3
  apply h
  unfold deepI
  cases ho : opC x
  · simp [h3.1, h3.2]
  · have := op_cl x ho
    rw [h3.1] at this; cases this
theorem deepI_le (x : Css) : -1 ≤ deepI x ∧ deepI x ≤ 1 := by unfold deepI; split; omega; split <;> omega
theorem dn_le (d : Nat) (x : Css) : dn d x ≤ d + 1 := by unfold dn; split; omega; split <;> omega
set_option maxRecDepth 100000 in
set_option maxHeartbeats 1600000 in
theorem even_any (A : Option Addr) (n c : Nat) (l : List Css) (w : World) (h : Rd w (.slice A n c) l.length 4 (cssCells l)) (hp : ∀ x ∈ l, Proper x) (hl : l.length ≤ 1000000000) :
    Calls Tryz.prog 42 #[.slice A n c] w (Ret (.bool (evenF 0 l)) w) := by
  have HR := Lib.hid h
  have HPr := Lib.hid hp
  obtain ⟨_, hm, A', c', heq, _⟩ := h
  cases heq
  obtain ⟨D, hD⟩ : ∃ D, evenF 0 l = D := ⟨_, rfl⟩
  have HD := Lib.hid hD
  rw [hD]
  clear hp hD
  go_enter Tryz.func42, Tryz.ntmps42
  go_wp2_with fail
  go_loopw [3, 8] (fun d i wr => ∃ (k e : Nat) (X : Gr), k ≤ l.length ∧ e ≤ k ∧ i = .int .i64 k ∧ d = .int .i64 e ∧ wr = w.grow X ∧ Hid (D = evenF e (l.drop k))) (fun _ i _ => l.length - (intOf i).toNat)
  case atStart => exact ⟨0, 0, _, by omega, by omega, rfl, rfl, (grow_refl w).symm, by show _ = _; rw [← HD.out]; rfl⟩
  case round =>
    obtain ⟨k, e, X, hk, hek, rfl, rfl, rfl, HK⟩ := hrel
    by_cases hlt : k < l.length
    · obtain ⟨b, off, rfl, hb, c0, c1, c2, c3⟩ := HR.out.css k hlt
      have HS := Lib.hid (HK.out.trans (by rw [List.drop_eq_getElem_cons hlt]))
      have hpx := HPr.out _ (List.getElem_mem hlt)
      generalize l[k] = x at *
      have HDp := Lib.hid (fun W => deeper_any x W hpx)
      have hdl := deepI_le x
      have hdn := dn_le e x
      simp only [Css.agg, sv] at HDp c1 c3
      have HE1 := Lib.hid (fun h => even_neg (d := e) (x := x) (l.drop (k + 1)) h)
      have HE2 := Lib.hid (fun h => even_step (d := e) (x := x) (l.drop (k + 1)) h)
      generalize deepI x = dp at *
      generalize dn e x = en at *
      generalize (⟨x.text.toArray⟩ : ByteArray) = a1 at *
      generalize (⟨x.unit.toArray⟩ : ByteArray) = a2 at *
      by_cases hneg : (e : Int) + dp < 0
      · have HN : Hid (D = false) := by show _ = _; rw [HS.out, HE1.out hneg]
        go_wp2_with (go_at_call 36; (with_reducible refine (HDp.out _).mono ?_); rintro e w' ⟨rfl, X1, rfl⟩)
        go_ret
        exact Ret.of (by rw [HN.out]; rfl) (by repeat (first | with_reducible exact Below.refl _ _ | (with_reducible refine Below.alloc ?_ (by first | omega | (simp [go_sem] <;> omega)) _) | (with_reducible refine Below.drew ?_) | (with_reducible refine Below.drewN ?_ _) | (with_reducible refine Below.grow ?_ (by first | omega | (simp [go_sem] <;> omega)) _) | (with_reducible refine Below.setCell ?_ (by first | omega | (simp [go_sem] <;> omega)) _)))
      · obtain ⟨h1, h2⟩ := HE2.out hneg
        have HN : Hid (D = evenF en (l.drop (k + 1))) := by show _ = _; rw [HS.out, h1]
        have hnn : ¬ (en : Int) < 0 := by omega
        clear h1
        go_wp2_with (go_at_call 36; (with_reducible refine (HDp.out _).mono ?_); rintro e w' ⟨rfl, X1, rfl⟩)
        go_roundw
        case rel => exact ⟨k + 1, en, _, by omega, by omega, by go_num, by first | rfl | (rw [h2]) | (go_num), by rw [alloc_grow, grow_grow, grow_grow], HN⟩
        case measure => simp [intOf]; omega
    · have HN : Hid (D = decide (e = 0)) := by show _ = _; rw [HK.out, List.drop_eq_nil_of_le (by omega)]; rfl
      go_wp2_with fail
      go_ret
      exact Ret.of (by rw [HN.out]; first | rfl | (show Value.bool ((e : Int) == 0) = _; congr 1; rw [Bool.eq_iff_iff]; simp)) (by repeat (first | with_reducible exact Below.refl _ _ | (with_reducible refine Below.alloc ?_ (by first | omega | (simp [go_sem] <;> omega)) _) | (with_reducible refine Below.drew ?_) | (with_reducible refine Below.drewN ?_ _) | (with_reducible refine Below.grow ?_ (by first | omega | (simp [go_sem] <;> omega)) _) | (with_reducible refine Below.setCell ?_ (by first | omega | (simp [go_sem] <;> omega)) _)))
theorem okC_eq (x : Css) : (!okC x) = (decide (x.kind = 7) || mkM [59, 33] x) := by
  unfold okC mkM
  simp only [List.any_cons, List.any_nil]
  cases mk1 59 x <;> cases mk1 33 x <;> by_cases h7 : x.kind = 7 <;> simp [h7]
set_option maxHeartbeats 800000 in
theorem modd_any (x : Css) (w : World) (hx : Proper x) : Calls Tryz.prog 41 #[Css.agg x] w (Ret (.bool (!okC x)) w) := by
  have HM := Lib.hid (fun W => mark_any x [59, 33] W hx)
  have HD := Lib.hid (okC_eq x)
  obtain ⟨D, hD⟩ : ∃ D, (!okC x) = D := ⟨_, rfl⟩
  rw [hD] at HD ⊢
  clear hD hx
  simp only [Css.agg, sv] at HM ⊢
  generalize mkM [59, 33] x = m at *
  by_cases h7 : x.kind = 7
  · rw [decide_eq_true h7] at HD
    have b7 : (x.kind == 7) = true := by simp [h7]
    clear h7
    generalize x.kind = k at *
    generalize (⟨x.text.toArray⟩ : ByteArray) = a1 at *
    generalize (⟨x.unit.toArray⟩ : ByteArray) = a2 at *
    go_enter Tryz.func41, Tryz.ntmps41
    go_wp2_with fail
    go_ret
    exact Ret.of (by rw [HD.out]; rfl) (by repeat (first | with_reducible exact Below.refl _ _ | (with_reducible refine Below.alloc ?_ (by first | omega | (simp [go_sem] <;> omega)) _) | (with_reducible refine Below.drew ?_) | (with_reducible refine Below.drewN ?_ _) | (with_reducible refine Below.grow ?_ (by first | omega | (simp [go_sem] <;> omega)) _) | (with_reducible refine Below.setCell ?_ (by first | omega | (simp [go_sem] <;> omega)) _)))
  · rw [decide_eq_false h7] at HD
    have b7 : (x.kind == 7) = false := by simpa using h7
    clear h7
    generalize x.kind = k at *
    generalize (⟨x.text.toArray⟩ : ByteArray) = a1 at *
    generalize (⟨x.unit.toArray⟩ : ByteArray) = a2 at *
    go_enter Tryz.func41, Tryz.ntmps41
    go_wp2_with (go_at_call 21; (with_reducible refine (HM.out _).mono ?_); rintro e w' ⟨rfl, X1, rfl⟩)
    go_ret
    exact Ret.of (by rw [HD.out]; rfl) (by repeat (first | with_reducible exact Below.refl _ _ | (with_reducible refine Below.alloc ?_ (by first | omega | (simp [go_sem] <;> omega)) _) | (with_reducible refine Below.drew ?_) | (with_reducible refine Below.drewN ?_ _) | (with_reducible refine Below.grow ?_ (by first | omega | (simp [go_sem] <;> omega)) _) | (with_reducible refine Below.setCell ?_ (by first | omega | (simp [go_sem] <;> omega)) _)))
end Go.Proofs.YtdpgpjileffekaaGreatDoor
