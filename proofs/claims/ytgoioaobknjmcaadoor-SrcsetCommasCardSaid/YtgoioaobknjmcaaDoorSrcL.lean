/- The walks of Text: pictures as text, by the program and by the reference. -/
import Derived.Test.YtgoioaobknjmcaaDoorKitJ
import Derived.Test.YtgoioaobknjmcaaDoorSrcK
namespace Go.Proofs.YtgoioaobknjmcaaDoor
open Go.RowKit Go.Shelf
theorem Rd.pic {w : World} {A : Option Addr} {m c : Nat} {l : List Pic} (h : Rd w (.slice A m c) l.length 2 (picCells l)) (k : Nat) (hk : k < l.length) :
    ∃ b off, A = some ⟨b, off, none⟩ ∧ b < w.heap.size ∧ w.cell? ⟨b, off + k * 2, none⟩ = some (sv l[k].url) ∧ w.cell? ⟨b, off + k * 2 + 1, none⟩ = some (sv l[k].size) := by
  obtain ⟨b, off, rfl, hb, hc⟩ := Rd.flat (n := 2) (cells := Pic.cells) (fun _ => rfl) h k hk
  exact ⟨b, off, rfl, hb, hc 0 _ (by omega) rfl, hc 1 _ (by omega) rfl⟩
theorem joinBs_snoc (sep : Bs) (l : List Bs) (x : Bs) : joinBs sep (l ++ [x]) = if l = [] then x else joinBs sep l ++ sep ++ x := by
  induction l with
  | nil => rfl
  | cons y l ih =>
    cases l with
    | nil => simp [joinBs]
    | cons z l => rw [List.cons_append, List.cons_append, joinBs, ← List.cons_append, ih, joinBs]; simp
set_option maxRecDepth 100000 in
set_option maxHeartbeats 4000000 in
theorem text_any (A : Option Addr) (n c : Nat) (l : List Pic) (w : World) (h : Rd w (.slice A n c) l.length 2 (picCells l)) (hl : l.length ≤ 1000000) (ht : (textP l).length ≤ 140737488355) (he : ∀ p ∈ l, p.url.length ≤ 140737488355 ∧ p.size.length ≤ 140737488355) :
    Calls Tryd.prog 15 #[.slice A n c] w (Ret (.string ⟨(textP l).toArray⟩) w) := by
  have HR := Lib.hid h
  obtain ⟨_, hm, A', c', heq, _⟩ := h
  cases heq
  have HE := Lib.hid he
  have HT := Lib.hid ht
  clear he ht
  go_enter Tryd.func15, Tryd.ntmps15
  go_wp2_with fail
  go_loopw [3, 8] (fun v i wr => ∃ (k : Nat) (X : Gr), k ≤ l.length ∧ i = .int .i64 k ∧ wr = w.grow X ∧ (w.grow X).ownsRow w.heap.size 9 1 v k (((l.take k).map toldP').map sv)) (fun _ i _ => l.length - (intOf i).toNat)
  case atStart => exact ⟨0, _, by omega, rfl, (grow_refl w).symm, by rw [grow_refl]; exact World.ownsRow_nil _ _ _ _⟩
  case round =>
    obtain ⟨k, X, hk, rfl, rfl, hown⟩ := hrel
    by_cases hlt : k < l.length
    · obtain ⟨b, off, rfl, hb, c0, c1⟩ := (HR.out.grow X).pic k hlt
      have HL := Lib.hid (show ((l.take (k + 1)).map toldP').map sv = ((l.take k).map toldP').map sv ++ [sv (toldP' l[k])] by rw [List.take_succ_eq_append_getElem hlt, List.map_append, List.map_append]; rfl)
      obtain ⟨h1, h2⟩ := HE.out _ (List.getElem_mem hlt)
      have HPe : Hid (toldP' l[k] = if l[k].size = [] then l[k].url else l[k].url ++ 32 :: l[k].size) := rfl
      generalize l[k] = p at *
      have hb2 : b < (w.grow X).heap.size + 1 := by omega
      obtain ⟨U, hU⟩ : ∃ U : ByteArray, ⟨p.url.toArray⟩ = U := ⟨_, rfl⟩
      obtain ⟨Z, hZ⟩ : ∃ U : ByteArray, ⟨p.size.toArray⟩ = U := ⟨_, rfl⟩
      simp only [sv, hU, hZ] at c0 c1
      have hZe : Z.toList.isEmpty = decide (p.size = []) := by rw [ba_emp, ← hZ]
      have HU := Lib.hid hU
      have HZ := Lib.hid hZ
      have hus : U.size ≤ 140737488355 := by rw [← hU]; exact h1
      have hzs : Z.size ≤ 140737488355 := by rw [← hZ]; exact h2
      clear hU hZ h1 h2
      by_cases hz : p.size = []
      · have HV := Lib.hid (show sv (toldP' p) = .string U by rw [HPe.out, if_pos hz, sv, HU.out])
        rw [show decide (p.size = []) = true by simp [hz]] at hZe
        go_wp2_with (at_builtin; go_loud (refine append_grow rfl _ _ 39 rfl strs_row w rfl ((hown.alloc _).alloc _) (by repeat (first | with_reducible exact Below.refl _ _ | (with_reducible refine Below.alloc ?_ (by first | omega | (simp [go_sem] <;> omega)) _) | (with_reducible refine Below.drew ?_) | (with_reducible refine Below.drewN ?_ _) | (with_reducible refine Below.grow ?_ (by first | omega | (simp [go_sem] <;> omega)) _) | (with_reducible refine Below.setCell ?_ (by first | omega | (simp [go_sem] <;> omega)) _))) ⟨_, 0, none⟩ 1 1 [.string U] rfl rfl (new_cells (c := #[.string U]) (by simp [go_sem])) (by simp [Value.oneCell']) (by unfold maxLen; omega) (by omega) ?_); intro v' Y hown' _)
        go_roundw
        case rel => exact ⟨k + 1, Y, by omega, by go_num, rfl, by rw [HL.out, HV.out]; exact hown'⟩
        case measure => simp [intOf]; omega
      · have HV := Lib.hid (show sv (toldP' p) = .string (U ++ (⟨#[32]⟩ ++ Z)) by
          rw [HPe.out, if_neg hz, sv, ← HU.out, ← HZ.out, show (⟨#[32]⟩ : ByteArray) = ⟨([32] : Bs).toArray⟩ from rfl, cat_bs, cat_bs]; rfl)
        rw [show decide (p.size = []) = false by simp [hz]] at hZe
        go_wp2_with (at_builtin; go_loud (refine append_grow rfl _ _ 39 rfl strs_row w rfl ((hown.alloc _).alloc _) (by repeat (first | with_reducible exact Below.refl _ _ | (with_reducible refine Below.alloc ?_ (by first | omega | (simp [go_sem] <;> omega)) _) | (with_reducible refine Below.drew ?_) | (with_reducible refine Below.drewN ?_ _) | (with_reducible refine Below.grow ?_ (by first | omega | (simp [go_sem] <;> omega)) _) | (with_reducible refine Below.setCell ?_ (by first | omega | (simp [go_sem] <;> omega)) _))) ⟨_, 0, none⟩ 1 1 [.string (U ++ (⟨#[32]⟩ ++ Z))] rfl rfl (new_cells (c := #[.string (U ++ (⟨#[32]⟩ ++ Z))]) (by simp [go_sem])) (by simp [Value.oneCell']) (by unfold maxLen; omega) (by omega) ?_); intro v' Y hown' _)
        go_roundw
        case rel => exact ⟨k + 1, Y, by omega, by go_num, rfl, by rw [HL.out, HV.out]; exact hown'⟩
        case measure => simp [intOf]; omega
    · obtain rfl : k = l.length := by omega
      rw [List.take_length] at hown
      have hrd := Rd.own hown
      obtain ⟨A1, c1, rfl, hc1⟩ := own_cap hown
      have HJ := Lib.hid (strjoin_any (l.map toldP') [44, 32] (A := A1) (n := l.length) (c := c1) (by rw [List.length_map]; exact hrd) (by rw [List.length_map]; exact hc1) (by show (textP l).length ≤ _; have := HT.out; omega) (by rw [List.length_map]; omega))
      go_wp2_with (go_at_call 28; (with_reducible refine HJ.out.mono ?_); rintro e w' ⟨rfl, Y, rfl⟩)
      go_ret
      exact Ret.of rfl (by repeat (first | with_reducible exact Below.refl _ _ | (with_reducible refine Below.alloc ?_ (by first | omega | (simp [go_sem] <;> omega)) _) | (with_reducible refine Below.drew ?_) | (with_reducible refine Below.drewN ?_ _) | (with_reducible refine Below.grow ?_ (by first | omega | (simp [go_sem] <;> omega)) _) | (with_reducible refine Below.setCell ?_ (by first | omega | (simp [go_sem] <;> omega)) _)))
end Go.Proofs.YtgoioaobknjmcaaDoor
