/- The walks of the reference: pictures as text, a size, whether two lists are the same. -/
import Derived.Test.YtgoioaobknjmcaaDoorSrcP
import Derived.Test.YtgoioaobknjmcaaDoorSrcN
import Derived.Test.YtgoioaobknjmcaaDoorSrcD
namespace Go.Proofs.YtgoioaobknjmcaaDoor
open Go.RowKit Go.Shelf
theorem textP_snoc (l : List Pic) (k : Nat) (h : k < l.length) : textP (l.take (k + 1)) = if k = 0 then toldP' l[k] else textP (l.take k) ++ [44, 32] ++ toldP' l[k] := by
  unfold textP
  rw [List.take_succ_eq_append_getElem h, List.map_append, List.map_singleton, joinBs_snoc]
  by_cases h0 : k = 0
  · subst h0; simp
  · rw [if_neg h0, if_neg (by intro h; have := congrArg List.length h; rw [List.length_map, List.length_take, List.length_nil] at this; omega)]
theorem textP_pre (l : List Pic) (k : Nat) (h : k ≤ l.length) : (textP (l.take k)).length ≤ (textP l).length := by
  unfold textP
  rw [List.map_take]
  exact joinBs_pre _ _ _ (by rw [List.length_map]; exact h)
set_option maxRecDepth 100000 in
set_option maxHeartbeats 4000000 in
theorem rtext_any (A : Option Addr) (n c : Nat) (l : List Pic) (w : World) (h : Rd w (.slice A n c) l.length 2 (picCells l)) (hl : l.length ≤ 1000000) (ht : (textP l).length ≤ 140737488355) (he : ∀ p ∈ l, p.url.length ≤ 140737488355 ∧ p.size.length ≤ 140737488355) :
    Calls Tryd.prog 16 #[.slice A n c] w fun e w' => e = .returned (.string ⟨(textP l).toArray⟩) ∧ w = w' := by
  have HR := Lib.hid h
  obtain ⟨_, hm, A', c', heq, _⟩ := h
  cases heq
  have HE := Lib.hid he
  have HT := Lib.hid ht
  clear he ht
  go_enter Tryd.func16, Tryd.ntmps16
  go_wp2_with fail
  go_loop [3, 4] (fun v i => ∃ k : Nat, k ≤ l.length ∧ i = .int .i64 k ∧ v = .string ⟨(textP (l.take k)).toArray⟩) (fun _ i => l.length - (intOf i).toNat)
  case atStart => exact ⟨0, by omega, rfl, rfl⟩
  case round =>
    obtain ⟨k, hk, rfl, rfl⟩ := hrel
    have hp0 := Nat.le_trans (textP_pre l k hk) HT.out
    by_cases hlt : k < l.length
    · obtain ⟨b, off, rfl, hb, c0, c1⟩ := HR.out.pic k hlt
      have hp1 := Nat.le_trans (textP_pre l (k + 1) hlt) HT.out
      obtain ⟨h1, h2⟩ := HE.out _ (List.getElem_mem hlt)
      have HS := Lib.hid (textP_snoc l k hlt)
      have HPe : Hid (toldP' l[k] = if l[k].size = [] then l[k].url else l[k].url ++ 32 :: l[k].size) := rfl
      generalize l[k] = p at *
      obtain ⟨O, hO⟩ : ∃ U : ByteArray, ⟨(textP (l.take k)).toArray⟩ = U := ⟨_, rfl⟩
      obtain ⟨U, hU⟩ : ∃ U : ByteArray, ⟨p.url.toArray⟩ = U := ⟨_, rfl⟩
      obtain ⟨Z, hZ⟩ : ∃ U : ByteArray, ⟨p.size.toArray⟩ = U := ⟨_, rfl⟩
      simp only [sv, hU, hZ] at c0 c1
      have hZe : Z.toList.isEmpty = decide (p.size = []) := by rw [ba_emp, ← hZ]
      have hus : U.size ≤ 140737488355 := by rw [← hU]; exact h1
      have hzs : Z.size ≤ 140737488355 := by rw [← hZ]; exact h2
      have hos : O.size ≤ 140737488355 := by rw [← hO]; exact hp0
      have HO0 := Lib.hid (fun (h : k = 0) => show O = ⟨#[]⟩ by subst h; rw [← hO]; rfl)
      have HN := Lib.hid (show (⟨(textP (l.take (k + 1))).toArray⟩ : ByteArray) = (if k = 0 then ⟨#[]⟩ else O ++ ⟨#[44, 32]⟩) ++ (if p.size = [] then U else U ++ ⟨#[32]⟩ ++ Z) by
        rw [HS.out, HPe.out, ← hU, ← hZ, ← hO, show (⟨#[44, 32]⟩ : ByteArray) = ⟨([44, 32] : Bs).toArray⟩ from rfl, show (⟨#[32]⟩ : ByteArray) = ⟨([32] : Bs).toArray⟩ from rfl, show (⟨#[]⟩ : ByteArray) = ⟨([] : Bs).toArray⟩ from rfl]
        by_cases h0 : k = 0 <;> by_cases hz : p.size = [] <;> simp [h0, hz, cat_bs])
      rw [hO]
      clear hU hZ hO hp0 hp1 h1 h2
      have hb0 : decide (0 < (k : Int)) = !decide (k = 0) := by rw [Bool.eq_iff_iff]; simp; omega
      have HC := Lib.hid (fun A B C D : ByteArray => show A ++ B ++ C ++ D = A ++ (B ++ C ++ D) by simp only [ByteArray.append_assoc])
      have HC2 := Lib.hid (fun A B C : ByteArray => show A ++ B ++ C = A ++ (B ++ C) by simp only [ByteArray.append_assoc])
      by_cases h0 : k = 0
      · have hO0 := HO0.out h0
        subst hO0 h0
        simp only [Nat.zero_mul, Nat.add_zero, Nat.zero_add] at c0 c1
        by_cases hz : p.size = []
        · rw [show decide (p.size = []) = true by simp [hz]] at hZe
          have HV := Lib.hid (HN.out.trans (by rw [if_pos rfl, if_pos hz]))
          go_wp2
          go_round
          case rel => exact ⟨0 + 1, by omega, by go_num, by rw [HV.out]⟩
          case measure => simp [intOf]; omega
        · rw [show decide (p.size = []) = false by simp [hz]] at hZe
          have HV := Lib.hid (HN.out.trans (by rw [if_pos rfl, if_neg hz]))
          go_wp2
          go_round
          case rel => exact ⟨0 + 1, by omega, by go_num, by rw [HV.out]; simp only [ByteArray.append_assoc]⟩
          case measure => simp [intOf]; omega
      · have h1 : (0 : Int) < k := by omega
        by_cases hz : p.size = []
        · rw [show decide (p.size = []) = true by simp [hz]] at hZe
          have HV := Lib.hid (HN.out.trans (by rw [if_neg h0, if_pos hz]))
          go_wp2
          go_round
          case rel => exact ⟨k + 1, by omega, by go_num, by rw [HV.out]⟩
          case measure => simp [intOf]; omega
        · rw [show decide (p.size = []) = false by simp [hz]] at hZe
          have HV := Lib.hid (HN.out.trans (by rw [if_neg h0, if_neg hz]))
          go_wp2
          go_round
          case rel => exact ⟨k + 1, by omega, by go_num, by rw [HV.out]; simp only [ByteArray.append_assoc]⟩
          case measure => simp [intOf]; omega
    · obtain rfl : k = l.length := by omega
      have HX := Lib.hid (show textP (l.take l.length) = textP l by rw [List.take_length])
      go_wp2
      go_ret
      exact ⟨by rw [← HX.out]; rfl, rfl⟩
end Go.Proofs.YtgoioaobknjmcaaDoor
