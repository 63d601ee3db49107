/- The walk of Parse by the reference. -/
import Derived.Test.YtgoioaobknjmcaaDoorSrcO
import Derived.Test.YtgoioaobknjmcaaDoorSrcE
namespace Go.Proofs.YtgoioaobknjmcaaDoor
open Go.RowKit Go.Shelf
def strLen : Value → Nat
  | .string t => t.size
  | _ => 0
theorem trimC_snoc (l : Bs) : trimC (l ++ [44]) = trimC l := by
  unfold trimC
  rw [List.reverse_append, List.reverse_singleton, List.singleton_append, List.dropWhile_cons_of_pos (by decide)]
theorem trimC_no {l : Bs} {c : UInt8} (h : c.toNat ≠ 44) : trimC (l ++ [c]) = l ++ [c] := by
  unfold trimC
  rw [List.reverse_append, List.reverse_singleton, List.singleton_append, List.dropWhile_cons_of_neg (by simp [h])]; simp
theorem endsC_snoc (l : Bs) (c : UInt8) : endsC (l ++ [c]) = decide (c.toNat = 44) := by
  unfold endsC; rw [List.getLast?_append]; simp
theorem last_of {q : Bs} (h : q ≠ []) : ∃ l c, q = l ++ [c] := by
  rcases List.eq_nil_or_concat q with h1 | h1
  · exact absurd h1 h
  · obtain ⟨l, c, h1⟩ := h1
    exact ⟨l, c, by rw [h1, List.concat_eq_append]⟩
theorem Rd.str1 {w : World} {A : Option Addr} {m c : Nat} {l : List Bs} (h : Rd w (.slice A m c) l.length 1 (l.map sv)) (k : Nat) (hk : k < l.length) :
    ∃ b off, A = some ⟨b, off, none⟩ ∧ b < w.heap.size ∧ w.cell? ⟨b, off + k, none⟩ = some (sv l[k]) := by
  rw [← svL_map] at h
  obtain ⟨b, off, rfl, hb, hc⟩ := Rd.flat (n := 1) (cells := svL) (fun _ => rfl) h k hk
  refine ⟨b, off, rfl, hb, ?_⟩
  have := hc 0 _ (by omega) rfl
  rwa [Nat.mul_one, Nat.add_zero] at this
theorem joinBs_pre (sep : Bs) (us : List Bs) : ∀ k, k ≤ us.length → (joinBs sep (us.take k)).length ≤ (joinBs sep us).length := by
  intro k hk
  induction us generalizing k with
  | nil => simp
  | cons u us ih =>
    cases k with
    | zero => simp [joinBs]
    | succ k =>
      rw [List.take_succ_cons]
      cases us with
      | nil => simp
      | cons v us =>
        cases k with
        | zero => simp [joinBs]
        | succ k =>
          have := ih (k + 1) (by simpa using hk)
          rw [List.take_succ_cons] at this ⊢
          rw [joinBs, joinBs]; simp; omega
theorem nil_cat (V : ByteArray) : (⟨#[]⟩ : ByteArray) ++ V = V := by
  apply ba_ext
  rw [ByteArray.data_append]; simp
theorem data_at (U : ByteArray) (u : Bs) (h : U.data.toList = u) (k : Nat) (hk : k < U.size) : some U[k] = u[k]? := by
  rw [← h, List.getElem?_eq_getElem (by rw [len_data]; exact hk)]; rfl
theorem at_bs (l : Bs) (k : Nat) (h : k < (⟨l.toArray⟩ : ByteArray).size) : (⟨l.toArray⟩ : ByteArray)[k] = l[k]'h := rfl
set_option maxRecDepth 100000 in
set_option maxHeartbeats 8000000 in
theorem rparse_any (s : Bs) (w : World) (hm : s.length ≤ 140737488355) : Calls Tryd.prog 10 #[.string ⟨s.toArray⟩] w (RetS w (picL s).length 2 (picCells (picL s))) := by
  obtain ⟨L, hL⟩ : ∃ L, picL s = L := ⟨_, rfl⟩
  have HL := Lib.hid hL
  have hfew := pic_few _ s (Nat.le_refl _)
  rw [hL] at hfew ⊢
  clear hL
  go_enter Tryd.func10, Tryd.ntmps10
  go_wp2_with fail
  go_loopw [0, 3] (fun x v wr => ∃ (u : Bs) (us : List Pic) (X : Gr), u.length + us.length ≤ s.length ∧ x = .string ⟨u.toArray⟩ ∧ wr = w.grow X ∧ (w.grow X).ownsRow w.heap.size 28 2 v us.length (picCells us) ∧ Hid (us ++ picL u = L)) (fun x _ _ => strLen x)
  case atStart => exact ⟨s, [], _, by simp, rfl, (grow_refl w).symm, by rw [grow_refl]; exact World.ownsRow_nil _ _ _ _, HL⟩
  case round =>
    obtain ⟨u, us, X, hle, rfl, rfl, hown, HK⟩ := hrel
    go_wp2_with fail
    go_loop [0] (fun x => ∃ (u' : Bs), u'.length ≤ u.length ∧ x = .string ⟨u'.toArray⟩ ∧ Hid (picL u' = picL u)) (fun x => strLen x)
    case atStart => exact ⟨u, Nat.le_refl _, rfl, rfl⟩
    case round =>
      obtain ⟨u', hu, rfl, HU⟩ := hrel
      cases u' with
      | nil =>
        have HN : Hid (us = L) := by show _ = _; rw [← HK.out, ← HU.out, pic_nil, List.append_nil]
        go_wp2
        go_ret
        rw [← HN.out]
        exact RetS.own (by repeat (first | with_reducible exact Below.refl _ _ | (with_reducible refine Below.alloc ?_ (by first | omega | (simp [go_sem] <;> omega)) _) | (with_reducible refine Below.drew ?_) | (with_reducible refine Below.drewN ?_ _) | (with_reducible refine Below.grow ?_ (by first | omega | (simp [go_sem] <;> omega)) _) | (with_reducible refine Below.setCell ?_ (by first | omega | (simp [go_sem] <;> omega)) _))) hown
      | cons c r =>
        obtain ⟨U, hU⟩ : ∃ U : ByteArray, ⟨(c :: r).toArray⟩ = U := ⟨_, rfl⟩
        have hUs : U.size = r.length + 1 := by rw [← hU]; rfl
        have hUe := ba_full (a := U) (by omega)
        have hU1 : 0 < U.size := by omega
        have hUd : U.data.toList = c :: r := by rw [← hU]
        have hU0 : U[0]'hU1 = c := by have := data_at U _ hUd 0 hU1; simpa using this
        have hUm : U.size ≤ 140737488355 := by simp at hu; omega
        have HUU := Lib.hid hU
        have HUd := Lib.hid hUd
        have HUs := Lib.hid hUs
        have hrl : r.length ≤ 140737488355 := by omega
        rw [hU]
        cases hs : sepB c
        · have hsp := sep_sp hs
          have h44 : ((c.toNat : Int) == 44) = false := by
            unfold sepB at hs; simp at hs; simp; omega
          obtain ⟨q, hq⟩ : ∃ q, (c :: r).takeWhile nspB = q := ⟨_, rfl⟩
          obtain ⟨t, ht⟩ : ∃ t, (c :: r).dropWhile nspB = t := ⟨_, rfl⟩
          have HR := Lib.hid (pic_round (r := r) hs)
          change Hid (picL (c :: r) = if endsC ((c :: r).takeWhile nspB) then ⟨trimC ((c :: r).takeWhile nspB), []⟩ :: picL ((c :: r).dropWhile nspB) else ⟨(c :: r).takeWhile nspB, joinBs [32] (wordsL (((c :: r).dropWhile nspB).take (szL 0 ((c :: r).dropWhile nspB))))⟩ :: picL (((c :: r).dropWhile nspB).drop (szL 0 ((c :: r).dropWhile nspB)))) at HR
          rw [hq, ht] at HR
          have htl : t.length ≤ r.length := by rw [← ht]; exact tail_len hsp
          have e1 : U.extract 0 (tw nspB (c :: r)) = ⟨q.toArray⟩ := by rw [str_take, hUd, take_tw, hq]
          have e2 : U.extract (tw nspB (c :: r)) U.size = ⟨t.toArray⟩ := by rw [str_drop, hUd, drop_tw, ht]
          have hqn : q ≠ [] := by rw [← hq, List.takeWhile_cons_of_pos (by simp [nspB, hsp])]; simp
          have hql : q.length ≤ r.length + 1 := by rw [← hq]; exact (List.takeWhile_sublist nspB).length_le
          have hN := tw_le nspB (c :: r)
          obtain ⟨q0, d, hqd⟩ := last_of hqn
          have HEd := Lib.hid (show endsC q = decide (d.toNat = 44) by rw [hqd, endsC_snoc])
          have HI0 := Lib.hid (show tw nspB (c :: r) = tw nspB U.data.toList by rw [hUd])
          obtain ⟨Q, hQ⟩ : ∃ Q : ByteArray, ⟨q.toArray⟩ = Q := ⟨_, rfl⟩
          obtain ⟨T, hT⟩ : ∃ T : ByteArray, ⟨t.toArray⟩ = T := ⟨_, rfl⟩
          have hQs : Q.size = q0.length + 1 := by rw [← hQ, hqd]; show (q0 ++ [d]).length = _; simp
          have hQ1 : q0.length < Q.size := by omega
          have hQm : Q.size ≤ 140737488356 := by rw [hQs]; rw [hqd] at hql; simp at hql; omega
          have hQd : Q[q0.length]'hQ1 = d := by
            have := data_at Q q (by rw [← hQ]) q0.length hQ1
            rw [hqd, List.getElem?_append_right (Nat.le_refl _)] at this; simpa using this
          rw [hQ] at e1
          rw [hT] at e2
          have HQ := Lib.hid hQ
          have HTT := Lib.hid hT
          have HQs := Lib.hid hQs
          have hQi : (Q.size : Int) - 1 = q0.length := by omega
          clear hQ hT hQs hUd hU hUs
          generalize tw nspB (c :: r) = N at *
          go_wp2_with (go_at_call 19; (with_reducible refine (rspace_any _ _).mono ?_); rintro e w' ⟨rfl, rfl⟩; rw [hsp])
          go_loop [4] (fun i => ∃ k : Nat, k ≤ U.size ∧ i = .int .i64 k ∧ Hid (N = k + tw nspB (U.data.toList.drop k))) (fun i => U.size - (intOf i).toNat)
          case atStart => exact ⟨0, by omega, rfl, by show _ = _; rw [HI0.out]; simp⟩
          case round =>
            obtain ⟨k, hk, rfl, HI⟩ := hrel
            by_cases hgo : ∃ h : k < U.size, spB U[k] = false
            · obtain ⟨hlt, hsk⟩ := hgo
              have HDk := Lib.hid (drop_at U k hlt)
              have HN : Hid (N = k + 1 + tw nspB (U.data.toList.drop (k + 1))) := by
                show _ = _
                rw [HI.out, HDk.out, tw_cons_t _ (by simp [nspB, hsk])]; omega
              go_wp2_with (go_at_call 19; (with_reducible refine (rspace_any _ _).mono ?_); rintro e w' ⟨rfl, rfl⟩; rw [hsk])
              go_round
              case rel => exact ⟨k + 1, by omega, by go_num, HN⟩
              case measure => simp [intOf]; omega
            · have hend : (∃ h : k < U.size, spB U[k] = true) ∨ ¬ (k < U.size) := by
                by_cases hlt : k < U.size
                · left; refine ⟨hlt, ?_⟩
                  cases hq : spB U[k]
                  · exact absurd ⟨hlt, hq⟩ hgo
                  · rfl
                · right; exact hlt
              have hkt : N = k := by
                have := HI.out
                rcases hend with ⟨hlt, hq⟩ | hlt
                · rw [drop_at U k hlt, tw_cons_f _ (by simp [nspB, hq])] at this; omega
                · rw [drop_end U _ (by omega)] at this; simp [tw] at this; omega
              subst hkt
              clear hgo
              by_cases hd : d.toNat = 44
              · have bd : ((d.toNat : Int) == 44) = true := by simp; omega
                have HX := Lib.hid (show us ++ [(⟨trimC q, []⟩ : Pic)] ++ picL t = L by
                  rw [← HK.out, ← HU.out, HR.out, if_pos (by rw [HEd.out]; simp [hd]), List.append_assoc]; rfl)
                clear hd
                rcases hend with ⟨hlt, hsk⟩ | hlt
                all_goals
                  go_wp2_with (go_at_call 19; (with_reducible refine (rspace_any _ _).mono ?_); rintro e w' ⟨rfl, rfl⟩; rw [hsk])
                  go_loop [5] (fun x => ∃ q' : Bs, q'.length ≤ r.length + 1 ∧ x = .string ⟨q'.toArray⟩ ∧ Hid (trimC q' = trimC q)) (fun x => strLen x)
                  case atStart => exact ⟨q, hql, by rw [HQ.out], rfl⟩
                  case round =>
                    obtain ⟨q', hq'l, rfl, HQ'⟩ := hrel
                    obtain ⟨Y, hY⟩ : ∃ Y : ByteArray, ⟨q'.toArray⟩ = Y := ⟨_, rfl⟩
                    have hYe : Y.toList.isEmpty = decide (q' = []) := by rw [ba_emp, ← hY]
                    have hYs : Y.size = q'.length := by rw [← hY]; rfl
                    have HY := Lib.hid hY
                    have HYd := Lib.hid (show Y.data.toList = q' by rw [← hY])
                    rw [hY]
                    clear hY
                    have hcase : (∃ q1, q' = q1 ++ [44]) ∨ (q' = trimC q ∧ (q' = [] ∨ ∃ q1 e, q' = q1 ++ [e] ∧ e.toNat ≠ 44)) := by
                      by_cases h0 : q' = []
                      · right; exact ⟨by rw [← HQ'.out, h0]; rfl, Or.inl h0⟩
                      · obtain ⟨q1, e, he⟩ := last_of h0
                        by_cases h1 : e.toNat = 44
                        · left; exact ⟨q1, by rw [he, UInt8.toNat_inj.1 (show e.toNat = (44 : UInt8).toNat from h1)]⟩
                        · right; exact ⟨by rw [← HQ'.out, he, trimC_no h1], Or.inr ⟨q1, e, he, h1⟩⟩
                    rcases hcase with ⟨q1, hq1⟩ | ⟨htq, hcase⟩
                    · have hYl : Y.size = q1.length + 1 := by rw [hYs, hq1]; simp
                      have hY1 : q1.length < Y.size := by omega
                      have hYd : Y[q1.length]'hY1 = 44 := by
                        have := data_at Y q' HYd.out q1.length hY1
                        rw [hq1, List.getElem?_append_right (Nat.le_refl _)] at this; simpa using this
                      have hYi : (Y.size : Int) - 1 = q1.length := by omega
                      have hYx : Y.extract 0 q1.length = ⟨q1.toArray⟩ := by rw [str_take, HYd.out, hq1, List.take_left]
                      have hYm : Y.size ≤ 140737488356 := by omega
                      have HQ1 := Lib.hid (show trimC q1 = trimC q by rw [← HQ'.out, hq1, trimC_snoc])
                      rw [show decide (q' = []) = false by rw [hq1]; simp] at hYe
                      have HYl := Lib.hid hYl
                      have hq1l : q1.length ≤ r.length + 1 := by omega
                      clear hYl hYs hq1
                      go_wp2
                      go_round
                      case rel => exact ⟨q1, hq1l, by rw [← hYx], HQ1⟩
                      case measure => show q1.length < Y.size; exact hY1
                    · have HM := Lib.hid (show picCells (us ++ [(⟨trimC q, []⟩ : Pic)]) = picCells us ++ [.string Y, .string ⟨#[]⟩] by
                        rw [picCells, List.flatMap_append, ← HY.out, htq]; rfl)
                      have HM2 := Lib.hid (show (us ++ [(⟨trimC q, []⟩ : Pic)]).length = us.length + 1 by simp)
                      rcases hcase with h0 | ⟨q1, e, he, h1⟩
                      · rw [show decide (q' = []) = true by simp [h0]] at hYe
                        clear hYs h0
                        go_wp2_with (at_builtin; go_loud (refine append_grow rfl _ _ 24 rfl src_row w rfl (hown.alloc _) (by repeat (first | with_reducible exact Below.refl _ _ | (with_reducible refine Below.alloc ?_ (by first | omega | (simp [go_sem] <;> omega)) _) | (with_reducible refine Below.drew ?_) | (with_reducible refine Below.drewN ?_ _) | (with_reducible refine Below.grow ?_ (by first | omega | (simp [go_sem] <;> omega)) _) | (with_reducible refine Below.setCell ?_ (by first | omega | (simp [go_sem] <;> omega)) _))) ⟨_, 0, none⟩ 1 1 [.string Y, .string ⟨#[]⟩] rfl rfl (new_cells (c := #[.string Y, .string ⟨#[]⟩]) (by simp [go_sem])) (by simp [Value.oneCell']) (by unfold maxLen; omega) (by omega) ?_); intro v' X2 hown' _)
                        go_roundw
                        case rel => exact ⟨t, us ++ [⟨trimC q, []⟩], X2, by rw [HM2.out]; simp at hu; omega, by rw [HTT.out], rfl, by rw [HM.out, HM2.out]; exact hown', HX⟩
                        case measure => have h1 : T.size = t.length := (by rw [← HTT.out]; rfl); show T.size < u.length; simp at hu; omega
                      · rw [show decide (q' = []) = false by rw [he]; simp] at hYe
                        have hYl : Y.size = q1.length + 1 := by rw [hYs, he]; simp
                        have hY1 : q1.length < Y.size := by omega
                        have hYd : Y[q1.length]'hY1 = e := by
                          have := data_at Y q' HYd.out q1.length hY1
                          rw [he, List.getElem?_append_right (Nat.le_refl _)] at this; simpa using this
                        have hYi : (Y.size : Int) - 1 = q1.length := by omega
                        have hYm : Y.size ≤ 140737488356 := by omega
                        have be : ((e.toNat : Int) == 44) = false := by simp; omega
                        clear hYl hYs he h1
                        go_wp2_with (at_builtin; go_loud (refine append_grow rfl _ _ 24 rfl src_row w rfl (hown.alloc _) (by repeat (first | with_reducible exact Below.refl _ _ | (with_reducible refine Below.alloc ?_ (by first | omega | (simp [go_sem] <;> omega)) _) | (with_reducible refine Below.drew ?_) | (with_reducible refine Below.drewN ?_ _) | (with_reducible refine Below.grow ?_ (by first | omega | (simp [go_sem] <;> omega)) _) | (with_reducible refine Below.setCell ?_ (by first | omega | (simp [go_sem] <;> omega)) _))) ⟨_, 0, none⟩ 1 1 [.string Y, .string ⟨#[]⟩] rfl rfl (new_cells (c := #[.string Y, .string ⟨#[]⟩]) (by simp [go_sem])) (by simp [Value.oneCell']) (by unfold maxLen; omega) (by omega) ?_); intro v' X2 hown' _)
                        go_roundw
                        case rel => exact ⟨t, us ++ [⟨trimC q, []⟩], X2, by rw [HM2.out]; simp at hu; omega, by rw [HTT.out], rfl, by rw [HM.out, HM2.out]; exact hown', HX⟩
                        case measure => have h1 : T.size = t.length := (by rw [← HTT.out]; rfl); show T.size < u.length; simp at hu; omega
              · have bd : ((d.toNat : Int) == 44) = false := by simp; omega
                obtain ⟨m, hmm⟩ : ∃ m, szL 0 t = m := ⟨_, rfl⟩
                have hmt := sz_le t 0
                rw [hmm] at hmt
                obtain ⟨S, hS⟩ : ∃ S : ByteArray, ⟨(t.take m).toArray⟩ = S := ⟨_, rfl⟩
                obtain ⟨T2, hT2⟩ : ∃ S : ByteArray, ⟨(t.drop m).toArray⟩ = S := ⟨_, rfl⟩
                have hTd : T.data.toList = t := by rw [← HTT.out]
                have hTs : T.size = t.length := by rw [← HTT.out]; rfl
                have HSz := Lib.hid (fun W => show Calls Tryd.prog 20 #[.string T] W fun e w' => e = .returned (.string S) ∧ W = w' from by
                  have := rsize_any T W (by omega)
                  rw [hTd, hmm, hS] at this; exact this)
                have hSs : S.size = m := by rw [← hS]; show (t.take m).length = m; simp; omega
                have e4 : T.extract S.size T.size = T2 := by rw [hSs, str_drop, hTd, hT2]
                have hm1 : S.size ≤ T.size := by omega
                have hm3 : T.size ≤ 140737488355 := by omega
                obtain ⟨ws, hws⟩ : ∃ ws, wordsL (t.take m) = ws := ⟨_, rfl⟩
                have hwf := words_few (t.take m)
                have hjl := wordsJ_len (t.take m)
                have htk : (t.take m).length ≤ t.length := by simp; omega
                rw [hws] at hwf hjl
                have HF := Lib.hid (fun W => show Calls Tryd.prog 21 #[.string S] W (RetS W ws.length 1 (ws.map sv)) from by
                  have := rfields_any S W (by omega)
                  rw [show S.data.toList = t.take m by rw [← hS], hws] at this; exact this)
                obtain ⟨x, hx⟩ : ∃ x : Pic, x = ⟨q, joinBs [32] ws⟩ := ⟨_, rfl⟩
                obtain ⟨l2, hl2⟩ : ∃ l2, l2 = t.drop m := ⟨_, rfl⟩
                have HX := Lib.hid (show us ++ [x] ++ picL l2 = L by
                  rw [hx, hl2, ← HK.out, ← HU.out, HR.out, if_neg (by rw [HEd.out]; simp [hd]), hmm, hws, List.append_assoc]; rfl)
                have HL2 := Lib.hid (show T2 = ⟨l2.toArray⟩ by rw [hl2, hT2])
                have hll : l2.length ≤ r.length := by rw [hl2, List.length_drop]; omega
                have HXu := Lib.hid (show sv x.url = .string Q by rw [hx, sv, HQ.out])
                have HXs := Lib.hid (show x.size = joinBs [32] ws by rw [hx])
                have hwl : ws.length ≤ 140737488355 := by omega
                have hpre : ∀ k, k ≤ ws.length → (joinBs [32] (ws.take k)).length ≤ (joinBs [32] ws).length := joinBs_pre [32] ws
                have HP := Lib.hid hpre
                have hjl2 : (joinBs [32] ws).length ≤ 140737488355 := by omega
                clear hd hmm hmt hS hT2 hTd hTs hSs hws htk hx hl2 hpre
                rcases hend with ⟨hlt, hsk⟩ | hlt
                all_goals
                  go_wp2_with (first | (go_at_call 19; (with_reducible refine (rspace_any _ _).mono ?_); rintro e w' ⟨rfl, rfl⟩; rw [hsk]) | (go_at_call 20; (with_reducible refine (HSz.out _).mono ?_); rintro e w' ⟨rfl, rfl⟩) | (go_at_call 21; (with_reducible refine (HF.out _).mono ?_); rintro e w' ⟨A3, c3, X3, rfl, rfl, hc3, hr3⟩))
                  have HR3 := Lib.hid hr3
                  clear hr3
                  go_loop [8, 9] (fun x i => ∃ k : Nat, k ≤ ws.length ∧ i = .int .i64 k ∧ x = .string ⟨(joinBs [32] (ws.take k)).toArray⟩) (fun _ i => ws.length - (intOf i).toNat)
                  case atStart => exact ⟨0, by omega, rfl, rfl⟩
                  case round =>
                    obtain ⟨k, hk, rfl, rfl⟩ := hrel
                    by_cases hlt2 : k < ws.length
                    · obtain ⟨b, off, rfl, hb, c0⟩ := HR3.out.str1 k hlt2
                      have hnx : joinBs [32] (ws.take (k + 1)) = if k = 0 then ws[k] else joinBs [32] (ws.take k) ++ [32] ++ ws[k] := by
                        rw [List.take_succ_eq_append_getElem hlt2, joinBs_snoc]
                        by_cases h0 : k = 0
                        · subst h0; simp
                        · rw [if_neg h0, if_neg (by intro h; have := congrArg List.length h; rw [List.length_take, List.length_nil] at this; omega)]
                      have HNX := Lib.hid hnx
                      have hpl := HP.out (k + 1) (by omega)
                      have hpl0 := HP.out k (by omega)
                      obtain ⟨Z, hZ⟩ : ∃ Z : ByteArray, ⟨(joinBs [32] (ws.take k)).toArray⟩ = Z := ⟨_, rfl⟩
                      obtain ⟨V, hV⟩ : ∃ Z : ByteArray, ⟨(ws[k]).toArray⟩ = Z := ⟨_, rfl⟩
                      rw [sv, hV] at c0
                      have hzl : Z.size ≤ 140737488355 := by rw [← hZ]; exact Nat.le_trans hpl0 hjl2
                      have hvl : V.size ≤ 140737488355 := by
                        rw [← hV]; show (ws[k]).length ≤ _
                        rw [hnx] at hpl
                        split at hpl
                        · omega
                        · simp at hpl; omega
                      have HZV := Lib.hid (show (⟨(joinBs [32] (ws.take (k + 1))).toArray⟩ : ByteArray) = if k = 0 then V else Z ++ ⟨#[32]⟩ ++ V by
                        rw [hnx, ← hZ, ← hV]
                        split
                        · rfl
                        · rw [show (⟨#[32]⟩ : ByteArray) = ⟨([32] : Bs).toArray⟩ from rfl, cat_bs, cat_bs])
                      have HZ0 := Lib.hid (fun (h : k = 0) => show Z = ⟨#[]⟩ by subst h; rw [← hZ]; rfl)
                      rw [hZ]
                      clear hnx hpl hpl0 hZ hV
                      by_cases h0 : k = 0
                      · have hZ0 := HZ0.out h0
                        subst hZ0
                        have HZV2 := Lib.hid (show (⟨(joinBs [32] (ws.take (k + 1))).toArray⟩ : ByteArray) = ⟨#[]⟩ ++ V by rw [HZV.out, if_pos h0, nil_cat])
                        subst h0
                        simp only [Nat.add_zero] at c0
                        go_wp2
                        go_round
                        case rel => exact ⟨0 + 1, by omega, by go_num, by rw [HZV2.out]⟩
                        case measure => simp [intOf]; omega
                      · have HZV2 := Lib.hid (show (⟨(joinBs [32] (ws.take (k + 1))).toArray⟩ : ByteArray) = Z ++ ⟨#[32]⟩ ++ V by rw [HZV.out, if_neg h0])
                        have h1 : (0 : Int) < k := by omega
                        go_wp2
                        go_round
                        case rel => exact ⟨k + 1, by omega, by go_num, by rw [HZV2.out]⟩
                        case measure => simp [intOf]; omega
                    · obtain rfl : k = ws.length := by omega
                      have HM := Lib.hid (show picCells (us ++ [x]) = picCells us ++ [.string Q, .string ⟨(joinBs [32] (ws.take ws.length)).toArray⟩] by
                        rw [picCells, List.flatMap_append, List.take_length]
                        show _ ++ ([sv x.url, sv x.size] ++ []) = _
                        rw [HXu.out, HXs.out]; rfl)
                      have HM2 := Lib.hid (show (us ++ [x]).length = us.length + 1 by simp)
                      obtain ⟨Z, hZ⟩ : ∃ Z : ByteArray, ⟨(joinBs [32] (ws.take ws.length)).toArray⟩ = Z := ⟨_, rfl⟩
                      rw [hZ] at HM ⊢
                      clear hZ
                      go_wp2_with (at_builtin; go_loud (refine append_grow rfl _ _ 24 rfl src_row w rfl ((own_grow hown X3).alloc _) (by repeat (first | with_reducible exact Below.refl _ _ | (with_reducible refine Below.alloc ?_ (by first | omega | (simp [go_sem] <;> omega)) _) | (with_reducible refine Below.drew ?_) | (with_reducible refine Below.drewN ?_ _) | (with_reducible refine Below.grow ?_ (by first | omega | (simp [go_sem] <;> omega)) _) | (with_reducible refine Below.setCell ?_ (by first | omega | (simp [go_sem] <;> omega)) _))) ⟨_, 0, none⟩ 1 1 [.string Q, .string Z] rfl rfl (new_cells (c := #[.string Q, .string Z]) (by simp [go_sem])) (by simp [Value.oneCell']) (by unfold maxLen; omega) (by omega) ?_); intro v' X2 hown' _)
                      go_roundw
                      case rel => exact ⟨l2, us ++ [x], X2, by rw [HM2.out]; simp at hu; omega, by rw [HL2.out], rfl, by rw [HM.out, HM2.out]; exact hown', HX⟩
                      case measure => have h1 : T2.size = l2.length := (by rw [HL2.out]; rfl); show T2.size < u.length; simp at hu; omega
        · have HN := Lib.hid (show picL r = picL u by rw [← HU.out, pic_sep hs])
          have hx : U.extract 1 U.size = ⟨r.toArray⟩ := by rw [str_drop, ← hU]; rfl
          have h2 : spB c = true ∨ (spB c = false ∧ ((c.toNat : Int) == 44) = true) := by
            unfold sepB at hs
            cases h : spB c
            · right; rw [h] at hs; simp at hs; exact ⟨rfl, by simp; omega⟩
            · left; rfl
          clear hU hUs hUd
          rcases h2 with h | ⟨h, h44⟩
          all_goals
            go_wp2_with (go_at_call 19; (with_reducible refine (rspace_any _ _).mono ?_); rintro e w' ⟨rfl, rfl⟩; rw [h])
            go_round
            case rel => exact ⟨r, by simp at hu; omega, by rw [← hx], HN⟩
            case measure => show r.length < U.size; rw [HUs.out]; omega
end Go.Proofs.YtgoioaobknjmcaaDoor
