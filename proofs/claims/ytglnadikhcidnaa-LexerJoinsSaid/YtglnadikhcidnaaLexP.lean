/- The walk of the lexer by the reference: pieces joined. -/
import Derived.Deep.CutBlock
import Derived.Deep.DeepCutAuto
import Derived.Test.YtglnadikhcidnaaLexOpenB
namespace Go.Proofs.Ytglnadikhcidnaa
open Go.RowKit Go.Shelf
/-- What the switch over a piece's kind has told. -/
def TellV : Option Bs → Value → Value → Prop
  | some u, t, f => t = .string ⟨u.toArray⟩ ∧ f = .bool true
  | none, t, f => (∃ s, t = .string s) ∧ f = .bool false
theorem joinSp_snoc (us : List Bs) (u : Bs) : joinSp (us ++ [u]) = if us = [] then u else joinSp us ++ 32 :: u := by
  induction us with
  | nil => rfl
  | cons v us ih =>
    cases us with
    | nil => simp [joinSp]
    | cons x xs =>
      rw [List.cons_append, List.cons_append, joinSp]
      rw [List.cons_append] at ih
      rw [ih]; simp [joinSp]
theorem told_mark_yes (t : Bs) (h : t = [58] ∨ t = [59] ∨ t = [42]) : toldL (Int.toNat 4) t = some t := by
  rcases h with rfl | rfl | rfl <;> rfl
theorem told_mark_no (t : Bs) (h : ¬ (t = [58] ∨ t = [59] ∨ t = [42])) : toldL (Int.toNat 4) t = none := by
  show (if 4 = 3 then _ else _) = _
  simp
  split
  · rename_i c
    rw [if_neg]
    intro hmc
    unfold mrkB at hmc
    simp at hmc
    apply h
    rcases hmc with h | h | h
    · exact Or.inl (by rw [UInt8.toNat_inj.1 (show c.toNat = (58 : UInt8).toNat from h)])
    · exact Or.inr (Or.inl (by rw [UInt8.toNat_inj.1 (show c.toNat = (59 : UInt8).toNat from h)]))
    · exact Or.inr (Or.inr (by rw [UInt8.toNat_inj.1 (show c.toNat = (42 : UInt8).toNat from h)]))
  · rfl
theorem all_snoc (t : Bs) (n : Nat) (h : n < t.length) : (t.take (n + 1)).all digB = ((t.take n).all digB && digB t[n]) := by
  rw [List.take_succ_eq_append_getElem h, List.all_append]; simp
theorem bytes_eta (l : Bs) : (⟨l.toArray⟩ : ByteArray).data.toList = l := rfl
set_option maxRecDepth 100000 in
set_option maxHeartbeats 16000000 in
theorem rjoin_any (v : Value) (l : List Lz) (w : World) (h : Rd w v l.length 3 (lzCells l)) (hf : fewB l = true) : Calls Try.prog 16 #[v] w (Ret (joinV (joinL (l.map Lz.kt))) w) := by
  have HR := Lib.hid h
  obtain ⟨_, hm, A, c, rfl, _⟩ := h
  have HF := Lib.hid hf
  have hl := few_len hf
  obtain ⟨T, hT⟩ : ∃ T, tellAll (l.map Lz.kt) = T := ⟨_, rfl⟩
  have HT := Lib.hid hT
  rw [joinL, hT]
  clear hT hf
  go_enter Try.func16, Try.ntmps16
  go_wp2_with fail
  go_loopw [4, 5] (fun o i wr => ∃ (k : Nat) (us : List Bs) (ob : ByteArray), k ≤ l.length ∧ us.length = k ∧ i = .int .i64 k ∧ o = .string ob ∧ ob.size ≤ k * 1003 ∧ (∃ X, wr = w.grow X) ∧ Hid (ob.data.toList = joinSp us) ∧ Hid ((tellAll ((l.drop k).map Lz.kt)).map (us ++ ·) = T)) (fun _ i _ => l.length - (intOf i).toNat)
  case atStart => exact ⟨0, [], ⟨#[]⟩, by omega, rfl, rfl, rfl, by decide, ⟨_, (grow_refl w).symm⟩, rfl, by show _ = _; rw [List.drop_zero, HT.out]; cases T <;> rfl⟩
  case round =>
    obtain ⟨k, us, ob, hk, hus, rfl, rfl, hob, ⟨X, rfl⟩, HO, HK⟩ := hrel
    have HUS := Lib.hid hus
    clear hus
    by_cases hlt : k < l.length
    · obtain ⟨b, off, rfl, hb, c0, c1, c2⟩ := HR.out.lz k hlt
      have HD : Hid (l.drop k = l[k] :: l.drop (k + 1)) := List.drop_eq_getElem_cons hlt
      have ht5 := few_text HF.out k hlt
      generalize l[k] = x at *
      obtain ⟨kd, xa, t⟩ := x
      dsimp only at *
      obtain ⟨Y, hY⟩ : ∃ Y, toldL kd.toNat t = Y := ⟨_, rfl⟩
      have HY := Lib.hid hY
      clear hY
      go_upto_block 2 with fail
      go_cut [6, 7] (fun ts fs wx => (∃ X', wx = w.grow X') ∧ TellV Y ts fs)
      case first =>
        by_cases k1 : kd = 1
        · subst k1
          have HW := Lib.hid (fun W => rword_any ⟨t.toArray⟩ W (by show t.toArray.size ≤ _; simp; omega))
          dsimp only at HW
          cases hw : wordB t
          all_goals
            rw [hw] at HW
            have HX := Lib.hid (show Y = if wordB t then some t else none by rw [← HY.out]; simp [toldL])
            rw [hw] at HX
            have HW := Lib.hid HW
            clear hw
            go_wp2_with (go_at_call 24; (with_reducible refine (HW.out.out _).mono ?_); rintro e w' ⟨rfl, rfl⟩)
            go_meet
            refine ⟨⟨_, rfl⟩, ?_⟩
            rw [HX.out]
            first | exact ⟨rfl, rfl⟩ | exact ⟨⟨_, rfl⟩, rfl⟩
        · have b1 : (kd == 1) = false := by simp [k1]
          by_cases k2 : kd = 2
          · subst k2
            have HX := Lib.hid (show Y = if 1 ≤ t.length ∧ t.length ≤ 9 ∧ t.all digB then some t else none by rw [← HY.out]; simp [toldL])
            have HT9 : Hid (∀ ba : Bool, ba = (decide (1 ≤ t.length) && decide (t.length ≤ 9)) → TellV Y (.string ⟨t.toArray⟩) (.bool (ba && (t.take t.length).all digB))) := by
              intro ba hb
              rw [HX.out, hb, List.take_length]
              by_cases h1 : 1 ≤ t.length <;> by_cases h2 : t.length ≤ 9 <;> by_cases h3 : t.all digB = true <;> simp [h1, h2, h3, TellV]
            clear HX
            obtain ⟨D, HD1, HE, hba⟩ : ∃ D : Nat → Bool, Hid (∀ n (h : n < t.length), D (n + 1) = (D n && digB t[n])) ∧ Hid (TellV Y (.string ⟨t.toArray⟩) (.bool (D t.length))) ∧ (((1 : Int) ≤ t.length ∧ (t.length : Int) ≤ 9 ∧ D 0 = true) ∨ ((1 : Int) ≤ t.length ∧ ¬ (t.length : Int) ≤ 9 ∧ D 0 = false) ∨ (¬ (1 : Int) ≤ t.length ∧ D 0 = false)) := by
              refine ⟨fun n => ((decide (1 ≤ t.length) && decide (t.length ≤ 9)) && (t.take n).all digB), fun n h => by show (_ && _) = ((_ && _) && _); rw [all_snoc t n h]; simp only [Bool.and_assoc], HT9.out _ rfl, ?_⟩
              by_cases h1 : 1 ≤ t.length
              · by_cases h2 : t.length ≤ 9
                · exact Or.inl ⟨by omega, by omega, by simp [h1, h2]⟩
                · exact Or.inr (Or.inl ⟨by omega, by omega, by simp [h2]⟩)
              · exact Or.inr (Or.inr ⟨by omega, by simp [h1]⟩)
            clear HT9
            rcases hba with ⟨h1, h2, h0⟩ | ⟨h1, h2, h0⟩ | ⟨h1, h0⟩
            · have HS0 := Lib.hid h0
              clear h0
              go_wp2_with fail
              go_loopw [7, 8] (fun f i wr => ∃ n : Nat, n ≤ t.length ∧ i = .int .i64 n ∧ wr = w.grow X ∧ f = .bool (D n)) (fun _ i _ => t.length - (intOf i).toNat)
              case atStart => exact ⟨0, by omega, rfl, rfl, by rw [HS0.out]⟩
              case round =>
                obtain ⟨n, hn, rfl, rfl, rfl⟩ := hrel
                by_cases hlt2 : n < t.length
                · have HA := Lib.hid (HD1.out n hlt2)
                  cases hall : D n
                  · rw [hall] at HA
                    clear hall
                    go_wp2
                    go_roundw
                    case rel => exact ⟨n + 1, by omega, by go_num, by trivial, by rw [HA.out]; rfl⟩
                    case measure => simp [intOf]; omega
                  · rw [hall] at HA
                    clear hall
                    go_wp2_with (go_at_call 25; (with_reducible refine (rdigit_any _ _).mono ?_); rintro e w' ⟨rfl, rfl⟩)
                    go_roundw
                    case rel => exact ⟨n + 1, by omega, by go_num, by trivial, by rw [HA.out]; rfl⟩
                    case measure => simp [intOf]; omega
                · obtain rfl : n = t.length := by omega
                  go_wp2
                  go_meet
                  exact ⟨⟨_, rfl⟩, HE.out⟩
            · have HS0 := Lib.hid h0
              clear h0
              go_wp2_with fail
              go_loopw [7, 8] (fun f i wr => ∃ n : Nat, n ≤ t.length ∧ i = .int .i64 n ∧ wr = w.grow X ∧ f = .bool (D n)) (fun _ i _ => t.length - (intOf i).toNat)
              case atStart => exact ⟨0, by omega, rfl, rfl, by rw [HS0.out]⟩
              case round =>
                obtain ⟨n, hn, rfl, rfl, rfl⟩ := hrel
                by_cases hlt2 : n < t.length
                · have HA := Lib.hid (HD1.out n hlt2)
                  cases hall : D n
                  · rw [hall] at HA
                    clear hall
                    go_wp2
                    go_roundw
                    case rel => exact ⟨n + 1, by omega, by go_num, by trivial, by rw [HA.out]; rfl⟩
                    case measure => simp [intOf]; omega
                  · rw [hall] at HA
                    clear hall
                    go_wp2_with (go_at_call 25; (with_reducible refine (rdigit_any _ _).mono ?_); rintro e w' ⟨rfl, rfl⟩)
                    go_roundw
                    case rel => exact ⟨n + 1, by omega, by go_num, by trivial, by rw [HA.out]; rfl⟩
                    case measure => simp [intOf]; omega
                · obtain rfl : n = t.length := by omega
                  go_wp2
                  go_meet
                  exact ⟨⟨_, rfl⟩, HE.out⟩
            · have HS0 := Lib.hid h0
              clear h0
              go_wp2_with fail
              go_loopw [7, 8] (fun f i wr => ∃ n : Nat, n ≤ t.length ∧ i = .int .i64 n ∧ wr = w.grow X ∧ f = .bool (D n)) (fun _ i _ => t.length - (intOf i).toNat)
              case atStart => exact ⟨0, by omega, rfl, rfl, by rw [HS0.out]⟩
              case round =>
                obtain ⟨n, hn, rfl, rfl, rfl⟩ := hrel
                by_cases hlt2 : n < t.length
                · have HA := Lib.hid (HD1.out n hlt2)
                  cases hall : D n
                  · rw [hall] at HA
                    clear hall
                    go_wp2
                    go_roundw
                    case rel => exact ⟨n + 1, by omega, by go_num, by trivial, by rw [HA.out]; rfl⟩
                    case measure => simp [intOf]; omega
                  · rw [hall] at HA
                    clear hall
                    go_wp2_with (go_at_call 25; (with_reducible refine (rdigit_any _ _).mono ?_); rintro e w' ⟨rfl, rfl⟩)
                    go_roundw
                    case rel => exact ⟨n + 1, by omega, by go_num, by trivial, by rw [HA.out]; rfl⟩
                    case measure => simp [intOf]; omega
                · obtain rfl : n = t.length := by omega
                  go_wp2
                  go_meet
                  exact ⟨⟨_, rfl⟩, HE.out⟩
          · have b2 : (kd == 2) = false := by simp [k2]
            by_cases k3 : kd = 3
            · subst k3
              have HX := Lib.hid (show Y = quoteL t by rw [← HY.out]; simp [toldL])
              have HQ := Lib.hid (fun W => rquote_any ⟨t.toArray⟩ W (by show t.toArray.size ≤ _; simp; omega))
              dsimp only at HQ
              cases hq : quoteL t
              all_goals
                rw [hq] at HQ HX
                simp only [quoteV] at HQ
                have HQ := Lib.hid HQ
                clear hq
                go_wp2_with (go_at_call 17; (with_reducible refine (HQ.out.out _).mono ?_); rintro e w' ⟨rfl, X1, rfl⟩)
                go_meet
                refine ⟨⟨_, grow_grow _ _ _⟩, ?_⟩
                rw [HX.out]
                first | exact ⟨rfl, rfl⟩ | exact ⟨⟨_, rfl⟩, rfl⟩
            · have b3 : (kd == 3) = false := by simp [k3]
              by_cases k4 : kd = 4
              · subst k4
                by_cases hm4 : t = [58] ∨ t = [59] ∨ t = [42]
                · rcases hm4 with rfl | rfl | rfl
                  all_goals
                    have HX2 := Lib.hid (HY.out.symm.trans (told_mark_yes _ (by simp)))
                    go_wp2
                    go_meet
                    refine ⟨⟨_, rfl⟩, ?_⟩
                    rw [HX2.out]
                    exact ⟨rfl, rfl⟩
                · have HX2 := Lib.hid (HY.out.symm.trans (told_mark_no t hm4))
                  have e1 : (t == [58]) = false := by simp; intro h; exact hm4 (Or.inl h)
                  have e2 : (t == [59]) = false := by simp; intro h; exact hm4 (Or.inr (Or.inl h))
                  have e3 : (t == [42]) = false := by simp; intro h; exact hm4 (Or.inr (Or.inr h))
                  clear hm4
                  go_wp2
                  go_meet
                  refine ⟨⟨_, rfl⟩, ?_⟩
                  rw [HX2.out]
                  exact ⟨⟨_, rfl⟩, rfl⟩
              · have b4 : (kd == 4) = false := by simp [k4]
                have HX2 : Hid (Y = none) := by
                  show _ = _
                  rw [← HY.out]
                  unfold toldL
                  rw [if_neg (by omega), if_neg (by omega), if_neg (by omega), if_neg (by omega)]
                go_wp2
                go_meet
                refine ⟨⟨_, rfl⟩, ?_⟩
                rw [HX2.out]
                exact ⟨⟨_, rfl⟩, rfl⟩
      case rest =>
        obtain ⟨⟨X', rfl⟩, hty⟩ := hcut
        cases Y with
        | none =>
          obtain ⟨⟨s, rfl⟩, rfl⟩ := hty
          have HX : Hid (T = none) := by
            show _ = _
            rw [← HK.out, HD.out, List.map_cons, tellAll, show toldL (Lz.kt ⟨kd, xa, t⟩).1 (Lz.kt ⟨kd, xa, t⟩).2 = none from HY.out]; rfl
          go_wp2
          go_ret2
          rw [HX.out]
          exact Ret.of rfl (by repeat (first | with_reducible exact Below.refl _ _ | (with_reducible refine Below.alloc ?_ (by first | omega | (simp [go_sem] <;> omega)) _) | (with_reducible refine Below.drew ?_) | (with_reducible refine Below.drewN ?_ _) | (with_reducible refine Below.grow ?_ (by first | omega | (simp [go_sem] <;> omega)) _) | (with_reducible refine Below.setCell ?_ (by first | omega | (simp [go_sem] <;> omega)) _)))
        | some u =>
          obtain ⟨rfl, rfl⟩ := hty
          have hul : u.length ≤ 1002 := by have := told_len HY.out; omega
          have HX : Hid ((tellAll ((l.drop (k + 1)).map Lz.kt)).map ((us ++ [u]) ++ ·) = T) := by
            show _ = _
            rw [← HK.out, HD.out, List.map_cons, tell_step us _ _ u HY.out]
          by_cases hk0 : k = 0
          · have HN : Hid ((ob ++ ⟨u.toArray⟩).data.toList = joinSp (us ++ [u])) := by
              show _ = _
              have : us = [] := List.eq_nil_of_length_eq_zero (by rw [HUS.out, hk0])
              rw [app_data, HO.out, joinSp_snoc, if_pos this, this]; rfl
            have HN2 : Hid ((ob ++ ⟨u.toArray⟩).size ≤ (k + 1) * 1003) := by
              show _ ≤ _
              rw [app_size]; show ob.size + u.toArray.size ≤ _; simp; omega
            have bk : ¬ (0 : Int) < k := by omega
            clear hk0
            go_wp2
            go_roundw
            case rel => exact ⟨k + 1, us ++ [u], _, by omega, by simp [HUS.out], by go_num, rfl, HN2.out, ⟨_, rfl⟩, HN, HX⟩
            case measure => simp [intOf]; omega
          · have HN : Hid ((ob ++ ⟨#[32]⟩ ++ ⟨u.toArray⟩).data.toList = joinSp (us ++ [u])) := by
              show _ = _
              have : us ≠ [] := by intro h; apply hk0; rw [← HUS.out, h]; rfl
              rw [app_data, app_data, HO.out, joinSp_snoc, if_neg this]; simp
            have HN2 : Hid ((ob ++ ⟨#[32]⟩ ++ ⟨u.toArray⟩).size ≤ (k + 1) * 1003) := by
              show _ ≤ _
              rw [app_size, app_size]; show ob.size + 1 + u.toArray.size ≤ _; simp; omega
            have bk : (0 : Int) < k := by omega
            clear hk0
            go_wp2
            go_roundw
            case rel => exact ⟨k + 1, us ++ [u], _, by omega, by simp [HUS.out], by go_num, rfl, HN2.out, ⟨_, rfl⟩, HN, HX⟩
            case measure => simp [intOf]; omega
    · have HX : Hid (T = some us) := by
        show _ = _
        rw [← HK.out, List.drop_eq_nil_of_le (by omega)]; simp [tellAll]
      have HE : Hid (ob = ⟨(joinSp us).toArray⟩) := by
        show _ = _
        rw [← HO.out]
      go_wp2
      go_ret2
      rw [HX.out]
      exact Ret.of (by rw [HE.out]; rfl) (by repeat (first | with_reducible exact Below.refl _ _ | (with_reducible refine Below.alloc ?_ (by first | omega | (simp [go_sem] <;> omega)) _) | (with_reducible refine Below.drew ?_) | (with_reducible refine Below.drewN ?_ _) | (with_reducible refine Below.grow ?_ (by first | omega | (simp [go_sem] <;> omega)) _) | (with_reducible refine Below.setCell ?_ (by first | omega | (simp [go_sem] <;> omega)) _)))
end Go.Proofs.Ytglnadikhcidnaa
