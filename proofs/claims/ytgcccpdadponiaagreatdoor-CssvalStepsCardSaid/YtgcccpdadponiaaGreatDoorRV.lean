/- The walks of values of styles by the reference: what pieces are, the step that they might tell, the pieces of steps. -/
import Derived.Deep.CutBlock
import Derived.Deep.DeepCutAuto
import Derived.Test.YtgcccpdadponiaaGreatDoorCssY
import Derived.Test.YtgcccpdadponiaaGreatDoorValE
import Derived.Test.YtgcccpdadponiaaGreatDoorValF
import Derived.Test.YtgcccpdadponiaaGreatDoorValH
namespace Go.Proofs.YtgcccpdadponiaaGreatDoor
open Go.RowKit Go.Shelf
attribute [local go_sem] Oper.semAt_some
theorem rnum16_any (n : Int) (u : Bs) (w : World) (h0 : -9223372036854775 ≤ n) (h1 : n ≤ 9223372036854775) : Calls Tryz.prog 58 #[.int .i64 n, .string ⟨u.toArray⟩] w (Ret (Css.agg (nuC n u)) w) := by
  simp only [Css.agg, nuC, sv]
  generalize (⟨u.toArray⟩ : ByteArray) = U at *
  go_enter Tryz.func58, Tryz.ntmps58
  go_wp2_with fail
  ((try simp only [Exit.inBlock, Exit.then]); refine bodyPost_ret (v := .agg #[.int .i64 3, .string ⟨#[]⟩, .int .i64 (n * 1000), .string U]) (by (first | rw [results_cell_tmp rfl] | rw [results_cell1 rfl]); go_simp) rfl ?_)
  exact Ret.of rfl (by repeat (first | with_reducible exact Below.refl _ _ | (with_reducible refine Below.alloc ?_ (by first | omega | (simp [go_sem] <;> omega)) _) | (with_reducible refine Below.drew ?_) | (with_reducible refine Below.drewN ?_ _) | (with_reducible refine Below.grow ?_ (by first | omega | (simp [go_sem] <;> omega)) _) | (with_reducible refine Below.setCell ?_ (by first | omega | (simp [go_sem] <;> omega)) _)))
theorem rmark16_any (t : Bs) (w : World) : Calls Tryz.prog 31 #[.string ⟨t.toArray⟩] w (Ret (Css.agg ⟨6, t, 0, []⟩) w) := by
  simp only [Css.agg, sv]
  generalize (⟨t.toArray⟩ : ByteArray) = U at *
  go_enter Tryz.func31, Tryz.ntmps31
  go_wp2_with fail
  ((try simp only [Exit.inBlock, Exit.then]); refine bodyPost_ret (v := .agg #[.int .i64 6, .string U, .int .i64 0, .string ⟨#[]⟩]) (by (first | rw [results_cell_tmp rfl] | rw [results_cell1 rfl]); go_simp) rfl ?_)
  exact Ret.of rfl (by repeat (first | with_reducible exact Below.refl _ _ | (with_reducible refine Below.alloc ?_ (by first | omega | (simp [go_sem] <;> omega)) _) | (with_reducible refine Below.drew ?_) | (with_reducible refine Below.drewN ?_ _) | (with_reducible refine Below.grow ?_ (by first | omega | (simp [go_sem] <;> omega)) _) | (with_reducible refine Below.setCell ?_ (by first | omega | (simp [go_sem] <;> omega)) _)))
theorem rcall16_any (t : Bs) (w : World) : Calls Tryz.prog 57 #[.string ⟨t.toArray⟩] w (Ret (Css.agg (fnC t)) w) := by
  simp only [Css.agg, fnC, sv]
  generalize (⟨t.toArray⟩ : ByteArray) = U at *
  go_enter Tryz.func57, Tryz.ntmps57
  go_wp2_with fail
  ((try simp only [Exit.inBlock, Exit.then]); refine bodyPost_ret (v := .agg #[.int .i64 2, .string U, .int .i64 0, .string ⟨#[]⟩]) (by (first | rw [results_cell_tmp rfl] | rw [results_cell1 rfl]); go_simp) rfl ?_)
  exact Ret.of rfl (by repeat (first | with_reducible exact Below.refl _ _ | (with_reducible refine Below.alloc ?_ (by first | omega | (simp [go_sem] <;> omega)) _) | (with_reducible refine Below.drew ?_) | (with_reducible refine Below.drewN ?_ _) | (with_reducible refine Below.grow ?_ (by first | omega | (simp [go_sem] <;> omega)) _) | (with_reducible refine Below.setCell ?_ (by first | omega | (simp [go_sem] <;> omega)) _)))
set_option maxHeartbeats 800000 in
theorem rhex_any (c : UInt8) (w : World) : Calls Tryz.prog 54 #[.int .u8 c.toNat] w fun e w' => e = .returned (.bool (hexB c)) ∧ w = w' := by
  have HB : Hid (hexB c = (digB c || decide (65 ≤ c.toNat ∧ c.toNat ≤ 70 ∨ 97 ≤ c.toNat ∧ c.toNat ≤ 102))) := rfl
  cases hd0 : digB c
  all_goals
    have HD : Hid (∀ W, Calls Tryz.prog 78 #[.int .u8 c.toNat] W fun e w' => e = .returned (.bool _) ∧ W = w') := fun W => hd0 ▸ rdigit_any c W
    go_enter Tryz.func54, Tryz.ntmps54
    go_wp2_with (go_at_call 78; (with_reducible refine (HD.out _).mono ?_); rintro e w' ⟨rfl, rfl⟩)
    all_goals go_ret
    all_goals exact ⟨ret_bool (by rw [HB.out, hd0]; first | rfl | (rw [Bool.eq_iff_iff]; simp <;> omega)), rfl⟩
theorem Rd.word {w : World} {A : Option Addr} {n c : Nat} {l : List Bs} (h : Rd w (.slice A n c) l.length 1 (l.map sv)) (k : Nat) (hk : k < l.length) : n = l.length ∧ ∃ b off, A = some ⟨b, off, none⟩ ∧ b < w.heap.size ∧ w.cell? ⟨b, off + k, none⟩ = some (.string ⟨l[k].toArray⟩) := by
  obtain ⟨_, _, A', c', e, h4⟩ := h
  cases e
  obtain ⟨b, off, rfl, hb, hc⟩ := h4 (by omega)
  exact ⟨rfl, b, off, rfl, hb, hc k (sv l[k]) (by simp [hk])⟩
theorem mem_take_more {s : Bs} {l : List Bs} {k : Nat} (h : k < l.length) (h1 : s ∉ l.take k) (h2 : l[k] ≠ s) : s ∉ l.take (k + 1) := by
  rw [List.take_succ_eq_append_getElem h, List.mem_append]
  rintro (h3 | h3)
  · exact h1 h3
  · rw [List.mem_singleton] at h3; exact h2 h3.symm
set_option maxHeartbeats 800000 in
theorem rin_any (s : Bs) (v : Value) (l : List Bs) (w : World) (h : Rd w v l.length 1 (l.map sv)) : Calls Tryz.prog 29 #[.string ⟨s.toArray⟩, v] w fun e w' => e = .returned (.bool (decide (s ∈ l))) ∧ w = w' := by
  have HR := Lib.hid h
  have HQ : Hid (∀ t : Bs, ((⟨t.toArray⟩ : ByteArray).toList == (⟨s.toArray⟩ : ByteArray).toList) = decide (t = s)) := fun t => ba_bq _ _
  obtain ⟨_, hm, A, c, rfl, _⟩ := h
  generalize (⟨s.toArray⟩ : ByteArray) = S at *
  go_enter Tryz.func29, Tryz.ntmps29
  go_wp2_with fail
  go_loop [5] (fun i => ∃ k : Nat, k ≤ l.length ∧ i = .int .i64 k ∧ Hid (s ∉ l.take k)) (fun i => l.length - (intOf i).toNat)
  case atStart => exact ⟨0, by omega, rfl, by show _ ∉ _; simp⟩
  case round =>
    obtain ⟨k, hk, rfl, HK⟩ := hrel
    by_cases hlt : k < l.length
    · obtain ⟨_, b, off, rfl, hb, hc⟩ := HR.out.word k hlt
      have hq := HQ.out l[k]
      generalize (⟨l[k].toArray⟩ : ByteArray) = T at *
      by_cases he : l[k] = s
      · have HT : Hid (decide (s ∈ l) = true) := by show _ = _; rw [decide_eq_true_eq, ← he]; exact List.getElem_mem hlt
        rw [decide_eq_true he] at hq
        clear he
        go_wp2_with fail
        go_ret
        exact ⟨ret_bool HT.out.symm, rfl⟩
      · have HT : Hid (s ∉ l.take (k + 1)) := mem_take_more hlt HK.out he
        rw [decide_eq_false he] at hq
        clear he
        go_wp2_with fail
        go_round
        case rel => exact ⟨k + 1, by omega, by go_num, HT⟩
        case measure => simp [intOf]; omega
    · have hkl : k = l.length := by omega
      have HT : Hid (decide (s ∈ l) = false) := by show _ = _; have h8 := HK.out; rw [hkl, List.take_length] at h8; rw [decide_eq_false_iff_not]; exact h8
      clear hkl
      go_wp2
      go_ret
      exact ⟨ret_bool HT.out.symm, rfl⟩
theorem tdiv_in {n k : Int} (h0 : -9223372036854775808 ≤ n) (h1 : n ≤ 9223372036854775807) (hk : 1 < k) : wrap64 (n.tdiv k) = n.tdiv k := by
  refine IntWalk.wrap64_in _ ?_
  have e : (n.tdiv k).natAbs = n.natAbs / k.natAbs := Int.natAbs_tdiv n k
  have h2 : n.natAbs / k.natAbs ≤ n.natAbs / 2 := Nat.div_le_div_left (by omega) (by omega)
  omega
end Go.Proofs.YtgcccpdadponiaaGreatDoor
namespace Go.Proofs.YtgcccpdadponiaaGreatDoor
open Go.RowKit Go.Shelf
attribute [local go_sem] Oper.semAt_some
set_option maxRecDepth 100000 in
set_option maxHeartbeats 4000000 in
theorem rguess16_any (A : Option Addr) (n c : Nat) (x : Css) (r : List Css) (w : World) (h : Rd w (.slice A n c) (x :: r).length 4 (cssCells (x :: r))) (hl : (x :: r).length ≤ 1000000000) (hok : ∀ y ∈ x :: r, CssOk y) :
    Calls Tryz.prog 33 #[.slice A n c] w (Ret (guessT (x :: r)).val w) := by
  have HR := Lib.hid h
  have HO := Lib.hid hok
  have hy1 := at_abs hok 1
  have hy3 := at_abs hok 3
  obtain ⟨_, hm, A', c', heq, hz9⟩ := h
  cases heq
  clear hz9
  obtain ⟨b, off, rfl, hb, _, q1, _, _⟩ := HR.out.css 0 (by simp)
  simp only [List.getElem_cons_zero, Nat.zero_mul, Nat.add_zero, sv] at q1
  have HG : Hid (guessT (x :: r) = if x.text = moveT then ⟨1, atI (x :: r) 1, atI (x :: r) 3⟩ else if x.text = turnT then ⟨2, (atI (x :: r) 1).tdiv 90, 0⟩ else if x.text = scaleT then ⟨3, atI (x :: r) 1, 0⟩ else ⟨4, 0, 0⟩) := rfl
  have hz : ∀ t : Bs, ((⟨x.text.toArray⟩ : ByteArray).toList == t) = decide (x.text = t) := fun t => by rw [ByteArray.toList_eq, Bool.eq_iff_iff]; exact beq_iff_eq.trans decide_eq_true_iff.symm
  have z1 := hz [116, 114, 97, 110, 115, 108, 97, 116, 101]
  have z2 := hz [114, 111, 116, 97, 116, 101]
  have z3 := hz [115, 99, 97, 108, 101]
  have hN : Hid (∀ i : Nat, i < (x :: r).length → ∃ v, w.cell? ⟨b, off + i * 4 + 2, none⟩ = some (.int .i64 v) ∧ wrap64 (v.tdiv 1000) = atI (x :: r) i) := fun i hi => by
    obtain ⟨b2, off2, he, _, _, _, q3, _⟩ := HR.out.css i hi
    cases he
    have hk := HO.out _ (List.getElem_mem hi)
    have e : atI (x :: r) i = (x :: r)[i].num.tdiv 1000 := by unfold atI; rw [List.getElem?_eq_getElem hi]
    exact ⟨_, q3, by rw [e]; exact tdiv_in hk.nlo hk.nhi (by omega)⟩
  have hE : Hid (∀ i : Nat, ¬ i < (x :: r).length → atI (x :: r) i = 0) := fun i hi => by unfold atI; rw [List.getElem?_eq_none (by omega)]
  have hq9 : wrap64 ((atI (x :: r) 1).tdiv 90) = (atI (x :: r) 1).tdiv 90 := tdiv_in (by omega) (by omega) (by omega)
  have hpos : 0 < (x :: r).length := by simp
  clear hz hok hm HR HO
  generalize (⟨x.text.toArray⟩ : ByteArray) = a1 at *
  generalize hX : atI (x :: r) 1 = X at *
  generalize hY : atI (x :: r) 3 = Y at *
  have HXe := Lib.hid hX
  have HYe := Lib.hid hY
  generalize hL : (x :: r).length = N at *
  have HLe := Lib.hid hL
  clear hX hY hL
  go_enter Tryz.func33, Tryz.ntmps33
  go_upto_if 7 with fail
  go_cut [3] (fun s3 wx => s3 = .int .i64 X ∧ wx = w.alloc (.cells #[.int .i64 0, .int .i64 0, .int .i64 0] 58))
  case first =>
    by_cases h1 : 1 < N
    · obtain ⟨v1, p1, p3⟩ := hN.out 1 h1
      rw [HXe.out] at p3
      simp only [Nat.one_mul] at p1
      go_wp2_with fail
      go_meet
      case rel => exact ⟨by rw [p3], rfl⟩
    · have p1 := hE.out 1 h1
      rw [HXe.out] at p1
      have HP := Lib.hid p1
      clear p1
      go_wp2_with fail
      go_meet
      case rel => exact ⟨by rw [HP.out], rfl⟩
  case rest =>
    obtain ⟨rfl, rfl⟩ := hcut
    go_upto_if 15 with fail
    go_cut [4] (fun s4 wx => s4 = .int .i64 Y ∧ wx = w.alloc (.cells #[.int .i64 0, .int .i64 0, .int .i64 0] 58))
    case first =>
      by_cases h1 : 3 < N
      · obtain ⟨v1, p1, p3⟩ := hN.out 3 h1
        rw [HYe.out] at p3
        simp only [Nat.reduceMul] at p1
        go_wp2_with fail
        go_meet
        case rel => exact ⟨by rw [p3], rfl⟩
      · have p1 := hE.out 3 h1
        rw [HYe.out] at p1
        have HP := Lib.hid p1
        clear p1
        go_wp2_with fail
        go_meet
        case rel => exact ⟨by rw [HP.out], rfl⟩
    case rest =>
      obtain ⟨rfl, rfl⟩ := hcut
      by_cases t1 : x.text = moveT
      · rw [show decide (x.text = [116, 114, 97, 110, 115, 108, 97, 116, 101]) = true from decide_eq_true t1] at z1
        rw [if_pos t1] at HG
        clear t1 z2 z3
        go_wp2_with fail
        ((try simp only [Exit.inBlock, Exit.then]); refine bodyPost_ret (v := .agg #[.int .i64 1, .int .i64 X, .int .i64 Y]) (by (first | rw [results_cell_tmp rfl] | rw [results_cell1 rfl]); go_simp) rfl ?_)
        rw [HG.out]
        exact Ret.of rfl (by repeat (first | with_reducible exact Below.refl _ _ | (with_reducible refine Below.alloc ?_ (by first | omega | (simp [go_sem] <;> omega)) _) | (with_reducible refine Below.drew ?_) | (with_reducible refine Below.drewN ?_ _) | (with_reducible refine Below.grow ?_ (by first | omega | (simp [go_sem] <;> omega)) _) | (with_reducible refine Below.setCell ?_ (by first | omega | (simp [go_sem] <;> omega)) _)))
      rw [if_neg t1] at HG
      rw [show decide (x.text = [116, 114, 97, 110, 115, 108, 97, 116, 101]) = false from decide_eq_false t1] at z1
      by_cases t2 : x.text = turnT
      · rw [show decide (x.text = [114, 111, 116, 97, 116, 101]) = true from decide_eq_true t2] at z2
        rw [if_pos t2] at HG
        clear t1 t2 z3
        go_wp2_with fail
        ((try simp only [Exit.inBlock, Exit.then]); refine bodyPost_ret (v := .agg #[.int .i64 2, .int .i64 (X.tdiv 90), .int .i64 0]) (by (first | rw [results_cell_tmp rfl] | rw [results_cell1 rfl]); go_simp) rfl ?_)
        rw [HG.out]
        exact Ret.of rfl (by repeat (first | with_reducible exact Below.refl _ _ | (with_reducible refine Below.alloc ?_ (by first | omega | (simp [go_sem] <;> omega)) _) | (with_reducible refine Below.drew ?_) | (with_reducible refine Below.drewN ?_ _) | (with_reducible refine Below.grow ?_ (by first | omega | (simp [go_sem] <;> omega)) _) | (with_reducible refine Below.setCell ?_ (by first | omega | (simp [go_sem] <;> omega)) _)))
      rw [if_neg t2] at HG
      rw [show decide (x.text = [114, 111, 116, 97, 116, 101]) = false from decide_eq_false t2] at z2
      by_cases t3 : x.text = scaleT
      · rw [show decide (x.text = [115, 99, 97, 108, 101]) = true from decide_eq_true t3] at z3
        rw [if_pos t3] at HG
        clear t1 t2 t3
        go_wp2_with fail
        ((try simp only [Exit.inBlock, Exit.then]); refine bodyPost_ret (v := .agg #[.int .i64 3, .int .i64 X, .int .i64 0]) (by (first | rw [results_cell_tmp rfl] | rw [results_cell1 rfl]); go_simp) rfl ?_)
        rw [HG.out]
        exact Ret.of rfl (by repeat (first | with_reducible exact Below.refl _ _ | (with_reducible refine Below.alloc ?_ (by first | omega | (simp [go_sem] <;> omega)) _) | (with_reducible refine Below.drew ?_) | (with_reducible refine Below.drewN ?_ _) | (with_reducible refine Below.grow ?_ (by first | omega | (simp [go_sem] <;> omega)) _) | (with_reducible refine Below.setCell ?_ (by first | omega | (simp [go_sem] <;> omega)) _)))
      · rw [show decide (x.text = [115, 99, 97, 108, 101]) = false from decide_eq_false t3] at z3
        rw [if_neg t3] at HG
        clear t1 t2 t3
        go_wp2_with fail
        ((try simp only [Exit.inBlock, Exit.then]); refine bodyPost_ret (v := .agg #[.int .i64 4, .int .i64 0, .int .i64 0]) (by (first | rw [results_cell_tmp rfl] | rw [results_cell1 rfl]); go_simp) rfl ?_)
        rw [HG.out]
        exact Ret.of rfl (by repeat (first | with_reducible exact Below.refl _ _ | (with_reducible refine Below.alloc ?_ (by first | omega | (simp [go_sem] <;> omega)) _) | (with_reducible refine Below.drew ?_) | (with_reducible refine Below.drewN ?_ _) | (with_reducible refine Below.grow ?_ (by first | omega | (simp [go_sem] <;> omega)) _) | (with_reducible refine Below.setCell ?_ (by first | omega | (simp [go_sem] <;> omega)) _)))
end Go.Proofs.YtgcccpdadponiaaGreatDoor
namespace Go.Proofs.YtgcccpdadponiaaGreatDoor
open Go.RowKit Go.Shelf
attribute [local go_sem] Oper.semAt_some
theorem RetO.lit {w W : World} {c : Array Value} {n size B : Nat} {e : TypeId} {cells : List Value} (hb : Below w.heap.size w W) (hB : B = W.heap.size) (hc : c.size = n * size) (hn : n ≤ maxLen) (he : c.toList = cells) : RetO w n size e cells (.returned (.slice (some ⟨B, 0, none⟩) n n)) (W.alloc (.cells c e)) := by
  subst hB he
  exact RetO.own (hb.alloc hb.size _) (own_lit hc hn) hb.size
set_option maxRecDepth 100000 in
set_option maxHeartbeats 4000000 in
theorem rtold16_any (s : St) (w : World) (hs : StOk s) : Calls Tryz.prog 34 #[s.val] w (RetO w (toldT s).length 4 37 (cssCells (toldT s))) := by
  have hmx : Tryz.prog.follows .mixedOrders = true := by kernel_rfl
  obtain ⟨xlo, xhi, ylo, yhi, klo, khi, deg⟩ := hs
  obtain ⟨k, x, y⟩ := s
  simp only at xlo xhi ylo yhi klo khi deg
  unfold St.val
  simp only
  obtain ⟨W0, hW0⟩ : ∃ W0, w.alloc (.cells #[.int .i64 k, .int .i64 x, .int .i64 y] 58) = W0 := ⟨_, rfl⟩
  have HBW : Hid (Below w.heap.size w W0) := by show Below _ _ _; rw [← hW0]; exact (by repeat (first | with_reducible exact Below.refl _ _ | (with_reducible refine Below.alloc ?_ (by first | omega | (simp [go_sem] <;> omega)) _) | (with_reducible refine Below.drew ?_) | (with_reducible refine Below.drewN ?_ _) | (with_reducible refine Below.grow ?_ (by first | omega | (simp [go_sem] <;> omega)) _) | (with_reducible refine Below.setCell ?_ (by first | omega | (simp [go_sem] <;> omega)) _)))
  have hlt0 : w.heap.size < W0.heap.size := by rw [← hW0]; simp
  have c0 : W0.cell? ⟨w.heap.size, 0, none⟩ = some (.int .i64 k) := by rw [← hW0]; simp [go_sem]
  have c1 : W0.cell? ⟨w.heap.size, 1, none⟩ = some (.int .i64 x) := by rw [← hW0]; simp [go_sem]
  have c2 : W0.cell? ⟨w.heap.size, 2, none⟩ = some (.int .i64 y) := by rw [← hW0]; simp [go_sem]
  have HM2 := Lib.hid (fun W => rmark16_any [41] W)
  simp only [Css.agg, sv] at HM2
  by_cases k1 : k = 1
  · subst k1
    have HN1 := Lib.hid (fun W => rnum16_any x pxT W xlo xhi)
    have HN2 := Lib.hid (fun W => rnum16_any y pxT W ylo yhi)
    have HM1 := Lib.hid (fun W => rmark16_any [44] W)
    have HC := Lib.hid (fun W => rcall16_any moveT W)
    simp only [Css.agg, sv, nuC, fnC] at HN1 HN2 HM1 HC
    simp only [pxT, moveT] at HN1 HN2 HC
    have HE : Hid (cssCells (toldT ⟨1, x, y⟩) = [.int .i64 2, .string ⟨#[116, 114, 97, 110, 115, 108, 97, 116, 101]⟩, .int .i64 0, .string ⟨#[]⟩, .int .i64 3, .string ⟨#[]⟩, .int .i64 (x * 1000), .string ⟨#[112, 120]⟩, .int .i64 6, .string ⟨#[44]⟩, .int .i64 0, .string ⟨#[]⟩, .int .i64 3, .string ⟨#[]⟩, .int .i64 (y * 1000), .string ⟨#[112, 120]⟩, .int .i64 6, .string ⟨#[41]⟩, .int .i64 0, .string ⟨#[]⟩]) := rfl
    go_enter Tryz.func34, Tryz.ntmps34
    go_wp2_with fail
    refine wp_region_grow_tail 9 (by kernel_rfl) (by kernel_rfl) ?_
    dsimp only [List.take, List.drop]
    repeat (go_big_quiet_step (first | (go_at_call 57; with_reducible exact Calls.grow_of (HC.out _)) | (go_at_call 58; with_reducible exact Calls.grow_of (HN1.out _)) | (go_at_call 58; with_reducible exact Calls.grow_of (HN2.out _)) | (go_at_call 31; with_reducible exact Calls.grow_of (HM1.out _)) | (go_at_call 31; with_reducible exact Calls.grow_of (HM2.out _))))
    refine wpQuiet_nil ?_
    intro _ hw'; obtain ⟨nq, hw''⟩ := hw'; subst hw''
    go_wp2
    go_ret
    rw [HE.out]
    exact RetO.lit (n := 5) (below_next HBW.out (by (repeat (first | with_reducible exact Below.refl _ _ | (with_reducible refine Below.alloc ?_ (by first | omega | (simp [go_sem] <;> omega)) _) | (with_reducible refine Below.drew ?_) | (with_reducible refine Below.drewN ?_ _) | (with_reducible refine Below.grow ?_ (by first | omega | (simp [go_sem] <;> omega)) _) | (with_reducible refine Below.setCell ?_ (by first | omega | (simp [go_sem] <;> omega)) _))); done)) (by simp [size_grow]) rfl (by decide) rfl
  have b1 : (k == 1) = false := by simpa using k1
  by_cases k2 : k = 2
  · subst k2
    have HN1 := Lib.hid (fun W => rnum16_any (90 * x) degT W (deg rfl).1 (deg rfl).2)
    have HC := Lib.hid (fun W => rcall16_any turnT W)
    have hd1 := (deg rfl).1
    have hd2 := (deg rfl).2
    have h90 : wrap64 (90 * x) = 90 * x := IntWalk.wrap64_in _ (by omega)
    simp only [Css.agg, sv, nuC, fnC] at HN1 HC
    simp only [degT, turnT] at HN1 HC
    have HE : Hid (cssCells (toldT ⟨2, x, y⟩) = [.int .i64 2, .string ⟨#[114, 111, 116, 97, 116, 101]⟩, .int .i64 0, .string ⟨#[]⟩, .int .i64 3, .string ⟨#[]⟩, .int .i64 (90 * x * 1000), .string ⟨#[100, 101, 103]⟩, .int .i64 6, .string ⟨#[41]⟩, .int .i64 0, .string ⟨#[]⟩]) := rfl
    go_enter Tryz.func34, Tryz.ntmps34
    go_wp2_with fail
    refine wp_region_grow_tail 6 (by kernel_rfl) (by kernel_rfl) ?_
    dsimp only [List.take, List.drop]
    repeat (go_big_quiet_step (first | (go_at_call 57; with_reducible exact Calls.grow_of (HC.out _)) | (go_at_call 58; with_reducible exact Calls.grow_of (HN1.out _)) | (go_at_call 31; with_reducible exact Calls.grow_of (HM2.out _))))
    refine wpQuiet_nil ?_
    intro _ hw'; obtain ⟨nq, hw''⟩ := hw'; subst hw''
    go_wp2
    go_ret
    rw [HE.out]
    exact RetO.lit (n := 3) (below_next HBW.out (by (repeat (first | with_reducible exact Below.refl _ _ | (with_reducible refine Below.alloc ?_ (by first | omega | (simp [go_sem] <;> omega)) _) | (with_reducible refine Below.drew ?_) | (with_reducible refine Below.drewN ?_ _) | (with_reducible refine Below.grow ?_ (by first | omega | (simp [go_sem] <;> omega)) _) | (with_reducible refine Below.setCell ?_ (by first | omega | (simp [go_sem] <;> omega)) _))); done)) (by simp [size_grow]) rfl (by decide) rfl
  have b2 : (k == 2) = false := by simpa using k2
  by_cases k3 : k = 3
  · subst k3
    have HN1 := Lib.hid (fun W => rnum16_any x [] W xlo xhi)
    have HC := Lib.hid (fun W => rcall16_any scaleT W)
    simp only [Css.agg, sv, nuC, fnC] at HN1 HC
    simp only [scaleT] at HN1 HC
    have HE : Hid (cssCells (toldT ⟨3, x, y⟩) = [.int .i64 2, .string ⟨#[115, 99, 97, 108, 101]⟩, .int .i64 0, .string ⟨#[]⟩, .int .i64 3, .string ⟨#[]⟩, .int .i64 (x * 1000), .string ⟨#[]⟩, .int .i64 6, .string ⟨#[41]⟩, .int .i64 0, .string ⟨#[]⟩]) := rfl
    go_enter Tryz.func34, Tryz.ntmps34
    go_wp2_with fail
    refine wp_region_grow_tail 5 (by kernel_rfl) (by kernel_rfl) ?_
    dsimp only [List.take, List.drop]
    repeat (go_big_quiet_step (first | (go_at_call 57; with_reducible exact Calls.grow_of (HC.out _)) | (go_at_call 58; with_reducible exact Calls.grow_of (HN1.out _)) | (go_at_call 31; with_reducible exact Calls.grow_of (HM2.out _))))
    refine wpQuiet_nil ?_
    intro _ hw'; obtain ⟨nq, hw''⟩ := hw'; subst hw''
    go_wp2
    go_ret
    rw [HE.out]
    exact RetO.lit (n := 3) (below_next HBW.out (by (repeat (first | with_reducible exact Below.refl _ _ | (with_reducible refine Below.alloc ?_ (by first | omega | (simp [go_sem] <;> omega)) _) | (with_reducible refine Below.drew ?_) | (with_reducible refine Below.drewN ?_ _) | (with_reducible refine Below.grow ?_ (by first | omega | (simp [go_sem] <;> omega)) _) | (with_reducible refine Below.setCell ?_ (by first | omega | (simp [go_sem] <;> omega)) _))); done)) (by simp [size_grow]) rfl (by decide) rfl
  have b3 : (k == 3) = false := by simpa using k3
  have HT : Hid (toldT ⟨k, x, y⟩ = [fnC flipT, nuC (-1) [], mark1 41]) := by
    show _ = _; unfold toldT; rw [if_neg k1, if_neg k2, if_neg k3]
  have HE : Hid (cssCells [fnC flipT, nuC (-1) [], mark1 41] = [.int .i64 2, .string ⟨#[115, 99, 97, 108, 101, 121]⟩, .int .i64 0, .string ⟨#[]⟩, .int .i64 3, .string ⟨#[]⟩, .int .i64 (-1 * 1000), .string ⟨#[]⟩, .int .i64 6, .string ⟨#[41]⟩, .int .i64 0, .string ⟨#[]⟩]) := rfl
  rw [HT.out]
  have HN1 := Lib.hid (fun W => rnum16_any (-1) [] W (by omega) (by omega))
  have HC := Lib.hid (fun W => rcall16_any flipT W)
  simp only [Css.agg, sv, nuC, fnC] at HN1 HC
  simp only [flipT] at HN1 HC
  clear hW0
  go_enter Tryz.func34, Tryz.ntmps34
  go_wp2_with (first
    | (go_at_call 57; (with_reducible refine (HC.out _).mono ?_); rintro e w' ⟨rfl, X1, rfl⟩)
    | (go_at_call 58; (with_reducible refine (HN1.out _).mono ?_); rintro e w' ⟨rfl, X2, rfl⟩)
    | (go_at_call 31; (with_reducible refine (HM2.out _).mono ?_); rintro e w' ⟨rfl, X3, rfl⟩))
  go_ret
  rw [HE.out]
  exact RetO.lit (n := 3) (by (repeat (first | with_reducible exact Below.refl _ _ | (with_reducible refine Below.alloc ?_ (by first | omega | (simp [go_sem] <;> omega)) _) | (with_reducible refine Below.drew ?_) | (with_reducible refine Below.drewN ?_ _) | (with_reducible refine Below.grow ?_ (by first | omega | (simp [go_sem] <;> omega)) _) | (with_reducible refine Below.setCell ?_ (by first | omega | (simp [go_sem] <;> omega)) _))); done) (by simp [size_grow]) rfl (by decide) rfl
set_option maxRecDepth 100000 in
set_option maxHeartbeats 2000000 in
theorem rpieces16_any (v : Value) (l : List St) (w : World) (h : Sl w v l) : Calls Tryz.prog 17 #[v] w (RetV w (if rightB l then some (piecesT l) else none)) := by
  have hmx : Tryz.prog.follows .mixedOrders = true := by kernel_rfl
  have HRt0 := trright_any v l w h
  obtain ⟨a, cap, rfl, hl, hc⟩ := h
  cases hr : rightB l
  · rw [hr] at HRt0
    have HRt := Lib.hid HRt0
    clear HRt0 hc
    go_enter Tryz.func17, Tryz.ntmps17
    go_wp2_with (go_at_call 35; (with_reducible refine HRt.out.mono ?_); rintro e w' ⟨rfl, X1, rfl⟩)
    go_ret2
    exact RetV.no (by repeat (first | with_reducible exact Below.refl _ _ | (with_reducible refine Below.alloc ?_ (by first | omega | (simp [go_sem] <;> omega)) _) | (with_reducible refine Below.drew ?_) | (with_reducible refine Below.drewN ?_ _) | (with_reducible refine Below.grow ?_ (by first | omega | (simp [go_sem] <;> omega)) _) | (with_reducible refine Below.setCell ?_ (by first | omega | (simp [go_sem] <;> omega)) _))) rfl
  · rw [hr] at HRt0
    have HRt := Lib.hid HRt0
    obtain ⟨hm, h8⟩ := right_may hr
    have HM := Lib.hid hm
    have HC := Lib.hid hc
    clear HRt0 hc hm hr
    go_enter Tryz.func17, Tryz.ntmps17
    go_wp2_with (go_at_call 35; (with_reducible refine HRt.out.mono ?_); rintro e w' ⟨rfl, X1, rfl⟩)
    go_loopw [5, 6] (fun vo i wr => ∃ k : Nat, k ≤ l.length ∧ i = .int .i64 k ∧ Hid (Below w.heap.size w wr) ∧ Hid (wr.ownsRow w.heap.size 37 4 vo (piecesT (l.take k)).length (cssCells (piecesT (l.take k))))) (fun _ i _ => l.length - (intOf i).toNat)
    case atStart => exact ⟨0, by omega, rfl, below_grow _ _, by show World.ownsRow _ _ _ _ _ _ _; rw [List.take_zero]; exact World.ownsRow_nil _ _ _ _⟩
    case round =>
      obtain ⟨k, hk, rfl, HB, HO⟩ := hrel
      by_cases hlt : k < l.length
      · obtain ⟨b, off, rfl, hb, hcs⟩ : ∃ b off, a = some ⟨b, off, none⟩ ∧ b < w.heap.size ∧ w.cell? ⟨b, off + k * 3, none⟩ = some (.int .i64 l[k].k) ∧ w.cell? ⟨b, off + k * 3 + 1, none⟩ = some (.int .i64 l[k].x) ∧ w.cell? ⟨b, off + k * 3 + 2, none⟩ = some (.int .i64 l[k].y) := by
          rcases HC.out with rfl | ⟨b, off, rfl, hc⟩
          · simp at hlt
          · exact ⟨b, off, rfl, hc.1, hc.2 k l[k] (List.getElem?_eq_getElem hlt)⟩
        obtain ⟨c0, c1, c2⟩ := hcs
        have c0 := (HB.out.cell hb).trans c0
        have c1 := (HB.out.cell hb).trans c1
        have c2 := (HB.out.cell hb).trans c2
        have HTo := Lib.hid (fun W => rtold16_any l[k] W (st_ok (HM.out _ (List.getElem_mem hlt))))
        have HS : Hid (piecesT (l.take (k + 1)) = piecesT (l.take k) ++ toldT l[k]) := pieces_snoc l k hlt
        have htl := told_len3 l[k]
        have hpl : (piecesT (l.take k)).length ≤ 1000 := by have := pieces_len (l.take k); rw [List.length_take] at this; omega
        simp only [St.val] at HTo
        generalize toldT l[k] = TS at *
        generalize l[k].k = sk at *
        generalize l[k].x = sx at *
        generalize l[k].y = sy at *
        generalize hPk : piecesT (l.take k) = PK at *
        have hsz := HB.out.size
        go_wp2_with (first
          | (go_at_call 34; (with_reducible refine (HTo.out _).mono ?_); rintro e w' ⟨v3, X3, rfl, rfl, ho3⟩; obtain ⟨g3, cap3, rfl⟩ := Go.Joins.ownsRow_form ho3 (by omega); have HN3 := Lib.hid (news_rd (Rd.own ho3) (own_nil ho3) (Below.refl _ _)); have HL3 := Lib.hid ho3.1; clear ho3)
          | (at_builtin; go_loud (refine append_any rfl _ _ 22 rfl css_row w.heap.size rfl (own_grow HO.out X3) (by simp [go_sem]; omega) TS.length (cssCells TS) HN3.out HL3.out (cssc_one TS) (by unfold maxLen; omega) (by omega) ?_); intro v4 W4 ho4 hg4; go_loud (have HB4 := own_step hg4 (own_grow HO.out X3) (below_out HB.out (by repeat (first | with_reducible exact Below.refl _ _ | (with_reducible refine Below.alloc ?_ (by first | omega | (simp [go_sem] <;> omega)) _) | (with_reducible refine Below.drew ?_) | (with_reducible refine Below.drewN ?_ _) | (with_reducible refine Below.grow ?_ (by first | omega | (simp [go_sem] <;> omega)) _) | (with_reducible refine Below.setCell ?_ (by first | omega | (simp [go_sem] <;> omega)) _))))); have HO4 := Lib.hid ho4; clear ho4 hg4))
        go_roundw
        case rel => exact ⟨k + 1, by omega, by go_num, HB4.out, by show World.ownsRow _ _ _ _ _ _ _; rw [HS.out, List.length_append, css_app]; exact HO4.out⟩
        case measure => simp [intOf]; omega
      · have hkl : k = l.length := by omega
        subst hkl
        go_wp2_with fail
        go_ret2
        have hO := HO.out
        rw [List.take_length] at hO
        exact RetV.own HB.out rfl rfl hO
end Go.Proofs.YtgcccpdadponiaaGreatDoor
