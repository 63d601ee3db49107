/- The walk of the lexer: a text, quoted. -/
import Derived.Test.YtglnadikhcidnaaKitE
import Derived.Test.YtglnadikhcidnaaLexE
namespace Go.Proofs.Ytglnadikhcidnaa
open Go.RowKit Go.Shelf
def quoteV : Option Bs → Value
  | some q => .tuple #[.string ⟨q.toArray⟩, .bool true]
  | none => .tuple #[.string ⟨#[]⟩, .bool false]
theorem esc_len (l : Bs) : (esc l).length ≤ 2 * l.length := by
  induction l with
  | nil => simp [esc]
  | cons c r ih => simp only [esc]; split <;> simp <;> omega
/-- What is still to come, behind what is there. -/
def quoteR (out : Bs) (r : Bs) : Option Bs := if r.any oddB then none else some (out ++ esc r ++ [34])
theorem quoteR_odd (out : Bs) {c : UInt8} (r : Bs) (h : oddB c = true) : quoteR out (c :: r) = none := by simp [quoteR, h]
theorem quoteR_esc (out : Bs) {c : UInt8} (r : Bs) (h : oddB c = false) (hc : c.toNat = 34 ∨ c.toNat = 92) : quoteR out (c :: r) = quoteR (out ++ [92] ++ [c]) r := by
  simp [quoteR, h, esc, hc]
theorem quoteR_one (out : Bs) {c : UInt8} (r : Bs) (h : oddB c = false) (hc : ¬ (c.toNat = 34 ∨ c.toNat = 92)) : quoteR out (c :: r) = quoteR (out ++ [c]) r := by
  simp [quoteR, h, esc, hc]
set_option maxRecDepth 100000 in
set_option maxHeartbeats 4000000 in
theorem quote_any (s : ByteArray) (w : World) (hm : s.size ≤ 35184372088832) : Calls Try.prog 13 #[.string s] w (Ret (quoteV (quoteL s.data.toList)) w) := by
  have HQ : Hid (quoteR [34] s.data.toList = quoteL s.data.toList) := by show _ = _; simp [quoteR, quoteL]
  generalize quoteL s.data.toList = R at *
  go_enter Try.func13, Try.ntmps13
  go_wp2_with fail
  go_loopw [4, 11] (fun v i wr => ∃ (k : Nat) (out : Bs), k ≤ s.size ∧ out.length ≤ 2 * k + 1 ∧ i = .int .i64 k ∧ Below w.heap.size w wr ∧ wr.ownsRow w.heap.size 5 1 v out.length (out.map bv) ∧ BytesAt wr (w.heap.size + 1) 5 s ∧ Hid (quoteR out (s.data.toList.drop k) = R)) (fun _ i _ => s.size - (intOf i).toNat)
  case atStart =>
    refine ⟨0, [34], by omega, by simp, rfl, (by repeat (first | with_reducible exact Below.refl _ _ | (with_reducible refine Below.alloc ?_ (by first | omega | (simp [go_sem] <;> omega)) _) | (with_reducible refine Below.drew ?_) | (with_reducible refine Below.drewN ?_ _) | (with_reducible refine Below.grow ?_ (by first | omega | (simp [go_sem] <;> omega)) _) | (with_reducible refine Below.setCell ?_ (by first | omega | (simp [go_sem] <;> omega)) _))), own_grow (own_lit (c := #[.int .u8 34]) rfl (by unfold maxLen; omega)) _, ?_, HQ⟩
    have := BytesAt.new (w.alloc (Obj.cells #[.int .u8 34] 5)) 5 s
    rwa [World.size_alloc] at this
  case round =>
    obtain ⟨k, out, hk, hout, rfl, hB, hown, hby, HK⟩ := hrel
    have hsz := hB.size
    by_cases hlt : k < s.size
    · have hc := hby.cell k hlt
      have HD := Lib.hid (drop_at s k hlt)
      have HBY := Lib.hid hby
      have HB := Lib.hid hB
      have HO := Lib.hid hown
      clear hB hby
      cases ho : oddB s[k]
      · have HL : Hid ((out ++ [s[k]]).map bv = out.map bv ++ [.int .u8 (s[k].toNat : Int)]) := by show _ = _; simp [bv]
        have HL2 : Hid ((out ++ [s[k]]).length = out.length + 1) := by show _ = _; simp
        have HM : Hid ((out ++ [92] ++ [s[k]]).map bv = out.map bv ++ [.int .u8 92] ++ [.int .u8 (s[k].toNat : Int)]) := by show _ = _; simp [bv]
        have HM2 : Hid ((out ++ [92] ++ [s[k]]).length = out.length + 1 + 1) := by show _ = _; simp
        by_cases hq : s[k].toNat = 34 ∨ s[k].toNat = 92
        · have HN := Lib.hid (show quoteR (out ++ [92] ++ [s[k]]) (s.data.toList.drop (k + 1)) = R by rw [← HK.out, HD.out, quoteR_esc _ _ ho hq])
          have hd2 : ((s[k].toNat : Int) == 34) = true ∨ ((s[k].toNat : Int) == 34) = false ∧ ((s[k].toNat : Int) == 92) = true := by
            by_cases h : s[k].toNat = 34
            · exact Or.inl (by simp; omega)
            · exact Or.inr ⟨by simp; omega, by simp; omega⟩
          clear hq
          rcases hd2 with q1 | ⟨q1, q2⟩
          all_goals
            go_wp2_with (first | (go_at_call 21; (with_reducible refine (odd_any s[k] _).mono ?_); rintro e w' ⟨rfl, rfl⟩; rw [ho]) | (at_builtin; refine append_abs rfl _ _ 46 rfl bytes_row w.heap.size rfl (hown.alloc _) (by simp; omega) ⟨_, 0, none⟩ 1 1 [.int .u8 92] rfl rfl (new_cells (c := #[.int .u8 92]) (by simp [go_sem])) (by simp [Value.oneCell']) (by unfold maxLen; omega) (by omega) ?_; intro v1 W1 hown1 hg1; have hB1 := Lib.hid (HB.out.trans (((Below.refl _ _).alloc hsz _).trans (below_own (hown.alloc _) hg1 (Nat.le_refl _) (by simp; omega)))); have hBy1 := Lib.hid ((HBY.out.alloc _).kept (hown.alloc _) hg1); clear hg1; have hsz1 := hB1.out.size) | (at_builtin; refine append_abs rfl _ _ 46 rfl bytes_row w.heap.size rfl (hown1.alloc _) (by simp; omega) ⟨_, 0, none⟩ 1 1 [.int .u8 (s[k].toNat : Int)] rfl rfl (new_cells (c := #[.int .u8 (s[k].toNat : Int)]) (by simp [go_sem])) (by simp [Value.oneCell']) (by unfold maxLen; omega) (by omega) ?_; intro v2 W2 hown2 hg2; have hB2 := Lib.hid (hB1.out.trans (((Below.refl _ _).alloc hsz1 _).trans (below_own (hown1.alloc _) hg2 (Nat.le_refl _) (by simp; omega)))); have hBy2 := Lib.hid ((hBy1.out.alloc _).kept (hown1.alloc _) hg2); clear hg2))
            go_roundw
            case rel => exact ⟨k + 1, out ++ [92] ++ [s[k]], by omega, by rw [HM2.out]; omega, by go_num, hB2.out, by rw [HM.out, HM2.out]; exact hown2, hBy2.out, HN⟩
            case measure => simp [intOf]; omega
        · have HN := Lib.hid (show quoteR (out ++ [s[k]]) (s.data.toList.drop (k + 1)) = R by rw [← HK.out, HD.out, quoteR_one _ _ ho hq])
          have q1 : ((s[k].toNat : Int) == 34) = false := by simp; omega
          have q2 : ((s[k].toNat : Int) == 92) = false := by simp; omega
          clear hq
          go_wp2_with (first | (go_at_call 21; (with_reducible refine (odd_any s[k] _).mono ?_); rintro e w' ⟨rfl, rfl⟩; rw [ho]) | (at_builtin; refine append_abs rfl _ _ 46 rfl bytes_row w.heap.size rfl (hown.alloc _) (by simp; omega) ⟨_, 0, none⟩ 1 1 [.int .u8 (s[k].toNat : Int)] rfl rfl (new_cells (c := #[.int .u8 (s[k].toNat : Int)]) (by simp [go_sem])) (by simp [Value.oneCell']) (by unfold maxLen; omega) (by omega) ?_; intro v1 W1 hown1 hg1; have hB1 := Lib.hid (HB.out.trans (((Below.refl _ _).alloc hsz _).trans (below_own (hown.alloc _) hg1 (Nat.le_refl _) (by simp; omega)))); have hBy1 := Lib.hid ((HBY.out.alloc _).kept (hown.alloc _) hg1); clear hg1))
          go_roundw
          case rel => exact ⟨k + 1, out ++ [s[k]], by omega, by rw [HL2.out]; omega, by go_num, hB1.out, by rw [HL.out, HL2.out]; exact hown1, hBy1.out, HN⟩
          case measure => simp [intOf]; omega
      · have HV := Lib.hid (show quoteV R = .tuple #[.string ⟨#[]⟩, .bool false] by rw [← HK.out, HD.out, quoteR_odd _ _ ho]; rfl)
        go_wp2_with (go_at_call 21; (with_reducible refine (odd_any s[k] _).mono ?_); rintro e w' ⟨rfl, rfl⟩; rw [ho])
        go_ret2
        exact Ret.of (by rw [HV.out]; rfl) HB.out
    · have HE := Lib.hid (drop_end s k (by omega))
      have HV := Lib.hid (show quoteV R = .tuple #[.string ⟨(out ++ [34]).toArray⟩, .bool true] by rw [← HK.out, HE.out]; simp [quoteR, esc, quoteV])
      have HL : Hid ((out ++ [34]).map bv = out.map bv ++ [.int .u8 34]) := by show _ = _; simp [bv]
      have HL2 : Hid ((out ++ [34]).length = out.length + 1) := by show _ = _; simp
      have HB := Lib.hid hB
      clear hB hby
      go_wp2_with (at_builtin; refine append_abs rfl _ _ 46 rfl bytes_row w.heap.size rfl (hown.alloc _) (by simp; omega) ⟨_, 0, none⟩ 1 1 [.int .u8 34] rfl rfl (new_cells (c := #[.int .u8 34]) (by simp [go_sem])) (by simp [Value.oneCell']) (by unfold maxLen; omega) (by omega) ?_; intro v1 W1 hown1 hg1; have hB1 := Lib.hid (HB.out.trans (((Below.refl _ _).alloc hsz _).trans (below_own (hown.alloc _) hg1 (Nat.le_refl _) (by simp; omega)))); clear hg1; have hown2 : W1.ownsRow w.heap.size 5 1 v1 (out ++ [34]).length ((out ++ [34]).map bv) := by { rw [HL.out, HL2.out]; exact hown1 }; have hcv := (Rd.own hown2).str 46 9 5 Try.underlying46 Try.underlying5 Try.underlying9)
      go_ret2
      exact Ret.of (by rw [HV.out]; rfl) hB1.out
theorem byte_str {W : World} {B : Nat} {v : Value} {l : Bs} {xs : List Value} {n : Nat} (h1 : Hid (l.map bv = xs)) (h2 : Hid (l.length = n)) (h : W.ownsRow B 5 1 v n xs) : (convert 46 9 v).run Try.prog W = .ok (.string ⟨l.toArray⟩) W := by
  rw [← h1.out, ← h2.out] at h
  exact (Rd.own h).str 46 9 5 Try.underlying46 Try.underlying5 Try.underlying9
set_option maxRecDepth 100000 in
set_option maxHeartbeats 4000000 in
theorem rquote_any (s : ByteArray) (w : World) (hm : s.size ≤ 35184372088832) : Calls Try.prog 17 #[.string s] w (Ret (quoteV (quoteL s.data.toList)) w) := by
  have HQ : Hid (quoteR [34] s.data.toList = quoteL s.data.toList) := by show _ = _; simp [quoteR, quoteL]
  generalize quoteL s.data.toList = R at *
  go_enter Try.func17, Try.ntmps17
  go_wp2_with fail
  go_loopw [4, 5] (fun v i wr => ∃ (k : Nat) (out : Bs), k ≤ s.size ∧ out.length ≤ 2 * k + 1 ∧ i = .int .i64 k ∧ Below w.heap.size w wr ∧ wr.ownsRow w.heap.size 5 1 v out.length (out.map bv) ∧ Hid (quoteR out (s.data.toList.drop k) = R)) (fun _ i _ => s.size - (intOf i).toNat)
  case atStart =>
    exact ⟨0, [34], by omega, by simp, rfl, (by repeat (first | with_reducible exact Below.refl _ _ | (with_reducible refine Below.alloc ?_ (by first | omega | (simp [go_sem] <;> omega)) _) | (with_reducible refine Below.drew ?_) | (with_reducible refine Below.drewN ?_ _) | (with_reducible refine Below.grow ?_ (by first | omega | (simp [go_sem] <;> omega)) _) | (with_reducible refine Below.setCell ?_ (by first | omega | (simp [go_sem] <;> omega)) _))), own_lit (c := #[.int .u8 34]) rfl (by unfold maxLen; omega), HQ⟩
  case round =>
    obtain ⟨k, out, hk, hout, rfl, hB, hown, HK⟩ := hrel
    have hsz := hB.size
    by_cases hlt : k < s.size
    · have HD := Lib.hid (drop_at s k hlt)
      have HB := Lib.hid hB
      clear hB
      cases ho : oddB s[k]
      · have HL : Hid ((out ++ [s[k]]).map bv = out.map bv ++ [.int .u8 (s[k].toNat : Int)]) := by show _ = _; simp [bv]
        have HL2 : Hid ((out ++ [s[k]]).length = out.length + 1) := by show _ = _; simp
        have HM : Hid ((out ++ [92] ++ [s[k]]).map bv = out.map bv ++ [.int .u8 92] ++ [.int .u8 (s[k].toNat : Int)]) := by show _ = _; simp [bv]
        have HM2 : Hid ((out ++ [92] ++ [s[k]]).length = out.length + 1 + 1) := by show _ = _; simp
        have o1 : decide ((s[k].toNat : Int) < 32) = false := by unfold oddB at ho; simp at ho; simp; omega
        have o2 : decide ((127 : Int) ≤ s[k].toNat) = false := by unfold oddB at ho; simp at ho; simp; omega
        by_cases hq : s[k].toNat = 34 ∨ s[k].toNat = 92
        · have HN := Lib.hid (show quoteR (out ++ [92] ++ [s[k]]) (s.data.toList.drop (k + 1)) = R by rw [← HK.out, HD.out, quoteR_esc _ _ ho hq])
          have hd2 : ((s[k].toNat : Int) == 34) = true ∨ ((s[k].toNat : Int) == 34) = false ∧ ((s[k].toNat : Int) == 92) = true := by
            by_cases h : s[k].toNat = 34
            · exact Or.inl (by simp; omega)
            · exact Or.inr ⟨by simp; omega, by simp; omega⟩
          clear hq ho
          rcases hd2 with q1 | ⟨q1, q2⟩
          all_goals
            go_wp2_with (first | (at_builtin; refine append_abs rfl _ _ 46 rfl bytes_row w.heap.size rfl (hown.alloc _) (by simp [go_sem] <;> omega) ⟨_, 0, none⟩ 1 1 [.int .u8 92] rfl rfl (new_cells (c := #[.int .u8 92]) (by simp [go_sem])) (by simp [Value.oneCell']) (by unfold maxLen; omega) (by omega) ?_; intro v1 W1 hown1 hg1; have hB1 := Lib.hid (HB.out.trans (((Below.refl _ _).alloc hsz _).trans (below_own (hown.alloc _) hg1 (Nat.le_refl _) (by simp; omega)))); clear hg1; have hsz1 := hB1.out.size) | (at_builtin; refine append_abs rfl _ _ 46 rfl bytes_row w.heap.size rfl (hown1.alloc _) (by simp [go_sem] <;> omega) ⟨_, 0, none⟩ 1 1 [.int .u8 (s[k].toNat : Int)] rfl rfl (new_cells (c := #[.int .u8 (s[k].toNat : Int)]) (by simp [go_sem])) (by simp [Value.oneCell']) (by unfold maxLen; omega) (by omega) ?_; intro v2 W2 hown2 hg2; have hB2 := Lib.hid (hB1.out.trans (((Below.refl _ _).alloc hsz1 _).trans (below_own (hown1.alloc _) hg2 (Nat.le_refl _) (by simp; omega)))); clear hg2))
            go_roundw
            case rel => exact ⟨k + 1, out ++ [92] ++ [s[k]], by omega, by rw [HM2.out]; omega, by go_num, hB2.out, by rw [HM.out, HM2.out]; exact hown2, HN⟩
            case measure => simp [intOf]; omega
        · have HN := Lib.hid (show quoteR (out ++ [s[k]]) (s.data.toList.drop (k + 1)) = R by rw [← HK.out, HD.out, quoteR_one _ _ ho hq])
          have q1 : ((s[k].toNat : Int) == 34) = false := by simp; omega
          have q2 : ((s[k].toNat : Int) == 92) = false := by simp; omega
          clear hq ho
          go_wp2_with (at_builtin; refine append_abs rfl _ _ 46 rfl bytes_row w.heap.size rfl (hown.alloc _) (by simp [go_sem] <;> omega) ⟨_, 0, none⟩ 1 1 [.int .u8 (s[k].toNat : Int)] rfl rfl (new_cells (c := #[.int .u8 (s[k].toNat : Int)]) (by simp [go_sem])) (by simp [Value.oneCell']) (by unfold maxLen; omega) (by omega) ?_; intro v1 W1 hown1 hg1; have hB1 := Lib.hid (HB.out.trans (((Below.refl _ _).alloc hsz _).trans (below_own (hown.alloc _) hg1 (Nat.le_refl _) (by simp; omega)))); clear hg1)
          go_roundw
          case rel => exact ⟨k + 1, out ++ [s[k]], by omega, by rw [HL2.out]; omega, by go_num, hB1.out, by rw [HL.out, HL2.out]; exact hown1, HN⟩
          case measure => simp [intOf]; omega
      · have HV := Lib.hid (show quoteV R = .tuple #[.string ⟨#[]⟩, .bool false] by rw [← HK.out, HD.out, quoteR_odd _ _ ho]; rfl)
        have o1 : decide ((s[k].toNat : Int) < 32) = true ∨ decide ((s[k].toNat : Int) < 32) = false ∧ decide ((127 : Int) ≤ s[k].toNat) = true := by unfold oddB at ho; simp at ho; simp; omega
        clear ho
        rcases o1 with o1 | ⟨o1, o2⟩
        all_goals
          go_wp2
          go_ret2
          exact Ret.of (by rw [HV.out]; rfl) HB.out
    · have HE := Lib.hid (drop_end s k (by omega))
      have HV := Lib.hid (show quoteV R = .tuple #[.string ⟨(out ++ [34]).toArray⟩, .bool true] by rw [← HK.out, HE.out]; simp [quoteR, esc, quoteV])
      have HL : Hid ((out ++ [34]).map bv = out.map bv ++ [.int .u8 34]) := by show _ = _; simp [bv]
      have HL2 : Hid ((out ++ [34]).length = out.length + 1) := by show _ = _; simp
      have HB := Lib.hid hB
      clear hB
      go_wp2_with (at_builtin; refine append_abs rfl _ _ 46 rfl bytes_row w.heap.size rfl (hown.alloc _) (by simp [go_sem] <;> omega) ⟨_, 0, none⟩ 1 1 [.int .u8 34] rfl rfl (new_cells (c := #[.int .u8 34]) (by simp [go_sem])) (by simp [Value.oneCell']) (by unfold maxLen; omega) (by omega) ?_; intro v1 W1 hown1 hg1; have hB1 := Lib.hid (HB.out.trans (((Below.refl _ _).alloc hsz _).trans (below_own (hown.alloc _) hg1 (Nat.le_refl _) (by simp; omega)))); clear hg1; have hcv := byte_str HL HL2 hown1)
      go_ret2
      exact Ret.of (by rw [HV.out]; rfl) hB1.out
end Go.Proofs.Ytglnadikhcidnaa
