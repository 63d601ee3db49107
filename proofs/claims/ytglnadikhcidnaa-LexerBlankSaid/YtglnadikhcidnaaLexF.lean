/- The walk of the lexer: pieces, one behind the other. -/
import Derived.Test.YtglnadikhcidnaaKitD
import Derived.Test.YtglnadikhcidnaaLexE
import Derived.Test.YtglnadikhcidnaaLexPlainB
namespace Go.Proofs.Ytglnadikhcidnaa
open Go.RowKit Go.Shelf
attribute [local go_sem] Oper.semAt_some

def LE.vals (x : LE) : Array Value := #[.agg #[.int .i64 x.kind, .int .i64 x.at_, .string ⟨x.text.toArray⟩], .int .i64 x.err]
theorem blank_at (s : ByteArray) (k : Nat) (W : World) (hm : s.size ≤ 140737488355328) : Calls Try.prog 27 #[.string (s.extract k s.size)] W fun e w' => e = .returned (.int .i64 (blk false (s.data.toList.drop k) : Nat)) ∧ W = w' := by
  have := blank_any (s.extract k s.size) W (by rw [ByteArray.size_extract]; omega)
  rwa [extract_drop] at this
theorem piece_at (s : ByteArray) (k : Nat) (W : World) (hk : k < s.size) (hm : s.size ≤ 140737488355328) : Calls Try.prog 28 #[.string (s.extract k s.size)] W (Ret (pieceV (s.data.toList.drop k)) W) := by
  have := piece_any (s.extract k s.size) W (by rw [ByteArray.size_extract]; omega) (by rw [ByteArray.size_extract]; omega)
  rwa [extract_drop] at this
set_option maxRecDepth 100000 in
set_option maxHeartbeats 4000000 in
theorem pieces1_iter (s : ByteArray) (bs : Nat) (bw : Nat → Prop) (W : World) (hb : Boxed W bs 9 (.string s)) (hbw : ¬ bw bs) (hm : s.size ≤ 140737488355328) :
    IterAt Try.prog 26 #[.pointer (some ⟨bs, 0, none⟩)] LE.vals (fun _ => False) bw (yldL 0 s.data.toList) W := by
  intro l J Jx hJ hY h0
  refine callsIn_of_wp Try.func26 rfl trivial ?_ rfl
  have hc := hb.cell
  have HB := Lib.hid (blank_any s W (by omega))
  simp only [Try.ntmps26, List.size_toArray, List.length_cons, List.length_nil, Nat.reduceAdd, Nat.reduceSub, Array.replicate_succ, Array.replicate_zero, List.push_toArray, List.append_toArray, List.nil_append, List.cons_append]
  gi_wp2_with (gi_at_call 27; refine (callsIn_wide.2 HB.out).mono ?_; rintro e w' ⟨rfl, rfl⟩)
  clear hc
  gi_loopw [3] (fun p wr => ∃ (k : Nat) (pre : List LE), k ≤ s.size ∧ p = .int .i64 k ∧ Boxed wr bs 9 (.string s) ∧ J pre wr ∧ Hid (pre ++ yldH k (s.data.toList.drop k) = yldL 0 s.data.toList)) (fun p _ => s.size - (intOf p).toNat)
  case atStart =>
    have := blk_le false s.data.toList
    rw [len_data] at this
    exact ⟨_, [], this, rfl, hb, h0, by show _ = _; rw [yldL_eq]; simp⟩
  case round =>
    obtain ⟨k, pre, hk, rfl, hbx, hJs, HK⟩ := hrel
    have hc := hbx.cell
    by_cases hlt : k < s.size
    · have HP := Lib.hid (fun W => piece_at s k W hlt hm)
      have hne : s.data.toList.drop k ≠ [] := by rw [drop_at s k hlt]; simp
      cases hp : pieceL (s.data.toList.drop k) with
      | ok kd t n =>
        unfold pieceV at HP
        rw [hp] at HP
        simp only [pieceW] at HP
        have HP := Lib.hid HP
        have HY := Lib.hid (yldH_ok (a := k) hne hp)
        have hn := (pieceL_le _).1 kd t n hp
        rw [List.length_drop, len_data] at hn
        clear hne hp
        gi_wp2_with (gi_at_call 28; refine (callsIn_wide.2 (HP.out.out _)).mono ?_; rintro e w' ⟨rfl, X, rfl⟩)
        have HX : Hid ((pre ++ [(⟨kd, k, t, 0⟩ : LE)]) <+: yldL 0 s.data.toList) := ⟨yldL (k + n) ((s.data.toList.drop k).drop n), by rw [← HK.out, HY.out]; simp⟩
        have HN : Hid ((pre ++ [(⟨kd, k, t, 0⟩ : LE)]) ++ yldL (k + n) (s.data.toList.drop (k + n)) = yldL 0 s.data.toList) := by
          show _ = _
          rw [← HK.out, HY.out, List.drop_drop]; simp
        have hT : Turned (fun _ => False) wr ((wr.grow X).alloc (Obj.cells #[.int .i64 kd, .int .i64 k, .string ⟨t.toArray⟩] 30)) := ((Turned.refl _ _).grow X).alloc _
        have hb2 := hT.boxed hbx (fun h => h)
        obtain ⟨fn, tmps, assign, body, hy, hR⟩ := hY pre ⟨kd, k, t, 0⟩ _ HX.out (hJ _ _ _ hJs hT)
        simp only [LE.vals, Int.natCast_zero] at hy
        clear hc hT
        rw [hy]
        go_simp
        refine hR.mono ?_
        rintro e W3 (⟨rfl, hJ3, ht⟩ | ⟨rfl, hJx⟩)
        · have hb3 := ht.boxed hb2 hbw
          have hc3 := hb3.cell
          have hle : k + n ≤ s.size := by omega
          have HB2 := Lib.hid (fun W => blank_at s (k + n) W hm)
          have hbl := blk_le false (s.data.toList.drop (k + n))
          rw [List.length_drop, len_data] at hbl
          have hkn : ((k + n : Nat) : Int) = (k : Int) + n := Int.natCast_add _ _
          gi_wp2_with (gi_at_call 27; refine (callsIn_wide.2 (HB2.out _)).mono ?_; rintro e w' ⟨rfl, rfl⟩)
          go_roundw
          case rel =>
            refine ⟨k + n + blk false (s.data.toList.drop (k + n)), pre ++ [⟨kd, k, t, 0⟩], by omega, by go_num, hb3, hJ3, ?_⟩
            show _ = _
            rw [← HN.out, yldL_eq (k + n), List.drop_drop]
          case measure => simp [intOf]; omega
        · gi_wp2
          refine bodyPost_ret (results_none rfl _ _ _) rfl ?_
          exact ⟨⟨_, rfl⟩, .inr ⟨pre, _, HX.out, hJx⟩⟩
      | bad n =>
        unfold pieceV at HP
        rw [hp] at HP
        simp only [pieceW] at HP
        generalize hq : (if decide ((List.headD (List.drop k s.data.toList) 0).toNat = 34) = true then (3 : Int) else 0) = q at HP
        have HP := Lib.hid HP
        have HY := Lib.hid (yldH_bad (a := k) hne hp)
        have hn := (pieceL_le _).2 n hp
        rw [List.length_drop, len_data] at hn
        clear hne hp hq
        gi_wp2_with (gi_at_call 28; refine (callsIn_wide.2 (HP.out.out _)).mono ?_; rintro e w' ⟨rfl, X, rfl⟩)
        have HX : Hid (pre ++ [(⟨0, k + n, [], 2⟩ : LE)] = yldL 0 s.data.toList) := by
          show _ = _
          rw [← HK.out, HY.out]
        have hT : Turned (fun _ => False) wr ((wr.grow X).alloc (Obj.cells #[.int .i64 q, .int .i64 0, .string ⟨#[]⟩] 30)) := ((Turned.refl _ _).grow X).alloc _
        obtain ⟨fn, tmps, assign, body, hy, hR⟩ := hY pre ⟨0, k + n, [], 2⟩ _ ⟨[], by rw [HX.out]; simp⟩ (hJ _ _ _ hJs hT)
        simp only [LE.vals, Int.natCast_zero, Int.natCast_add, Int.cast_ofNat_Int] at hy
        clear hc hT
        rw [hy]
        go_simp
        refine hR.mono ?_
        rintro e W3 (⟨rfl, hJ3, ht⟩ | ⟨rfl, hJx⟩)
        · gi_wp2
          refine bodyPost_ret (results_none rfl _ _ _) rfl ?_
          exact ⟨⟨_, rfl⟩, .inl (HX.out ▸ hJ3)⟩
        · gi_wp2
          refine bodyPost_ret (results_none rfl _ _ _) rfl ?_
          exact ⟨⟨_, rfl⟩, .inr ⟨pre, _, ⟨[], by rw [HX.out]; simp⟩, hJx⟩⟩
    · have HE := Lib.hid (drop_end s k (by omega))
      gi_wp2
      go_end0
      refine ⟨⟨_, rfl⟩, .inl ?_⟩
      have := HK.out
      rw [HE.out] at this
      simp only [yldH, yldS, List.append_nil] at this
      rw [← this]; exact hJs
end Go.Proofs.Ytglnadikhcidnaa
