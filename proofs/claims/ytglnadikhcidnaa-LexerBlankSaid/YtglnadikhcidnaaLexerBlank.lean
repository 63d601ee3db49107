/- Spaces, and remarks, between, ahead of, and behind pieces change nothing but where these begin, for every list: LexerBlank returns true. No condition: whatever the arguments. -/
import Derived.ProofKit
import Derived.ChangeSame
import Derived.ChangeAt
import Derived.SizedLaws
import Derived.OpenShut
import Derived.ShutString
import Derived.ChangeOld
import Derived.Test.YtglnadikhcidnaaRows
import Derived.Test.YtglnadikhcidnaaLexOpenB
namespace Go.Proofs.Ytglnadikhcidnaa.lexerBlank
open Go.ChangeShapes Go.WideShapes Go.ChangeAt Go.RowKit
open Go.ChangeMaps (open_string shut_string)

theorem own : ownKnob Try.prog.godebug = none := by kernel_rfl
theorem laidOut : laidOutB Try.prog = true := by kernel_rfl


theorem pick {K : Act → World → Prop} {a : Act} {d : Option Nat} {arr : Array Value} {i : Nat} {h : i < arr.size} {w : World} (v : Value) (hv : arr[i] = v) (k : K (a.put d v) w) : K (a.put d arr[i]) w := hv ▸ k
set_option maxRecDepth 100000 in
set_option maxHeartbeats 16000000 in
theorem walk (v : Value) (l : List Lz) (u : Value) (zs : List Int) (w : World) (h : Rd w v l.length 3 (lzCells l)) (hcap : ∀ a n c, v = .slice a n c → n ≤ c) (h2 : Rd w u zs.length 1 (zs.map (Value.int .i64))) : Calls Try.prog 8 #[v, u] w (Ret (.bool true) w) := by
  have HF0 := Lib.hid (fun A => few_any v l (w.grow A) (h.grow A))
  have HR := Lib.hid h
  have HZ := Lib.hid h2
  obtain ⟨_, hm, A0, c0, rfl, _⟩ := h
  obtain ⟨_, hm2, A2, c2, rfl, _⟩ := h2
  have hcap := hcap _ _ _ rfl
  cases hf : fewB l
  · rw [hf] at HF0
    have HF := Lib.hid HF0.out
    clear hf HF0
    go_enter Try.func8, Try.ntmps8
    go_wp2_with (first | (go_at_call 9; refine (awake_any _).mono ?_; rintro e w' ⟨rfl, A, rfl⟩) | (go_at_call 14; (with_reducible refine (HF.out _).mono ?_); rintro e w' ⟨rfl, rfl⟩))
    go_ret
    exact Ret.of rfl (by repeat (first | with_reducible exact Below.refl _ _ | (with_reducible refine Below.alloc ?_ (by first | omega | (simp [go_sem] <;> omega)) _) | (with_reducible refine Below.drew ?_) | (with_reducible refine Below.drewN ?_ _) | (with_reducible refine Below.grow ?_ (by first | omega | (simp [go_sem] <;> omega)) _) | (with_reducible refine Below.setCell ?_ (by first | omega | (simp [go_sem] <;> omega)) _)))
  · rw [hf] at HF0
    have HF := Lib.hid HF0.out
    have HFF := Lib.hid hf
    have hl100 := few_len hf
    clear hf HF0
    by_cases hz1 : 100 < zs.length
    · have bz : decide ((100 : Int) < zs.length) = true := by simp; omega
      clear hz1
      go_enter Try.func8, Try.ntmps8
      go_wp2_with (first | (go_at_call 9; refine (awake_any _).mono ?_; rintro e w' ⟨rfl, A, rfl⟩) | (go_at_call 14; (with_reducible refine (HF.out _).mono ?_); rintro e w' ⟨rfl, rfl⟩))
      go_ret
      exact Ret.of rfl (by repeat (first | with_reducible exact Below.refl _ _ | (with_reducible refine Below.alloc ?_ (by first | omega | (simp [go_sem] <;> omega)) _) | (with_reducible refine Below.drew ?_) | (with_reducible refine Below.drewN ?_ _) | (with_reducible refine Below.grow ?_ (by first | omega | (simp [go_sem] <;> omega)) _) | (with_reducible refine Below.setCell ?_ (by first | omega | (simp [go_sem] <;> omega)) _)))
    · have bz : decide ((100 : Int) < zs.length) = false := by simp; omega
      go_enter Try.func8, Try.ntmps8
      go_wp2_with (first | (go_at_call 9; refine (awake_any _).mono ?_; rintro e w' ⟨rfl, A, rfl⟩) | (go_at_call 14; (with_reducible refine (HF.out _).mono ?_); rintro e w' ⟨rfl, rfl⟩))
      go_loopw [7, 8] (fun sv i wr => ∃ (k : Nat) (sb : ByteArray), k ≤ l.length + 1 ∧ i = .int .i64 k ∧ sv = .string sb ∧ sb.size ≤ k * 1100 ∧ (∃ X, wr = w.grow X) ∧ Hid ((k ≤ l.length → Pre ((l.take k).map Lz.kt) sb.data.toList) ∧ (k = l.length + 1 → Woven (l.map Lz.kt) sb.data.toList))) (fun _ i _ => l.length + 1 - (intOf i).toNat)
      case atStart => exact ⟨0, ⟨#[]⟩, by omega, rfl, rfl, by decide, ⟨A, rfl⟩, fun _ => by simpa using Pre.nil, fun h => by omega⟩
      case round =>
        obtain ⟨k, sb, hk, rfl, rfl, hsb, ⟨X, rfl⟩, HK⟩ := hrel
        by_cases hlt : k ≤ l.length
        · obtain ⟨kd, hkd, hz⟩ : ∃ kd : Nat, kd < 4 ∧ ((∃ h : k < zs.length, bits .and .i64 zs[k] 3 = (kd : Int)) ∨ (¬ k < zs.length ∧ kd = 0)) := by
            by_cases hzk : k < zs.length
            · obtain ⟨kd, h1, h2⟩ := bits_and3 zs[k]
              exact ⟨kd, h1, Or.inl ⟨hzk, h2⟩⟩
            · exact ⟨0, by omega, Or.inr ⟨hzk, rfl⟩⟩
          have HP := Lib.hid (HK.out.1 hlt)
          have hx : (∃ (h : k < l.length), toldL l[k].kind.toNat l[k].text = none) ∨ (∃ (h : k < l.length) (t : Bs), toldL l[k].kind.toNat l[k].text = some t ∧ t.length ≤ 1002 ∧ Pre ((l.take (k + 1)).map Lz.kt) (sb.data.toList ++ blankOf kd ++ t)) ∨ (¬ k < l.length ∧ Woven (l.map Lz.kt) (sb.data.toList ++ blankOf kd)) := by
            by_cases hkl : k < l.length
            · cases ht : toldL l[k].kind.toNat l[k].text with
              | none => exact Or.inl ⟨hkl, ht⟩
              | some t =>
                refine Or.inr (Or.inl ⟨hkl, t, ht, ?_, ?_⟩)
                · have := told_len ht
                  have := few_text HFF.out k hkl
                  omega
                · have := HP.out.step (x := l[k].kt) (blank_of kd) ht
                  rw [List.take_succ_eq_append_getElem hkl, List.map_append]
                  exact this
            · have hkl2 : k = l.length := by omega
              have := HP.out.last (blank_of kd)
              rw [hkl2, List.take_length] at this
              exact Or.inr (Or.inr ⟨hkl, this⟩)
          have hbl := blank_len kd
          have hx2 : (k < zs.length ∧ (∃ b2 off2, A2 = some ⟨b2, off2, none⟩ ∧ b2 < w.heap.size ∧ ∃ z : Int, w.cell? ⟨b2, off2 + k, none⟩ = some (.int .i64 z) ∧ bits .and .i64 z 3 = (kd : Int))) ∨ (¬ k < zs.length ∧ kd = 0) := by
            rcases hz with ⟨hzk, hb⟩ | hz
            · obtain ⟨b2, off2, e, hb2, d0⟩ := HZ.out.int k hzk
              exact Or.inl ⟨hzk, b2, off2, e, hb2, _, d0, hb⟩
            · exact Or.inr hz
          clear hz HP HK
          rcases hx with ⟨hkl, ht⟩ | ⟨hkl, t, ht, htl, hpre⟩ | ⟨hkl, hwo⟩
          · obtain ⟨b, off, e, hb, _, _, _⟩ := HR.out.lz k hkl
            cases e
            have HJ := Lib.hid (fun X c' => show Calls Try.prog 15 #[.slice (some ⟨b, off + k * 3, none⟩) 1 c'] (w.grow X) (Ret (.tuple #[.string ⟨#[]⟩, .int .i64 1]) (w.grow X)) from by
              have := join_any (.slice (some ⟨b, off + k * 3, none⟩) 1 c') [l[k]] (w.grow X) ((HR.out.one k hkl).grow X) (few_one HFF.out k hkl)
              rw [join_one, ht] at this
              exact this)
            clear ht
            rcases hx2 with ⟨hzk, b2, off2, rfl, hb2, z, d0, hz⟩ | ⟨hzk, rfl⟩
            · obtain rfl | rfl | rfl | rfl : kd = 0 ∨ kd = 1 ∨ kd = 2 ∨ kd = 3 := by omega
              all_goals
                simp only [Int.cast_ofNat_Int] at hz
                go_wp2_with fail
                (first | refine pick (.string ⟨#[32]⟩) rfl ?_ | refine pick (.string ⟨#[9, 10]⟩) rfl ?_ | refine pick (.string ⟨#[32, 35, 32, 97, 32, 34, 98, 10]⟩) rfl ?_ | refine pick (.string ⟨#[12, 13, 35, 10, 32]⟩) rfl ?_)
                go_wp2_with (go_at_call 15; (with_reducible refine (HJ.out _ _).mono ?_); rintro e w' ⟨rfl, X1, rfl⟩)
                go_ret
                exact Ret.of rfl (by repeat (first | with_reducible exact Below.refl _ _ | (with_reducible refine Below.alloc ?_ (by first | omega | (simp [go_sem] <;> omega)) _) | (with_reducible refine Below.drew ?_) | (with_reducible refine Below.drewN ?_ _) | (with_reducible refine Below.grow ?_ (by first | omega | (simp [go_sem] <;> omega)) _) | (with_reducible refine Below.setCell ?_ (by first | omega | (simp [go_sem] <;> omega)) _)))
            · go_wp2_with fail
              (first | refine pick (.string ⟨#[32]⟩) rfl ?_ | refine pick (.string ⟨#[9, 10]⟩) rfl ?_ | refine pick (.string ⟨#[32, 35, 32, 97, 32, 34, 98, 10]⟩) rfl ?_ | refine pick (.string ⟨#[12, 13, 35, 10, 32]⟩) rfl ?_)
              go_wp2_with (go_at_call 15; (with_reducible refine (HJ.out _ _).mono ?_); rintro e w' ⟨rfl, X1, rfl⟩)
              go_ret
              exact Ret.of rfl (by repeat (first | with_reducible exact Below.refl _ _ | (with_reducible refine Below.alloc ?_ (by first | omega | (simp [go_sem] <;> omega)) _) | (with_reducible refine Below.drew ?_) | (with_reducible refine Below.drewN ?_ _) | (with_reducible refine Below.grow ?_ (by first | omega | (simp [go_sem] <;> omega)) _) | (with_reducible refine Below.setCell ?_ (by first | omega | (simp [go_sem] <;> omega)) _)))
          · obtain ⟨b, off, e, hb, _, _, _⟩ := HR.out.lz k hkl
            cases e
            have HJ := Lib.hid (fun X c' => show Calls Try.prog 15 #[.slice (some ⟨b, off + k * 3, none⟩) 1 c'] (w.grow X) (Ret (.tuple #[.string ⟨t.toArray⟩, .int .i64 0]) (w.grow X)) from by
              have := join_any (.slice (some ⟨b, off + k * 3, none⟩) 1 c') [l[k]] (w.grow X) ((HR.out.one k hkl).grow X) (few_one HFF.out k hkl)
              rw [join_one, ht] at this
              exact this)
            have HN : Hid ((k + 1 ≤ l.length → Pre ((l.take (k + 1)).map Lz.kt) ((sb ++ ⟨(blankOf kd).toArray⟩) ++ ⟨t.toArray⟩).data.toList) ∧ (k + 1 = l.length + 1 → Woven (l.map Lz.kt) ((sb ++ ⟨(blankOf kd).toArray⟩) ++ ⟨t.toArray⟩).data.toList)) :=
              ⟨fun _ => by rw [app_data, app_data]; exact hpre, fun h => by omega⟩
            have HN2 : Hid (((sb ++ ⟨(blankOf kd).toArray⟩) ++ ⟨t.toArray⟩ : ByteArray).size ≤ (k + 1) * 1100) := by
              show _ ≤ _
              rw [app_size, app_size]; show sb.size + (blankOf kd).toArray.size + t.toArray.size ≤ _; simp; omega
            clear ht hpre
            rcases hx2 with ⟨hzk, b2, off2, rfl, hb2, z, d0, hz⟩ | ⟨hzk, rfl⟩
            · obtain rfl | rfl | rfl | rfl : kd = 0 ∨ kd = 1 ∨ kd = 2 ∨ kd = 3 := by omega
              all_goals
                simp only [Int.cast_ofNat_Int] at hz
                go_wp2_with fail
                (first | refine pick (.string ⟨#[32]⟩) rfl ?_ | refine pick (.string ⟨#[9, 10]⟩) rfl ?_ | refine pick (.string ⟨#[32, 35, 32, 97, 32, 34, 98, 10]⟩) rfl ?_ | refine pick (.string ⟨#[12, 13, 35, 10, 32]⟩) rfl ?_)
                go_wp2_with (go_at_call 15; (with_reducible refine (HJ.out _ _).mono ?_); rintro e w' ⟨rfl, X1, rfl⟩)
                go_roundw
                case rel => exact ⟨k + 1, _, by omega, by go_num, rfl, HN2.out, ⟨_, grow_grow _ _ _⟩, HN⟩
                case measure => simp [intOf]; omega
            · go_wp2_with fail
              (first | refine pick (.string ⟨#[32]⟩) rfl ?_ | refine pick (.string ⟨#[9, 10]⟩) rfl ?_ | refine pick (.string ⟨#[32, 35, 32, 97, 32, 34, 98, 10]⟩) rfl ?_ | refine pick (.string ⟨#[12, 13, 35, 10, 32]⟩) rfl ?_)
              go_wp2_with (go_at_call 15; (with_reducible refine (HJ.out _ _).mono ?_); rintro e w' ⟨rfl, X1, rfl⟩)
              go_roundw
              case rel => exact ⟨k + 1, _, by omega, by go_num, rfl, HN2.out, ⟨_, grow_grow _ _ _⟩, HN⟩
              case measure => simp [intOf]; omega
          · have HN : Hid ((k + 1 ≤ l.length → Pre ((l.take (k + 1)).map Lz.kt) (sb ++ ⟨(blankOf kd).toArray⟩).data.toList) ∧ (k + 1 = l.length + 1 → Woven (l.map Lz.kt) (sb ++ ⟨(blankOf kd).toArray⟩).data.toList)) :=
              ⟨fun h => by omega, fun _ => by rw [app_data]; exact hwo⟩
            have HN2 : Hid ((sb ++ ⟨(blankOf kd).toArray⟩ : ByteArray).size ≤ (k + 1) * 1100) := by
              show _ ≤ _
              rw [app_size]; show sb.size + (blankOf kd).toArray.size ≤ _; simp; omega
            clear hwo
            rcases hx2 with ⟨hzk, b2, off2, rfl, hb2, z, d0, hz⟩ | ⟨hzk, rfl⟩
            · obtain rfl | rfl | rfl | rfl : kd = 0 ∨ kd = 1 ∨ kd = 2 ∨ kd = 3 := by omega
              all_goals
                simp only [Int.cast_ofNat_Int] at hz
                go_wp2_with fail
                (first | refine pick (.string ⟨#[32]⟩) rfl ?_ | refine pick (.string ⟨#[9, 10]⟩) rfl ?_ | refine pick (.string ⟨#[32, 35, 32, 97, 32, 34, 98, 10]⟩) rfl ?_ | refine pick (.string ⟨#[12, 13, 35, 10, 32]⟩) rfl ?_)
                go_wp2
                go_roundw
                case rel => exact ⟨k + 1, _, by omega, by go_num, rfl, HN2.out, ⟨_, rfl⟩, HN⟩
                case measure => simp [intOf]; omega
            · go_wp2_with fail
              (first | refine pick (.string ⟨#[32]⟩) rfl ?_ | refine pick (.string ⟨#[9, 10]⟩) rfl ?_ | refine pick (.string ⟨#[32, 35, 32, 97, 32, 34, 98, 10]⟩) rfl ?_ | refine pick (.string ⟨#[12, 13, 35, 10, 32]⟩) rfl ?_)
              go_wp2
              go_roundw
              case rel => exact ⟨k + 1, _, by omega, by go_num, rfl, HN2.out, ⟨_, rfl⟩, HN⟩
              case measure => simp [intOf]; omega
        · have hw := HK.out.2 (by omega)
          by_cases h8 : 8192 < sb.size
          · have HS := Lib.hid (fun W => scan_full sb W h8)
            have b8 : decide ((8192 : Int) < sb.size) = true := by simp; omega
            clear hw HK h8
            go_wp2_with (go_at_call 10; (with_reducible refine (HS.out _).mono ?_); rintro e w' ⟨rfl, X2, rfl⟩)
            go_ret
            exact Ret.of rfl (by repeat (first | with_reducible exact Below.refl _ _ | (with_reducible refine Below.alloc ?_ (by first | omega | (simp [go_sem] <;> omega)) _) | (with_reducible refine Below.drew ?_) | (with_reducible refine Below.drewN ?_ _) | (with_reducible refine Below.grow ?_ (by first | omega | (simp [go_sem] <;> omega)) _) | (with_reducible refine Below.setCell ?_ (by first | omega | (simp [go_sem] <;> omega)) _)))
          · obtain ⟨ys, hs1, hs2⟩ := woven_scans hw 0
            have HS := Lib.hid (fun W => show Calls Try.prog 10 #[.string sb] W (scanP (.ok ys) W) from hs1 ▸ scan_any sb W (by omega))
            have HKd := Lib.hid (woven_kinds hw)
            have HE := Lib.hid (lzeq_of (l := l) (ys := ys) (fun x hx => by
              obtain ⟨uu, hu⟩ := HKd.out x.kt (List.mem_map.2 ⟨x, hx, rfl⟩)
              exact told_kind hu) hs2)
            clear hw HK h8 hs1 hs2
            go_wp2_with (first | (go_at_call 10; (with_reducible refine (HS.out _).mono ?_); intro e w1 h1; obtain ⟨A1, c1, hb1, rfl, hr1⟩ := scanP_ok h1; have hb1 := Lib.hid hb1; have hr1 := Lib.hid hr1; clear h1) | (go_at_call 12; refine (samez_yes _ _ l (ys.map Lx.z) _ _ ((HR.out.grow X).below hb1.out rfl) (by rw [← lz_lx, List.length_map]; exact hr1.out) HE.out).mono ?_; rintro e w' ⟨rfl, X4, rfl⟩))
            go_ret
            exact Ret.of rfl (below_next (below_next (below_start w X) hb1.out) (below_start _ X4))

set_option maxRecDepth 100000 in
theorem lifted (os : Os) (started : os.Started) (H : Type) (enc : TypeId × Value → H) :
    ReturnsInHanded {} Try.checked os 8 .any (Rows.lexerBlankSpec.pre6 enc Try.prog Try.f8 Rows.lexerBlankRow.domain false) (Rows.lexerBlankSpec.post enc Try.prog Try.f8 false true false false) := by
  refine returnsInHanded_of_change (C := Try.checked) own started (by kernel_rfl) Try.func8
    (ChangeSpec.witness6 (enc := enc) (C := Try.checked) false ⟨#[], #[.slice none 0 0, .slice none 0 0], []⟩ 8 (by kernel_rfl) (by kernel_rfl) (by kernel_rfl) (by kernel_rfl)) ?_
  intro W base args ds gs before hval0 hW hcnd _
  have hval : ∀ (j : Nat) t v, Try.f8.params[j]? = some t → args[j]? = some v → Value.okWide Try.prog W .any base t v := hval0
  have hW' := hW
  obtain ⟨p, q, hA0, hV, rfl, hfz, hnd⟩ := hW
  have hA : DataW.TrodAll enc Try.prog W 0 (fun _ => true) true Try.f8.params.toList args.toList ds p := hA0
  rw [Try.params8] at hA hval
  obtain ⟨v0, vs0, d0, ds0, p0, q0, hargs, rfl, rfl, h0, r0⟩ := trodAll_cons hA
  obtain ⟨v1, vs1, d1, ds1, p1, q1, rfl, rfl, rfl, h1, r1⟩ := trodAll_cons r0
  obtain ⟨rfl, rfl, rfl⟩ := trodAll_nil r1
  obtain rfl : args = #[v0, v1] := by cases args; simp_all
  obtain ⟨rfl, rfl⟩ := trodVars_none hV
  obtain ⟨a0, len0, cap0, rfl⟩ := okWide_slice Try.underlying23 (hval 0 23 v0 rfl rfl)
  have k0 := h0
  have lt0 : ∀ x ∈ p0, x.block < W.heap.size := by obtain ⟨m, hm⟩ := k0; exact DataW.trod_lt m _ _ _ hm
  have s0 : ∀ a n c, Value.slice a0 len0 cap0 = .slice a n c → n ≤ c := by obtain ⟨fuel, hf⟩ := h0; intro a n c e; cases e; exact slice_room Try.underlying23 (by simpa [Value.cells] using hf)
  obtain ⟨z0, e0, w0⟩ : ∃ l, l.length = len0 ∧ Rd W (.slice a0 len0 cap0) l.length 3 (lzCells l) := by obtain ⟨fuel, hf⟩ := h0; exact lz_open (by simpa [Value.cells] using hf)
  obtain ⟨a1, len1, cap1, rfl⟩ := okWide_slice Try.underlying37 (hval 1 37 v1 rfl rfl)
  have k1 := h1
  have lt1 : ∀ x ∈ p1, x.block < W.heap.size := by obtain ⟨m, hm⟩ := k1; exact DataW.trod_lt m _ _ _ hm
  obtain ⟨z1, e1, w1⟩ : ∃ l : List Int, l.length = len1 ∧ Rd W (.slice a1 len1 cap1) l.length 1 (l.map (Value.int .i64)) := by obtain ⟨fuel, hf⟩ := h1; exact ints_open Try.underlying37 Try.underlying3 (by kernel_rfl) (by simpa [Value.cells] using hf)
  clear hA0 hval0
  refine (walk (.slice a0 len0 cap0) z0 (.slice a1 len1 cap1) z1 W w0 s0 w1).mono fun e W' hend => ?_
  obtain ⟨he, X, hX⟩ := hend
  have bel : Below W.heap.size W W' := by rw [hX]; exact below_grow W X
  subst he
  exact ⟨_, rfl, _, _, _, [], _, [], hW', trodAll_mk1 (shut_bool Try.underlying4 _), (trodAll_cons_mk (Below.trod laidOut (by kernel_rfl) (of_decide_eq_true (by kernel_rfl)) k0 bel lt0) (trodAll_cons_mk (Below.trod laidOut (by kernel_rfl) (of_decide_eq_true (by kernel_rfl)) k1 bel lt1) trodAll_mk0)), rfl, bel.frame _, fun h => by cases h⟩

theorem over : Rows.lexerBlankRow.holds Try.pinned (OpenSpec.ofChange Rows.lexerBlankSpec) :=
  OpenClaim.holds_of_wide 8 Try.f8 rfl rfl rfl rfl rfl rfl rfl ⟨rfl, rfl, rfl, rfl, rfl⟩ rfl rfl rfl rfl rfl (by kernel_rfl) Try.func8 (by kernel_rfl)
    (of_decide_eq_true (by kernel_rfl)) (by unfold Func.isWrapper; rw [if_neg (of_decide_eq_false (by kernel_rfl))]; exact ⟨rfl, rfl⟩)
    (fun os started H enc _ => lifted os started H enc)

/-- The statement. -/
theorem proved : Rows.LexerBlankSaid := over

end Go.Proofs.Ytglnadikhcidnaa.lexerBlank
