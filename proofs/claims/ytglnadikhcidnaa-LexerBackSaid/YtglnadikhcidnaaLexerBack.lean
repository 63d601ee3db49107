/- What was joined is scanned as the same pieces, and joined again it is the same text, for every list: LexerBack returns true. No condition: whatever the arguments. -/
import Derived.ProofKit
import Derived.ChangeSame
import Derived.ChangeAt
import Derived.SizedLaws
import Derived.OpenShut
import Derived.ShutString
import Derived.ChangeOld
import Derived.Test.YtglnadikhcidnaaRows
import Derived.Test.YtglnadikhcidnaaLexOpen
import Derived.Test.YtglnadikhcidnaaLexPlainE
namespace Go.Proofs.Ytglnadikhcidnaa.lexerBack
open Go.ChangeShapes Go.WideShapes Go.ChangeAt Go.RowKit
open Go.ChangeMaps (open_string shut_string)

theorem own : ownKnob Try.prog.godebug = none := by kernel_rfl
theorem laidOut : laidOutB Try.prog = true := by kernel_rfl


set_option maxRecDepth 100000 in
set_option maxHeartbeats 8000000 in
theorem walk (v : Value) (l : List Lz) (w : World) (h : Rd w v l.length 3 (lzCells l)) : Calls Try.prog 7 #[v] w (Ret (.bool true) w) := by
  have HF0 := Lib.hid (fun A => few_any v l (w.grow A) (h.grow A))
  have HR := Lib.hid h
  cases hf : fewB l
  · rw [hf] at HF0
    have HF := Lib.hid HF0.out
    clear hf HF0
    go_enter Try.func7, Try.ntmps7
    go_wp2_with (first | (go_at_call 9; refine (awake_any _).mono ?_; rintro e w' ⟨rfl, A, rfl⟩) | (go_at_call 14; (with_reducible refine (HF.out _).mono ?_); rintro e w' ⟨rfl, rfl⟩))
    go_ret
    exact Ret.of rfl (by repeat (first | with_reducible exact Below.refl _ _ | (with_reducible refine Below.alloc ?_ (by first | omega | (simp [go_sem] <;> omega)) _) | (with_reducible refine Below.drew ?_) | (with_reducible refine Below.drewN ?_ _) | (with_reducible refine Below.grow ?_ (by first | omega | (simp [go_sem] <;> omega)) _) | (with_reducible refine Below.setCell ?_ (by first | omega | (simp [go_sem] <;> omega)) _)))
  · rw [hf] at HF0
    have HF := Lib.hid HF0.out
    have HJ := Lib.hid (fun A => join_any v l (w.grow A) (h.grow A) hf)
    have HFF := Lib.hid hf
    clear hf HF0 h
    cases hj : joinL (l.map Lz.kt) with
    | none =>
      rw [hj] at HJ
      simp only [joinV] at HJ
      have HJ := Lib.hid HJ
      clear hj
      go_enter Try.func7, Try.ntmps7
      go_wp2_with (first | (go_at_call 9; refine (awake_any _).mono ?_; rintro e w' ⟨rfl, A, rfl⟩) | (go_at_call 14; (with_reducible refine (HF.out _).mono ?_); rintro e w' ⟨rfl, rfl⟩) | (go_at_call 15; (with_reducible refine (HJ.out.out _).mono ?_); rintro e w' ⟨rfl, X, rfl⟩))
      go_ret
      exact Ret.of rfl (by repeat (first | with_reducible exact Below.refl _ _ | (with_reducible refine Below.alloc ?_ (by first | omega | (simp [go_sem] <;> omega)) _) | (with_reducible refine Below.drew ?_) | (with_reducible refine Below.drewN ?_ _) | (with_reducible refine Below.grow ?_ (by first | omega | (simp [go_sem] <;> omega)) _) | (with_reducible refine Below.setCell ?_ (by first | omega | (simp [go_sem] <;> omega)) _)))
    | some s =>
      have hlen := join_len hj HFF.out
      rw [hj] at HJ
      simp only [joinV] at HJ
      have HJ := Lib.hid HJ
      by_cases h8 : 8192 < s.length
      · have HS := Lib.hid (fun W => scan_full ⟨s.toArray⟩ W (by show _ < s.toArray.size; simpa using h8))
        have b8 : decide ((8192 : Int) < s.length) = true := by simp; omega
        clear hj
        go_enter Try.func7, Try.ntmps7
        go_wp2_with (first | (go_at_call 9; refine (awake_any _).mono ?_; rintro e w' ⟨rfl, A, rfl⟩) | (go_at_call 14; (with_reducible refine (HF.out _).mono ?_); rintro e w' ⟨rfl, rfl⟩) | (go_at_call 15; (with_reducible refine (HJ.out.out _).mono ?_); rintro e w' ⟨rfl, X, rfl⟩) | (go_at_call 10; (with_reducible refine (HS.out _).mono ?_); rintro e w' ⟨rfl, X2, rfl⟩))
        go_ret
        exact Ret.of rfl (by repeat (first | with_reducible exact Below.refl _ _ | (with_reducible refine Below.alloc ?_ (by first | omega | (simp [go_sem] <;> omega)) _) | (with_reducible refine Below.drew ?_) | (with_reducible refine Below.drewN ?_ _) | (with_reducible refine Below.grow ?_ (by first | omega | (simp [go_sem] <;> omega)) _) | (with_reducible refine Below.setCell ?_ (by first | omega | (simp [go_sem] <;> omega)) _)))
      · obtain ⟨ys, hs1, hs2⟩ := join_scans hj
        have HS := Lib.hid (fun W => show Calls Try.prog 10 #[.string ⟨s.toArray⟩] W (scanP (.ok ys) W) from hs1 ▸ scan_any ⟨s.toArray⟩ W (by show s.toArray.size ≤ _; simp; omega))
        have HE := Lib.hid (lzeq_of (join_kinds hj) hs2)
        have HJ2 := Lib.hid (fun (u : Value) (W : World) (hu : Rd W u ys.length 3 (lxCells ys)) => show Calls Try.prog 15 #[u] W (Ret (.tuple #[.string ⟨s.toArray⟩, .int .i64 0]) W) from by
          have e : joinL ((ys.map Lx.z).map Lz.kt) = some s := by rw [kt_z, hs2, hj]
          have := join_any u (ys.map Lx.z) W (by rw [← lz_lx, List.length_map]; exact hu) (few_of hs2 HFF.out)
          rw [e] at this
          exact this)
        clear hj hs1 hs2 h8
        go_enter Try.func7, Try.ntmps7
        go_wp2_with (first | (go_at_call 9; refine (awake_any _).mono ?_; rintro e w' ⟨rfl, A, rfl⟩) | (go_at_call 14; (with_reducible refine (HF.out _).mono ?_); rintro e w' ⟨rfl, rfl⟩) | (go_at_call 15; (with_reducible refine (HJ.out.out _).mono ?_); rintro e w' ⟨rfl, X, rfl⟩) | (go_at_call 10; (with_reducible refine (HS.out _).mono ?_); intro e w1 h1; obtain ⟨A1, c1, hb1, rfl, hr1⟩ := scanP_ok h1; have hb1 := Lib.hid hb1; have hr1 := Lib.hid hr1; clear h1) | (go_at_call 15; (with_reducible refine (HJ2.out _ _ hr1.out).mono ?_); rintro e w' ⟨rfl, X3, rfl⟩) | (go_at_call 12; refine (samez_yes _ _ l (ys.map Lx.z) _ _ (((((HR.out.grow A).grow X).below hb1.out rfl)).grow X3) (by rw [← lz_lx, List.length_map]; exact hr1.out.grow X3) HE.out).mono ?_; rintro e w' ⟨rfl, X4, rfl⟩))
        go_ret
        exact Ret.of rfl (below_next (below_next (below_next (below_next (below_start w A) (below_start _ X)) hb1.out) (below_start _ X3)) (below_start _ X4))

set_option maxRecDepth 100000 in
theorem lifted (os : Os) (started : os.Started) (H : Type) (enc : TypeId × Value → H) :
    ReturnsInHanded {} Try.checked os 7 .any (Rows.lexerBackSpec.pre6 enc Try.prog Try.f7 Rows.lexerBackRow.domain false) (Rows.lexerBackSpec.post enc Try.prog Try.f7 false true false false) := by
  refine returnsInHanded_of_change (C := Try.checked) own started (by kernel_rfl) Try.func7
    (ChangeSpec.witness6 (enc := enc) (C := Try.checked) false ⟨#[], #[.slice none 0 0], []⟩ 8 (by kernel_rfl) (by kernel_rfl) (by kernel_rfl) (by kernel_rfl)) ?_
  intro W base args ds gs before hval0 hW hcnd _
  have hval : ∀ (j : Nat) t v, Try.f7.params[j]? = some t → args[j]? = some v → Value.okWide Try.prog W .any base t v := hval0
  have hW' := hW
  obtain ⟨p, q, hA0, hV, rfl, hfz, hnd⟩ := hW
  have hA : DataW.TrodAll enc Try.prog W 0 (fun _ => true) true Try.f7.params.toList args.toList ds p := hA0
  rw [Try.params7] at hA hval
  obtain ⟨v0, vs0, d0, ds0, p0, q0, hargs, rfl, rfl, h0, r0⟩ := trodAll_cons hA
  obtain ⟨rfl, rfl, rfl⟩ := trodAll_nil r0
  obtain rfl : args = #[v0] := by cases args; simp_all
  obtain ⟨rfl, rfl⟩ := trodVars_none hV
  obtain ⟨a0, len0, cap0, rfl⟩ := okWide_slice Try.underlying23 (hval 0 23 v0 rfl rfl)
  have k0 := h0
  have lt0 : ∀ x ∈ p0, x.block < W.heap.size := by obtain ⟨m, hm⟩ := k0; exact DataW.trod_lt m _ _ _ hm
  obtain ⟨z0, e0, w0⟩ : ∃ l, l.length = len0 ∧ Rd W (.slice a0 len0 cap0) l.length 3 (lzCells l) := by obtain ⟨fuel, hf⟩ := h0; exact lz_open (by simpa [Value.cells] using hf)
  clear hA0 hval0
  refine (walk (.slice a0 len0 cap0) z0 W w0).mono fun e W' hend => ?_
  obtain ⟨he, X, hX⟩ := hend
  have bel : Below W.heap.size W W' := by rw [hX]; exact below_grow W X
  subst he
  exact ⟨_, rfl, _, _, _, [], _, [], hW', trodAll_mk1 (shut_bool Try.underlying4 _), (trodAll_cons_mk (Below.trod laidOut (by kernel_rfl) (of_decide_eq_true (by kernel_rfl)) k0 bel lt0) trodAll_mk0), rfl, bel.frame _, fun h => by cases h⟩

theorem over : Rows.lexerBackRow.holds Try.pinned (OpenSpec.ofChange Rows.lexerBackSpec) :=
  OpenClaim.holds_of_wide 7 Try.f7 rfl rfl rfl rfl rfl rfl rfl ⟨rfl, rfl, rfl, rfl, rfl⟩ rfl rfl rfl rfl rfl (by kernel_rfl) Try.func7 (by kernel_rfl)
    (of_decide_eq_true (by kernel_rfl)) (by unfold Func.isWrapper; rw [if_neg (of_decide_eq_false (by kernel_rfl))]; exact ⟨rfl, rfl⟩)
    (fun os started H enc _ => lifted os started H enc)

/-- The statement. -/
theorem proved : Rows.LexerBackSaid := over

end Go.Proofs.Ytglnadikhcidnaa.lexerBack
