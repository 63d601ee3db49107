/- The program tells pieces as text, and any text as a string, just as the reference does: LexerJoins returns true. No condition: whatever the arguments. -/
import Derived.ProofKit
import Derived.ChangeSame
import Derived.ChangeAt
import Derived.SizedLaws
import Derived.OpenShut
import Derived.ShutString
import Derived.ChangeOld
import Derived.Test.YtglnadikhcidnaaRows
import Derived.Test.YtglnadikhcidnaaLexP
namespace Go.Proofs.Ytglnadikhcidnaa.lexerJoins
open Go.ChangeShapes Go.WideShapes Go.ChangeAt Go.RowKit
open Go.ChangeMaps (open_string shut_string)

theorem own : ownKnob Try.prog.godebug = none := by kernel_rfl
theorem laidOut : laidOutB Try.prog = true := by kernel_rfl


set_option maxRecDepth 100000 in
set_option maxHeartbeats 8000000 in
theorem walk (v : Value) (l : List Lz) (s : ByteArray) (w : World) (h : Rd w v l.length 3 (lzCells l)) (_hm : s.size ≤ maxLen) : Calls Try.prog 6 #[v, .string s] w (Ret (.bool true) w) := by
  have HF0 := Lib.hid (fun A => few_any v l (w.grow A) (h.grow A))
  have HR := Lib.hid h
  cases hf : fewB l
  · rw [hf] at HF0
    have HF := Lib.hid HF0.out
    clear hf HF0 _hm
    go_enter Try.func6, Try.ntmps6
    go_wp2_with (first | (go_at_call 9; refine (awake_any _).mono ?_; rintro e w' ⟨rfl, A, rfl⟩) | (go_at_call 14; (with_reducible refine (HF.out _).mono ?_); rintro e w' ⟨rfl, rfl⟩))
    go_ret
    exact Ret.of rfl (by repeat (first | with_reducible exact Below.refl _ _ | (with_reducible refine Below.alloc ?_ (by first | omega | (simp [go_sem] <;> omega)) _) | (with_reducible refine Below.drew ?_) | (with_reducible refine Below.drewN ?_ _) | (with_reducible refine Below.grow ?_ (by first | omega | (simp [go_sem] <;> omega)) _) | (with_reducible refine Below.setCell ?_ (by first | omega | (simp [go_sem] <;> omega)) _)))
  · rw [hf] at HF0
    have HF := Lib.hid HF0.out
    by_cases h1 : 1000 < s.size
    · have b1 : decide ((1000 : Int) < s.size) = true := by simp; omega
      clear hf HF0 h1 _hm
      go_enter Try.func6, Try.ntmps6
      go_wp2_with (first | (go_at_call 9; refine (awake_any _).mono ?_; rintro e w' ⟨rfl, A, rfl⟩) | (go_at_call 14; (with_reducible refine (HF.out _).mono ?_); rintro e w' ⟨rfl, rfl⟩))
      go_ret
      exact Ret.of rfl (by repeat (first | with_reducible exact Below.refl _ _ | (with_reducible refine Below.alloc ?_ (by first | omega | (simp [go_sem] <;> omega)) _) | (with_reducible refine Below.drew ?_) | (with_reducible refine Below.drewN ?_ _) | (with_reducible refine Below.grow ?_ (by first | omega | (simp [go_sem] <;> omega)) _) | (with_reducible refine Below.setCell ?_ (by first | omega | (simp [go_sem] <;> omega)) _)))
    · have b1 : decide ((1000 : Int) < s.size) = false := by simp; omega
      have HJ0 := Lib.hid (fun W (hW : Rd W v l.length 3 (lzCells l)) => join_any v l W hW hf)
      have HK0 := Lib.hid (fun W (hW : Rd W v l.length 3 (lzCells l)) => rjoin_any v l W hW hf)
      have HQ0 := Lib.hid (fun W => quote_any s W (by omega))
      have HP0 := Lib.hid (fun W => rquote_any s W (by omega))
      obtain ⟨p, q, hv⟩ : ∃ (p : ByteArray) (q : Int), joinV (joinL (l.map Lz.kt)) = .tuple #[.string p, .int .i64 q] := by
        cases joinL (l.map Lz.kt)
        · exact ⟨_, _, rfl⟩
        · exact ⟨_, _, rfl⟩
      obtain ⟨p2, q2, hv2⟩ : ∃ (p : ByteArray) (q : Bool), quoteV (quoteL s.data.toList) = .tuple #[.string p, .bool q] := by
        cases quoteL s.data.toList
        · exact ⟨_, _, rfl⟩
        · exact ⟨_, _, rfl⟩
      rw [hv] at HJ0 HK0
      rw [hv2] at HQ0 HP0
      have HJ := Lib.hid HJ0.out
      have HK := Lib.hid HK0.out
      have HQ := Lib.hid HQ0.out
      have HP := Lib.hid HP0.out
      clear hf HF0 h1 _hm hv hv2 HJ0 HK0 HQ0 HP0 h
      go_enter Try.func6, Try.ntmps6
      go_wp2_with (first | (go_at_call 9; refine (awake_any _).mono ?_; rintro e w' ⟨rfl, A, rfl⟩) | (go_at_call 14; (with_reducible refine (HF.out _).mono ?_); rintro e w' ⟨rfl, rfl⟩) | (go_at_call 15; (with_reducible refine (HJ.out _ (by repeat (first | with_reducible exact HR.out | with_reducible refine Rd.grow ?_ _))).mono ?_); rintro e w' ⟨rfl, X1, rfl⟩) | (go_at_call 16; (with_reducible refine (HK.out _ (by repeat (first | with_reducible exact HR.out | with_reducible refine Rd.grow ?_ _))).mono ?_); rintro e w' ⟨rfl, X2, rfl⟩) | (go_at_call 13; (with_reducible refine (HQ.out _).mono ?_); rintro e w' ⟨rfl, X3, rfl⟩) | (go_at_call 17; (with_reducible refine (HP.out _).mono ?_); rintro e w' ⟨rfl, X4, rfl⟩))
      go_ret
      exact Ret.of (by simp) (by repeat (first | with_reducible exact Below.refl _ _ | (with_reducible refine Below.alloc ?_ (by first | omega | (simp [go_sem] <;> omega)) _) | (with_reducible refine Below.drew ?_) | (with_reducible refine Below.drewN ?_ _) | (with_reducible refine Below.grow ?_ (by first | omega | (simp [go_sem] <;> omega)) _) | (with_reducible refine Below.setCell ?_ (by first | omega | (simp [go_sem] <;> omega)) _)))

set_option maxRecDepth 100000 in
theorem lifted (os : Os) (started : os.Started) (H : Type) (enc : TypeId × Value → H) :
    ReturnsInHanded {} Try.checked os 6 .any (Rows.lexerJoinsSpec.pre6 enc Try.prog Try.f6 Rows.lexerJoinsRow.domain false) (Rows.lexerJoinsSpec.post enc Try.prog Try.f6 false true false false) := by
  refine returnsInHanded_of_change (C := Try.checked) own started (by kernel_rfl) Try.func6
    (ChangeSpec.witness6 (enc := enc) (C := Try.checked) false ⟨#[], #[.slice none 0 0, .string ⟨#[]⟩], []⟩ 8 (by kernel_rfl) (by kernel_rfl) (by kernel_rfl) (by kernel_rfl)) ?_
  intro W base args ds gs before hval0 hW hcnd _
  have hval : ∀ (j : Nat) t v, Try.f6.params[j]? = some t → args[j]? = some v → Value.okWide Try.prog W .any base t v := hval0
  have hW' := hW
  obtain ⟨p, q, hA0, hV, rfl, hfz, hnd⟩ := hW
  have hA : DataW.TrodAll enc Try.prog W 0 (fun _ => true) true Try.f6.params.toList args.toList ds p := hA0
  rw [Try.params6] at hA hval
  obtain ⟨v0, vs0, d0, ds0, p0, q0, hargs, rfl, rfl, h0, r0⟩ := trodAll_cons hA
  obtain ⟨v1, vs1, d1, ds1, p1, q1, rfl, rfl, rfl, h1, r1⟩ := trodAll_cons r0
  obtain ⟨rfl, rfl, rfl⟩ := trodAll_nil r1
  obtain rfl : args = #[v0, v1] := by cases args; simp_all
  obtain ⟨rfl, rfl⟩ := trodVars_none hV
  obtain ⟨a0, len0, cap0, rfl⟩ := okWide_slice Try.underlying23 (hval 0 23 v0 rfl rfl)
  have k0 := h0
  have lt0 : ∀ x ∈ p0, x.block < W.heap.size := by obtain ⟨m, hm⟩ := k0; exact DataW.trod_lt m _ _ _ hm
  obtain ⟨z0, e0, w0⟩ : ∃ l, l.length = len0 ∧ Rd W (.slice a0 len0 cap0) l.length 3 (lzCells l) := by obtain ⟨fuel, hf⟩ := h0; exact lz_open (by simpa [Value.cells] using hf)
  obtain ⟨s1, rfl, rfl, rfl, w1⟩ := open_string Try.underlying9 (hval 1 9 v1 rfl rfl) h1
  clear hA0 hval0
  refine (walk (.slice a0 len0 cap0) z0 s1 W w0 w1).mono fun e W' hend => ?_
  obtain ⟨he, X, hX⟩ := hend
  have bel : Below W.heap.size W W' := by rw [hX]; exact below_grow W X
  subst he
  exact ⟨_, rfl, _, _, _, [], _, [], hW', trodAll_mk1 (shut_bool Try.underlying4 _), (trodAll_cons_mk (Below.trod laidOut (by kernel_rfl) (of_decide_eq_true (by kernel_rfl)) k0 bel lt0) (trodAll_cons_mk (shut_string Try.underlying9 w1) trodAll_mk0)), rfl, bel.frame _, fun h => by cases h⟩

theorem over : Rows.lexerJoinsRow.holds Try.pinned (OpenSpec.ofChange Rows.lexerJoinsSpec) :=
  OpenClaim.holds_of_wide 6 Try.f6 rfl rfl rfl rfl rfl rfl rfl ⟨rfl, rfl, rfl, rfl, rfl⟩ rfl rfl rfl rfl rfl (by kernel_rfl) Try.func6 (by kernel_rfl)
    (of_decide_eq_true (by kernel_rfl)) (by unfold Func.isWrapper; rw [if_neg (of_decide_eq_false (by kernel_rfl))]; exact ⟨rfl, rfl⟩)
    (fun os started H enc _ => lifted os started H enc)

/-- The statement. -/
theorem proved : Rows.LexerJoinsSaid := over

end Go.Proofs.Ytglnadikhcidnaa.lexerJoins
