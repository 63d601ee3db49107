/- A text that can be quoted is scanned as one string of it, for every text: LexerQuotes returns true. No condition: whatever the arguments. -/
import Derived.ProofKit
import Derived.ChangeSame
import Derived.ChangeAt
import Derived.SizedLaws
import Derived.OpenShut
import Derived.ShutString
import Derived.ChangeOld
import Derived.Test.YtglnadikhcidnaaRows
import Derived.Test.YtglnadikhcidnaaLexM
import Derived.Test.YtglnadikhcidnaaLexPlainD
namespace Go.Proofs.Ytglnadikhcidnaa.lexerQuotes
open Go.ChangeShapes Go.WideShapes Go.ChangeAt Go.RowKit
open Go.ChangeMaps (open_string shut_string)

theorem own : ownKnob Try.prog.godebug = none := by kernel_rfl
theorem laidOut : laidOutB Try.prog = true := by kernel_rfl


theorem lex_eq (k a : Int) (s : ByteArray) (W : World) : (binOp .eql 30 (.agg #[.int .i64 k, .int .i64 a, .string s]) (.agg #[.int .i64 k, .int .i64 a, .string s])).run Try.prog W = .ok (.bool true) W := by
  have h2 : Try.prog.underlying 30 = some (.struct (Try.prog.fieldsOf 30)) := by kernel_rfl
  have h3 : Try.prog.stoodInHeld 30 = false := by kernel_rfl
  rw [run_eql_struct, run_equalIn_agg _ _ _ _ _ h2 h3]
  simp only [Program.fieldsOf, Try.underlying30]
  simp [go_sem, Try.underlying3, Try.underlying9]
theorem lex_guard : Try.prog.eqGuardType Try.prog.depth 30 = false := by kernel_rfl
set_option maxRecDepth 100000 in
set_option maxHeartbeats 4000000 in
theorem walk (s : ByteArray) (w : World) (_hm : s.size ≤ maxLen) : Calls Try.prog 5 #[.string s] w (Ret (.bool true) w) := by
  by_cases h1 : 1000 < s.size
  · have b1 : decide ((1000 : Int) < s.size) = true := by simp; omega
    clear h1 _hm
    go_enter Try.func5, Try.ntmps5
    go_wp2_with (go_at_call 9; refine (awake_any _).mono ?_; rintro e w' ⟨rfl, A, rfl⟩)
    go_ret
    exact Ret.of rfl (by repeat (first | with_reducible exact Below.refl _ _ | (with_reducible refine Below.alloc ?_ (by first | omega | (simp [go_sem] <;> omega)) _) | (with_reducible refine Below.drew ?_) | (with_reducible refine Below.drewN ?_ _) | (with_reducible refine Below.grow ?_ (by first | omega | (simp [go_sem] <;> omega)) _) | (with_reducible refine Below.setCell ?_ (by first | omega | (simp [go_sem] <;> omega)) _)))
  · have b1 : decide ((1000 : Int) < s.size) = false := by simp; omega
    have HQ := Lib.hid (fun W => quote_any s W (by omega))
    cases hq : quoteL s.data.toList with
    | none =>
      rw [hq] at HQ
      simp only [quoteV] at HQ
      have HQ := Lib.hid HQ
      clear hq h1 _hm
      go_enter Try.func5, Try.ntmps5
      go_wp2_with (first | (go_at_call 9; refine (awake_any _).mono ?_; rintro e w' ⟨rfl, A, rfl⟩) | (go_at_call 13; (with_reducible refine (HQ.out.out _).mono ?_); rintro e w' ⟨rfl, X, rfl⟩))
      go_ret
      exact Ret.of rfl (by repeat (first | with_reducible exact Below.refl _ _ | (with_reducible refine Below.alloc ?_ (by first | omega | (simp [go_sem] <;> omega)) _) | (with_reducible refine Below.drew ?_) | (with_reducible refine Below.drewN ?_ _) | (with_reducible refine Below.grow ?_ (by first | omega | (simp [go_sem] <;> omega)) _) | (with_reducible refine Below.setCell ?_ (by first | omega | (simp [go_sem] <;> omega)) _)))
    | some q =>
      rw [hq] at HQ
      simp only [quoteV] at HQ
      have HQ := Lib.hid HQ
      have hlen : q.length ≤ 8192 := by
        unfold quoteL at hq
        split at hq
        · cases hq
        · cases hq
          have h2 := esc_len s.data.toList
          rw [len_data] at h2
          simp; omega
      have HS := Lib.hid (fun W => show Calls Try.prog 10 #[.string ⟨q.toArray⟩] W (scanP (.ok [⟨3, 0, s.data.toList⟩]) W) from quote_scans hq ▸ scan_any ⟨q.toArray⟩ W (by show q.toArray.size ≤ _; simpa using hlen))
      have HE := lex_eq 3 0 s
      have HG := lex_guard
      clear hq h1 _hm hlen
      go_enter Try.func5, Try.ntmps5
      go_wp2_with (first | (go_at_call 9; refine (awake_any _).mono ?_; rintro e w' ⟨rfl, A, rfl⟩) | (go_at_call 13; (with_reducible refine (HQ.out.out _).mono ?_); rintro e w' ⟨rfl, X, rfl⟩) | (go_at_call 10; (with_reducible refine (HS.out _).mono ?_); intro e w1 h1; obtain ⟨A1, c1, hb1, rfl, hr1⟩ := scanP_ok h1; have hb1 := Lib.hid hb1; have hr1 := Lib.hid hr1; clear h1; obtain ⟨b, off, rfl, hlt, d0, d1, d2⟩ := hr1.out.lx 0 (by simp); have d2 : w1.cell? ⟨b, off + 0 * 3 + 2, none⟩ = some (.string s) := d2; simp only [List.getElem_cons_zero, Nat.zero_mul, Nat.add_zero, Int.cast_ofNat_Int, List.length_cons, List.length_nil, Nat.zero_add] at d0 d1 d2))
      go_ret
      exact Ret.of rfl (below_next (below_next (below_start w A) (below_start _ X)) hb1.out)

set_option maxRecDepth 100000 in
theorem lifted (os : Os) (started : os.Started) (H : Type) (enc : TypeId × Value → H) :
    ReturnsInHanded {} Try.checked os 5 .any (Rows.lexerQuotesSpec.pre6 enc Try.prog Try.f5 Rows.lexerQuotesRow.domain false) (Rows.lexerQuotesSpec.post enc Try.prog Try.f5 false true false false) := by
  refine returnsInHanded_of_change (C := Try.checked) own started (by kernel_rfl) Try.func5
    (ChangeSpec.witness6 (enc := enc) (C := Try.checked) false ⟨#[], #[.string ⟨#[]⟩], []⟩ 8 (by kernel_rfl) (by kernel_rfl) (by kernel_rfl) (by kernel_rfl)) ?_
  intro W base args ds gs before hval0 hW hcnd _
  have hval : ∀ (j : Nat) t v, Try.f5.params[j]? = some t → args[j]? = some v → Value.okWide Try.prog W .any base t v := hval0
  have hW' := hW
  obtain ⟨p, q, hA0, hV, rfl, hfz, hnd⟩ := hW
  have hA : DataW.TrodAll enc Try.prog W 0 (fun _ => true) true Try.f5.params.toList args.toList ds p := hA0
  rw [Try.params5] at hA hval
  obtain ⟨v0, vs0, d0, ds0, p0, q0, hargs, rfl, rfl, h0, r0⟩ := trodAll_cons hA
  obtain ⟨rfl, rfl, rfl⟩ := trodAll_nil r0
  obtain rfl : args = #[v0] := by cases args; simp_all
  obtain ⟨rfl, rfl⟩ := trodVars_none hV
  obtain ⟨s0, rfl, rfl, rfl, w0⟩ := open_string Try.underlying9 (hval 0 9 v0 rfl rfl) h0
  clear hA0 hval0
  refine (walk s0 W w0).mono fun e W' hend => ?_
  obtain ⟨he, X, hX⟩ := hend
  have bel : Below W.heap.size W W' := by rw [hX]; exact below_grow W X
  subst he
  exact ⟨_, rfl, _, _, _, [], _, [], hW', trodAll_mk1 (shut_bool Try.underlying4 _), (trodAll_cons_mk (shut_string Try.underlying9 w0) trodAll_mk0), rfl, bel.frame _, fun h => by cases h⟩

theorem over : Rows.lexerQuotesRow.holds Try.pinned (OpenSpec.ofChange Rows.lexerQuotesSpec) :=
  OpenClaim.holds_of_wide 5 Try.f5 rfl rfl rfl rfl rfl rfl rfl ⟨rfl, rfl, rfl, rfl, rfl⟩ rfl rfl rfl rfl rfl (by kernel_rfl) Try.func5 (by kernel_rfl)
    (of_decide_eq_true (by kernel_rfl)) (by unfold Func.isWrapper; rw [if_neg (of_decide_eq_false (by kernel_rfl))]; exact ⟨rfl, rfl⟩)
    (fun os started H enc _ => lifted os started H enc)

/-- The statement. -/
theorem proved : Rows.LexerQuotesSaid := over

end Go.Proofs.Ytglnadikhcidnaa.lexerQuotes
