/- What does not count, put anywhere between two pieces of an address or round it, changes nothing: SchemeHides returns true. No condition: whatever the arguments. -/
import Derived.ProofKit
import Derived.ChangeSame
import Derived.ChangeAt
import Derived.SizedLaws
import Derived.OpenShut
import Derived.ShutString
import Derived.ChangeOld
import Derived.LaidMore
import Derived.Lay
import Derived.SevenTiedAt
import Derived.Stop.Joined
import Derived.Test.YtbhhgbgfaemfdaaGreatDoorRows
import Derived.Test.YtbhhgbgfaemfdaaGreatDoorCards
import Derived.Test.YtbhhgbgfaemfdaaGreatDoorTie
import Derived.Test.YtbhhgbgfaemfdaaGreatDoorSchH
namespace Go.Proofs.YtbhhgbgfaemfdaaGreatDoor.schemeHides
open Go.ChangeShapes Go.WideShapes Go.ChangeAt Go.RowKit
open Go.ChangeMaps (open_string shut_string)

theorem own : ownKnob Tryz.prog.godebug = none := by kernel_rfl
theorem laidOut : laidOutB Tryz.prog = true := by kernel_rfl

attribute [local go_sem] Oper.semAt_some
theorem cat_h (s t : ByteArray) : ⟨#[0, 32]⟩ ++ s ++ ⟨#[9]⟩ ++ t ++ ⟨#[13, 32, 10]⟩ = (⟨(0 :: 32 :: (s.data.toList ++ 9 :: (t.data.toList ++ [13, 32, 10]))).toArray⟩ : ByteArray) := by
  refine ba_ext ?_
  simp
theorem cat_k (s t : ByteArray) : s ++ ⟨#[10, 13, 9]⟩ ++ t = (⟨(s.data.toList ++ 10 :: 13 :: 9 :: t.data.toList).toArray⟩ : ByteArray) := by
  refine ba_ext ?_
  simp
theorem filt_clean {p : Pol} {a b : Bs} (h : cleanL a = cleanL b) : filtL p a = filtL p b := by unfold filtL; rw [h]
set_option maxRecDepth 100000 in
set_option maxHeartbeats 8000000 in
theorem walk (t s u : ByteArray) (w : World) (hT : U8 w) (_ht : t.size ≤ maxLen) (_hs : s.size ≤ maxLen) (_hu : u.size ≤ maxLen) : Calls Tryz.prog 6 #[.string t, .string s, .string u] w (Ret (.bool true) w) := by
  have hmx : Tryz.prog.follows .mixedOrders = true := by kernel_rfl
  have HT := Lib.hid hT
  have HAw := Lib.hid (awake11_any w hT)
  clear hT
  by_cases h0 : 9000 < t.size
  · have b0 : decide ((9000 : Int) < t.size) = true := by simp; omega
    clear h0 _ht _hs _hu
    go_enter Tryz.func6, Tryz.ntmps6
    go_wp2_with (go_at_call 14; (with_reducible refine HAw.out.mono ?_); rintro e Wa ⟨rfl, Xa, rfl⟩)
    go_ret
    exact Ret.of rfl (by repeat (first | with_reducible exact Below.refl _ _ | (with_reducible refine Below.alloc ?_ (by first | omega | (simp [go_sem] <;> omega)) _) | (with_reducible refine Below.drew ?_) | (with_reducible refine Below.drewN ?_ _) | (with_reducible refine Below.grow ?_ (by first | omega | (simp [go_sem] <;> omega)) _) | (with_reducible refine Below.setCell ?_ (by first | omega | (simp [go_sem] <;> omega)) _)))
  have b0 : decide ((9000 : Int) < t.size) = false := by simp; omega
  by_cases h1 : 1000 < s.size
  · have b1 : decide ((1000 : Int) < s.size) = true := by simp; omega
    clear h0 h1 _ht _hs _hu
    go_enter Tryz.func6, Tryz.ntmps6
    go_wp2_with (go_at_call 14; (with_reducible refine HAw.out.mono ?_); rintro e Wa ⟨rfl, Xa, rfl⟩)
    go_ret
    exact Ret.of rfl (by repeat (first | with_reducible exact Below.refl _ _ | (with_reducible refine Below.alloc ?_ (by first | omega | (simp [go_sem] <;> omega)) _) | (with_reducible refine Below.drew ?_) | (with_reducible refine Below.drewN ?_ _) | (with_reducible refine Below.grow ?_ (by first | omega | (simp [go_sem] <;> omega)) _) | (with_reducible refine Below.setCell ?_ (by first | omega | (simp [go_sem] <;> omega)) _)))
  have b1 : decide ((1000 : Int) < s.size) = false := by simp; omega
  by_cases h2 : 1000 < u.size
  · have b2 : decide ((1000 : Int) < u.size) = true := by simp; omega
    clear h0 h1 h2 _ht _hs _hu
    go_enter Tryz.func6, Tryz.ntmps6
    go_wp2_with (go_at_call 14; (with_reducible refine HAw.out.mono ?_); rintro e Wa ⟨rfl, Xa, rfl⟩)
    go_ret
    exact Ret.of rfl (by repeat (first | with_reducible exact Below.refl _ _ | (with_reducible refine Below.alloc ?_ (by first | omega | (simp [go_sem] <;> omega)) _) | (with_reducible refine Below.drew ?_) | (with_reducible refine Below.drewN ?_ _) | (with_reducible refine Below.grow ?_ (by first | omega | (simp [go_sem] <;> omega)) _) | (with_reducible refine Below.setCell ?_ (by first | omega | (simp [go_sem] <;> omega)) _)))
  have b2 : decide ((1000 : Int) < u.size) = false := by simp; omega
  obtain ⟨a, c, P, G⟩ := comp_gen t.data.toList
  have HP := Lib.hid (fun W => show Calls Tryz.prog 23 #[.string t] W _ from G.run W)
  by_cases hc : c = 0
  rotate_left
  · have HP1 := Lib.hid (fun W => (HP.out W).mono (R' := fun e w' => e = .returned (.tuple #[.pointer none, .int .i64 a, .int .i64 c]) ∧ Below W.heap.size W w') (fun e w' h => by
      obtain ⟨h1, h2 | h2⟩ := h
      · exact ⟨h2.2, h1⟩
      · exact absurd h2.1 hc))
    have b9 : ((c : Int) != 0) = true := by simp; omega
    clear HP G h0 h1 h2 _ht _hs _hu
    go_enter Tryz.func6, Tryz.ntmps6
    go_wp2_with (first
      | (go_at_call 14; (with_reducible refine HAw.out.mono ?_); rintro e Wa ⟨rfl, Xa, hXa⟩; have hba : Below w.heap.size w Wa := (by rw [hXa]; exact (by repeat (first | with_reducible exact Below.refl _ _ | (with_reducible refine Below.alloc ?_ (by first | omega | (simp [go_sem] <;> omega)) _) | (with_reducible refine Below.drew ?_) | (with_reducible refine Below.drewN ?_ _) | (with_reducible refine Below.grow ?_ (by first | omega | (simp [go_sem] <;> omega)) _) | (with_reducible refine Below.setCell ?_ (by first | omega | (simp [go_sem] <;> omega)) _)))); have HA0 := Lib.hid hba; clear hXa hba)
      | (go_at_call 23; (with_reducible refine (HP1.out _).mono ?_); rintro e W1 ⟨rfl, hb1⟩; have HB1 := Lib.hid (HA0.out.trans (hb1.mono HA0.out.size)); clear hb1))
    go_ret
    exact Ret.of rfl HB1.out
  have HP1 := Lib.hid (fun W => (HP.out W).mono (R' := fun e w' => ∃ g, e = .returned (.tuple #[.pointer (some ⟨g, 0, none⟩), .int .i64 0, .int .i64 0]) ∧ Below W.heap.size W w' ∧ RulesV w' g P) (fun e w' h => by
      obtain ⟨h1, h2 | ⟨_, g, h3, _, h5⟩⟩ := h
      · exact absurd hc h2.1
      · exact ⟨g, h3, h1, h5⟩))
  clear HP G hc
  go_enter Tryz.func6, Tryz.ntmps6
  go_upto_region 4 with (go_at_call 14; (with_reducible refine HAw.out.mono ?_); rintro e Wa ⟨rfl, Xa, hXa⟩; have hba : Below w.heap.size w Wa := (by rw [hXa]; exact (by repeat (first | with_reducible exact Below.refl _ _ | (with_reducible refine Below.alloc ?_ (by first | omega | (simp [go_sem] <;> omega)) _) | (with_reducible refine Below.drew ?_) | (with_reducible refine Below.drewN ?_ _) | (with_reducible refine Below.grow ?_ (by first | omega | (simp [go_sem] <;> omega)) _) | (with_reducible refine Below.setCell ?_ (by first | omega | (simp [go_sem] <;> omega)) _)))); have HA0 := Lib.hid hba; clear hXa hba)
  go_upto_region 7 with (go_at_call 23; (with_reducible refine (HP1.out _).mono ?_); rintro e W1 ⟨g, rfl, hb1, hr1⟩; have HB1 := Lib.hid (HA0.out.trans (hb1.mono HA0.out.size)); have HR1 := Lib.hid hr1; clear hb1 hr1)
  clear HP1 HAw HA0
  have hbU := Lib.hid (fun W (hb : Below W1.heap.size W1 W) => (HT.out.below HB1.out).below hb)
  have hc1 : (s ++ u).data.toList = s.data.toList ++ u.data.toList := by simp
  have z1 : (s ++ u).size ≤ 1000000 := by simp; omega
  have z2 : (⟨#[0, 32]⟩ ++ s ++ ⟨#[9]⟩ ++ u ++ ⟨#[13, 32, 10]⟩ : ByteArray).size ≤ 1000000 := by
    rw [cat_h, ← len_data]
    simp only [List.length_cons, List.length_append, len_data, List.length_nil]
    omega
  have z3 : (s ++ ⟨#[10, 13, 9]⟩ ++ u : ByteArray).size ≤ 1000000 := by
    rw [cat_k, ← len_data]
    simp only [List.length_cons, List.length_append, len_data]
    omega
  obtain ⟨F, hF⟩ : ∃ F, filtL P (s ++ u).data.toList = F := ⟨_, rfl⟩
  have hF2 : filtL P (⟨#[0, 32]⟩ ++ s ++ ⟨#[9]⟩ ++ u ++ ⟨#[13, 32, 10]⟩ : ByteArray).data.toList = F := by
    rw [← hF, hc1, cat_h]
    exact filt_clean (hides _ _)
  have hF3 : filtL P (s ++ ⟨#[10, 13, 9]⟩ ++ u : ByteArray).data.toList = F := by
    rw [← hF, hc1, cat_k]
    exact filt_clean (hides2 _ _)
  have HF1 := Lib.hid (fun W (hb : Below W1.heap.size W1 W) => hF ▸ filter11_any g P (s ++ u) W (HR1.out.below hb) (hbU.out W hb) z1)
  have HF2 := Lib.hid (fun W (hb : Below W1.heap.size W1 W) => hF2 ▸ filter11_any g P ((⟨#[0, 32]⟩ : ByteArray) ++ s ++ (⟨#[9]⟩ : ByteArray) ++ u ++ (⟨#[13, 32, 10]⟩ : ByteArray)) W (HR1.out.below hb) (hbU.out W hb) z2)
  have HF3 := Lib.hid (fun W (hb : Below W1.heap.size W1 W) => hF3 ▸ filter11_any g P (s ++ (⟨#[10, 13, 9]⟩ : ByteArray) ++ u) W (HR1.out.below hb) (hbU.out W hb) z3)
  obtain ⟨fa, fi, hV⟩ : ∃ fa fi, filtV F = .tuple #[.string fa, .bool fi] := by
    cases F with
    | none => exact ⟨_, _, rfl⟩
    | some x => exact ⟨_, _, rfl⟩
  rw [hV] at HF1 HF2 HF3
  have q1 : s.size ≤ 1000 := by omega
  have q2 : u.size ≤ 1000 := by omega
  clear hF hF2 hF3 hV hc1 z1 z2 z3 h0 h1 h2 _ht _hs _hu b0 b1 b2
  go_wp2_with (first
    | (go_at_call 25; (with_reducible refine (HF1.out _ (by (repeat (first | with_reducible exact Below.refl _ _ | (with_reducible refine Below.alloc ?_ (by first | omega | (simp [go_sem] <;> omega)) _) | (with_reducible refine Below.drew ?_) | (with_reducible refine Below.drewN ?_ _) | (with_reducible refine Below.grow ?_ (by first | omega | (simp [go_sem] <;> omega)) _) | (with_reducible refine Below.setCell ?_ (by first | omega | (simp [go_sem] <;> omega)) _))); done)).mono ?_); rintro e V1 ⟨rfl, Y1, rfl⟩)
    | (go_at_call 25; (with_reducible refine (Ret.flat (HF2.out _ (by (repeat (first | with_reducible exact Below.refl _ _ | (with_reducible refine Below.alloc ?_ (by first | omega | (simp [go_sem] <;> omega)) _) | (with_reducible refine Below.drew ?_) | (with_reducible refine Below.drewN ?_ _) | (with_reducible refine Below.grow ?_ (by first | omega | (simp [go_sem] <;> omega)) _) | (with_reducible refine Below.setCell ?_ (by first | omega | (simp [go_sem] <;> omega)) _))); done))).mono ?_); rintro e V2 ⟨rfl, Y2, rfl⟩)
    | (go_at_call 25; (with_reducible refine (Ret.flat (HF3.out _ (by (repeat (first | with_reducible exact Below.refl _ _ | (with_reducible refine Below.alloc ?_ (by first | omega | (simp [go_sem] <;> omega)) _) | (with_reducible refine Below.drew ?_) | (with_reducible refine Below.drewN ?_ _) | (with_reducible refine Below.grow ?_ (by first | omega | (simp [go_sem] <;> omega)) _) | (with_reducible refine Below.setCell ?_ (by first | omega | (simp [go_sem] <;> omega)) _))); done))).mono ?_); rintro e V3 ⟨rfl, Y3, rfl⟩))
  go_ret
  exact Ret.of rfl (HB1.out.trans (((by repeat (first | with_reducible exact Below.refl _ _ | (with_reducible refine Below.alloc ?_ (by first | omega | (simp [go_sem] <;> omega)) _) | (with_reducible refine Below.drew ?_) | (with_reducible refine Below.drewN ?_ _) | (with_reducible refine Below.grow ?_ (by first | omega | (simp [go_sem] <;> omega)) _) | (with_reducible refine Below.setCell ?_ (by first | omega | (simp [go_sem] <;> omega)) _))) : Below W1.heap.size W1 _).mono HB1.out.size))
set_option maxRecDepth 100000 in
theorem lifted (os : Os) (started : os.Started) (H : Type) (enc : TypeId × Value → H) :
    ReturnsInHanded {} Tryz.checked os 6 .any (fun w args => (Rows.schemeHidesSpec.pre enc Tryz.prog Tryz.f6 Rows.schemeHidesRow.domain false w args ∧ laidMetH Tryz.prog Rows.schemeHidesRow.laid w) ∧ sizedMet enc Tryz.prog Tryz.f6 (OpenSpec.ofChange Rows.schemeHidesSpec) false w args) (Rows.schemeHidesSpec.post enc Tryz.prog Tryz.f6 false true false false) := by
  refine handed11 (C := Tryz.checked) (X := fun w _ => laidMetH Tryz.prog Rows.schemeHidesRow.laid w) (fun _ _ _ hh h => h.of_heap hh) own started (by kernel_rfl) Tryz.func6
    (ChangeSpec.witness_shaped (enc := enc) (C := Tryz.checked) (os := os) (X := fun w _ => laidMetH Tryz.prog Rows.schemeHidesRow.laid w) false (World.laidAll Tryz.prog os Rows.schemeHidesRow.laid) #[.string ⟨#[]⟩, .string ⟨#[]⟩, .string ⟨#[]⟩] 8 (World.laidAll_os _ _ _)
      (World.shaped_of_ZipB (by kernel_rfl) (by kernel_rfl)) (by kernel_rfl) (by kernel_rfl) (by kernel_rfl)
      (by rw [MakeChecks.laidMetH_plain _ _ _ (by kernel_rfl)]; exact laidMet_laidAll _ (by kernel_rfl) (by kernel_rfl))) ?_
  intro W base args ds gs before hval0 hW hL _
  have hval : ∀ (j : Nat) t v, Tryz.f6.params[j]? = some t → args[j]? = some v → Value.okWide Tryz.prog W .any base t v := hval0
  have hW' := hW
  obtain ⟨p, q, hA0, hV, rfl, hfz, hnd⟩ := hW
  have hA : DataW.TrodAll enc Tryz.prog W 0 (fun _ => true) true Tryz.f6.params.toList args.toList ds p := hA0
  rw [Tryz.params6] at hA hval
  obtain ⟨v0, vs0, d0, ds0, p0, q0, hargs, rfl, rfl, h0, r0⟩ := trodAll_cons hA
  obtain ⟨v1, vs1, d1, ds1, p1, q1, rfl, rfl, rfl, h1, r1⟩ := trodAll_cons r0
  obtain ⟨v2, vs2, d2, ds2, p2, q2, rfl, rfl, rfl, h2, r2⟩ := trodAll_cons r1
  obtain ⟨rfl, rfl, rfl⟩ := trodAll_nil r2
  obtain rfl : args = #[v0, v1, v2] := by cases args; simp_all
  obtain ⟨rfl, rfl⟩ := trodVars_none hV
  obtain ⟨s0, rfl, rfl, rfl, w0⟩ := open_string Tryz.underlying9 (hval 0 9 v0 rfl rfl) h0
  obtain ⟨s1, rfl, rfl, rfl, w1⟩ := open_string Tryz.underlying9 (hval 1 9 v1 rfl rfl) h1
  obtain ⟨s2, rfl, rfl, rfl, w2⟩ := open_string Tryz.underlying9 (hval 2 9 v2 rfl rfl) h2
  clear hA0 hval0
  refine (walk s0 s1 s2 W (u8_laid hL (by rfl)) w0 w1 w2).mono fun e W' hend => ?_
  obtain ⟨he, X, hX⟩ := hend
  have bel : Below W.heap.size W W' := by rw [hX]; exact below_grow W X
  subst he
  exact ⟨_, rfl, _, _, _, [], _, [], hW', trodAll_mk1 (shut_bool Tryz.underlying4 _), (trodAll_cons_mk (shut_string Tryz.underlying9 w0) (trodAll_cons_mk (shut_string Tryz.underlying9 w1) (trodAll_cons_mk (shut_string Tryz.underlying9 w2) trodAll_mk0))), rfl, bel.frame _, fun h => by cases h⟩

theorem over : Rows.schemeHidesRow.holds Tryz.pinned (OpenSpec.ofChange Rows.schemeHidesSpec) :=
  OpenClaim.holds_of_wide 6 Tryz.f6 rfl rfl rfl rfl rfl rfl rfl ⟨rfl, rfl, rfl, rfl, rfl⟩ rfl rfl rfl rfl rfl (by kernel_rfl) Tryz.func6 (by kernel_rfl)
    (of_decide_eq_true (by kernel_rfl)) (by unfold Func.isWrapper; rw [if_neg (of_decide_eq_false (by kernel_rfl))]; exact ⟨rfl, rfl⟩)
    (fun os started H enc _ => lifted os started H enc)

/-- The statement. -/
theorem proved : Rows.SchemeHidesCardSaid :=
  Claim7.holds_tied_plain_at .later [] [.data, .pinned] true _ true over (fun _ h => by cases h) (by kernel_rfl) (fun _ h => by cases h) schemeHides_row_tie rfl ⟨rfl, rfl⟩ (by kernel_rfl) rfl
    (fun f fn hf hfn => by
      obtain rfl : f = 6 := Option.some.inj ((show Tryz.prog.funcNamed "cribble/cribblelaw11.SchemeHides" = some 6 by kernel_rfl).symm.trans hf) |>.symm
      obtain rfl : fn = Tryz.f6 := (Option.some.inj (Tryz.func6.symm.trans hfn)).symm
      exact ⟨by kernel_rfl, fun j t ht => by
        rw [Tryz.params6] at ht
        have hm : t ∈ [9, 9, 9] := by simpa using Array.mem_of_getElem? ht
        have hall : ([9, 9, 9].all fun u => !Tryz.prog.wantsStandIn u) = true := by kernel_rfl
        exact (show Tryz.prog.wantsStandIn t = false by simpa using List.all_eq_true.1 hall t hm)⟩)
    (by kernel_rfl)

end Go.Proofs.YtbhhgbgfaemfdaaGreatDoor.schemeHides
