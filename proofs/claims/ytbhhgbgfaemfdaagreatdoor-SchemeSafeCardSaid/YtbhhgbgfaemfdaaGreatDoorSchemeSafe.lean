/- What is told is clean, allowed again, and told as it is: SchemeSafe returns true. No condition: whatever the arguments. -/
import Derived.ProofKit
import Derived.ChangeSame
import Derived.ChangeAt
import Derived.SizedLaws
import Derived.OpenShut
import Derived.ShutString
import Derived.ChangeOld
import Derived.LaidMore
import Derived.Lay
import Derived.SevenTiedAt
import Derived.Stop.Joined
import Derived.Test.YtbhhgbgfaemfdaaGreatDoorRows
import Derived.Test.YtbhhgbgfaemfdaaGreatDoorCards
import Derived.Test.YtbhhgbgfaemfdaaGreatDoorTie
import Derived.Test.YtbhhgbgfaemfdaaGreatDoorSchH
namespace Go.Proofs.YtbhhgbgfaemfdaaGreatDoor.schemeSafe
open Go.ChangeShapes Go.WideShapes Go.ChangeAt Go.RowKit
open Go.ChangeMaps (open_string shut_string)

theorem own : ownKnob Tryz.prog.godebug = none := by kernel_rfl
theorem laidOut : laidOutB Tryz.prog = true := by kernel_rfl

attribute [local go_sem] Oper.semAt_some
set_option maxRecDepth 100000 in
set_option maxHeartbeats 8000000 in
theorem walk (t s : ByteArray) (w : World) (hT : U8 w) (_ht : t.size ≤ maxLen) (_hs : s.size ≤ maxLen) : Calls Tryz.prog 5 #[.string t, .string s] w (Ret (.bool true) w) := by
  have hmx : Tryz.prog.follows .mixedOrders = true := by kernel_rfl
  have HT := Lib.hid hT
  have HAw := Lib.hid (awake11_any w hT)
  clear hT
  by_cases h0 : 9000 < t.size
  · have b0 : decide ((9000 : Int) < t.size) = true := by simp; omega
    clear h0 _ht _hs
    go_enter Tryz.func5, Tryz.ntmps5
    go_wp2_with (go_at_call 14; (with_reducible refine HAw.out.mono ?_); rintro e Wa ⟨rfl, Xa, rfl⟩)
    go_ret
    exact Ret.of rfl (by repeat (first | with_reducible exact Below.refl _ _ | (with_reducible refine Below.alloc ?_ (by first | omega | (simp [go_sem] <;> omega)) _) | (with_reducible refine Below.drew ?_) | (with_reducible refine Below.drewN ?_ _) | (with_reducible refine Below.grow ?_ (by first | omega | (simp [go_sem] <;> omega)) _) | (with_reducible refine Below.setCell ?_ (by first | omega | (simp [go_sem] <;> omega)) _)))
  have b0 : decide ((9000 : Int) < t.size) = false := by simp; omega
  by_cases h1 : 2000 < s.size
  · have b1 : decide ((2000 : Int) < s.size) = true := by simp; omega
    clear h0 h1 _ht _hs
    go_enter Tryz.func5, Tryz.ntmps5
    go_wp2_with (go_at_call 14; (with_reducible refine HAw.out.mono ?_); rintro e Wa ⟨rfl, Xa, rfl⟩)
    go_ret
    exact Ret.of rfl (by repeat (first | with_reducible exact Below.refl _ _ | (with_reducible refine Below.alloc ?_ (by first | omega | (simp [go_sem] <;> omega)) _) | (with_reducible refine Below.drew ?_) | (with_reducible refine Below.drewN ?_ _) | (with_reducible refine Below.grow ?_ (by first | omega | (simp [go_sem] <;> omega)) _) | (with_reducible refine Below.setCell ?_ (by first | omega | (simp [go_sem] <;> omega)) _)))
  have b1 : decide ((2000 : Int) < s.size) = false := by simp; omega
  obtain ⟨a, c, P, G⟩ := comp_gen t.data.toList
  have HP := Lib.hid (fun W => show Calls Tryz.prog 23 #[.string t] W _ from G.run W)
  by_cases hc : c = 0
  rotate_left
  · have HP1 := Lib.hid (fun W => (HP.out W).mono (R' := fun e w' => e = .returned (.tuple #[.pointer none, .int .i64 a, .int .i64 c]) ∧ Below W.heap.size W w') (fun e w' h => by
      obtain ⟨h1, h2 | h2⟩ := h
      · exact ⟨h2.2, h1⟩
      · exact absurd h2.1 hc))
    have b9 : ((c : Int) != 0) = true := by simp; omega
    clear HP G h0 h1 _ht _hs
    go_enter Tryz.func5, Tryz.ntmps5
    go_wp2_with (first
      | (go_at_call 14; (with_reducible refine HAw.out.mono ?_); rintro e Wa ⟨rfl, Xa, hXa⟩; have hba : Below w.heap.size w Wa := (by rw [hXa]; exact (by repeat (first | with_reducible exact Below.refl _ _ | (with_reducible refine Below.alloc ?_ (by first | omega | (simp [go_sem] <;> omega)) _) | (with_reducible refine Below.drew ?_) | (with_reducible refine Below.drewN ?_ _) | (with_reducible refine Below.grow ?_ (by first | omega | (simp [go_sem] <;> omega)) _) | (with_reducible refine Below.setCell ?_ (by first | omega | (simp [go_sem] <;> omega)) _)))); have HA0 := Lib.hid hba; clear hXa hba)
      | (go_at_call 23; (with_reducible refine (HP1.out _).mono ?_); rintro e W1 ⟨rfl, hb1⟩; have HB1 := Lib.hid (HA0.out.trans (hb1.mono HA0.out.size)); clear hb1))
    go_ret
    exact Ret.of rfl HB1.out
  have HP1 := Lib.hid (fun W => (HP.out W).mono (R' := fun e w' => ∃ g, e = .returned (.tuple #[.pointer (some ⟨g, 0, none⟩), .int .i64 0, .int .i64 0]) ∧ Below W.heap.size W w' ∧ RulesV w' g P) (fun e w' h => by
      obtain ⟨h1, h2 | ⟨_, g, h3, _, h5⟩⟩ := h
      · exact absurd hc h2.1
      · exact ⟨g, h3, h1, h5⟩))
  clear HP G hc
  go_enter Tryz.func5, Tryz.ntmps5
  go_upto_region 4 with (go_at_call 14; (with_reducible refine HAw.out.mono ?_); rintro e Wa ⟨rfl, Xa, hXa⟩; have hba : Below w.heap.size w Wa := (by rw [hXa]; exact (by repeat (first | with_reducible exact Below.refl _ _ | (with_reducible refine Below.alloc ?_ (by first | omega | (simp [go_sem] <;> omega)) _) | (with_reducible refine Below.drew ?_) | (with_reducible refine Below.drewN ?_ _) | (with_reducible refine Below.grow ?_ (by first | omega | (simp [go_sem] <;> omega)) _) | (with_reducible refine Below.setCell ?_ (by first | omega | (simp [go_sem] <;> omega)) _)))); have HA0 := Lib.hid hba; clear hXa hba)
  go_upto_region 7 with (go_at_call 23; (with_reducible refine (HP1.out _).mono ?_); rintro e W1 ⟨g, rfl, hb1, hr1⟩; have HB1 := Lib.hid (HA0.out.trans (hb1.mono HA0.out.size)); have HR1 := Lib.hid hr1; clear hb1 hr1)
  clear HP1 HAw HA0
  have HFi := Lib.hid (fun W (hb : Below W1.heap.size W1 W) => filter11_any g P s W (HR1.out.below hb) ((HT.out.below HB1.out).below hb) (by omega))
  obtain ⟨F, hF⟩ : ∃ F, filtL P s.data.toList = F := ⟨_, rfl⟩
  rw [hF] at HFi
  cases F with
  | none =>
    have HFj := Lib.hid (fun W (hb : Below W1.heap.size W1 W) => show Calls Tryz.prog 25 #[.pointer (some ⟨g, 0, none⟩), .string s] W (Ret (.tuple #[.string ⟨#[]⟩, .bool false]) W) from HFi.out W hb)
    clear hF HFi h0 h1 _ht _hs
    go_wp2_with (go_at_call 25; (with_reducible refine (HFj.out _ (by (repeat (first | with_reducible exact Below.refl _ _ | (with_reducible refine Below.alloc ?_ (by first | omega | (simp [go_sem] <;> omega)) _) | (with_reducible refine Below.drew ?_) | (with_reducible refine Below.drewN ?_ _) | (with_reducible refine Below.grow ?_ (by first | omega | (simp [go_sem] <;> omega)) _) | (with_reducible refine Below.setCell ?_ (by first | omega | (simp [go_sem] <;> omega)) _))); done)).mono ?_); rintro e V1 ⟨rfl, Y1, rfl⟩)
    go_ret
    exact Ret.of rfl (HB1.out.trans (((by repeat (first | with_reducible exact Below.refl _ _ | (with_reducible refine Below.alloc ?_ (by first | omega | (simp [go_sem] <;> omega)) _) | (with_reducible refine Below.drew ?_) | (with_reducible refine Below.drewN ?_ _) | (with_reducible refine Below.grow ?_ (by first | omega | (simp [go_sem] <;> omega)) _) | (with_reducible refine Below.setCell ?_ (by first | omega | (simp [go_sem] <;> omega)) _))) : Below W1.heap.size W1 _).mono HB1.out.size))
  | some x =>
    have HFj := Lib.hid (fun W (hb : Below W1.heap.size W1 W) => show Calls Tryz.prog 25 #[.pointer (some ⟨g, 0, none⟩), .string s] W (Ret (.tuple #[.string ⟨x.toArray⟩, .bool true]) W) from HFi.out W hb)
    obtain ⟨hs1, hs2, hs3⟩ := filt_safe hF
    have hxl : x.length ≤ 1000000 := by
      have h9 := filt_len hF
      rw [len_data] at h9
      omega
    have hxs : (⟨x.toArray⟩ : ByteArray).size ≤ 1000000 := by show x.toArray.size ≤ _; simpa using hxl
    have HFk := Lib.hid (fun W (hb : Below W1.heap.size W1 W) => show Calls Tryz.prog 25 #[.pointer (some ⟨g, 0, none⟩), .string ⟨x.toArray⟩] W (Ret (.tuple #[.string ⟨x.toArray⟩, .bool true]) W) from by
      have h := filter11_any g P ⟨x.toArray⟩ W (HR1.out.below hb) ((HT.out.below HB1.out).below hb) hxs
      rw [show filtL P (⟨x.toArray⟩ : ByteArray).data.toList = some x from hs2] at h
      exact h)
    have HCl := Lib.hid (fun W (hb : Below W1.heap.size W1 W) => show Calls Tryz.prog 17 #[.string ⟨x.toArray⟩] W (Ret (.string ⟨x.toArray⟩) W) from by
      have h := clean11_any ⟨x.toArray⟩ W ((HT.out.below HB1.out).below hb) (by omega)
      rw [show cleanL (⟨x.toArray⟩ : ByteArray).data.toList = x from hs1] at h
      exact h)
    have HSp := Lib.hid (fun W => show Calls Tryz.prog 15 #[.string ⟨x.toArray⟩] W (Ret (splitV ⟨x.toArray⟩ (splitL x)) W) from split11_any ⟨x.toArray⟩ W (by omega))
    have HLo := Lib.hid (fun W => show Calls Tryz.prog 19 #[.string ⟨x.toArray⟩] W (Ret (.bool (localL x)) W) from local11_any ⟨x.toArray⟩ W (by omega))
    have HRe := Lib.hid (fun W (hb : Below W1.heap.size W1 W) => relative_any g P W (HR1.out.below hb))
    cases hsp : splitL x with
    | some y =>
      obtain ⟨n, r⟩ := y
      have HSq := Lib.hid (fun W => show Calls Tryz.prog 15 #[.string ⟨x.toArray⟩] W (Ret (.tuple #[.string ⟨n.toArray⟩, .string ⟨r.toArray⟩, .bool true]) W) from (by have h9 := HSp.out W; rw [hsp] at h9; exact h9))
      have hn : n.length ≤ maxLen := Nat.le_trans (split11_len hsp).1 (Nat.le_trans hxl (by simp [maxLen]))
      rw [hsp] at hs3
      have HSc := Lib.hid (fun W (hb : Below W1.heap.size W1 W) => show Calls Tryz.prog 27 #[.pointer (some ⟨g, 0, none⟩), .string ⟨n.toArray⟩] W (Ret (.bool true) W) from hs3 ▸ scheme_any g P n W (HR1.out.below hb) hn)
      clear hF HFi h0 h1 _ht _hs hs1 hs2 hs3 hxl hxs hsp hn HSp HLo HRe
      generalize (⟨x.toArray⟩ : ByteArray) = xb at *
      generalize (⟨n.toArray⟩ : ByteArray) = nb at *
      generalize (⟨r.toArray⟩ : ByteArray) = rb at *
      go_wp2_with (first
        | (go_at_call 25; (with_reducible refine (HFj.out _ (by (repeat (first | with_reducible exact Below.refl _ _ | (with_reducible refine Below.alloc ?_ (by first | omega | (simp [go_sem] <;> omega)) _) | (with_reducible refine Below.drew ?_) | (with_reducible refine Below.drewN ?_ _) | (with_reducible refine Below.grow ?_ (by first | omega | (simp [go_sem] <;> omega)) _) | (with_reducible refine Below.setCell ?_ (by first | omega | (simp [go_sem] <;> omega)) _))); done)).mono ?_); rintro e V1 ⟨rfl, Y1, rfl⟩)
        | (go_at_call 25; (with_reducible refine (Ret.flat (HFk.out _ (by (repeat (first | with_reducible exact Below.refl _ _ | (with_reducible refine Below.alloc ?_ (by first | omega | (simp [go_sem] <;> omega)) _) | (with_reducible refine Below.drew ?_) | (with_reducible refine Below.drewN ?_ _) | (with_reducible refine Below.grow ?_ (by first | omega | (simp [go_sem] <;> omega)) _) | (with_reducible refine Below.setCell ?_ (by first | omega | (simp [go_sem] <;> omega)) _))); done))).mono ?_); rintro e V2 ⟨rfl, Y2, rfl⟩)
        | (go_at_call 15; (with_reducible refine (Ret.flat (HSq.out _)).mono ?_); rintro e V3 ⟨rfl, Y3, rfl⟩)
        | (go_at_call 17; (with_reducible refine (Ret.flat (HCl.out _ (by (repeat (first | with_reducible exact Below.refl _ _ | (with_reducible refine Below.alloc ?_ (by first | omega | (simp [go_sem] <;> omega)) _) | (with_reducible refine Below.drew ?_) | (with_reducible refine Below.drewN ?_ _) | (with_reducible refine Below.grow ?_ (by first | omega | (simp [go_sem] <;> omega)) _) | (with_reducible refine Below.setCell ?_ (by first | omega | (simp [go_sem] <;> omega)) _))); done))).mono ?_); rintro e V4 ⟨rfl, Y4, rfl⟩)
        | (go_at_call 27; (with_reducible refine (Ret.flat (HSc.out _ (by (repeat (first | with_reducible exact Below.refl _ _ | (with_reducible refine Below.alloc ?_ (by first | omega | (simp [go_sem] <;> omega)) _) | (with_reducible refine Below.drew ?_) | (with_reducible refine Below.drewN ?_ _) | (with_reducible refine Below.grow ?_ (by first | omega | (simp [go_sem] <;> omega)) _) | (with_reducible refine Below.setCell ?_ (by first | omega | (simp [go_sem] <;> omega)) _))); done))).mono ?_); rintro e V5 ⟨rfl, Y5, rfl⟩))
      go_ret
      exact Ret.of rfl (HB1.out.trans (((by repeat (first | with_reducible exact Below.refl _ _ | (with_reducible refine Below.alloc ?_ (by first | omega | (simp [go_sem] <;> omega)) _) | (with_reducible refine Below.drew ?_) | (with_reducible refine Below.drewN ?_ _) | (with_reducible refine Below.grow ?_ (by first | omega | (simp [go_sem] <;> omega)) _) | (with_reducible refine Below.setCell ?_ (by first | omega | (simp [go_sem] <;> omega)) _))) : Below W1.heap.size W1 _).mono HB1.out.size))
    | none =>
      have HSq := Lib.hid (fun W => show Calls Tryz.prog 15 #[.string ⟨x.toArray⟩] W (Ret (.tuple #[.string ⟨#[]⟩, .string ⟨x.toArray⟩, .bool false]) W) from (by have h9 := HSp.out W; rw [hsp] at h9; exact h9))
      rw [hsp] at hs3
      have hs4 : P.rel = true ∧ localL x = true := by simpa using hs3
      rw [hs4.2] at HLo
      rw [hs4.1] at HRe
      clear hF HFi h0 h1 _ht _hs hs1 hs2 hs3 hs4 hxl hxs hsp HSp
      generalize (⟨x.toArray⟩ : ByteArray) = xb at *
      go_wp2_with (first
        | (go_at_call 25; (with_reducible refine (HFj.out _ (by (repeat (first | with_reducible exact Below.refl _ _ | (with_reducible refine Below.alloc ?_ (by first | omega | (simp [go_sem] <;> omega)) _) | (with_reducible refine Below.drew ?_) | (with_reducible refine Below.drewN ?_ _) | (with_reducible refine Below.grow ?_ (by first | omega | (simp [go_sem] <;> omega)) _) | (with_reducible refine Below.setCell ?_ (by first | omega | (simp [go_sem] <;> omega)) _))); done)).mono ?_); rintro e V1 ⟨rfl, Y1, rfl⟩)
        | (go_at_call 25; (with_reducible refine (Ret.flat (HFk.out _ (by (repeat (first | with_reducible exact Below.refl _ _ | (with_reducible refine Below.alloc ?_ (by first | omega | (simp [go_sem] <;> omega)) _) | (with_reducible refine Below.drew ?_) | (with_reducible refine Below.drewN ?_ _) | (with_reducible refine Below.grow ?_ (by first | omega | (simp [go_sem] <;> omega)) _) | (with_reducible refine Below.setCell ?_ (by first | omega | (simp [go_sem] <;> omega)) _))); done))).mono ?_); rintro e V2 ⟨rfl, Y2, rfl⟩)
        | (go_at_call 15; (with_reducible refine (Ret.flat (HSq.out _)).mono ?_); rintro e V3 ⟨rfl, Y3, rfl⟩)
        | (go_at_call 17; (with_reducible refine (Ret.flat (HCl.out _ (by (repeat (first | with_reducible exact Below.refl _ _ | (with_reducible refine Below.alloc ?_ (by first | omega | (simp [go_sem] <;> omega)) _) | (with_reducible refine Below.drew ?_) | (with_reducible refine Below.drewN ?_ _) | (with_reducible refine Below.grow ?_ (by first | omega | (simp [go_sem] <;> omega)) _) | (with_reducible refine Below.setCell ?_ (by first | omega | (simp [go_sem] <;> omega)) _))); done))).mono ?_); rintro e V4 ⟨rfl, Y4, rfl⟩)
        | (go_at_call 28; (with_reducible refine (Ret.flat (HRe.out _ (by (repeat (first | with_reducible exact Below.refl _ _ | (with_reducible refine Below.alloc ?_ (by first | omega | (simp [go_sem] <;> omega)) _) | (with_reducible refine Below.drew ?_) | (with_reducible refine Below.drewN ?_ _) | (with_reducible refine Below.grow ?_ (by first | omega | (simp [go_sem] <;> omega)) _) | (with_reducible refine Below.setCell ?_ (by first | omega | (simp [go_sem] <;> omega)) _))); done))).mono ?_); rintro e V5 ⟨rfl, Y5, rfl⟩)
        | (go_at_call 19; (with_reducible refine (Ret.flat (HLo.out _)).mono ?_); rintro e V6 ⟨rfl, Y6, rfl⟩))
      go_ret
      exact Ret.of rfl (HB1.out.trans (((by repeat (first | with_reducible exact Below.refl _ _ | (with_reducible refine Below.alloc ?_ (by first | omega | (simp [go_sem] <;> omega)) _) | (with_reducible refine Below.drew ?_) | (with_reducible refine Below.drewN ?_ _) | (with_reducible refine Below.grow ?_ (by first | omega | (simp [go_sem] <;> omega)) _) | (with_reducible refine Below.setCell ?_ (by first | omega | (simp [go_sem] <;> omega)) _))) : Below W1.heap.size W1 _).mono HB1.out.size))
set_option maxRecDepth 100000 in
theorem lifted (os : Os) (started : os.Started) (H : Type) (enc : TypeId × Value → H) :
    ReturnsInHanded {} Tryz.checked os 5 .any (fun w args => (Rows.schemeSafeSpec.pre enc Tryz.prog Tryz.f5 Rows.schemeSafeRow.domain false w args ∧ laidMetH Tryz.prog Rows.schemeSafeRow.laid w) ∧ sizedMet enc Tryz.prog Tryz.f5 (OpenSpec.ofChange Rows.schemeSafeSpec) false w args) (Rows.schemeSafeSpec.post enc Tryz.prog Tryz.f5 false true false false) := by
  refine handed11 (C := Tryz.checked) (X := fun w _ => laidMetH Tryz.prog Rows.schemeSafeRow.laid w) (fun _ _ _ hh h => h.of_heap hh) own started (by kernel_rfl) Tryz.func5
    (ChangeSpec.witness_shaped (enc := enc) (C := Tryz.checked) (os := os) (X := fun w _ => laidMetH Tryz.prog Rows.schemeSafeRow.laid w) false (World.laidAll Tryz.prog os Rows.schemeSafeRow.laid) #[.string ⟨#[]⟩, .string ⟨#[]⟩] 8 (World.laidAll_os _ _ _)
      (World.shaped_of_ZipB (by kernel_rfl) (by kernel_rfl)) (by kernel_rfl) (by kernel_rfl) (by kernel_rfl)
      (by rw [MakeChecks.laidMetH_plain _ _ _ (by kernel_rfl)]; exact laidMet_laidAll _ (by kernel_rfl) (by kernel_rfl))) ?_
  intro W base args ds gs before hval0 hW hL _
  have hval : ∀ (j : Nat) t v, Tryz.f5.params[j]? = some t → args[j]? = some v → Value.okWide Tryz.prog W .any base t v := hval0
  have hW' := hW
  obtain ⟨p, q, hA0, hV, rfl, hfz, hnd⟩ := hW
  have hA : DataW.TrodAll enc Tryz.prog W 0 (fun _ => true) true Tryz.f5.params.toList args.toList ds p := hA0
  rw [Tryz.params5] at hA hval
  obtain ⟨v0, vs0, d0, ds0, p0, q0, hargs, rfl, rfl, h0, r0⟩ := trodAll_cons hA
  obtain ⟨v1, vs1, d1, ds1, p1, q1, rfl, rfl, rfl, h1, r1⟩ := trodAll_cons r0
  obtain ⟨rfl, rfl, rfl⟩ := trodAll_nil r1
  obtain rfl : args = #[v0, v1] := by cases args; simp_all
  obtain ⟨rfl, rfl⟩ := trodVars_none hV
  obtain ⟨s0, rfl, rfl, rfl, w0⟩ := open_string Tryz.underlying9 (hval 0 9 v0 rfl rfl) h0
  obtain ⟨s1, rfl, rfl, rfl, w1⟩ := open_string Tryz.underlying9 (hval 1 9 v1 rfl rfl) h1
  clear hA0 hval0
  refine (walk s0 s1 W (u8_laid hL (by rfl)) w0 w1).mono fun e W' hend => ?_
  obtain ⟨he, X, hX⟩ := hend
  have bel : Below W.heap.size W W' := by rw [hX]; exact below_grow W X
  subst he
  exact ⟨_, rfl, _, _, _, [], _, [], hW', trodAll_mk1 (shut_bool Tryz.underlying4 _), (trodAll_cons_mk (shut_string Tryz.underlying9 w0) (trodAll_cons_mk (shut_string Tryz.underlying9 w1) trodAll_mk0)), rfl, bel.frame _, fun h => by cases h⟩

theorem over : Rows.schemeSafeRow.holds Tryz.pinned (OpenSpec.ofChange Rows.schemeSafeSpec) :=
  OpenClaim.holds_of_wide 5 Tryz.f5 rfl rfl rfl rfl rfl rfl rfl ⟨rfl, rfl, rfl, rfl, rfl⟩ rfl rfl rfl rfl rfl (by kernel_rfl) Tryz.func5 (by kernel_rfl)
    (of_decide_eq_true (by kernel_rfl)) (by unfold Func.isWrapper; rw [if_neg (of_decide_eq_false (by kernel_rfl))]; exact ⟨rfl, rfl⟩)
    (fun os started H enc _ => lifted os started H enc)

/-- The statement. -/
theorem proved : Rows.SchemeSafeCardSaid :=
  Claim7.holds_tied_plain_at .later [] [.data, .pinned] true _ true over (fun _ h => by cases h) (by kernel_rfl) (fun _ h => by cases h) schemeSafe_row_tie rfl ⟨rfl, rfl⟩ (by kernel_rfl) rfl
    (fun f fn hf hfn => by
      obtain rfl : f = 5 := Option.some.inj ((show Tryz.prog.funcNamed "cribble/cribblelaw11.SchemeSafe" = some 5 by kernel_rfl).symm.trans hf) |>.symm
      obtain rfl : fn = Tryz.f5 := (Option.some.inj (Tryz.func5.symm.trans hfn)).symm
      exact ⟨by kernel_rfl, fun j t ht => by
        rw [Tryz.params5] at ht
        have hm : t ∈ [9, 9] := by simpa using Array.mem_of_getElem? ht
        have hall : ([9, 9].all fun u => !Tryz.prog.wantsStandIn u) = true := by kernel_rfl
        exact (show Tryz.prog.wantsStandIn t = false by simpa using List.all_eq_true.1 hall t hm)⟩)
    (by kernel_rfl)

end Go.Proofs.YtbhhgbgfaemfdaaGreatDoor.schemeSafe
