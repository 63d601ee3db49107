/- A scheme is what is ahead of the first colon, in small letters; what is behind it plays no part: SchemeJoins returns true. No condition: whatever the arguments. -/
import Derived.ProofKit
import Derived.ChangeSame
import Derived.ChangeAt
import Derived.SizedLaws
import Derived.OpenShut
import Derived.ShutString
import Derived.ChangeOld
import Derived.LaidMore
import Derived.Lay
import Derived.SevenTiedAt
import Derived.Stop.Joined
import Derived.Test.YtbhhgbgfaemfdaaGreatDoorRows
import Derived.Test.YtbhhgbgfaemfdaaGreatDoorCards
import Derived.Test.YtbhhgbgfaemfdaaGreatDoorTie
import Derived.Test.YtbhhgbgfaemfdaaGreatDoorSchH
namespace Go.Proofs.YtbhhgbgfaemfdaaGreatDoor.schemeJoins
open Go.ChangeShapes Go.WideShapes Go.ChangeAt Go.RowKit
open Go.ChangeMaps (open_string shut_string)

theorem own : ownKnob Tryz.prog.godebug = none := by kernel_rfl
theorem laidOut : laidOutB Tryz.prog = true := by kernel_rfl

attribute [local go_sem] Oper.semAt_some
theorem cat_j (s t : ByteArray) : (s ++ ⟨#[58]⟩ ++ t).data.toList = s.data.toList ++ 58 :: t.data.toList := by simp
theorem cat_n (n : Bs) : (⟨n.toArray⟩ : ByteArray) ++ ⟨#[58]⟩ = ⟨(n ++ [58]).toArray⟩ := by
  refine ba_ext ?_
  simp
set_option maxRecDepth 100000 in
set_option maxHeartbeats 8000000 in
theorem walk (s t u : ByteArray) (w : World) (hT : U8 w) (_hs : s.size ≤ maxLen) (_ht : t.size ≤ maxLen) (_hu : u.size ≤ maxLen) : Calls Tryz.prog 7 #[.string s, .string t, .string u] w (Ret (.bool true) w) := by
  have hmx : Tryz.prog.follows .mixedOrders = true := by kernel_rfl
  have HT := Lib.hid hT
  have HAw := Lib.hid (awake11_any w hT)
  clear hT
  by_cases h0 : 500 < s.size
  · have b0 : decide ((500 : Int) < s.size) = true := by simp; omega
    clear h0 _hs _ht _hu
    go_enter Tryz.func7, Tryz.ntmps7
    go_wp2_with (go_at_call 14; (with_reducible refine HAw.out.mono ?_); rintro e Wa ⟨rfl, Xa, rfl⟩)
    go_ret
    exact Ret.of rfl (by repeat (first | with_reducible exact Below.refl _ _ | (with_reducible refine Below.alloc ?_ (by first | omega | (simp [go_sem] <;> omega)) _) | (with_reducible refine Below.drew ?_) | (with_reducible refine Below.drewN ?_ _) | (with_reducible refine Below.grow ?_ (by first | omega | (simp [go_sem] <;> omega)) _) | (with_reducible refine Below.setCell ?_ (by first | omega | (simp [go_sem] <;> omega)) _)))
  have b0 : decide ((500 : Int) < s.size) = false := by simp; omega
  by_cases h1 : 500 < t.size
  · have b1 : decide ((500 : Int) < t.size) = true := by simp; omega
    clear h0 h1 _hs _ht _hu
    go_enter Tryz.func7, Tryz.ntmps7
    go_wp2_with (go_at_call 14; (with_reducible refine HAw.out.mono ?_); rintro e Wa ⟨rfl, Xa, rfl⟩)
    go_ret
    exact Ret.of rfl (by repeat (first | with_reducible exact Below.refl _ _ | (with_reducible refine Below.alloc ?_ (by first | omega | (simp [go_sem] <;> omega)) _) | (with_reducible refine Below.drew ?_) | (with_reducible refine Below.drewN ?_ _) | (with_reducible refine Below.grow ?_ (by first | omega | (simp [go_sem] <;> omega)) _) | (with_reducible refine Below.setCell ?_ (by first | omega | (simp [go_sem] <;> omega)) _)))
  have b1 : decide ((500 : Int) < t.size) = false := by simp; omega
  by_cases h2 : 500 < u.size
  · have b2 : decide ((500 : Int) < u.size) = true := by simp; omega
    clear h0 h1 h2 _hs _ht _hu
    go_enter Tryz.func7, Tryz.ntmps7
    go_wp2_with (go_at_call 14; (with_reducible refine HAw.out.mono ?_); rintro e Wa ⟨rfl, Xa, rfl⟩)
    go_ret
    exact Ret.of rfl (by repeat (first | with_reducible exact Below.refl _ _ | (with_reducible refine Below.alloc ?_ (by first | omega | (simp [go_sem] <;> omega)) _) | (with_reducible refine Below.drew ?_) | (with_reducible refine Below.drewN ?_ _) | (with_reducible refine Below.grow ?_ (by first | omega | (simp [go_sem] <;> omega)) _) | (with_reducible refine Below.setCell ?_ (by first | omega | (simp [go_sem] <;> omega)) _)))
  have b2 : decide ((500 : Int) < u.size) = false := by simp; omega
  have z1 : (s ++ ⟨#[58]⟩ ++ t : ByteArray).size ≤ 1000000 := by
    rw [← len_data, cat_j]
    simp only [List.length_cons, List.length_append, len_data]
    omega
  have z2 : (s ++ ⟨#[58]⟩ ++ u : ByteArray).size ≤ 1000000 := by
    rw [← len_data, cat_j]
    simp only [List.length_cons, List.length_append, len_data]
    omega
  have HSp := Lib.hid (fun W => split11_any (s ++ ⟨#[58]⟩ ++ t) W (by omega))
  have HSr := Lib.hid (fun W => split11_any (s ++ ⟨#[58]⟩ ++ u) W (by omega))
  have HLo := Lib.hid (fun W => local11_any (s ++ ⟨#[58]⟩ ++ t) W (by omega))
  rw [cat_j] at HSp HSr HLo
  obtain ⟨j1, j2⟩ := join_split s.data.toList t.data.toList u.data.toList
  have hlo : localL (s.data.toList ++ 58 :: t.data.toList) = ((splitL (s.data.toList ++ 58 :: t.data.toList)).isNone && !slashB (s.data.toList ++ 58 :: t.data.toList)) := rfl
  have q0 : s.size ≤ 500 := by omega
  have q1 : t.size ≤ 500 := by omega
  have q2 : u.size ≤ 500 := by omega
  cases r1 : splitL (s.data.toList ++ 58 :: t.data.toList) with
  | none =>
    have r2 : splitL (s.data.toList ++ 58 :: u.data.toList) = none := by
      rw [r1] at j1
      cases h : splitL (s.data.toList ++ 58 :: u.data.toList) with
      | none => rfl
      | some x => rw [h] at j1; cases j1
    rw [r1] at HSp
    rw [r2] at HSr
    have HSq := Lib.hid (fun W => show Calls Tryz.prog 15 #[.string (s ++ ⟨#[58]⟩ ++ t)] W (Ret (.tuple #[.string ⟨#[]⟩, .string (s ++ ⟨#[58]⟩ ++ t), .bool false]) W) from HSp.out W)
    have HSs := Lib.hid (fun W => show Calls Tryz.prog 15 #[.string (s ++ ⟨#[58]⟩ ++ u)] W (Ret (.tuple #[.string ⟨#[]⟩, .string (s ++ ⟨#[58]⟩ ++ u), .bool false]) W) from HSr.out W)
    clear r1 r2 j1 j2 hlo HSp HSr HLo h0 h1 h2 _hs _ht _hu z1 z2
    go_enter Tryz.func7, Tryz.ntmps7
    go_wp2_with (first
      | (go_at_call 14; (with_reducible refine HAw.out.mono ?_); rintro e Wa ⟨rfl, Xa, rfl⟩)
      | (go_at_call 15; (with_reducible refine (Ret.flat (HSq.out _)).mono ?_); rintro e V1 ⟨rfl, Y1, rfl⟩)
      | (go_at_call 15; (with_reducible refine (Ret.flat (HSs.out _)).mono ?_); rintro e V2 ⟨rfl, Y2, rfl⟩))
    go_ret
    exact Ret.of rfl (by repeat (first | with_reducible exact Below.refl _ _ | (with_reducible refine Below.alloc ?_ (by first | omega | (simp [go_sem] <;> omega)) _) | (with_reducible refine Below.drew ?_) | (with_reducible refine Below.drewN ?_ _) | (with_reducible refine Below.grow ?_ (by first | omega | (simp [go_sem] <;> omega)) _) | (with_reducible refine Below.setCell ?_ (by first | omega | (simp [go_sem] <;> omega)) _)))
  | some x =>
    obtain ⟨n, ra⟩ := x
    obtain ⟨rb, r2⟩ : ∃ rb, splitL (s.data.toList ++ 58 :: u.data.toList) = some (n, rb) := by
      rw [r1] at j1 j2
      cases h : splitL (s.data.toList ++ 58 :: u.data.toList) with
      | none => rw [h] at j1; cases j1
      | some x =>
        rw [h] at j2
        obtain ⟨m, rb⟩ := x
        simp only [Option.map_some, Option.some.injEq] at j2
        exact ⟨rb, by rw [← j2]⟩
    have l1 := join_len r1
    have l2 := join_len r2
    have l3 : n.length ≤ (s.data.toList ++ 58 :: t.data.toList).length := (split11_len r1).1
    have hnn : n.length ≤ 1000000 := by
      rw [← cat_j, len_data] at l3
      omega
    have r3 := split_low r1 []
    rw [r1] at HSp hlo
    rw [r2] at HSr
    rw [hlo] at HLo
    have HSq := Lib.hid (fun W => show Calls Tryz.prog 15 #[.string (s ++ ⟨#[58]⟩ ++ t)] W (Ret (.tuple #[.string ⟨n.toArray⟩, .string ⟨ra.toArray⟩, .bool true]) W) from HSp.out W)
    have HSs := Lib.hid (fun W => show Calls Tryz.prog 15 #[.string (s ++ ⟨#[58]⟩ ++ u)] W (Ret (.tuple #[.string ⟨n.toArray⟩, .string ⟨rb.toArray⟩, .bool true]) W) from HSr.out W)
    have HLp := Lib.hid (fun W => show Calls Tryz.prog 19 #[.string (s ++ ⟨#[58]⟩ ++ t)] W (Ret (.bool false) W) from HLo.out W)
    have HSt := Lib.hid (fun W => show Calls Tryz.prog 15 #[.string (⟨n.toArray⟩ ++ ⟨#[58]⟩)] W (Ret (.tuple #[.string ⟨n.toArray⟩, .string ⟨#[]⟩, .bool true]) W) from by
      have h9 := split11_any (⟨n.toArray⟩ ++ ⟨#[58]⟩) W (by rw [cat_n]; show (n ++ [58]).toArray.size ≤ _; simp; omega)
      have h8 : splitL ((⟨n.toArray⟩ : ByteArray) ++ ⟨#[58]⟩).data.toList = some (n, []) := by rw [cat_n]; exact r3
      rw [h8] at h9
      exact h9)
    have g1 : t.size ≤ (⟨ra.toArray⟩ : ByteArray).size := by
      rw [len_data] at l1
      have : (⟨ra.toArray⟩ : ByteArray).size = ra.length := by show ra.toArray.size = _; simp
      omega
    have g2 : u.size ≤ (⟨rb.toArray⟩ : ByteArray).size := by
      rw [len_data] at l2
      have : (⟨rb.toArray⟩ : ByteArray).size = rb.length := by show rb.toArray.size = _; simp
      omega
    have q3 : (⟨n.toArray⟩ : ByteArray).size ≤ 1000000 := by show n.toArray.size ≤ _; simpa using hnn
    clear r1 r2 r3 j1 j2 hlo HSp HSr HLo h0 h1 h2 _hs _ht _hu z1 z2 l1 l2 l3 hnn
    generalize (⟨n.toArray⟩ : ByteArray) = nb at *
    generalize (⟨ra.toArray⟩ : ByteArray) = xa at *
    generalize (⟨rb.toArray⟩ : ByteArray) = xb at *
    go_enter Tryz.func7, Tryz.ntmps7
    go_wp2_with (first
      | (go_at_call 14; (with_reducible refine HAw.out.mono ?_); rintro e Wa ⟨rfl, Xa, rfl⟩)
      | (go_at_call 15; (with_reducible refine (Ret.flat (HSq.out _)).mono ?_); rintro e V1 ⟨rfl, Y1, rfl⟩)
      | (go_at_call 15; (with_reducible refine (Ret.flat (HSs.out _)).mono ?_); rintro e V2 ⟨rfl, Y2, rfl⟩)
      | (go_at_call 15; (with_reducible refine (Ret.flat (HSt.out _)).mono ?_); rintro e V3 ⟨rfl, Y3, rfl⟩)
      | (go_at_call 19; (with_reducible refine (Ret.flat (HLp.out _)).mono ?_); rintro e V4 ⟨rfl, Y4, rfl⟩))
    go_ret
    exact Ret.of rfl (by repeat (first | with_reducible exact Below.refl _ _ | (with_reducible refine Below.alloc ?_ (by first | omega | (simp [go_sem] <;> omega)) _) | (with_reducible refine Below.drew ?_) | (with_reducible refine Below.drewN ?_ _) | (with_reducible refine Below.grow ?_ (by first | omega | (simp [go_sem] <;> omega)) _) | (with_reducible refine Below.setCell ?_ (by first | omega | (simp [go_sem] <;> omega)) _)))
set_option maxRecDepth 100000 in
theorem lifted (os : Os) (started : os.Started) (H : Type) (enc : TypeId × Value → H) :
    ReturnsInHanded {} Tryz.checked os 7 .any (fun w args => (Rows.schemeJoinsSpec.pre enc Tryz.prog Tryz.f7 Rows.schemeJoinsRow.domain false w args ∧ laidMetH Tryz.prog Rows.schemeJoinsRow.laid w) ∧ sizedMet enc Tryz.prog Tryz.f7 (OpenSpec.ofChange Rows.schemeJoinsSpec) false w args) (Rows.schemeJoinsSpec.post enc Tryz.prog Tryz.f7 false true false false) := by
  refine handed11 (C := Tryz.checked) (X := fun w _ => laidMetH Tryz.prog Rows.schemeJoinsRow.laid w) (fun _ _ _ hh h => h.of_heap hh) own started (by kernel_rfl) Tryz.func7
    (ChangeSpec.witness_shaped (enc := enc) (C := Tryz.checked) (os := os) (X := fun w _ => laidMetH Tryz.prog Rows.schemeJoinsRow.laid w) false (World.laidAll Tryz.prog os Rows.schemeJoinsRow.laid) #[.string ⟨#[]⟩, .string ⟨#[]⟩, .string ⟨#[]⟩] 8 (World.laidAll_os _ _ _)
      (World.shaped_of_ZipB (by kernel_rfl) (by kernel_rfl)) (by kernel_rfl) (by kernel_rfl) (by kernel_rfl)
      (by rw [MakeChecks.laidMetH_plain _ _ _ (by kernel_rfl)]; exact laidMet_laidAll _ (by kernel_rfl) (by kernel_rfl))) ?_
  intro W base args ds gs before hval0 hW hL _
  have hval : ∀ (j : Nat) t v, Tryz.f7.params[j]? = some t → args[j]? = some v → Value.okWide Tryz.prog W .any base t v := hval0
  have hW' := hW
  obtain ⟨p, q, hA0, hV, rfl, hfz, hnd⟩ := hW
  have hA : DataW.TrodAll enc Tryz.prog W 0 (fun _ => true) true Tryz.f7.params.toList args.toList ds p := hA0
  rw [Tryz.params7] at hA hval
  obtain ⟨v0, vs0, d0, ds0, p0, q0, hargs, rfl, rfl, h0, r0⟩ := trodAll_cons hA
  obtain ⟨v1, vs1, d1, ds1, p1, q1, rfl, rfl, rfl, h1, r1⟩ := trodAll_cons r0
  obtain ⟨v2, vs2, d2, ds2, p2, q2, rfl, rfl, rfl, h2, r2⟩ := trodAll_cons r1
  obtain ⟨rfl, rfl, rfl⟩ := trodAll_nil r2
  obtain rfl : args = #[v0, v1, v2] := by cases args; simp_all
  obtain ⟨rfl, rfl⟩ := trodVars_none hV
  obtain ⟨s0, rfl, rfl, rfl, w0⟩ := open_string Tryz.underlying9 (hval 0 9 v0 rfl rfl) h0
  obtain ⟨s1, rfl, rfl, rfl, w1⟩ := open_string Tryz.underlying9 (hval 1 9 v1 rfl rfl) h1
  obtain ⟨s2, rfl, rfl, rfl, w2⟩ := open_string Tryz.underlying9 (hval 2 9 v2 rfl rfl) h2
  clear hA0 hval0
  refine (walk s0 s1 s2 W (u8_laid hL (by rfl)) w0 w1 w2).mono fun e W' hend => ?_
  obtain ⟨he, X, hX⟩ := hend
  have bel : Below W.heap.size W W' := by rw [hX]; exact below_grow W X
  subst he
  exact ⟨_, rfl, _, _, _, [], _, [], hW', trodAll_mk1 (shut_bool Tryz.underlying4 _), (trodAll_cons_mk (shut_string Tryz.underlying9 w0) (trodAll_cons_mk (shut_string Tryz.underlying9 w1) (trodAll_cons_mk (shut_string Tryz.underlying9 w2) trodAll_mk0))), rfl, bel.frame _, fun h => by cases h⟩

theorem over : Rows.schemeJoinsRow.holds Tryz.pinned (OpenSpec.ofChange Rows.schemeJoinsSpec) :=
  OpenClaim.holds_of_wide 7 Tryz.f7 rfl rfl rfl rfl rfl rfl rfl ⟨rfl, rfl, rfl, rfl, rfl⟩ rfl rfl rfl rfl rfl (by kernel_rfl) Tryz.func7 (by kernel_rfl)
    (of_decide_eq_true (by kernel_rfl)) (by unfold Func.isWrapper; rw [if_neg (of_decide_eq_false (by kernel_rfl))]; exact ⟨rfl, rfl⟩)
    (fun os started H enc _ => lifted os started H enc)

/-- The statement. -/
theorem proved : Rows.SchemeJoinsCardSaid :=
  Claim7.holds_tied_plain_at .later [] [.data, .pinned] true _ true over (fun _ h => by cases h) (by kernel_rfl) (fun _ h => by cases h) schemeJoins_row_tie rfl ⟨rfl, rfl⟩ (by kernel_rfl) rfl
    (fun f fn hf hfn => by
      obtain rfl : f = 7 := Option.some.inj ((show Tryz.prog.funcNamed "cribble/cribblelaw11.SchemeJoins" = some 7 by kernel_rfl).symm.trans hf) |>.symm
      obtain rfl : fn = Tryz.f7 := (Option.some.inj (Tryz.func7.symm.trans hfn)).symm
      exact ⟨by kernel_rfl, fun j t ht => by
        rw [Tryz.params7] at ht
        have hm : t ∈ [9, 9, 9] := by simpa using Array.mem_of_getElem? ht
        have hall : ([9, 9, 9].all fun u => !Tryz.prog.wantsStandIn u) = true := by kernel_rfl
        exact (show Tryz.prog.wantsStandIn t = false by simpa using List.all_eq_true.1 hall t hm)⟩)
    (by kernel_rfl)

end Go.Proofs.YtbhhgbgfaemfdaaGreatDoor.schemeJoins
