/- Pieces with spaces and remarks between are the same pieces, for every list of pieces: CsstokSpaces returns true. No condition: whatever the arguments; the row lists tables of Go's library, which the card ties to the program's text. -/
import Derived.ProofKit
import Derived.ChangeSame
import Derived.ChangeAt
import Derived.SizedLaws
import Derived.OpenShut
import Derived.ShutString
import Derived.ChangeOld
import Derived.LaidMore
import Derived.Lay
import Derived.SevenTiedAt
import Derived.Stop.Joined
import Derived.Test.YtjaebdjlgohapaaDoorRows
import Derived.Test.YtjaebdjlgohapaaDoorCards
import Derived.Test.YtjaebdjlgohapaaDoorTie
import Derived.Test.YtjaebdjlgohapaaDoorCssR
namespace Go.Proofs.YtjaebdjlgohapaaDoor.csstokSpaces
open Go.ChangeShapes Go.WideShapes Go.ChangeAt Go.RowKit
open Go.ChangeMaps (open_string shut_string)

theorem own : ownKnob Tryd.prog.godebug = none := by kernel_rfl
theorem laidOut : laidOutB Tryd.prog = true := by kernel_rfl

theorem css_cap {H : Type} {enc : TypeId × Value → H} {w : World} {base : Nat} {spare : Nat → Bool} {held : Bool} {fuel : Nat} {a : Option Addr} {len cap : Nat} {x : DataW H × List MemPlace}
    (h : DataW.trod enc Tryd.prog w base spare held fuel 22 [.slice a len cap] = some x) : len ≤ cap := by
  rcases Deep.open_slice Tryd.underlying22 h with ⟨hcs, _⟩ | ⟨ad, len', cap', m, n, D, Pl, hcs, hb, hl, hm, hmm, hx, hi⟩
  · simp at hcs; omega
  · simp at hcs; omega

def spOne (x : Css) : Bs := 9 :: (toldC x ++ [10, 47, 42, 120, 32, 42, 47, 32])
def spAll (l : List Css) : Bs := [47, 42, 32, 42, 47, 32] ++ l.flatMap spOne
theorem sp_scan : ∀ (l : List Css), (∀ x ∈ l, rightC x = true) → cssL (l.flatMap spOne) = l := by
  intro l
  induction l with
  | nil => intro _; exact scan_nil rfl
  | cons x l ih =>
    intro h
    have hx := h x (List.mem_cons_self ..)
    have hl := ih (fun y hy => h y (List.mem_cons_of_mem _ hy))
    show cssL (spOne x ++ l.flatMap spOne) = _
    generalize l.flatMap spOne = r at *
    show cssL (9 :: ((toldC x ++ [10, 47, 42, 120, 32, 42, 47, 32]) ++ r)) = _
    have h2 : cssL ([10, 47, 42, 120, 32, 42, 47, 32] ++ r) = cssL r := scan_blk rfl
    rw [scan_sp (by decide), List.append_assoc, told_scan (r := [10, 47, 42, 120, 32, 42, 47, 32] ++ r) hx (.inr ⟨10, [47, 42, 120, 32, 42, 47, 32] ++ r, rfl, by decide⟩), h2, hl]
theorem sp_all {l : List Css} (h : l.all rightC = true) : cssL (spAll l) = l := by
  have := sp_scan l (List.all_eq_true.1 h)
  unfold spAll
  generalize l.flatMap spOne = r at *
  have h2 : cssL ([47, 42, 32, 42, 47, 32] ++ r) = cssL r := scan_blk rfl
  rw [h2]
  exact this
theorem sp_snoc (l : List Css) (x : Css) : spAll (l ++ [x]) = spAll l ++ [9] ++ toldC x ++ [10, 47, 42] ++ [120, 32, 42, 47, 32] := by
  unfold spAll
  rw [List.flatMap_append]
  simp [spOne]
theorem rd_one {W : World} {b off k c c' : Nat} {l : List Css} (h : Rd W (.slice (some ⟨b, off, none⟩) l.length c) l.length 4 (cssCells l)) (hk : k < l.length) : Rd W (.slice (some ⟨b, off + k * 4, none⟩) 1 c') 1 4 (cssCells [l[k]]) := by
  obtain ⟨b2, off2, he, hb, c0, c1, c2, c3⟩ := h.css k hk
  cases he
  refine ⟨rfl, by omega, _, _, rfl, fun _ => ⟨b, off + k * 4, rfl, hb, fun j u hu => ?_⟩⟩
  have hj : j < 4 := (List.getElem?_eq_some_iff.1 hu).1
  match j, hj with
  | 0, _ => cases hu; exact c0
  | 1, _ => cases hu; exact c1
  | 2, _ => cases hu; exact c2
  | 3, _ => cases hu; exact c3
set_option maxRecDepth 100000 in
set_option maxHeartbeats 8000000 in
theorem walk (v : Value) (l : List Css) (w : World) (hT : Tb w) (hX : Mx w) (h : Rd w v l.length 4 (cssCells l)) (hz : ∀ p ∈ l, CssIn p) (hq : ∀ a n cap, v = .slice a n cap → n ≤ cap) : Calls Tryd.prog 4 #[v] w (Ret (.bool true) w) := by
  have hmx : Tryd.prog.follows .mixedOrders = true := by kernel_rfl
  have HR := Lib.hid h
  have HZ := Lib.hid hz
  have HTB := Lib.hid hT
  have HMX := Lib.hid hX
  obtain ⟨_, hm, A, c, rfl, _⟩ := h
  have hcap : l.length ≤ c := hq _ _ _ rfl
  clear hz hT hX hq
  cases hf : fewB l
  · have HF := Lib.hid (fun X => hf ▸ few_any A l.length c l (w.grow X) (HR.out.grow X))
    clear hf
    go_enter Tryd.func4, Tryd.ntmps4
    go_wp2_with (first | (go_at_call 7; refine (awake_any _ HTB.out HMX.out).mono ?_; rintro e w' ⟨rfl, A0, rfl⟩) | (go_at_call 8; (with_reducible refine (Ret.flat (HF.out _)).mono ?_); rintro e w' ⟨rfl, F0, rfl⟩))
    go_ret
    exact Ret.of rfl (by repeat (first | with_reducible exact Below.refl _ _ | (with_reducible refine Below.alloc ?_ (by first | omega | (simp [go_sem] <;> omega)) _) | (with_reducible refine Below.drew ?_) | (with_reducible refine Below.drewN ?_ _) | (with_reducible refine Below.grow ?_ (by first | omega | (simp [go_sem] <;> omega)) _) | (with_reducible refine Below.setCell ?_ (by first | omega | (simp [go_sem] <;> omega)) _)))
  have HF := Lib.hid (fun X => hf ▸ few_any A l.length c l (w.grow X) (HR.out.grow X))
  obtain ⟨hs, hl1, hl2⟩ := few_short hf HZ.out
  have HS := Lib.hid hs
  have HL2 := Lib.hid hl2
  have HSa := Lib.hid (fun (W : World) (A1 A2 : Option Addr) (c1 c2 n : Nat) (ll : List Css) (ha : Rd W (.slice A1 n c1) ll.length 4 (cssCells ll)) (hb : Rd W (.slice A2 n c2) ll.length 4 (cssCells ll)) => show Calls Tryd.prog 10 #[.slice A1 n c1, .slice A2 n c2] W (Ret (.bool true) W) from by
    have := same_any A1 A2 n n c1 c2 ll ll W ha hb
    rwa [decide_eq_true rfl] at this)
  clear hs hl2 hf
  go_enter Tryd.func4, Tryd.ntmps4
  go_wp2_with (first | (go_at_call 7; refine (awake_any _ HTB.out HMX.out).mono ?_; rintro e w' ⟨rfl, A0, rfl⟩) | (go_at_call 8; (with_reducible refine (Ret.flat (HF.out _)).mono ?_); rintro e w' ⟨rfl, F0, rfl⟩))
  go_loopw [5, 6] (fun s i wr => ∃ (k : Nat) (X : Gr), k ≤ l.length ∧ i = .int .i64 k ∧ s = .string ⟨(spAll (l.take k)).toArray⟩ ∧ wr = w.grow X ∧ Hid ((l.take k).all rightC = true) ∧ Hid ((spAll (l.take k)).length ≤ 10 + k * 7000)) (fun _ i _ => l.length - (intOf i).toNat)
  case atStart => exact ⟨0, _, by omega, rfl, rfl, rfl, rfl, by show _ ≤ _; simp [spAll]⟩
  case round =>
    obtain ⟨k, X, hk, rfl, rfl, rfl, HK, HB⟩ := hrel
    by_cases hlt : k < l.length
    · obtain ⟨b, off, rfl, hb, _⟩ := HR.out.css k hlt
      have HO := Lib.hid (fun c' => rd_one (c' := c') HR.out hlt)
      have HAl := Lib.hid (show (l.take (k + 1)).all rightC = ((l.take k).all rightC && rightC l[k]) by rw [List.take_succ_eq_append_getElem hlt, List.all_append]; simp)
      have HSn := Lib.hid (show spAll (l.take (k + 1)) = spAll (l.take k) ++ [9] ++ toldC l[k] ++ [10, 47, 42] ++ [120, 32, 42, 47, 32] by rw [List.take_succ_eq_append_getElem hlt, sp_snoc])
      have o1 := HS.out _ (List.getElem_mem hlt)
      have o2 := HL2.out _ (List.getElem_mem hlt)
      generalize l[k] = x at *
      have hx1 : Short [x] := fun y hy => by rw [List.mem_singleton] at hy; subst hy; exact o1
      have htl := told_len x o1.1
      obtain ⟨D, hD⟩ : ∃ D, rightC x = D := ⟨_, rfl⟩
      obtain ⟨T, hTT⟩ : ∃ T : ByteArray, ⟨(if D then toldC x else []).toArray⟩ = T := ⟨_, rfl⟩
      have HT1 := Lib.hid (fun c' => show Calls Tryd.prog 9 #[.slice (some ⟨b, off + k * 4, none⟩) 1 c'] (w.grow X) (Ret (.tuple #[.string T, .bool D]) (w.grow X)) from by
        have := text_any (some ⟨b, off + k * 4, none⟩) 1 c' [x] (w.grow X) (HTB.out.grow X) (HMX.out.grow X) ((HO.out c').grow X) hx1 (by simp)
        rw [show [x].all rightC = D by simp [hD], show textC [x] = toldC x from rfl, hTT] at this
        exact this)
      obtain ⟨S, hS⟩ : ∃ S : ByteArray, ⟨(spAll (l.take k)).toArray⟩ = S := ⟨_, rfl⟩
      have hSs : S.size ≤ 10 + k * 7000 := by rw [← hS]; exact HB.out
      have hTs : T.size ≤ 7000 := by
        rw [← hTT]
        show (if D then toldC x else []).length ≤ 7000
        split
        · omega
        · simp
      have HSd : Hid (S.data.toList = spAll (l.take k)) := by show _ = _; rw [← hS]
      rw [hS]
      have hz1 : (0 : Int) ≤ (k : Int) + 1 := by omega
      have hz2 : ((k : Int) + 1).toNat = k + 1 := by omega
      have hz3 : (k : Int) + 1 ≤ (c : Int) := by omega
      cases D
      · clear hS hTT hD hx1 o1 o2 htl
        go_wp2_with (go_at_call 9; go_loud (refine (Ret.flat (HT1.out _)).mono ?_); rintro e w' ⟨rfl, X1, rfl⟩)
        go_ret
        exact Ret.of rfl (by repeat (first | with_reducible exact Below.refl _ _ | (with_reducible refine Below.alloc ?_ (by first | omega | (simp [go_sem] <;> omega)) _) | (with_reducible refine Below.drew ?_) | (with_reducible refine Below.drewN ?_ _) | (with_reducible refine Below.grow ?_ (by first | omega | (simp [go_sem] <;> omega)) _) | (with_reducible refine Below.setCell ?_ (by first | omega | (simp [go_sem] <;> omega)) _)))
      · have HTd : Hid (T.data.toList = toldC x) := by show _ = _; rw [← hTT]; rfl
        have HK2 : Hid ((l.take (k + 1)).all rightC = true) := by show _ = _; rw [HAl.out, HK.out, hD]; rfl
        have HB2 : Hid ((spAll (l.take (k + 1))).length ≤ 10 + (k + 1) * 7000) := by
          show _ ≤ _
          have := HB.out
          rw [HSn.out]
          simp only [List.length_append, List.length_cons, List.length_nil]
          omega
        clear hS hTT hD hx1 o1 o2 htl
        go_wp2_with (go_at_call 9; go_loud (refine (Ret.flat (HT1.out _)).mono ?_); rintro e w' ⟨rfl, X1, rfl⟩)
        go_roundw
        case rel => exact ⟨k + 1, X1, by omega, by go_num, str_eq (by rw [HSn.out]; simp only [ByteArray.data_append, Array.toList_append, HSd.out, HTd.out]), rfl, HK2, HB2⟩
        case measure => simp [intOf]; omega
    · have hk2 : k = l.length := by omega
      subst hk2
      rw [List.take_length] at HK HB ⊢
      have HSc := Lib.hid (show Calls Tryd.prog 11 #[.string ⟨(spAll l).toArray⟩] (w.grow X) (RetS (w.grow X) l.length 4 (cssCells l)) from by
        have := scan_any (spAll l) (w.grow X) (HMX.out.grow X) (by have := HB.out; omega)
        rwa [sp_all HK.out] at this)
      generalize (⟨(spAll l).toArray⟩ : ByteArray) = S at *
      go_wp2_with (first | (go_at_call 11; (with_reducible refine (RetS.flat HSc.out).mono ?_); rintro e w' ⟨A2, c2, X2, rfl, rfl, hc2, hr2⟩; have HM2 := Lib.hid hr2; clear hr2) | (go_at_call 10; (refine (HSa.out _ _ _ _ _ _ l HM2.out (HR.out.grow _)).mono ?_); rintro e w' ⟨rfl, Z3, rfl⟩))
      go_ret
      exact Ret.of rfl (by repeat (first | with_reducible exact Below.refl _ _ | (with_reducible refine Below.alloc ?_ (by first | omega | (simp [go_sem] <;> omega)) _) | (with_reducible refine Below.drew ?_) | (with_reducible refine Below.drewN ?_ _) | (with_reducible refine Below.grow ?_ (by first | omega | (simp [go_sem] <;> omega)) _) | (with_reducible refine Below.setCell ?_ (by first | omega | (simp [go_sem] <;> omega)) _)))

set_option maxRecDepth 100000 in
theorem lifted (os : Os) (started : os.Started) (H : Type) (enc : TypeId × Value → H) :
    ReturnsInHanded {} Tryd.checked os 4 .any (fun w args => (Rows.csstokSpacesSpec.pre enc Tryd.prog Tryd.f4 Rows.csstokSpacesRow.domain false w args ∧ laidMetH Tryd.prog Rows.csstokSpacesRow.laid w) ∧ sizedMet enc Tryd.prog Tryd.f4 (OpenSpec.ofChange Rows.csstokSpacesSpec) false w args) (Rows.csstokSpacesSpec.post enc Tryd.prog Tryd.f4 false true false false) := by
  refine handed_shape (C := Tryd.checked) (X := fun w _ => laidMetH Tryd.prog Rows.csstokSpacesRow.laid w) (fun _ _ _ hh h => h.of_heap hh) own started (by kernel_rfl) Tryd.func4
    (ChangeSpec.witness_shaped (enc := enc) (C := Tryd.checked) (os := os) (X := fun w _ => laidMetH Tryd.prog Rows.csstokSpacesRow.laid w) false (World.laidAll Tryd.prog os Rows.csstokSpacesRow.laid) #[.slice none 0 0] 8 (World.laidAll_os _ _ _)
      (World.shaped_of_ZipB (by kernel_rfl) (by kernel_rfl)) (by kernel_rfl) (by kernel_rfl) (by kernel_rfl)
      (by rw [MakeChecks.laidMetH_plain _ _ _ (by kernel_rfl)]; exact laidMet_laidAll _ (by kernel_rfl) (by kernel_rfl))) ?_
  intro W base args ds gs before hval0 hW hL hsh
  have hval : ∀ (j : Nat) t v, Tryd.f4.params[j]? = some t → args[j]? = some v → Value.okWide Tryd.prog W .any base t v := hval0
  have hW' := hW
  obtain ⟨p, q, hA0, hV, rfl, hfz, hnd⟩ := hW
  have hA : DataW.TrodAll enc Tryd.prog W 0 (fun _ => true) true Tryd.f4.params.toList args.toList ds p := hA0
  rw [Tryd.params4] at hA hval
  obtain ⟨v0, vs0, d0, ds0, p0, q0, hargs, rfl, rfl, h0, r0⟩ := trodAll_cons hA
  obtain ⟨rfl, rfl, rfl⟩ := trodAll_nil r0
  obtain rfl : args = #[v0] := by cases args; simp_all
  obtain ⟨rfl, rfl⟩ := trodVars_none hV
  obtain ⟨a0, len0, cap0, rfl⟩ := okWide_slice Tryd.underlying22 (hval 0 22 v0 rfl rfl)
  have k0 := h0
  have lt0 : ∀ x ∈ p0, x.block < W.heap.size := by obtain ⟨m, hm⟩ := k0; exact DataW.trod_lt m _ _ _ hm
  obtain ⟨z0, e0, w0, m0⟩ : ∃ l : List Css, l.length = len0 ∧ Rd W (.slice a0 len0 cap0) l.length 4 (cssCells l) ∧ ∀ p ∈ l, CssIn p := by obtain ⟨fuel, hf⟩ := h0; exact css_open (by simpa [Value.cells] using hf)
  have n0 : ∀ a n cap, Value.slice a0 len0 cap0 = .slice a n cap → a = none → cap = 0 := fun _ _ _ hh => by cases hh; obtain ⟨fuel, hf⟩ := h0; exact css_nil (by simpa [Value.cells] using hf)
  have q0 : ∀ a n cap, Value.slice a0 len0 cap0 = .slice a n cap → n ≤ cap := fun _ _ _ hh => by cases hh; obtain ⟨fuel, hf⟩ := h0; exact css_cap (by simpa [Value.cells] using hf)
  clear hA0 hval0
  refine (walk (.slice a0 len0 cap0) z0 W (tb_laid hL (by rfl)) (mx_shape hsh) w0 m0 q0).mono fun e W' hend => ?_
  obtain ⟨he, X, hX⟩ := hend
  have bel : Below W.heap.size W W' := by rw [hX]; exact below_grow W X
  subst he
  exact ⟨_, rfl, _, _, _, [], _, [], hW', trodAll_mk1 (shut_bool Tryd.underlying4 _), (trodAll_cons_mk (Below.trod laidOut (by kernel_rfl) (of_decide_eq_true (by kernel_rfl)) k0 bel lt0) trodAll_mk0), rfl, bel.frame _, fun h => by cases h⟩

theorem over : Rows.csstokSpacesRow.holds Tryd.pinned (OpenSpec.ofChange Rows.csstokSpacesSpec) :=
  OpenClaim.holds_of_wide 4 Tryd.f4 rfl rfl rfl rfl rfl rfl rfl ⟨rfl, rfl, rfl, rfl, rfl⟩ rfl rfl rfl rfl rfl (by kernel_rfl) Tryd.func4 (by kernel_rfl)
    (of_decide_eq_true (by kernel_rfl)) (by unfold Func.isWrapper; rw [if_neg (of_decide_eq_false (by kernel_rfl))]; exact ⟨rfl, rfl⟩)
    (fun os started H enc _ => lifted os started H enc)

/-- The statement. -/
theorem proved : Rows.CsstokSpacesCardSaid :=
  Claim7.holds_tied_plain_at .later [] [.data, .data, .data, .data, .pinned] true _ false over (fun _ h => by cases h) (by kernel_rfl) (fun _ h => by cases h) csstokSpaces_row_tie rfl ⟨rfl, rfl⟩ (by kernel_rfl) rfl
    (fun f fn hf hfn => by
      obtain rfl : f = 4 := Option.some.inj ((show Tryd.prog.funcNamed "cribble/cribblelaw13.CsstokSpaces" = some 4 by kernel_rfl).symm.trans hf) |>.symm
      obtain rfl : fn = Tryd.f4 := (Option.some.inj (Tryd.func4.symm.trans hfn)).symm
      exact ⟨by kernel_rfl, fun j t ht => by
        rw [Tryd.params4] at ht
        have hm : t ∈ [22] := by simpa using Array.mem_of_getElem? ht
        have hall : ([22].all fun u => !Tryd.prog.wantsStandIn u) = true := by kernel_rfl
        exact (show Tryd.prog.wantsStandIn t = false by simpa using List.all_eq_true.1 hall t hm)⟩)
    (by kernel_rfl)

end Go.Proofs.YtjaebdjlgohapaaDoor.csstokSpaces
