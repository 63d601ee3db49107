/- Steps behind others bring a point where these bring what the former bring it to, as long as that is near enough: TurnJoins returns true. No condition: whatever the arguments. -/
import Derived.OpenShut
import Derived.ShutString
import Derived.ChangeOld
import Derived.Test.YtendepongefklaaRows
import Derived.Test.YtendepongefklaaOpen
import Derived.Test.YtendepongefklaaOpenB
namespace Go.Proofs.Ytendepongefklaa.turnJoins
open Go.ChangeShapes Go.WideShapes Go.ChangeAt Go.RowKit

theorem own : ownKnob Try.prog.godebug = none := by kernel_rfl
theorem laidOut : laidOutB Try.prog = true := by kernel_rfl


theorem runV_tuple (l : List St) (x y : Int) : ∃ p q r : Int, runV l x y = .tuple #[.int .i64 p, .int .i64 q, .int .i64 r] := by
  unfold runV
  split
  · exact ⟨_, _, _, rfl⟩
  · exact ⟨_, _, _, rfl⟩

theorem runV_right {l : List St} (h : rightB l = true) (x y : Int) (hx : nearB x 4096 = true) (hy : nearB y 4096 = true) : runV l x y = .tuple #[.int .i64 (allR l (x, y)).1, .int .i64 (allR l (x, y)).2, .int .i64 0] := by
  unfold runV; rw [h, hx, hy]; rfl
theorem src_of {W : World} {a : Option Addr} {cap : Nat} {l : List St} (h : Sl W (.slice a l.length cap) l) (hn : a = none → l.length = 0 ∧ cap = 0) :
    (Value.slice a l.length cap = .slice none 0 0 ∧ l.length = 0) ∨ ∃ ad c, Value.slice a l.length cap = .slice (some ad) l.length c ∧ ∀ j u, (cells3 l)[j]? = some u → W.cell? (ad.add j) = some u := by
  obtain ⟨a', cap', h1, _, h3⟩ := h
  cases h1
  cases a with
  | none => obtain ⟨e1, e2⟩ := hn rfl; rw [e1, e2]; exact Or.inl ⟨rfl, rfl⟩
  | some ad =>
    refine Or.inr ⟨ad, cap, rfl, fun j u hu => ?_⟩
    rcases h3 with rfl | ⟨b, off, h4, h5⟩
    · simp [cells3] at hu
    · cases h4
      have := cells3_at h5 j u hu
      unfold Addr.add
      split
      · rename_i h0; subst h0; simpa using this
      · exact this
theorem src_alloc {W : World} {s : Value} {k : Nat} {cs : List Value} (h : (s = .slice none 0 0 ∧ k = 0) ∨ ∃ ad c, s = .slice (some ad) k c ∧ ∀ j u, cs[j]? = some u → W.cell? (ad.add j) = some u) (c : Array Value) (t : TypeId) :
    (s = .slice none 0 0 ∧ k = 0) ∨ ∃ ad c', s = .slice (some ad) k c' ∧ ∀ j u, cs[j]? = some u → (W.alloc (.cells c t)).cell? (ad.add j) = some u := by
  rcases h with h | ⟨ad, c', h1, h2⟩
  · exact Or.inl h
  · exact Or.inr ⟨ad, c', h1, fun j u hu => by rw [alloc_grow]; exact cell_grow (h2 j u hu)⟩
theorem sl_joined {w : World} {B : Nat} {e : TypeId} {v : Value} {l m : List St} (hl : l.length + m.length ≤ 9223372036854775807) (h : w.ownsRow B e 3 v (0 + l.length + m.length) ([] ++ cells3 l ++ cells3 m)) : Sl w v (l ++ m) := by
  rw [Nat.zero_add, List.nil_append, ← cells3_app, ← List.length_append] at h
  exact sl_own (by rw [List.length_append]; exact hl) h
theorem own_empty {W : World} {e : TypeId} : (W.alloc (.cells #[] e)).ownsRow W.heap.size e 3 (.slice (some ⟨W.heap.size, 0, none⟩) 0 0) 0 [] :=
  ⟨by simp, .inr ⟨W.heap.size, 0, #[], rfl, Nat.le_refl _, heap_alloc_new W _, Nat.le_refl _, Nat.zero_le _, by simp, by simp⟩⟩
theorem own_joined {w : World} {A X Y : Gr} {c : Obj} {e : TypeId} : ((((((w.alloc c).grow A).grow X).grow Y)).alloc (.cells #[] e)).ownsRow ((((w.alloc c).grow A).grow X).grow Y).heap.size e 3 (.slice (some ⟨w.heap.size + 1 + A.blocks.size + X.blocks.size + Y.blocks.size, 0, none⟩) 0 0) 0 [] := by
  have h := own_empty (W := ((((w.alloc c).grow A).grow X).grow Y)) (e := e)
  have e1 : ((((w.alloc c).grow A).grow X).grow Y).heap.size = w.heap.size + 1 + A.blocks.size + X.blocks.size + Y.blocks.size := by simp [World.grow]; omega
  rwa [e1] at h ⊢
set_option maxRecDepth 100000 in
set_option maxHeartbeats 4000000 in
theorem walk (v : Value) (l : List St) (v2 : Value) (m : List St) (x y : Int) (w : World) (h : Sl w v l) (hla : ∀ a n cap, v = .slice a n cap → n ≤ 5864062014805 ∧ (a = none → n = 0 ∧ cap = 0))
    (h2 : Sl w v2 m) (hlb : ∀ a n cap, v2 = .slice a n cap → n ≤ 5864062014805 ∧ (a = none → n = 0 ∧ cap = 0)) (_hx : (Lit.int .i64 x).wf = true) (_hy : (Lit.int .i64 y).wf = true) :
    Calls Try.prog 8 #[v, v2, .agg #[.int .i64 x, .int .i64 y]] w (Ret (.bool true) w) := by
  obtain ⟨b, cap', rfl, hl2, hc2⟩ := h2
  have H2 : ∀ X, Sl (w.grow X) (.slice b m.length cap') m := fun X => Sl.grow ⟨b, cap', rfl, hl2, hc2⟩ X
  have HM := Lib.hid H2
  have HMW := Lib.hid (show Sl w (.slice b m.length cap') m from ⟨b, cap', rfl, hl2, hc2⟩)
  clear H2 hc2
  have HSW := Lib.hid h
  obtain ⟨a, cap, rfl, hl, hc⟩ := h
  have H : ∀ X, Sl (w.grow X) (.slice a l.length cap) l := fun X => Sl.grow ⟨a, cap, rfl, hl, hc⟩ X
  have HS := Lib.hid H
  clear H hc
  obtain ⟨la, hna⟩ := hla _ _ _ rfl
  obtain ⟨lb, hnb⟩ := hlb _ _ _ rfl
  have hna := Lib.hid hna
  have hnb := Lib.hid hnb
  clear hla hlb _hx _hy
  by_cases hlen : l.length + m.length ≤ 8
  · clear la lb hl hl2
    cases hok : rightB m && nearB x 4096 && nearB y 4096
    · have e1 : runV m x y = .tuple #[.int .i64 0, .int .i64 0, .int .i64 1] := by unfold runV; rw [hok]; rfl
      obtain ⟨p, q, r, e2⟩ := runV_tuple l 0 0
      obtain ⟨p', q', r', e3⟩ := runV_tuple (l ++ m) x y
      have HR1 := Lib.hid (fun W (hs : Sl W (.slice b m.length cap') m) => e1 ▸ run_any (.slice b m.length cap') m x y W hs)
      have HR2 := Lib.hid (fun W (hs : Sl W (.slice a l.length cap) l) => e2 ▸ run_any (.slice a l.length cap) l 0 0 W hs)
      have HR3 := Lib.hid (fun u W (hs : Sl W u (l ++ m)) => e3 ▸ run_any u (l ++ m) x y W hs)
      clear e1 e2 e3 hok
      go_enter Try.func8, Try.ntmps8
      go_wp2_with (go_at_call 10; refine (awake_any _).mono ?_; rintro e w' ⟨rfl, A, rfl⟩)
      refine (HR1.out _ (Sl.grow (sl_alloc HMW.out _) A)).mono ?_
      rintro e w' ⟨rfl, X1, rfl⟩
      go_wp2_with fail
      refine (HR2.out _ (Sl.grow (Sl.grow (sl_alloc HSW.out _) A) X1)).mono ?_
      rintro e w' ⟨rfl, X2, rfl⟩
      go_wp2_with (first | (at_builtin; (refine append_src rfl _ _ 22 rfl steps_row ((((w.alloc (.cells #[.int .i64 x, .int .i64 y] 32)).grow A).grow X1).grow X2) rfl own_joined (by repeat (first | with_reducible exact Below.refl _ _ | (with_reducible refine Below.alloc ?_ (by first | omega | (simp [go_sem] <;> omega)) _) | (with_reducible refine Below.drew ?_) | (with_reducible refine Below.drewN ?_ _) | (with_reducible refine Below.grow ?_ (by first | omega | (simp [go_sem] <;> omega)) _) | (with_reducible refine Below.setCell ?_ (by first | omega | (simp [go_sem] <;> omega)) _))) l.length (cells3 l) (src_alloc (src_of (Sl.grow (Sl.grow (Sl.grow (sl_alloc HSW.out _) A) X1) X2) hna.out) _ _) (cells3_len l) (cells3_one l) (by unfold maxLen; omega) (by omega) ?_); intro v1 Z1 hown1) | (at_builtin; (refine append_src rfl _ _ 22 rfl steps_row ((((w.alloc (.cells #[.int .i64 x, .int .i64 y] 32)).grow A).grow X1).grow X2) rfl hown1 (by repeat (first | with_reducible exact Below.refl _ _ | (with_reducible refine Below.alloc ?_ (by first | omega | (simp [go_sem] <;> omega)) _) | (with_reducible refine Below.drew ?_) | (with_reducible refine Below.drewN ?_ _) | (with_reducible refine Below.grow ?_ (by first | omega | (simp [go_sem] <;> omega)) _) | (with_reducible refine Below.setCell ?_ (by first | omega | (simp [go_sem] <;> omega)) _))) m.length (cells3 m) (src_of (Sl.grow (Sl.grow (Sl.grow (Sl.grow (sl_alloc HMW.out _) A) X1) X2) Z1) hnb.out) (cells3_len m) (cells3_one m) (by unfold maxLen; omega) (by omega) ?_); intro v2 Z2 hown2; have S3 := sl_joined (by omega) hown2; clear hown1 hown2) | (go_at_call 11; (refine (HR3.out _ _ S3).mono ?_); rintro e w' ⟨rfl, X3, rfl⟩))
      go_ret
      exact Ret.of rfl (by repeat (first | with_reducible exact Below.refl _ _ | (with_reducible refine Below.alloc ?_ (by first | omega | (simp [go_sem] <;> omega)) _) | (with_reducible refine Below.drew ?_) | (with_reducible refine Below.drewN ?_ _) | (with_reducible refine Below.grow ?_ (by first | omega | (simp [go_sem] <;> omega)) _) | (with_reducible refine Below.setCell ?_ (by first | omega | (simp [go_sem] <;> omega)) _)))
    · simp only [Bool.and_eq_true] at hok
      obtain ⟨⟨hr, h1⟩, h2⟩ := hok
      have e1 := runV_right hr x y h1 h2
      obtain ⟨P, hP⟩ : ∃ P, allR m (x, y) = P := ⟨_, rfl⟩
      obtain ⟨P1, P2⟩ := P
      cases hok2 : rightB l && nearB P1 4096 && nearB P2 4096
      · have e2 : runV l P1 P2 = .tuple #[.int .i64 0, .int .i64 0, .int .i64 1] := by unfold runV; rw [hok2]; rfl
        obtain ⟨p', q', r', e3⟩ := runV_tuple (l ++ m) x y
        rw [hP] at e1
        have HR1 := Lib.hid (fun W (hs : Sl W (.slice b m.length cap') m) => e1 ▸ run_any (.slice b m.length cap') m x y W hs)
        have HR2 := Lib.hid (fun W (hs : Sl W (.slice a l.length cap) l) => e2 ▸ run_any (.slice a l.length cap) l P1 P2 W hs)
        have HR3 := Lib.hid (fun u W (hs : Sl W u (l ++ m)) => e3 ▸ run_any u (l ++ m) x y W hs)
        clear e1 e2 e3 hok2 hP h1 h2 hr
        go_enter Try.func8, Try.ntmps8
        go_wp2_with (go_at_call 10; refine (awake_any _).mono ?_; rintro e w' ⟨rfl, A, rfl⟩)
        refine (HR1.out _ (Sl.grow (sl_alloc HMW.out _) A)).mono ?_
        rintro e w' ⟨rfl, X1, rfl⟩
        go_wp2_with fail
        refine (HR2.out _ (Sl.grow (Sl.grow (sl_alloc HSW.out _) A) X1)).mono ?_
        rintro e w' ⟨rfl, X2, rfl⟩
        go_wp2_with (first | (at_builtin; (refine append_src rfl _ _ 22 rfl steps_row ((((w.alloc (.cells #[.int .i64 x, .int .i64 y] 32)).grow A).grow X1).grow X2) rfl own_joined (by repeat (first | with_reducible exact Below.refl _ _ | (with_reducible refine Below.alloc ?_ (by first | omega | (simp [go_sem] <;> omega)) _) | (with_reducible refine Below.drew ?_) | (with_reducible refine Below.drewN ?_ _) | (with_reducible refine Below.grow ?_ (by first | omega | (simp [go_sem] <;> omega)) _) | (with_reducible refine Below.setCell ?_ (by first | omega | (simp [go_sem] <;> omega)) _))) l.length (cells3 l) (src_alloc (src_of (Sl.grow (Sl.grow (Sl.grow (sl_alloc HSW.out _) A) X1) X2) hna.out) _ _) (cells3_len l) (cells3_one l) (by unfold maxLen; omega) (by omega) ?_); intro v1 Z1 hown1) | (at_builtin; (refine append_src rfl _ _ 22 rfl steps_row ((((w.alloc (.cells #[.int .i64 x, .int .i64 y] 32)).grow A).grow X1).grow X2) rfl hown1 (by repeat (first | with_reducible exact Below.refl _ _ | (with_reducible refine Below.alloc ?_ (by first | omega | (simp [go_sem] <;> omega)) _) | (with_reducible refine Below.drew ?_) | (with_reducible refine Below.drewN ?_ _) | (with_reducible refine Below.grow ?_ (by first | omega | (simp [go_sem] <;> omega)) _) | (with_reducible refine Below.setCell ?_ (by first | omega | (simp [go_sem] <;> omega)) _))) m.length (cells3 m) (src_of (Sl.grow (Sl.grow (Sl.grow (Sl.grow (sl_alloc HMW.out _) A) X1) X2) Z1) hnb.out) (cells3_len m) (cells3_one m) (by unfold maxLen; omega) (by omega) ?_); intro v2 Z2 hown2; have S3 := sl_joined (by omega) hown2; clear hown1 hown2) | (go_at_call 11; (refine (HR3.out _ _ S3).mono ?_); rintro e w' ⟨rfl, X3, rfl⟩))
        go_ret
        exact Ret.of rfl (by repeat (first | with_reducible exact Below.refl _ _ | (with_reducible refine Below.alloc ?_ (by first | omega | (simp [go_sem] <;> omega)) _) | (with_reducible refine Below.drew ?_) | (with_reducible refine Below.drewN ?_ _) | (with_reducible refine Below.grow ?_ (by first | omega | (simp [go_sem] <;> omega)) _) | (with_reducible refine Below.setCell ?_ (by first | omega | (simp [go_sem] <;> omega)) _)))
      · simp only [Bool.and_eq_true] at hok2
        obtain ⟨⟨hr2, h3⟩, h4⟩ := hok2
        have e2 := runV_right hr2 P1 P2 h3 h4
        have e3 := runV_right (right_app l m hr2 hr hlen) x y h1 h2
        rw [joins_law, hP] at e3
        rw [hP] at e1
        generalize allR l (P1, P2) = Q at *
        obtain ⟨Q1, Q2⟩ := Q
        dsimp only at *
        have HR1 := Lib.hid (fun W (hs : Sl W (.slice b m.length cap') m) => e1 ▸ run_any (.slice b m.length cap') m x y W hs)
        have HR2 := Lib.hid (fun W (hs : Sl W (.slice a l.length cap) l) => e2 ▸ run_any (.slice a l.length cap) l P1 P2 W hs)
        have HR3 := Lib.hid (fun u W (hs : Sl W u (l ++ m)) => e3 ▸ run_any u (l ++ m) x y W hs)
        clear e1 e2 e3 hP h1 h2 h3 h4 hr hr2
        go_enter Try.func8, Try.ntmps8
        go_wp2_with (go_at_call 10; refine (awake_any _).mono ?_; rintro e w' ⟨rfl, A, rfl⟩)
        refine (HR1.out _ (Sl.grow (sl_alloc HMW.out _) A)).mono ?_
        rintro e w' ⟨rfl, X1, rfl⟩
        go_wp2_with fail
        refine (HR2.out _ (Sl.grow (Sl.grow (sl_alloc HSW.out _) A) X1)).mono ?_
        rintro e w' ⟨rfl, X2, rfl⟩
        go_wp2_with (first | (at_builtin; (refine append_src rfl _ _ 22 rfl steps_row ((((w.alloc (.cells #[.int .i64 x, .int .i64 y] 32)).grow A).grow X1).grow X2) rfl own_joined (by repeat (first | with_reducible exact Below.refl _ _ | (with_reducible refine Below.alloc ?_ (by first | omega | (simp [go_sem] <;> omega)) _) | (with_reducible refine Below.drew ?_) | (with_reducible refine Below.drewN ?_ _) | (with_reducible refine Below.grow ?_ (by first | omega | (simp [go_sem] <;> omega)) _) | (with_reducible refine Below.setCell ?_ (by first | omega | (simp [go_sem] <;> omega)) _))) l.length (cells3 l) (src_alloc (src_of (Sl.grow (Sl.grow (Sl.grow (sl_alloc HSW.out _) A) X1) X2) hna.out) _ _) (cells3_len l) (cells3_one l) (by unfold maxLen; omega) (by omega) ?_); intro v1 Z1 hown1) | (at_builtin; (refine append_src rfl _ _ 22 rfl steps_row ((((w.alloc (.cells #[.int .i64 x, .int .i64 y] 32)).grow A).grow X1).grow X2) rfl hown1 (by repeat (first | with_reducible exact Below.refl _ _ | (with_reducible refine Below.alloc ?_ (by first | omega | (simp [go_sem] <;> omega)) _) | (with_reducible refine Below.drew ?_) | (with_reducible refine Below.drewN ?_ _) | (with_reducible refine Below.grow ?_ (by first | omega | (simp [go_sem] <;> omega)) _) | (with_reducible refine Below.setCell ?_ (by first | omega | (simp [go_sem] <;> omega)) _))) m.length (cells3 m) (src_of (Sl.grow (Sl.grow (Sl.grow (Sl.grow (sl_alloc HMW.out _) A) X1) X2) Z1) hnb.out) (cells3_len m) (cells3_one m) (by unfold maxLen; omega) (by omega) ?_); intro v2 Z2 hown2; have S3 := sl_joined (by omega) hown2; clear hown1 hown2) | (go_at_call 11; (refine (HR3.out _ _ S3).mono ?_); rintro e w' ⟨rfl, X3, rfl⟩))
        go_ret
        exact Ret.of rfl (by repeat (first | with_reducible exact Below.refl _ _ | (with_reducible refine Below.alloc ?_ (by first | omega | (simp [go_sem] <;> omega)) _) | (with_reducible refine Below.drew ?_) | (with_reducible refine Below.drewN ?_ _) | (with_reducible refine Below.grow ?_ (by first | omega | (simp [go_sem] <;> omega)) _) | (with_reducible refine Below.setCell ?_ (by first | omega | (simp [go_sem] <;> omega)) _)))
  · go_enter Try.func8, Try.ntmps8
    go_wp2_with (go_at_call 10; refine (awake_any _).mono ?_; rintro e w' ⟨rfl, A, rfl⟩)
    go_ret
    exact Ret.of rfl (by repeat (first | with_reducible exact Below.refl _ _ | (with_reducible refine Below.alloc ?_ (by first | omega | (simp [go_sem] <;> omega)) _) | (with_reducible refine Below.drew ?_) | (with_reducible refine Below.drewN ?_ _) | (with_reducible refine Below.grow ?_ (by first | omega | (simp [go_sem] <;> omega)) _) | (with_reducible refine Below.setCell ?_ (by first | omega | (simp [go_sem] <;> omega)) _)))

set_option maxRecDepth 100000 in
theorem lifted (os : Os) (started : os.Started) (H : Type) (enc : TypeId × Value → H) :
    ReturnsInHanded {} Try.checked os 8 .any (Rows.turnJoinsSpec.pre6 enc Try.prog Try.f8 Rows.turnJoinsRow.domain false) (Rows.turnJoinsSpec.post enc Try.prog Try.f8 false true false false) := by
  refine returnsInHanded_of_change_sized (C := Try.checked) own started (by kernel_rfl) Try.func8
    (ChangeSpec.witness6 (enc := enc) (C := Try.checked) false ⟨#[], #[.slice none 0 0, .slice none 0 0, .agg #[.int .i64 0, .int .i64 0]], []⟩ 8 (by kernel_rfl) (by kernel_rfl) (by kernel_rfl) (by kernel_rfl)) ?_
  intro W base args ds gs before hval0 hW hcnd hsz0 _
  have hval : ∀ (j : Nat) t v, Try.f8.params[j]? = some t → args[j]? = some v → Value.okWide Try.prog W .any base t v := hval0
  have hW' := hW
  obtain ⟨p, q, hA0, hV, rfl, hfz, hnd⟩ := hW
  have hA : DataW.TrodAll enc Try.prog W 0 (fun _ => true) true Try.f8.params.toList args.toList ds p := hA0
  rw [Try.params8] at hA hval
  have hsz : (DataW.weightsEach Try.prog (Try.f8.params.toList ++ Rows.turnJoinsSpec.plain.varTypes Try.prog) (ds ++ gs)).all (· ≤ reachBytes) = true := hsz0
  rw [Try.params8] at hsz
  obtain ⟨v0, vs0, d0, ds0, p0, q0, hargs, rfl, rfl, h0, r0⟩ := trodAll_cons hA
  obtain ⟨v1, vs1, d1, ds1, p1, q1, rfl, rfl, rfl, h1, r1⟩ := trodAll_cons r0
  obtain ⟨v2, vs2, d2, ds2, p2, q2, rfl, rfl, rfl, h2, r2⟩ := trodAll_cons r1
  obtain ⟨rfl, rfl, rfl⟩ := trodAll_nil r2
  obtain rfl : args = #[v0, v1, v2] := by cases args; simp_all
  obtain ⟨rfl, rfl⟩ := trodVars_none hV
  obtain ⟨a0, len0, cap0, rfl⟩ := okWide_slice Try.underlying22 (hval 0 22 v0 rfl rfl)
  have k0 := h0
  have lt0 : ∀ x ∈ p0, x.block < W.heap.size := by obtain ⟨m, hm⟩ := k0; exact DataW.trod_lt m _ _ _ hm
  obtain ⟨z0, e0, w0⟩ : ∃ l, l.length = len0 ∧ Sl W (.slice a0 len0 cap0) l := by obtain ⟨fuel, hf⟩ := h0; exact sl_open (by simpa [Value.cells] using hf)
  have s0 : ∀ a n cap, Value.slice a0 len0 cap0 = .slice a n cap → n ≤ 5864062014805 ∧ (a = none → n = 0 ∧ cap = 0) := fun _ _ _ h => by cases h; exact sl_reach (j := 0) hsz rfl rfl k0
  obtain ⟨a1, len1, cap1, rfl⟩ := okWide_slice Try.underlying22 (hval 1 22 v1 rfl rfl)
  have k1 := h1
  have lt1 : ∀ x ∈ p1, x.block < W.heap.size := by obtain ⟨m, hm⟩ := k1; exact DataW.trod_lt m _ _ _ hm
  obtain ⟨z1, e1, w1⟩ : ∃ l, l.length = len1 ∧ Sl W (.slice a1 len1 cap1) l := by obtain ⟨fuel, hf⟩ := h1; exact sl_open (by simpa [Value.cells] using hf)
  have s1 : ∀ a n cap, Value.slice a1 len1 cap1 = .slice a n cap → n ≤ 5864062014805 ∧ (a = none → n = 0 ∧ cap = 0) := fun _ _ _ h => by cases h; exact sl_reach (j := 1) hsz rfl rfl k1
  have k2 := h2
  have lt2 : ∀ x ∈ p2, x.block < W.heap.size := by obtain ⟨m, hm⟩ := k2; exact DataW.trod_lt m _ _ _ hm
  obtain ⟨a2, b2, rfl, w2, u2⟩ := open_two (hval 2 32 v2 rfl rfl) h2
  clear hA0 hval0 hsz0 hsz
  refine (walk (.slice a0 len0 cap0) z0 (.slice a1 len1 cap1) z1 a2 b2 W w0 s0 w1 s1 w2 u2).mono fun e W' hend => ?_
  obtain ⟨he, X, hX⟩ := hend
  have bel : Below W.heap.size W W' := by rw [hX]; exact below_grow W X
  subst he
  exact ⟨_, rfl, _, _, _, [], _, [], hW', trodAll_mk1 (shut_bool Try.underlying4 _), (trodAll_cons_mk (Below.trod laidOut (by kernel_rfl) (of_decide_eq_true (by kernel_rfl)) k0 bel lt0) (trodAll_cons_mk (Below.trod laidOut (by kernel_rfl) (of_decide_eq_true (by kernel_rfl)) k1 bel lt1) (trodAll_cons_mk (Below.trod laidOut (by kernel_rfl) (of_decide_eq_true (by kernel_rfl)) k2 bel lt2) trodAll_mk0))), rfl, bel.frame _, fun h => by cases h⟩

theorem over : Rows.turnJoinsRow.holds Try.pinned (OpenSpec.ofChange Rows.turnJoinsSpec) :=
  OpenClaim.holds_of_wide 8 Try.f8 rfl rfl rfl rfl rfl rfl rfl ⟨rfl, rfl, rfl, rfl, rfl⟩ rfl rfl rfl rfl rfl (by kernel_rfl) Try.func8 (by kernel_rfl)
    (of_decide_eq_true (by kernel_rfl)) (by unfold Func.isWrapper; rw [if_neg (of_decide_eq_false (by kernel_rfl))]; exact ⟨rfl, rfl⟩)
    (fun os started H enc _ => lifted os started H enc)

/-- The statement. -/
theorem proved : Rows.TurnJoinsSaid := over

end Go.Proofs.Ytendepongefklaa.turnJoins
