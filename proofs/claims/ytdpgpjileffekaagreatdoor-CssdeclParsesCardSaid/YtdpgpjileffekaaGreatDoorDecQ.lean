/- The walks of declarations by the reference: a style's declarations. -/
import Derived.Test.YtdpgpjileffekaaGreatDoorDecI
import Derived.Test.YtdpgpjileffekaaGreatDoorDecP
import Derived.Test.YtdpgpjileffekaaGreatDoorCssX
namespace Go.Proofs.YtdpgpjileffekaaGreatDoor
open Go.RowKit Go.Shelf
attribute [local go_sem] Oper.semAt_some
/-! The parts of what is left, where a part has begun. -/
def partsP (p : List Css) (d : Nat) (l : List Css) : List (List Css) := match partsL d l with
  | [] => []
  | q :: qs => (p ++ q) :: qs
def declsR (p : List Css) (d : Nat) (l : List Css) : List Dcl := (partsP p d l).filterMap declOf
theorem declsR_start (l : List Css) : declsR [] 0 l = declsL l := by
  unfold declsR partsP declsL
  cases partsL 0 l <;> rfl
theorem declsR_end (p : List Css) (d : Nat) : declsR p d [] = (declOf p).toList := by
  unfold declsR partsP
  simp only [partsL, List.append_nil, List.filterMap_cons, List.filterMap_nil]
  cases declOf p <;> rfl
theorem declsR_cut {p : List Css} {x : Css} (h : mk1 59 x = true) (l : List Css) : declsR p 0 (x :: l) = (declOf p).toList ++ declsR [] 0 l := by
  rw [declsR_start]
  unfold declsR partsP declsL
  simp only [partsL, h, decide_true, Bool.and_self, if_true, List.append_nil, List.filterMap_cons]
  cases declOf p <;> rfl
theorem declsR_more {p : List Css} {d : Nat} {x : Css} (h : (mk1 59 x && decide (d = 0)) = false) (l : List Css) : declsR p d (x :: l) = declsR (p ++ [x]) (dn d x) l := by
  unfold declsR partsP
  simp only [partsL, h, Bool.false_eq_true, if_false]
  obtain ⟨q, qs, hq⟩ := parts_ne (dn d x) l
  rw [hq]
  simp
/-! What stands between two rounds. -/
/-- A value of a declaration that lies in a part's row, of a block ahead of N. -/
def PV (base N : Nat) (W : World) (d : Dcl) (u : Value) : Prop :=
  ∃ g cap n ys, W.ownsRow base 36 4 (.slice (some ⟨g, 0, none⟩) n cap) n ys ∧ g < N ∧ d.value.length + 2 ≤ n ∧ u = .slice (some ⟨g, 8, none⟩) d.value.length (cap - 2) ∧ ∃ rest, ys.drop 8 = cssCells d.value ++ rest
theorem PV.vr {base N : Nat} {W : World} {d : Dcl} {u : Value} (h : PV base N W d u) : VR W d u := by
  obtain ⟨g, cap, n, ys, ho, hg, hn, rfl, rest, hr⟩ := h
  have hcap : n ≤ cap := by obtain ⟨A, c, h1, h2⟩ := own_cap ho; cases h1; exact h2
  have hm := (Rd.own ho).2.1
  obtain ⟨hl, a, cap', he, _, hc⟩ := own_cells ho
  cases he
  refine ⟨_, _, rfl, fun h => (by cases h), by omega, flat_len Css.cells 4 (fun _ => rfl) _, by omega, _, _, rfl, fun h0 => ?_⟩
  rcases hc with hc | ⟨b, hb, _, hlt, hc⟩
  · omega
  · cases hb
    refine ⟨g, 8, rfl, hlt, fun j x hj => hc _ _ ?_⟩
    have : (ys.drop 8)[j]? = some x := by
      rw [hr, List.getElem?_append_left]
      · exact hj
      · exact (List.getElem?_eq_some_iff.1 hj).1
    rwa [List.getElem?_drop] at this
theorem PV.up {base N N' : Nat} {W : World} {d : Dcl} {u : Value} (h : PV base N W d u) (hN : N ≤ N') : PV base N' W d u := by
  obtain ⟨g, cap, n, ys, ho, hg, h3⟩ := h
  exact ⟨g, cap, n, ys, ho, by omega, h3⟩
theorem PV.below {base N : Nat} {W W' : World} {d : Dcl} {u : Value} (h : PV base N W d u) (hb : Below W.heap.size W W') : PV base N W' d u := by
  obtain ⟨g, cap, n, ys, ho, h3⟩ := h
  exact ⟨g, cap, n, ys, own_below ho hb, h3⟩
structure RP (W1 : World) (ds : List Dcl) (p : List Css) (v pv : Value) (W : World) : Prop where
  below : Below W1.heap.size W1 W
  rows : ∃ vs N, W1.heap.size ≤ N ∧ N ≤ W.heap.size ∧ W.ownsRow W1.heap.size 31 3 v ds.length (dclFlat ds vs) ∧ W.ownsRow N 36 4 pv p.length (cssCells p) ∧ AllV (PV W1.heap.size N W) ds vs
theorem RP.step {W1 W W' : World} {ds : List Dcl} {p : List Css} {v pv : Value} (h : RP W1 ds p v pv W) (hb : Below W.heap.size W W') : RP W1 ds p v pv W' := by
  obtain ⟨h1, vs, N, h2, h3, h4, h5, h6⟩ := h
  exact ⟨below_next h1 hb, vs, N, h2, by have := hb.size; omega, own_below h4 hb, own_below h5 hb, h6.mono fun d u _ h => h.below hb⟩
/-- The part is let go. -/
theorem RP.drop {W1 W : World} {ds : List Dcl} {p : List Css} {v pv : Value} (h : RP W1 ds p v pv W) : RP W1 ds [] v (.slice none 0 0) W := by
  obtain ⟨h1, vs, N, h2, h3, h4, h5, h6⟩ := h
  exact ⟨h1, vs, W.heap.size, h1.size, Nat.le_refl _, h4, World.ownsRow_nil _ _ _ _, h6.mono fun d u _ h => h.up h3⟩
/-- A piece more. -/
theorem RP.more {W1 W W' : World} {ds : List Dcl} {p : List Css} {v pv pv' : Value} {x : Css} {N m : Nat} {vs : List Value} {cells : List Value} (h1 : Below W1.heap.size W1 W) (h2 : W1.heap.size ≤ N) (h3 : N ≤ W.heap.size)
    (h4 : W.ownsRow W1.heap.size 31 3 v ds.length (dclFlat ds vs)) (h5 : W.ownsRow N 36 4 pv p.length (cssCells p)) (h6 : AllV (PV W1.heap.size N W) ds vs)
    (hp : W'.ownsRow N 36 4 pv' m (cssCells p ++ cells)) (hm : m = p.length + 1) (hc : cells = Css.cells x) (hg : W.grownBy W' pv.ownBlock) : RP W1 ds (p ++ [x]) v pv' W' := by
  subst hm hc
  have hN : ∀ b, pv.ownBlock = some b → N ≤ b := fun b hb => (h5.lt b hb).1
  refine ⟨h1.grown hg h1.size fun b hb => by have := hN b hb; omega, vs, N, h2, Nat.le_trans h3 hg.size, ?_, ?_, h6.mono fun d u _ h => ?_⟩
  · exact own_grown hg h4 fun b hb hb2 => own_apart h4 h5 (by decide) b hb hb2
  · rw [cssCells, List.flatMap_append, List.length_append]
    simpa [cssCells] using hp
  · obtain ⟨g, cap, n, ys, ho, hlt, h7⟩ := h
    exact ⟨g, cap, n, ys, own_grown hg ho fun b hb hb2 => by
      have := hN b hb2
      simp [Value.ownBlock] at hb
      omega, hlt, h7⟩
/-- A declaration more. -/
theorem RP.put {W1 W W' : World} {ds : List Dcl} {p : List Css} {v pv v' : Value} {d : Dcl} {N m : Nat} {vs : List Value} {nm : ByteArray} {u : Value} {im : Bool} (h1 : Below W1.heap.size W1 W) (h2 : W1.heap.size ≤ N) (h3 : N ≤ W.heap.size)
    (h4 : W.ownsRow W1.heap.size 31 3 v ds.length (dclFlat ds vs)) (h5 : W.ownsRow N 36 4 pv p.length (cssCells p)) (h6 : AllV (PV W1.heap.size N W) ds vs)
    (ho : W'.ownsRow W1.heap.size 31 3 v' m (dclFlat ds vs ++ [.string nm, u, .bool im])) (hm : m = ds.length + 1) (hg : W.grownBy W' v.ownBlock)
    {A : Option Addr} {c : Nat} (hpv : pv = .slice A p.length c) (hd : declOf p = some d) (hu : ∃ b off, A = some ⟨b, off, none⟩ ∧ nm = ⟨d.name.toArray⟩ ∧ u = .slice (some ⟨b, off + 8, none⟩) d.value.length (c - 2) ∧ im = d.imp) :
    RP W1 (ds ++ [d]) [] v' (.slice none 0 0) W' := by
  obtain ⟨b, off, rfl, rfl, rfl, rfl⟩ := hu
  subst hm hpv
  have hV : ∀ b, v.ownBlock = some b → W1.heap.size ≤ b := fun b hb => (h4.lt b hb).1
  have far : ∀ {B : Nat} {u : Value} {k : Nat} {xs : List Value}, W.ownsRow B 36 4 u k xs → W'.ownsRow B 36 4 u k xs := fun h => own_grown hg h (fun b hb => own_apart h h4 (by decide) b hb)
  have hoff : off = 0 ∧ b < W.heap.size := by
    rcases h5.2 with ⟨h7, _⟩ | ⟨g, cap, cur, h7, _, h8, _⟩
    · simp at h7
    · simp only [Value.slice.injEq, Option.some.injEq, Addr.mk.injEq] at h7
      obtain ⟨⟨rfl, rfl, _⟩, _⟩ := h7
      exact ⟨rfl, (Array.getElem?_eq_some_iff.1 h8).1⟩
  obtain ⟨rfl, hb⟩ := hoff
  have hq : W.ownsRow W1.heap.size 36 4 (.slice (some ⟨b, 0, none⟩) p.length c) p.length (cssCells p) := own_base h5 h2
  have hnew : PV W1.heap.size W'.heap.size W' d (.slice (some ⟨b, 0 + 8, none⟩) d.value.length (c - 2)) := by
    have h3p : ¬ p.length < 3 := fun h => by rw [declOf_short h] at hd; cases hd
    have hlen : d.value = urgV (p.drop 2) := by
      rw [declOf_at (by omega)] at hd
      split at hd
      · cases hd; rfl
      · cases hd
    have hle : d.value.length ≤ p.length - 2 := by
      rw [hlen]
      have := urgV_le (p.drop 2)
      rw [List.length_drop] at this; exact this
    refine ⟨b, c, p.length, cssCells p, far hq, Nat.lt_of_lt_of_le hb hg.size, by omega, rfl, cssCells ((p.drop 2).drop d.value.length), ?_⟩
    have e1 : (cssCells p).drop 8 = cssCells (p.drop 2) := by
      match p, h3p with
      | a :: b :: r, _ => rfl
      | [_], h => simp at h
      | [], h => simp at h
    rw [e1, cssCells, cssCells, cssCells, ← List.flatMap_append]
    congr 1
    conv => lhs; rw [← List.take_append_drop d.value.length (p.drop 2)]
    congr 1
    rw [hlen]; exact (urgV_take _).symm
  refine ⟨h1.grown hg h1.size fun b hb => hV b hb, vs ++ [_], W'.heap.size, Nat.le_trans h1.size hg.size, Nat.le_refl _, ?_, World.ownsRow_nil _ _ _ _, AllV.snoc hnew (h6.mono fun d u _ h => ?_)⟩
  · rw [flat_snoc d _ _ _ h6.len, List.length_append]
    exact ho
  · obtain ⟨g, cap, n, ys, ho', hlt, h7⟩ := h
    exact ⟨g, cap, n, ys, far ho', by have := hg.size; omega, h7⟩
theorem RP.done {w W1 W : World} {ds : List Dcl} {p : List Css} {v pv : Value} (h : RP W1 ds p v pv W) (hw : Below w.heap.size w W1) : RetD w ds (.returned v) W := by
  obtain ⟨h1, vs, N, h2, h3, h4, h5, h6⟩ := h
  obtain ⟨X, hX⟩ := grow_of_below (below_next hw h1)
  obtain ⟨A, c, rfl, hc⟩ := own_cap h4
  exact ⟨A, c, X, rfl, hX, hc, own_nil h4, vs, by rw [← hX]; exact h6.mono fun d u _ h => h.vr, by rw [← hX]; exact Rd.own h4⟩
theorem mem_M {L : List Css} {k : Nat} (h : k < L.length) (h2 : k < (L ++ [mark1 59]).length) : (L ++ [mark1 59])[k] = L[k] := List.getElem_append_left h
set_option maxRecDepth 100000 in
set_option maxHeartbeats 16000000 in
theorem rparse_any (s : Bs) (w : World) (hm : s.length ≤ 100000000) : Calls Tryz.prog 11 #[.string ⟨s.toArray⟩] w (RetD w (declsL (cssL s))) := by
  have hmx : Tryz.prog.follows .mixedOrders = true := by kernel_rfl
  obtain ⟨L, hL⟩ : ∃ L, cssL s = L := ⟨_, rfl⟩
  have hfew : L.length ≤ 100000000 := by
    have := scan_few _ s (Nat.lt_succ_self _)
    change (cssL s).length ≤ _ at this
    rw [hL] at this; omega
  have HSc := Lib.hid (hL ▸ rscanO_any s w (by omega))
  rw [hL]
  clear hL hm
  obtain ⟨n, hn⟩ : ∃ n, L.length = n := ⟨_, rfl⟩
  have HLn := Lib.hid hn
  rw [hn] at HSc hfew
  clear hn
  go_enter Tryz.func11, Tryz.ntmps11
  go_wp2_with (first
    | (go_at_call 25; (with_reducible refine HSc.out.mono ?_); rintro e w' ⟨v1, X1, rfl, rfl, ho1⟩)
    | (at_builtin; go_loud (refine append_grow rfl _ _ 29 rfl css_row w rfl (ho1.alloc _) (by repeat (first | with_reducible exact Below.refl _ _ | (with_reducible refine Below.alloc ?_ (by first | omega | (simp [go_sem] <;> omega)) _) | (with_reducible refine Below.drew ?_) | (with_reducible refine Below.drewN ?_ _) | (with_reducible refine Below.grow ?_ (by first | omega | (simp [go_sem] <;> omega)) _) | (with_reducible refine Below.setCell ?_ (by first | omega | (simp [go_sem] <;> omega)) _))) ⟨_, 0, none⟩ 1 1 [.int .i64 6, .string ⟨#[59]⟩, .int .i64 0, .string ⟨#[]⟩] rfl rfl (new_cells (c := #[.int .i64 6, .string ⟨#[59]⟩, .int .i64 0, .string ⟨#[]⟩]) (by simp [go_sem])) (by simp [Value.oneCell']) (by unfold maxLen; omega) (by omega) ?_); intro v2 X2 ho2 _; obtain ⟨A2, c2, hv2, hc2⟩ := own_cap ho2; subst hv2))
  obtain ⟨W1, hW1⟩ : ∃ W1, w.grow X2 = W1 := ⟨_, rfl⟩
  have HB1 : Hid (Below w.heap.size w W1) := by show Below _ _ _; rw [← hW1]; exact below_grow _ _
  rw [hW1] at ho2 ⊢
  have hM0 : Rd W1 (.slice A2 (n + 1) c2) (L ++ [mark1 59]).length 4 (cssCells (L ++ [mark1 59])) := by
    have := Rd.own ho2
    rw [List.length_append, HLn.out, cssCells, List.flatMap_append]
    exact this
  have HM := Lib.hid hM0
  clear hW1 ho2 ho1 HSc hM0
  go_loopw [3, 4, 6, 7] (fun v pv dd i wr => ∃ (k d : Nat) (p : List Css) (ds : List Dcl), k ≤ n + 1 ∧ d ≤ k ∧ p.length ≤ k ∧ ds.length ≤ k ∧ i = .int .i64 k ∧ dd = .int .i64 d ∧ Hid (RP W1 ds p v pv wr) ∧ Hid ((k ≤ n ∧ declsL L = ds ++ declsR p d (L.drop k)) ∨ (k = n + 1 ∧ declsL L = ds))) (fun _ _ _ i _ => n + 1 - (intOf i).toNat)
  case atStart => exact ⟨0, 0, [], [], by omega, by omega, by simp, by simp, rfl, rfl, ⟨Below.refl _ _, [], W1.heap.size, Nat.le_refl _, Nat.le_refl _, World.ownsRow_nil _ _ _ _, World.ownsRow_nil _ _ _ _, trivial⟩, .inl ⟨by omega, by rw [List.drop_zero, declsR_start]; rfl⟩⟩
  case round =>
    obtain ⟨k, d, p, ds, hk, hdk, hpk, hdsk, rfl, rfl, HRP, HK⟩ := hrel
    by_cases hlt : k < n + 1
    · have hlt2 : k < (L ++ [mark1 59]).length := by rw [List.length_append, HLn.out]; exact hlt
      obtain ⟨b, off, rfl, hb, q0, q1, q2, q3⟩ := HM.out.css k hlt2
      have hx : k < n → ∀ h, (L ++ [mark1 59])[k]'hlt2 = L[k]'h := fun _ h => mem_M h hlt2
      have HXE : Hid (∀ h : k < n, ∃ h2, L[k]'h2 = (L ++ [mark1 59])[k]'hlt2) := fun h => ⟨by rw [HLn.out]; exact h, (mem_M _ _).symm⟩
      clear hx
      generalize (L ++ [mark1 59])[k] = x at *
      obtain ⟨cut, hcut⟩ : ∃ c, (decide (k = n) || (mk1 59 x && decide (d = 0))) = c := ⟨_, rfl⟩
      have HCut := Lib.hid hcut
      -- what follows
      have HNext : Hid (if cut then ((k + 1 ≤ n ∧ declsL L = (ds ++ (declOf p).toList) ++ declsR [] 0 (L.drop (k + 1))) ∨ (k + 1 = n + 1 ∧ declsL L = ds ++ (declOf p).toList)) else (k + 1 ≤ n ∧ declsL L = ds ++ declsR (p ++ [x]) (dn d x) (L.drop (k + 1)))) := by
        show ite _ _ _
        rcases HK.out with ⟨h1, h2⟩ | ⟨h1, _⟩
        · by_cases hkn : k = n
          · rw [decide_eq_true hkn, Bool.true_or] at hcut
            subst hcut
            rw [if_pos rfl]
            refine .inr ⟨by omega, ?_⟩
            rw [h2, List.drop_eq_nil_of_le (by rw [HLn.out]; omega), declsR_end]
          · rw [decide_eq_false hkn, Bool.false_or] at hcut
            obtain ⟨h3, h4⟩ := HXE.out (by omega)
            rw [List.drop_eq_getElem_cons h3, h4] at h2
            cases cut
            · rw [if_neg (by simp)]
              exact ⟨by omega, by rw [h2, declsR_more hcut]⟩
            · rw [if_pos rfl]
              simp only [Bool.and_eq_true, decide_eq_true_eq] at hcut
              obtain ⟨h5, rfl⟩ := hcut
              exact .inl ⟨by omega, by rw [h2, declsR_cut h5, List.append_assoc]⟩
        · omega
      have HI1 := Lib.hid (fun W => isM_one 59 x ▸ ris_any x [59] W)
      have HI2 := Lib.hid (fun W => isM_one 40 x ▸ ris_any x [40] W)
      have HI3 := Lib.hid (fun W => isM_one 41 x ▸ ris_any x [41] W)
      simp only [Css.agg, sv] at HI1 HI2 HI3 q1 q3
      have HOc := Lib.hid (op_cl x)
      have HDn : Hid (dn d x = if decide (x.kind = 2) || mk1 40 x then d + 1 else if mk1 41 x then d - 1 else d) := rfl
      have HOp : Hid (decide (x.kind = 2) || mk1 40 x → mk1 41 x = false) := HOc.out
      have HXc : Hid (Css.cells x = [.int .i64 x.kind, .string ⟨x.text.toArray⟩, .int .i64 x.num, .string ⟨x.unit.toArray⟩]) := rfl
      clear HOc HXE hcut
      generalize mk1 59 x = m59 at *
      generalize mk1 40 x = m40 at *
      generalize mk1 41 x = m41 at *
      generalize (⟨x.text.toArray⟩ : ByteArray) = a1 at *
      generalize (⟨x.unit.toArray⟩ : ByteArray) = a2 at *
      generalize hxk : x.kind = xk at *
      generalize hxn : x.num = xn at *
      have c0 := (HRP.out.below.cell hb).trans q0
      have c1 := (HRP.out.below.cell hb).trans q1
      have c2 := (HRP.out.below.cell hb).trans q2
      have c3 := (HRP.out.below.cell hb).trans q3
      have hbr : b < wr.heap.size := Nat.lt_of_lt_of_le hb HRP.out.below.size
      have hlb0 : ((k : Int) == (n : Int)) = decide (k = n) := by rw [Bool.eq_iff_iff]; simp; omega
      have HLb := Lib.hid hlb0
      clear hlb0
      go_upto_region 10 with fail
      obtain ⟨lb, hlb⟩ : ∃ b, ((k : Int) == (n : Int)) = b := ⟨_, rfl⟩
      have HC3 : Hid (cut = (lb || (m59 && decide (d = 0)))) := by show _ = _; rw [← HCut.out, ← hlb, HLb.out]
      rw [hlb]
      clear hlb HLb
      go_cut [41] (fun s wx => s = .bool (!cut) ∧ ∃ X, wx = wr.grow X)
      case first =>
        cases lb
        case true =>
          have HN : Hid (cut = true) := by show _ = _; rw [HC3.out]; rfl
          go_wp2_with fail
          go_meet
          case rel => exact ⟨by rw [HN.out]; rfl, _, (grow_refl _).symm⟩
        case false =>
          have HC2 : Hid (cut = (m59 && decide (d = 0))) := by show _ = _; rw [HC3.out]; rfl
          cases m59
          · have HN : Hid (cut = false) := by show _ = _; rw [HC2.out]; rfl
            have HI1' := Lib.hid HI1.out
            go_wp2_with (go_at_call 26; (with_reducible refine (HI1'.out _).mono ?_); rintro e w' ⟨rfl, Y1, rfl⟩)
            go_meet
            case rel => exact ⟨by rw [HN.out]; rfl, _, rfl⟩
          · have HI1' := Lib.hid HI1.out
            by_cases hd0 : d = 0
            · have HN : Hid (cut = true) := by show _ = _; rw [HC2.out, decide_eq_true hd0]; rfl
              have bd : ((d : Int) == 0) = true := by rw [beq_iff_eq]; omega
              clear hd0
              go_wp2_with (go_at_call 26; (with_reducible refine (HI1'.out _).mono ?_); rintro e w' ⟨rfl, Y1, rfl⟩)
              go_meet
              case rel => exact ⟨by rw [HN.out]; rfl, _, rfl⟩
            · have HN : Hid (cut = false) := by show _ = _; rw [HC2.out, decide_eq_false hd0]; rfl
              have bd : ((d : Int) == 0) = false := by rw [beq_eq_false_iff_ne]; omega
              clear hd0
              go_wp2_with (go_at_call 26; (with_reducible refine (HI1'.out _).mono ?_); rintro e w' ⟨rfl, Y1, rfl⟩)
              go_meet
              case rel => exact ⟨by rw [HN.out]; rfl, _, rfl⟩
      case rest =>
        obtain ⟨rfl, X, rfl⟩ := hcut
        obtain ⟨W2, hW2⟩ : ∃ W, wr.grow X = W := ⟨_, rfl⟩
        have HRP2 : Hid (RP W1 ds p u3 u4 W2) := by show RP _ _ _ _ _ _; rw [← hW2]; exact HRP.out.step (below_grow _ _)
        rw [hW2]
        clear hW2 c0 c1 c2 c3 hbr HI1 HCut HK HRP
        have c0 := (HRP2.out.below.cell hb).trans q0
        have c1 := (HRP2.out.below.cell hb).trans q1
        have c2 := (HRP2.out.below.cell hb).trans q2
        have c3 := (HRP2.out.below.cell hb).trans q3
        have hbr : b < W2.heap.size := Nat.lt_of_lt_of_le hb HRP2.out.below.size
        cases cut
        · obtain ⟨hk1, hek⟩ := (show k + 1 ≤ n ∧ declsL L = ds ++ declsR (p ++ [x]) (dn d x) (L.drop (k + 1)) from HNext.out)
          obtain ⟨hb2, vs, N, h2, h3, ho, hp, ha⟩ := HRP2.out.step (W' := W2.alloc (.cells #[.int .i64 xk, .string a1, .int .i64 xn, .string a2] 36)) (by exact (by repeat (first | with_reducible exact Below.refl _ _ | (with_reducible refine Below.alloc ?_ (by first | omega | (simp [go_sem] <;> omega)) _) | (with_reducible refine Below.drew ?_) | (with_reducible refine Below.drewN ?_ _) | (with_reducible refine Below.grow ?_ (by first | omega | (simp [go_sem] <;> omega)) _) | (with_reducible refine Below.setCell ?_ (by first | omega | (simp [go_sem] <;> omega)) _))))
          clear HNext
          by_cases hx2 : xk = 2
          · have b2 : (xk == 2) = true := by simp [hx2]
            have hm41 := HOp.out (by rw [decide_eq_true hx2]; rfl)
            subst hm41
            have HN : Hid (dn d x = d + 1) := by show _ = _; rw [HDn.out, decide_eq_true hx2]; rfl
            have HI3' := Lib.hid HI3.out
            have HI2' := Lib.hid HI2.out
            clear hx2 HOp HDn HI2 HI3
            go_wp2_with (first | (go_at_call 26; first | ((with_reducible refine (HI2'.out _).mono ?_); rintro e w' ⟨rfl, Y2, rfl⟩) | ((with_reducible refine (HI3'.out _).mono ?_); rintro e w' ⟨rfl, Y3, rfl⟩)) | (at_builtin; go_loud (refine append_abs rfl _ _ 29 rfl css_row N rfl hp h3 ⟨_, 0, none⟩ 1 1 [.int .i64 xk, .string a1, .int .i64 xn, .string a2] rfl rfl (new_cells (c := #[.int .i64 xk, .string a1, .int .i64 xn, .string a2]) (by simp [go_sem])) (by simp [Value.oneCell']) (by unfold maxLen; omega) (by omega) ?_); intro pv' W3 hp' hg'; have HRP3 : Hid (RP W1 ds (p ++ [x]) u3 pv' W3) := RP.more hb2 h2 h3 ho hp ha hp' rfl HXc.out.symm hg'; have g0 := (HRP3.out.below.cell hb).trans q0; have g1 := (HRP3.out.below.cell hb).trans q1; have g2 := (HRP3.out.below.cell hb).trans q2; have g3 := (HRP3.out.below.cell hb).trans q3; have hb3 : b < W3.heap.size := Nat.lt_of_lt_of_le hb HRP3.out.below.size))
            go_roundw
            case rel => exact ⟨k + 1, d + 1, p ++ [x], ds, by omega, by omega, by simp; omega, by omega, by go_num, by go_num, HRP3.out.step (by repeat (first | with_reducible exact Below.refl _ _ | (with_reducible refine Below.alloc ?_ (by first | omega | (simp [go_sem] <;> omega)) _) | (with_reducible refine Below.drew ?_) | (with_reducible refine Below.drewN ?_ _) | (with_reducible refine Below.grow ?_ (by first | omega | (simp [go_sem] <;> omega)) _) | (with_reducible refine Below.setCell ?_ (by first | omega | (simp [go_sem] <;> omega)) _))), .inl ⟨hk1, by rw [hek, HN.out]⟩⟩
            case measure => simp [intOf]; omega
          have b2 : (xk == 2) = false := by simpa using hx2
          have HDn2 : Hid (dn d x = if m40 then d + 1 else if m41 then d - 1 else d) := by show _ = _; rw [HDn.out, decide_eq_false hx2]; rfl
          have HOp2 : Hid (m40 → m41 = false) := fun h => HOp.out (by rw [h]; simp)
          clear hx2 HOp HDn
          cases m40
          · cases m41
            · have HN : Hid (dn d x = d) := by show _ = _; rw [HDn2.out]; rfl
              have HI3' := Lib.hid HI3.out
              have HI2' := Lib.hid HI2.out
              clear HI2 HI3 HDn2 HOp2
              go_wp2_with (first | (go_at_call 26; first | ((with_reducible refine (HI2'.out _).mono ?_); rintro e w' ⟨rfl, Y2, rfl⟩) | ((with_reducible refine (HI3'.out _).mono ?_); rintro e w' ⟨rfl, Y3, rfl⟩)) | (at_builtin; go_loud (refine append_abs rfl _ _ 29 rfl css_row N rfl hp h3 ⟨_, 0, none⟩ 1 1 [.int .i64 xk, .string a1, .int .i64 xn, .string a2] rfl rfl (new_cells (c := #[.int .i64 xk, .string a1, .int .i64 xn, .string a2]) (by simp [go_sem])) (by simp [Value.oneCell']) (by unfold maxLen; omega) (by omega) ?_); intro pv' W3 hp' hg'; have HRP3 : Hid (RP W1 ds (p ++ [x]) u3 pv' W3) := RP.more hb2 h2 h3 ho hp ha hp' rfl HXc.out.symm hg'; have g0 := (HRP3.out.below.cell hb).trans q0; have g1 := (HRP3.out.below.cell hb).trans q1; have g2 := (HRP3.out.below.cell hb).trans q2; have g3 := (HRP3.out.below.cell hb).trans q3; have hb3 : b < W3.heap.size := Nat.lt_of_lt_of_le hb HRP3.out.below.size))
              go_roundw
              case rel => exact ⟨k + 1, d, p ++ [x], ds, by omega, by omega, by simp; omega, by omega, by go_num, by go_num, HRP3.out.step (by repeat (first | with_reducible exact Below.refl _ _ | (with_reducible refine Below.alloc ?_ (by first | omega | (simp [go_sem] <;> omega)) _) | (with_reducible refine Below.drew ?_) | (with_reducible refine Below.drewN ?_ _) | (with_reducible refine Below.grow ?_ (by first | omega | (simp [go_sem] <;> omega)) _) | (with_reducible refine Below.setCell ?_ (by first | omega | (simp [go_sem] <;> omega)) _))), .inl ⟨hk1, by rw [hek, HN.out]⟩⟩
              case measure => simp [intOf]; omega
            · have HN : Hid (dn d x = d - 1) := by show _ = _; rw [HDn2.out]; rfl
              have hmax : max ((d : Int) - 1) 0 = ((d - 1 : Nat) : Int) := by omega
              have HI3' := Lib.hid HI3.out
              have HI2' := Lib.hid HI2.out
              clear HI2 HI3 HDn2 HOp2
              go_wp2_with (first | (go_at_call 26; first | ((with_reducible refine (HI2'.out _).mono ?_); rintro e w' ⟨rfl, Y2, rfl⟩) | ((with_reducible refine (HI3'.out _).mono ?_); rintro e w' ⟨rfl, Y3, rfl⟩)) | (at_builtin; go_loud (refine append_abs rfl _ _ 29 rfl css_row N rfl hp h3 ⟨_, 0, none⟩ 1 1 [.int .i64 xk, .string a1, .int .i64 xn, .string a2] rfl rfl (new_cells (c := #[.int .i64 xk, .string a1, .int .i64 xn, .string a2]) (by simp [go_sem])) (by simp [Value.oneCell']) (by unfold maxLen; omega) (by omega) ?_); intro pv' W3 hp' hg'; have HRP3 : Hid (RP W1 ds (p ++ [x]) u3 pv' W3) := RP.more hb2 h2 h3 ho hp ha hp' rfl HXc.out.symm hg'; have g0 := (HRP3.out.below.cell hb).trans q0; have g1 := (HRP3.out.below.cell hb).trans q1; have g2 := (HRP3.out.below.cell hb).trans q2; have g3 := (HRP3.out.below.cell hb).trans q3; have hb3 : b < W3.heap.size := Nat.lt_of_lt_of_le hb HRP3.out.below.size))
              go_roundw
              case rel => exact ⟨k + 1, d - 1, p ++ [x], ds, by omega, by omega, by simp; omega, by omega, by go_num, by go_num, HRP3.out.step (by repeat (first | with_reducible exact Below.refl _ _ | (with_reducible refine Below.alloc ?_ (by first | omega | (simp [go_sem] <;> omega)) _) | (with_reducible refine Below.drew ?_) | (with_reducible refine Below.drewN ?_ _) | (with_reducible refine Below.grow ?_ (by first | omega | (simp [go_sem] <;> omega)) _) | (with_reducible refine Below.setCell ?_ (by first | omega | (simp [go_sem] <;> omega)) _))), .inl ⟨hk1, by rw [hek, HN.out]⟩⟩
              case measure => simp [intOf]; omega
          · have hm41 := HOp2.out rfl
            subst hm41
            have HN : Hid (dn d x = d + 1) := by show _ = _; rw [HDn2.out]; rfl
            have HI3' := Lib.hid HI3.out
            have HI2' := Lib.hid HI2.out
            clear HI2 HI3 HDn2 HOp2
            go_wp2_with (first | (go_at_call 26; first | ((with_reducible refine (HI2'.out _).mono ?_); rintro e w' ⟨rfl, Y2, rfl⟩) | ((with_reducible refine (HI3'.out _).mono ?_); rintro e w' ⟨rfl, Y3, rfl⟩)) | (at_builtin; go_loud (refine append_abs rfl _ _ 29 rfl css_row N rfl hp h3 ⟨_, 0, none⟩ 1 1 [.int .i64 xk, .string a1, .int .i64 xn, .string a2] rfl rfl (new_cells (c := #[.int .i64 xk, .string a1, .int .i64 xn, .string a2]) (by simp [go_sem])) (by simp [Value.oneCell']) (by unfold maxLen; omega) (by omega) ?_); intro pv' W3 hp' hg'; have HRP3 : Hid (RP W1 ds (p ++ [x]) u3 pv' W3) := RP.more hb2 h2 h3 ho hp ha hp' rfl HXc.out.symm hg'; have g0 := (HRP3.out.below.cell hb).trans q0; have g1 := (HRP3.out.below.cell hb).trans q1; have g2 := (HRP3.out.below.cell hb).trans q2; have g3 := (HRP3.out.below.cell hb).trans q3; have hb3 : b < W3.heap.size := Nat.lt_of_lt_of_le hb HRP3.out.below.size))
            go_roundw
            case rel => exact ⟨k + 1, d + 1, p ++ [x], ds, by omega, by omega, by simp; omega, by omega, by go_num, by go_num, HRP3.out.step (by repeat (first | with_reducible exact Below.refl _ _ | (with_reducible refine Below.alloc ?_ (by first | omega | (simp [go_sem] <;> omega)) _) | (with_reducible refine Below.drew ?_) | (with_reducible refine Below.drewN ?_ _) | (with_reducible refine Below.grow ?_ (by first | omega | (simp [go_sem] <;> omega)) _) | (with_reducible refine Below.setCell ?_ (by first | omega | (simp [go_sem] <;> omega)) _))), .inl ⟨hk1, by rw [hek, HN.out]⟩⟩
            case measure => simp [intOf]; omega
        · have hnx := (show (k + 1 ≤ n ∧ declsL L = (ds ++ (declOf p).toList) ++ declsR [] 0 (L.drop (k + 1))) ∨ (k + 1 = n + 1 ∧ declsL L = ds ++ (declOf p).toList) from HNext.out)
          have HNx := Lib.hid hnx
          obtain ⟨A, c, hpv, hc⟩ : ∃ A c, u4 = .slice A p.length c ∧ p.length ≤ c := by
            obtain ⟨_, vs, N, _, _, _, hp, _⟩ := HRP2.out
            exact own_cap hp
          subst hpv
          have hrp : Rd W2 (.slice A p.length c) p.length 4 (cssCells p) := by
            obtain ⟨_, vs, N, _, _, _, hp, _⟩ := HRP2.out
            exact Rd.own hp
          have HDc := Lib.hid (rdecl_any A p.length c p W2 hrp hc (by omega))
          clear hnx hrp hc HNext
          cases hdo : declOf p with
          | none =>
            rw [hdo] at HNx
            have HDc2 : Hid (Calls Tryz.prog 27 #[.slice A p.length c] W2 fun e w' => ∃ (nm : ByteArray) (uA : Option Addr) (un uc : Nat) (im : Bool) (X : Gr), e = .returned (.tuple #[.agg #[.string nm, .slice uA un uc, .bool im], .bool false]) ∧ w' = W2.grow X) :=
              HDc.out.mono fun e w' ⟨nm, uA, un, uc, im, X, h1, h2, _⟩ => ⟨nm, uA, un, uc, im, X, by rw [h1, hdo]; rfl, h2⟩
            clear HDc hdo
            go_wp2_with (go_at_call 27; (with_reducible refine HDc2.out.mono ?_); rintro e w' ⟨nm, uA, un, uc, im, X4, rfl, rfl⟩)
            go_roundw
            case rel => exact ⟨k + 1, 0, [], ds, by omega, by omega, by simp, by omega, by go_num, rfl, HRP2.out.drop.step (by repeat (first | with_reducible exact Below.refl _ _ | (with_reducible refine Below.alloc ?_ (by first | omega | (simp [go_sem] <;> omega)) _) | (with_reducible refine Below.drew ?_) | (with_reducible refine Below.drewN ?_ _) | (with_reducible refine Below.grow ?_ (by first | omega | (simp [go_sem] <;> omega)) _) | (with_reducible refine Below.setCell ?_ (by first | omega | (simp [go_sem] <;> omega)) _))), by show _ ∨ _; have := HNx.out; simpa using this⟩
            case measure => simp [intOf]; omega
          | some dd =>
            rw [hdo] at HNx
            have HDc2 : Hid (Calls Tryz.prog 27 #[.slice A p.length c] W2 fun e w' => ∃ (nm : ByteArray) (uA : Option Addr) (un uc : Nat) (im : Bool) (X : Gr), e = .returned (.tuple #[.agg #[.string nm, .slice uA un uc, .bool im], .bool true]) ∧ w' = W2.grow X ∧ ∃ b off, A = some ⟨b, off, none⟩ ∧ nm = ⟨dd.name.toArray⟩ ∧ (uA = some ⟨b, off + 8, none⟩ ∧ un = dd.value.length ∧ uc = c - 2) ∧ im = dd.imp) :=
              HDc.out.mono fun e w' ⟨nm, uA, un, uc, im, X, h1, h2, h3⟩ => ⟨nm, uA, un, uc, im, X, by rw [h1, hdo]; rfl, h2, h3 _ hdo⟩
            have HDo := Lib.hid hdo
            clear HDc hdo
            go_upto_region 18 with (go_at_call 27; (with_reducible refine HDc2.out.mono ?_); rintro e w' ⟨nm, uA, un, uc, im, X4, rfl, rfl, hd⟩)
            refine name_world fun W5 hW5 => ?_
            have hB5 : Below W2.heap.size W2 W5 := by rw [hW5]; exact (by repeat (first | with_reducible exact Below.refl _ _ | (with_reducible refine Below.alloc ?_ (by first | omega | (simp [go_sem] <;> omega)) _) | (with_reducible refine Below.drew ?_) | (with_reducible refine Below.drewN ?_ _) | (with_reducible refine Below.grow ?_ (by first | omega | (simp [go_sem] <;> omega)) _) | (with_reducible refine Below.setCell ?_ (by first | omega | (simp [go_sem] <;> omega)) _)))
            obtain ⟨Bd, hBd⟩ : ∃ B, W2.heap.size + X4.blocks.size = B := ⟨_, rfl⟩
            have z0 : W5.cell? ⟨Bd, 0, none⟩ = some (.string nm) := by rw [hW5, ← hBd]; simp [go_sem]
            have z1 : W5.cell? ⟨Bd, 1, none⟩ = some (.slice uA un uc) := by rw [hW5, ← hBd]; simp [go_sem]
            have z2 : W5.cell? ⟨Bd, 2, none⟩ = some (.bool im) := by rw [hW5, ← hBd]; simp [go_sem]
            have hlt5 : Bd < W5.heap.size := by rw [hW5, ← hBd]; simp [size_grow]
            rw [hBd]
            obtain ⟨hb2, vs, N, h2, h3, ho, hp, ha⟩ := (HRP2.out.step hB5).step (W' := W5.alloc (.cells #[.string nm, .slice uA un uc, .bool im] 31)) (by exact (by repeat (first | with_reducible exact Below.refl _ _ | (with_reducible refine Below.alloc ?_ (by first | omega | (simp [go_sem] <;> omega)) _) | (with_reducible refine Below.drew ?_) | (with_reducible refine Below.drewN ?_ _) | (with_reducible refine Below.grow ?_ (by first | omega | (simp [go_sem] <;> omega)) _) | (with_reducible refine Below.setCell ?_ (by first | omega | (simp [go_sem] <;> omega)) _))))
            have hbs := hb2.size
            clear hW5 hBd HDc2
            go_wp2_with (at_builtin; go_loud (refine append_abs rfl _ _ 24 rfl decl_row W1.heap.size rfl ho hbs ⟨_, 0, none⟩ 1 1 [.string nm, .slice uA un uc, .bool im] rfl rfl (new_cells (c := #[.string nm, .slice uA un uc, .bool im]) (by simp [go_sem])) (by simp [Value.oneCell']) (by unfold maxLen; omega) (by omega) ?_); intro v' W6 ho' hg')
            go_roundw
            case rel =>
              obtain ⟨b', off', e1, e2, ⟨e3, e4, e5⟩, e6⟩ := hd
              refine ⟨k + 1, 0, [], ds ++ [dd], by omega, by omega, by simp, by simp; omega, by go_num, rfl, RP.put hb2 h2 h3 ho hp ha ho' rfl hg' rfl HDo.out ⟨b', off', e1, e2, by rw [e3, e4, e5], e6⟩, by show _ ∨ _; have := HNx.out; simpa using this⟩
            case measure => simp [intOf]; omega
    · have hk2 : k = n + 1 := by omega
      have HN : Hid (declsL L = ds) := by
        show _ = _
        rcases HK.out with ⟨h1, _⟩ | ⟨_, h2⟩
        · omega
        · exact h2
      go_wp2_with fail
      go_ret
      rw [HN.out]
      exact HRP.out.done HB1.out
end Go.Proofs.YtdpgpjileffekaaGreatDoor
