/- The walks of the lexer over lists that came in: whether they are the same, whether they are few; what a piece is as text. -/
import Derived.Test.YtglnadikhcidnaaLexPlainD
import Derived.Test.YtglnadikhcidnaaLexM
namespace Go.Proofs.Ytglnadikhcidnaa
open Go.RowKit Go.Shelf
/-- A piece that came in. -/
structure Lz where
  kind : Int
  at_ : Int
  text : Bs
def Lz.cells (x : Lz) : List Value := [.int .i64 x.kind, .int .i64 x.at_, .string ⟨x.text.toArray⟩]
def lzCells (l : List Lz) : List Value := l.flatMap Lz.cells
theorem lzCells_len (l : List Lz) : (lzCells l).length = l.length * 3 := by
  induction l with
  | nil => rfl
  | cons x l ih => simp only [lzCells, List.flatMap_cons, List.length_append, List.length_cons] at *; rw [ih]; simp [Lz.cells]; omega
def Lx.z (x : Lx) : Lz := ⟨x.kind, x.at_, x.text⟩
theorem lz_lx (l : List Lx) : lxCells l = lzCells (l.map Lx.z) := by
  induction l with
  | nil => rfl
  | cons x l ih => simp only [lxCells, lzCells, List.map_cons, List.flatMap_cons] at *; rw [ih]; rfl
def Lz.kt (x : Lz) : Nat × Bs := (x.kind.toNat, x.text)
theorem lzCells_at (l : List Lz) (k : Nat) (h : k < l.length) : (lzCells l)[k * 3]? = some (.int .i64 l[k].kind) ∧ (lzCells l)[k * 3 + 1]? = some (.int .i64 l[k].at_) ∧ (lzCells l)[k * 3 + 2]? = some (.string ⟨l[k].text.toArray⟩) := by
  induction l generalizing k with
  | nil => simp at h
  | cons x l ih =>
    have e : lzCells (x :: l) = .int .i64 x.kind :: .int .i64 x.at_ :: .string ⟨x.text.toArray⟩ :: lzCells l := rfl
    cases k with
    | zero => rw [e]; simp
    | succ k =>
      have := ih k (by simpa using h)
      rw [e, show (k + 1) * 3 = k * 3 + 1 + 1 + 1 by omega]
      simpa using this
theorem Rd.lz {w : World} {A : Option Addr} {n c : Nat} {l : List Lz} (h : Rd w (.slice A n c) l.length 3 (lzCells l)) (k : Nat) (hk : k < l.length) :
    ∃ b off, A = some ⟨b, off, none⟩ ∧ b < w.heap.size ∧ w.cell? ⟨b, off + k * 3, none⟩ = some (.int .i64 l[k].kind) ∧ w.cell? ⟨b, off + k * 3 + 1, none⟩ = some (.int .i64 l[k].at_) ∧ w.cell? ⟨b, off + k * 3 + 2, none⟩ = some (.string ⟨l[k].text.toArray⟩) := by
  obtain ⟨_, _, A', c', e, h4⟩ := h
  cases e
  obtain ⟨b, off, rfl, hb, hc⟩ := h4 (by omega)
  obtain ⟨h1, h2, h3⟩ := lzCells_at l k hk
  exact ⟨b, off, rfl, hb, hc _ _ h1, hc _ _ h2, hc _ _ h3⟩
/-- Lists alike, but for where they begin, if that plays no part. -/
def LzEq (p : Bool) (l m : List Lz) : Prop := l.length = m.length ∧ ∀ k (h1 : k < l.length) (h2 : k < m.length), l[k].kind = m[k].kind ∧ l[k].text = m[k].text ∧ (p = true → l[k].at_ = m[k].at_)
theorem LzEq.refl (p : Bool) (l : List Lz) : LzEq p l l := ⟨rfl, fun _ _ _ => ⟨rfl, rfl, fun _ => rfl⟩⟩
set_option maxRecDepth 100000 in
set_option maxHeartbeats 4000000 in
theorem samez_yes (v u : Value) (l m : List Lz) (p : Bool) (w : World) (h : Rd w v l.length 3 (lzCells l)) (h2 : Rd w u m.length 3 (lzCells m)) (he : LzEq p l m) :
    Calls Try.prog 12 #[v, u, .bool p] w (Ret (.bool true) w) := by
  have HR := Lib.hid h
  have HU := Lib.hid h2
  obtain ⟨_, hm, A, c, rfl, _⟩ := h
  obtain ⟨_, hm2, A2, c2, rfl, _⟩ := h2
  have HE := Lib.hid he.2
  have hlen := he.1
  clear he
  rw [hlen] at hm ⊢
  have HL := Lib.hid hlen
  clear hlen
  go_enter Try.func12, Try.ntmps12
  go_wp2_with fail
  go_loopw [7] (fun i wr => ∃ k : Nat, k ≤ m.length ∧ i = .int .i64 k ∧ ∃ X, wr = w.grow X) (fun i _ => m.length - (intOf i).toNat)
  case atStart => exact ⟨0, by omega, rfl, _, (grow_refl w).symm⟩
  case round =>
    obtain ⟨k, hk, rfl, X, rfl⟩ := hrel
    by_cases hlt : k < m.length
    · have hlt' : k < l.length := by rw [HL.out]; exact hlt
      obtain ⟨b, off, rfl, hb, c0, c1, c2⟩ := HR.out.lz k hlt'
      obtain ⟨b2, off2, rfl, hb2, d0, d1, d2⟩ := HU.out.lz k hlt
      obtain ⟨e0, e2, e1⟩ := HE.out k hlt' hlt
      rw [e0] at c0
      rw [e2] at c2
      clear e0 e2
      cases p
      · clear e1
        go_wp2_with fail
        refine wp_region_grow (by kernel_rfl) (by kernel_rfl) ?_
        repeat (go_big_quiet_step (fail))
        refine wpQuiet_nil ?_
        intro _ hw'; obtain ⟨nq, hw''⟩ := hw'; subst hw''
        go_wp2
        go_roundw
        case rel => exact ⟨k + 1, by omega, by go_num, grow_of_below (by repeat (first | with_reducible exact Below.refl _ _ | (with_reducible refine Below.alloc ?_ (by first | omega | (simp [go_sem] <;> omega)) _) | (with_reducible refine Below.drew ?_) | (with_reducible refine Below.drewN ?_ _) | (with_reducible refine Below.grow ?_ (by first | omega | (simp [go_sem] <;> omega)) _) | (with_reducible refine Below.setCell ?_ (by first | omega | (simp [go_sem] <;> omega)) _)))⟩
        case measure => simp [intOf]; omega
      · rw [e1 rfl] at c1
        clear e1
        go_wp2_with fail
        refine wp_region_grow (by kernel_rfl) (by kernel_rfl) ?_
        repeat (go_big_quiet_step (fail))
        refine wpQuiet_nil ?_
        intro _ hw'; obtain ⟨nq, hw''⟩ := hw'; subst hw''
        go_wp2
        go_roundw
        case rel => exact ⟨k + 1, by omega, by go_num, grow_of_below (by repeat (first | with_reducible exact Below.refl _ _ | (with_reducible refine Below.alloc ?_ (by first | omega | (simp [go_sem] <;> omega)) _) | (with_reducible refine Below.drew ?_) | (with_reducible refine Below.drewN ?_ _) | (with_reducible refine Below.grow ?_ (by first | omega | (simp [go_sem] <;> omega)) _) | (with_reducible refine Below.setCell ?_ (by first | omega | (simp [go_sem] <;> omega)) _)))⟩
        case measure => simp [intOf]; omega
    · go_wp2
      go_ret
      exact Ret.of rfl (by repeat (first | with_reducible exact Below.refl _ _ | (with_reducible refine Below.alloc ?_ (by first | omega | (simp [go_sem] <;> omega)) _) | (with_reducible refine Below.drew ?_) | (with_reducible refine Below.drewN ?_ _) | (with_reducible refine Below.grow ?_ (by first | omega | (simp [go_sem] <;> omega)) _) | (with_reducible refine Below.setCell ?_ (by first | omega | (simp [go_sem] <;> omega)) _)))
/-- Few, and none too long. -/
def fewB (l : List Lz) : Bool := l.all (fun x => decide (x.text.length ≤ 500)) && decide (l.length ≤ 100)
set_option maxRecDepth 100000 in
set_option maxHeartbeats 2000000 in
theorem few_any (v : Value) (l : List Lz) (w : World) (h : Rd w v l.length 3 (lzCells l)) : Calls Try.prog 14 #[v] w fun e w' => e = .returned (.bool (fewB l)) ∧ w = w' := by
  have HR := Lib.hid h
  obtain ⟨_, hm, A, c, rfl, _⟩ := h
  have HF : Hid (fewB l = (l.all (fun x => decide (x.text.length ≤ 500)) && decide (l.length ≤ 100))) := rfl
  go_enter Try.func14, Try.ntmps14
  go_wp2_with fail
  go_loop [3] (fun i => ∃ k : Nat, k ≤ l.length ∧ i = .int .i64 k ∧ Hid (l.all (fun x => decide (x.text.length ≤ 500)) = (l.drop k).all (fun x => decide (x.text.length ≤ 500)))) (fun i => l.length - (intOf i).toNat)
  case atStart => exact ⟨0, by omega, rfl, by show _ = _; rw [List.drop_zero]⟩
  case round =>
    obtain ⟨k, hk, rfl, HK⟩ := hrel
    by_cases hlt : k < l.length
    · obtain ⟨b, off, rfl, hb, c0, c1, c2⟩ := HR.out.lz k hlt
      have HD : Hid (l.drop k = l[k] :: l.drop (k + 1)) := List.drop_eq_getElem_cons hlt
      by_cases h5 : l[k].text.length ≤ 500
      · have HX : Hid (l.all (fun x => decide (x.text.length ≤ 500)) = (l.drop (k + 1)).all (fun x => decide (x.text.length ≤ 500))) := by
          show _ = _
          rw [HK.out, HD.out, List.all_cons, decide_eq_true h5]; rfl
        have b5 : decide ((500 : Int) < l[k].text.length) = false := by simp; omega
        clear h5
        go_wp2
        go_round
        case rel => exact ⟨k + 1, by omega, by go_num, HX⟩
        case measure => simp [intOf]; omega
      · have HX : Hid (fewB l = false) := by
          show _ = _
          rw [HF.out, HK.out, HD.out, List.all_cons, decide_eq_false h5]; rfl
        have b5 : decide ((500 : Int) < l[k].text.length) = true := by simp; omega
        clear h5
        go_wp2
        go_ret
        exact ⟨ret_bool HX.out.symm, rfl⟩
    · have HX : Hid (fewB l = decide (l.length ≤ 100)) := by
        show _ = _
        rw [HF.out, HK.out, List.drop_eq_nil_of_le (by omega)]; rfl
      go_wp2
      go_ret
      exact ⟨ret_bool (by rw [HX.out, decide_eq_decide]; omega), rfl⟩
/-- A piece as text; false: it may not be. -/
def toldP (x : Lz) (w : World) (e : Ending) (w' : World) : Prop :=
  Below w.heap.size w w' ∧ match toldL x.kind.toNat x.text with
    | some u => e = .returned (.tuple #[.string ⟨u.toArray⟩, .bool true])
    | none => ∃ s, e = .returned (.tuple #[.string s, .bool false])
set_option maxRecDepth 100000 in
set_option maxHeartbeats 8000000 in
theorem told_any (x : Lz) (w : World) (hm : x.text.length ≤ 500) : Calls Try.prog 22 #[.agg #[.int .i64 x.kind, .int .i64 x.at_, .string ⟨x.text.toArray⟩]] w (toldP x w) := by
  obtain ⟨k, a, t⟩ := x
  dsimp only at hm ⊢
  unfold toldP
  dsimp only
  by_cases h3 : k = 3
  · subst h3
    have HT : Hid (toldL (3 : Int).toNat t = quoteL t) := by show _ = _; simp [toldL]
    have HQ := Lib.hid (fun W => quote_any ⟨t.toArray⟩ W (by show t.toArray.size ≤ _; simp; omega))
    rw [HT.out]
    cases hq : quoteL t with
    | some u =>
      have HQ : Hid (∀ W, Calls Try.prog 13 #[.string ⟨t.toArray⟩] W (Ret (.tuple #[.string ⟨u.toArray⟩, .bool true]) W)) := fun W => by have := HQ.out W; simp only [hq, quoteV] at this; exact this
      clear HT hq
      go_enter Try.func22, Try.ntmps22
      go_wp2_with (go_at_call 13; (with_reducible refine (HQ.out _).mono ?_); rintro e w' ⟨rfl, X, rfl⟩)
      go_ret2
      exact ⟨(by repeat (first | with_reducible exact Below.refl _ _ | (with_reducible refine Below.alloc ?_ (by first | omega | (simp [go_sem] <;> omega)) _) | (with_reducible refine Below.drew ?_) | (with_reducible refine Below.drewN ?_ _) | (with_reducible refine Below.grow ?_ (by first | omega | (simp [go_sem] <;> omega)) _) | (with_reducible refine Below.setCell ?_ (by first | omega | (simp [go_sem] <;> omega)) _))), rfl⟩
    | none =>
      have HQ : Hid (∀ W, Calls Try.prog 13 #[.string ⟨t.toArray⟩] W (Ret (.tuple #[.string ⟨#[]⟩, .bool false]) W)) := fun W => by have := HQ.out W; simp only [hq, quoteV] at this; exact this
      clear HT hq
      go_enter Try.func22, Try.ntmps22
      go_wp2_with (go_at_call 13; (with_reducible refine (HQ.out _).mono ?_); rintro e w' ⟨rfl, X, rfl⟩)
      go_ret2
      exact ⟨(by repeat (first | with_reducible exact Below.refl _ _ | (with_reducible refine Below.alloc ?_ (by first | omega | (simp [go_sem] <;> omega)) _) | (with_reducible refine Below.drew ?_) | (with_reducible refine Below.drewN ?_ _) | (with_reducible refine Below.grow ?_ (by first | omega | (simp [go_sem] <;> omega)) _) | (with_reducible refine Below.setCell ?_ (by first | omega | (simp [go_sem] <;> omega)) _))), _, rfl⟩
  · have b3 : (k == 3) = false := by simp [h3]
    by_cases hk : k = 1 ∨ k = 2 ∨ k = 4
    · have bk : (k == 1) = true ∨ (k == 1) = false ∧ ((k == 2) = true ∨ (k == 2) = false ∧ (k == 4) = true) := by
        rcases hk with rfl | rfl | rfl <;> simp
      obtain ⟨kn, rfl⟩ : ∃ kn : Nat, k = kn := ⟨k.toNat, by omega⟩
      rw [Int.toNat_natCast]
      have hkn : kn = 1 ∨ kn = 2 ∨ kn = 4 := by omega
      by_cases ht : t = []
      · subst ht
        have HT : Hid (toldL kn [] = none) := by
          show _ = _
          rcases hkn with rfl | rfl | rfl <;> simp [toldL, wordB]
        rw [HT.out]
        clear h3 hk HT hkn
        rcases bk with q1 | ⟨q1, q2 | ⟨q2, q3⟩⟩
        all_goals
          go_enter Try.func22, Try.ntmps22
          go_wp2
          go_ret2
          exact ⟨(by repeat (first | with_reducible exact Below.refl _ _ | (with_reducible refine Below.alloc ?_ (by first | omega | (simp [go_sem] <;> omega)) _) | (with_reducible refine Below.drew ?_) | (with_reducible refine Below.drewN ?_ _) | (with_reducible refine Below.grow ?_ (by first | omega | (simp [go_sem] <;> omega)) _) | (with_reducible refine Below.setCell ?_ (by first | omega | (simp [go_sem] <;> omega)) _))), _, rfl⟩
      · have ht1 : 1 ≤ t.length := by cases t with
          | nil => exact absurd rfl ht
          | cons c r => simp
        have e2 : List.isEmpty t = false := by cases t with
          | nil => exact absurd rfl ht
          | cons c r => rfl
        have e1 : (⟨t.toArray⟩ : ByteArray).toList.isEmpty = false := empty_no _ (by show 0 < t.toArray.size; simp; omega)
        have HP := Lib.hid (fun W => show Calls Try.prog 28 #[.string ⟨t.toArray⟩] W (Ret (pieceW (decide ((t.headD 0).toNat = 34)) (pieceL t)) W) from piece_any ⟨t.toArray⟩ W (by show 1 ≤ t.toArray.size; simp; omega) (by show t.toArray.size ≤ _; simp; omega))
        generalize decide ((t.headD 0).toNat = 34) = q at HP
        rcases told_iff hkn ht with ⟨h4, h5⟩ | ⟨h4, h5⟩
        · rw [h5] at HP
          simp only [pieceW] at HP
          have HP := Lib.hid HP
          rw [h4]
          clear h3 hk hkn h4 h5
          rcases bk with q1 | ⟨q1, q2 | ⟨q2, q3⟩⟩
          all_goals
            go_enter Try.func22, Try.ntmps22
            go_wp2_with (go_at_call 28; (with_reducible refine (HP.out.out _).mono ?_); rintro e w' ⟨rfl, X, rfl⟩)
            refine wp_region_grow (by kernel_rfl) (by kernel_rfl) ?_
            repeat (go_big_quiet_step (fail))
            refine wpQuiet_nil ?_
            intro _ hw'; obtain ⟨nq, hw''⟩ := hw'; subst hw''
            go_wp2
            go_ret2
            exact ⟨(by repeat (first | with_reducible exact Below.refl _ _ | (with_reducible refine Below.alloc ?_ (by first | omega | (simp [go_sem] <;> omega)) _) | (with_reducible refine Below.drew ?_) | (with_reducible refine Below.drewN ?_ _) | (with_reducible refine Below.grow ?_ (by first | omega | (simp [go_sem] <;> omega)) _) | (with_reducible refine Below.setCell ?_ (by first | omega | (simp [go_sem] <;> omega)) _))), rfl⟩
        · rw [h4]
          cases hp : pieceL t with
          | bad n =>
            rw [hp] at HP
            simp only [pieceW] at HP
            generalize hq2 : (if q = true then (3 : Int) else 0) = q' at HP
            have HP := Lib.hid HP
            clear h3 hk hkn h4 h5 hp hq2
            rcases bk with q1 | ⟨q1, q2 | ⟨q2, q3⟩⟩
            all_goals
              go_enter Try.func22, Try.ntmps22
              go_wp2_with (go_at_call 28; (with_reducible refine (HP.out.out _).mono ?_); rintro e w' ⟨rfl, X, rfl⟩)
              refine wp_region_grow (by kernel_rfl) (by kernel_rfl) ?_
              repeat (go_big_quiet_step (fail))
              refine wpQuiet_nil ?_
              intro _ hw'; obtain ⟨nq, hw''⟩ := hw'; subst hw''
              go_wp2
              go_ret2
              exact ⟨(by repeat (first | with_reducible exact Below.refl _ _ | (with_reducible refine Below.alloc ?_ (by first | omega | (simp [go_sem] <;> omega)) _) | (with_reducible refine Below.drew ?_) | (with_reducible refine Below.drewN ?_ _) | (with_reducible refine Below.grow ?_ (by first | omega | (simp [go_sem] <;> omega)) _) | (with_reducible refine Below.setCell ?_ (by first | omega | (simp [go_sem] <;> omega)) _))), _, rfl⟩
          | ok kd t' n =>
            rw [hp] at HP
            simp only [pieceW] at HP
            have HP := Lib.hid HP
            have hx : ((n : Int) == (t.length : Int)) = false ∨ ((n : Int) == (t.length : Int)) = true ∧ ((kd : Int) == (kn : Int)) = false := by
              by_cases hn : n = t.length
              · refine Or.inr ⟨by simp [hn], ?_⟩
                by_cases hkk : kd = kn
                · subst hkk; exact absurd hn (h5 t' n hp)
                · simp; omega
              · left; simp; omega
            clear h3 hk hkn h4 h5 hp
            rcases bk with q1 | ⟨q1, q2 | ⟨q2, q3⟩⟩ <;> rcases hx with x1 | ⟨x1, x2⟩
            all_goals
              go_enter Try.func22, Try.ntmps22
              go_wp2_with (go_at_call 28; (with_reducible refine (HP.out.out _).mono ?_); rintro e w' ⟨rfl, X, rfl⟩)
              refine wp_region_grow (by kernel_rfl) (by kernel_rfl) ?_
              repeat (go_big_quiet_step (fail))
              refine wpQuiet_nil ?_
              intro _ hw'; obtain ⟨nq, hw''⟩ := hw'; subst hw''
              go_wp2
              go_ret2
              exact ⟨(by repeat (first | with_reducible exact Below.refl _ _ | (with_reducible refine Below.alloc ?_ (by first | omega | (simp [go_sem] <;> omega)) _) | (with_reducible refine Below.drew ?_) | (with_reducible refine Below.drewN ?_ _) | (with_reducible refine Below.grow ?_ (by first | omega | (simp [go_sem] <;> omega)) _) | (with_reducible refine Below.setCell ?_ (by first | omega | (simp [go_sem] <;> omega)) _))), _, rfl⟩
    · have HT : Hid (toldL k.toNat t = none) := by
        show _ = _
        unfold toldL
        rw [if_neg (by omega), if_neg (by omega), if_neg (by omega), if_neg (by omega)]
      have b1 : (k == 1) = false := by simp; omega
      have b2 : (k == 2) = false := by simp; omega
      have b4 : (k == 4) = false := by simp; omega
      rw [HT.out]
      clear h3 hk HT
      go_enter Try.func22, Try.ntmps22
      go_wp2
      go_ret2
      exact ⟨(by repeat (first | with_reducible exact Below.refl _ _ | (with_reducible refine Below.alloc ?_ (by first | omega | (simp [go_sem] <;> omega)) _) | (with_reducible refine Below.drew ?_) | (with_reducible refine Below.drewN ?_ _) | (with_reducible refine Below.grow ?_ (by first | omega | (simp [go_sem] <;> omega)) _) | (with_reducible refine Below.setCell ?_ (by first | omega | (simp [go_sem] <;> omega)) _))), _, rfl⟩
end Go.Proofs.Ytglnadikhcidnaa
