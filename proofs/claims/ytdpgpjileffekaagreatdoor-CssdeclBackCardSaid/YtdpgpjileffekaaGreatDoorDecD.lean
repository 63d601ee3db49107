/- The walks of declarations: parts, one behind the other. -/
import Derived.Test.YtdpgpjileffekaaGreatDoorCssJ
import Derived.Test.YtdpgpjileffekaaGreatDoorDecC
namespace Go.Proofs.YtdpgpjileffekaaGreatDoor
open Go.RowKit Go.Shelf
attribute [local go_sem] Oper.semAt_some
/-- Where the first part ends. -/
def cutN : Nat → List Css → Option Nat
  | _, [] => none
  | d, x :: l => if mk1 59 x && decide (d = 0) then some 0 else (cutN (dn d x) l).map (· + 1)
theorem cut_parts : ∀ (l : List Css) (d : Nat), match cutN d l with
    | some k => k < l.length ∧ partsL d l = l.take k :: partsL 0 (l.drop (k + 1))
    | none => partsL d l = [l] := by
  intro l
  induction l with
  | nil => intro d; rfl
  | cons x l ih =>
    intro d
    simp only [cutN, partsL]
    split
    · rename_i h
      split at h
      · rename_i h2
        cases h
        rw [if_pos h2]
        exact ⟨by simp, rfl⟩
      · rename_i h2
        rw [if_neg h2]
        rw [Option.map_eq_some_iff] at h
        obtain ⟨k, hk, rfl⟩ := h
        have := ih (dn d x)
        rw [hk] at this
        rw [this.2]
        exact ⟨by simp; exact this.1, rfl⟩
    · rename_i h
      split at h
      · cases h
      · rename_i h2
        rw [if_neg h2]
        rw [Option.map_eq_none_iff] at h
        have := ih (dn d x)
        rw [h] at this
        rw [this]
def endP (l : List Css) (d k : Nat) : Bool := match l[k]? with
  | some x => mk1 59 x && decide (dnF d (l.take k) = 0)
  | none => false
theorem cut_spec : ∀ (l : List Css) (d : Nat), match cutN d l with
    | some k => endP l d k = true ∧ ∀ j, j < k → endP l d j = false
    | none => ∀ j, j < l.length → endP l d j = false := by
  intro l
  induction l with
  | nil => intro d; simp [cutN]
  | cons x l ih =>
    intro d
    have h0 : endP (x :: l) d 0 = (mk1 59 x && decide (d = 0)) := rfl
    have hs : ∀ j, endP (x :: l) d (j + 1) = endP l (dn d x) j := fun j => by
      unfold endP; simp only [List.getElem?_cons_succ, List.take_succ_cons]; rfl
    simp only [cutN]
    split
    · rename_i h
      split at h
      · rename_i h2
        cases h
        exact ⟨h0.trans h2, fun j hj => absurd hj (by omega)⟩
      · rename_i h2
        rw [Option.map_eq_some_iff] at h
        obtain ⟨k, hk, rfl⟩ := h
        have := ih (dn d x)
        rw [hk] at this
        refine ⟨(hs k).trans this.1, fun j hj => ?_⟩
        cases j with
        | zero => rw [h0]; simpa using h2
        | succ j => rw [hs]; exact this.2 j (by omega)
    · rename_i h
      split at h
      · cases h
      · rename_i h2
        rw [Option.map_eq_none_iff] at h
        have := ih (dn d x)
        rw [h] at this
        intro j hj
        cases j with
        | zero => rw [h0]; simpa using h2
        | succ j => rw [hs]; exact this j (by simpa using hj)
theorem Rd.turned {pv : Nat → Prop} {W W' : World} {A : Option Addr} {n c size : Nat} {xs : List Value} (h : Rd W (.slice A n c) n size xs) (ht : Turned pv W W') (hA : ∀ b off s, A = some ⟨b, off, s⟩ → ¬ pv b) : Rd W' (.slice A n c) n size xs := by
  obtain ⟨h1, h2, A', c', he, h4⟩ := h
  cases he
  refine ⟨h1, h2, A, c, rfl, fun hn => ?_⟩
  obtain ⟨b, off, rfl, hb, hc⟩ := h4 hn
  refine ⟨b, off, rfl, Nat.lt_of_lt_of_le hb ht.size, fun j u hu => ?_⟩
  have := hc j u hu
  unfold World.cell? at this ⊢
  rw [ht.block b hb (hA _ _ _ rfl)]; exact this
def cutI (l : List Css) : Int := match cutN 0 l with
  | some k => k
  | none => -1
theorem index_parts (A : Option Addr) (n c : Nat) (l : List Css) (db : Nat) (V : World) (hb : Boxed V db 3 (.int .i64 0)) (hr : Rd V (.slice A n c) l.length 4 (cssCells l)) (hA : ∀ b off s, A = some ⟨b, off, s⟩ → b ≠ db) (hp : ∀ x ∈ l, Proper x) (hn9 : l.length ≤ 1000000000) :
    Calls Tryz.prog 38 #[.slice A n c, .func (.func 35) #[] #[.pointer (some ⟨db, 0, none⟩)]] V fun e W' => e = .returned (.int .i64 (cutI l)) ∧ Turned (fun k => k = db) V W' ∧ ∃ e' : Nat, Boxed W' db 3 (.int .i64 e') := by
  have hn : l.length = n := by obtain ⟨_, _, _, _, he, _⟩ := hr; cases he; rfl
  subst hn
  have hm := hr.2.1
  have key := indexF1_any A l.length c l 35 db (endP l 0) (fun k W => Turned (fun k => k = db) V W ∧ ∃ e' : Nat, Boxed W db 3 (.int .i64 e') ∧ e' ≤ k ∧ ((∀ j, j < k → endP l 0 j = false) → e' = dnF 0 (l.take k))) V rfl hm
    (fun k W h => hr.turned h.1 hA) ⟨Turned.refl _ _, 0, hb, Nat.le_refl _, fun _ => rfl⟩ (enters_of Tryz.func35 (by kernel_rfl) rfl)
    (fun k hk W h hbef => by
      obtain ⟨ht, e', hb', he', hd⟩ := h
      have hd := hd hbef
      have hE : endP l 0 k = (mk1 59 l[k] && decide (e' = 0)) := by
        unfold endP
        rw [List.getElem?_eq_getElem hk, hd]
      refine (ends_any l[k] db e' W (hp _ (List.getElem_mem hk)) hb' (by omega)).mono ?_
      rintro e W' ⟨h1, h2, e2, h3, h4, h5⟩
      rw [hE]
      refine ⟨h1, ht.trans h2, e2, h3, by omega, fun hall => ?_⟩
      have h6 := hall k (by omega)
      rw [hE] at h6
      rw [h5 h6, hd, List.take_succ_eq_append_getElem hk, dnF, dnF, List.foldl_append]; rfl)
  refine key.mono ?_
  rintro e W' ⟨i, rfl, h⟩
  have hs := cut_spec l 0
  rcases h with ⟨k, h1, rfl, h3, h4, ht, e', hb', _⟩ | ⟨rfl, h2, ht, e', hb', _⟩
  · refine ⟨?_, ht, e', hb'⟩
    unfold cutI
    split at hs
    · rename_i k2 hk2
      have : k = k2 := by
        rcases Nat.lt_trichotomy k k2 with h | h | h
        · have := hs.2 k h; rw [h3] at this; cases this
        · exact h
        · have := h4 k2 h; rw [hs.1] at this; cases this
      rw [this]
    · have := hs k h1; rw [h3] at this; cases this
  · refine ⟨?_, ht, e', hb'⟩
    unfold cutI
    split at hs
    · rename_i k2 hk2
      have hlt : k2 < l.length := by
        have := cut_parts l 0
        rw [hk2] at this; exact this.1
      have := h2 k2 hlt; rw [hs.1] at this; cases this
    · rfl
def adv (A : Option Addr) (c k : Nat) : Option Addr := if c = k then A else A.map fun a => ⟨a.block, a.off + k * 4, none⟩
/-- Parts, as slices of one list. -/
def partsV : Option Addr → Nat → List (List Css) → List (Value × List Css)
  | _, _, [] => []
  | A, c, p :: ps => (.slice A p.length c, p) :: partsV (adv A c (p.length + 1)) (c - (p.length + 1)) ps
/-- How long the slice is that a cell holds. -/
def lenSl (w : World) (b : Nat) : Nat := match w.cell? ⟨b, 0, none⟩ with
  | some (.slice _ n _) => n
  | _ => 0
theorem lenSl_boxed {w : World} {b : Nat} {t : TypeId} {A : Option Addr} {n c : Nat} (h : Boxed w b t (.slice A n c)) : lenSl w b = n := by
  unfold lenSl; rw [h.cell]
theorem Rd.drop4 {w : World} {b off n c : Nat} {l : List Css} (h : Rd w (.slice (some ⟨b, off, none⟩) n c) l.length 4 (cssCells l)) (k : Nat) (hk : k ≤ l.length) : Rd w (.slice (some ⟨b, off + k * 4, none⟩) (l.drop k).length (c - k)) (l.drop k).length 4 (cssCells (l.drop k)) := by
  have hm := h.2.1
  refine ⟨flat_len Css.cells 4 (fun _ => rfl) _, by rw [List.length_drop]; omega, _, _, rfl, fun hn => ?_⟩
  rw [List.length_drop] at hn
  obtain ⟨b', off', he, hb, _⟩ := h.css k (by omega)
  cases he
  refine ⟨b, _, rfl, hb, fun j u hu => ?_⟩
  have hj : j < (l.drop k).length * 4 := by rw [← flat_len Css.cells 4 (fun _ => rfl) (l.drop k)]; exact (List.getElem?_eq_some_iff.1 hu).1
  obtain ⟨i, r, hr, rfl⟩ : ∃ i r, r < 4 ∧ j = i * 4 + r := ⟨j / 4, j % 4, by omega, by omega⟩
  have hi : i < (l.drop k).length := by omega
  rw [cssCells, flat_at Css.cells 4 (fun _ => rfl) (l.drop k) i hi r hr] at hu
  obtain ⟨_, _, _, _, he, h4⟩ := h
  cases he
  rw [List.length_drop] at hi
  obtain ⟨b2, off2, he2, _, hc⟩ := h4 (by omega)
  cases he2
  have := hc ((k + i) * 4 + r) u (by rw [cssCells, flat_at Css.cells 4 (fun _ => rfl) l (k + i) (by omega) r hr]; simpa using hu)
  rw [show off + ((k + i) * 4 + r) = off + k * 4 + (i * 4 + r) by omega] at this
  exact this
theorem Rd.take4 {w : World} {A : Option Addr} {n c : Nat} {l : List Css} (h : Rd w (.slice A n c) l.length 4 (cssCells l)) (k : Nat) (hk : k ≤ l.length) : Rd w (.slice A (l.take k).length c) (l.take k).length 4 (cssCells (l.take k)) := by
  obtain ⟨h1, h2, A', c', he, h4⟩ := h
  cases he
  have hlen : (l.take k).length = k := by rw [List.length_take]; omega
  refine ⟨flat_len Css.cells 4 (fun _ => rfl) _, by omega, _, _, rfl, fun hn => ?_⟩
  obtain ⟨b, off, h5, h6, h7⟩ := h4 (by omega)
  refine ⟨b, off, h5, h6, fun j u hu => ?_⟩
  have hj : j < (l.take k).length * 4 := by rw [← flat_len Css.cells 4 (fun _ => rfl) (l.take k)]; exact (List.getElem?_eq_some_iff.1 hu).1
  obtain ⟨i, r, hr, rfl⟩ : ∃ i r, r < 4 ∧ j = i * 4 + r := ⟨j / 4, j % 4, by omega, by omega⟩
  have hi : i < (l.take k).length := by omega
  rw [cssCells, flat_at Css.cells 4 (fun _ => rfl) (l.take k) i hi r hr] at hu
  exact h7 _ u (by rw [cssCells, flat_at Css.cells 4 (fun _ => rfl) l i (by omega) r hr]; simpa using hu)
end Go.Proofs.YtdpgpjileffekaaGreatDoor
