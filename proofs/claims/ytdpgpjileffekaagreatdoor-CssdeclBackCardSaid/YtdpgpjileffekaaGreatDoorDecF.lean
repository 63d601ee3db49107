/- The walks of declarations: what lists of them read as; parts in memory; a clone of the call's own. -/
import Derived.Test.YtdpgpjileffekaaGreatDoorDecE
namespace Go.Proofs.YtdpgpjileffekaaGreatDoor
open Go.RowKit Go.Shelf
attribute [local go_sem] Oper.semAt_some
/-- Each of one list with each of another one. -/
def AllV {α β : Type} (p : α → β → Prop) : List α → List β → Prop
  | [], [] => True
  | d :: ds, v :: vs => p d v ∧ AllV p ds vs
  | _, _ => False
theorem AllV.mono {α β : Type} {p q : α → β → Prop} : ∀ {ds : List α} {vs : List β}, AllV p ds vs → (∀ d v, d ∈ ds → p d v → q d v) → AllV q ds vs
  | [], [], _, _ => trivial
  | _ :: _, _ :: _, h, hq => ⟨hq _ _ (List.mem_cons_self ..) h.1, AllV.mono h.2 fun d v hd => hq d v (List.mem_cons_of_mem _ hd)⟩
  | [], _ :: _, h, _ => h.elim
  | _ :: _, [], h, _ => h.elim
theorem AllV.snoc {α β : Type} {p : α → β → Prop} {d : α} {v : β} (hd : p d v) : ∀ {ds : List α} {vs : List β}, AllV p ds vs → AllV p (ds ++ [d]) (vs ++ [v])
  | [], [], _ => ⟨hd, trivial⟩
  | _ :: _, _ :: _, h => ⟨h.1, AllV.snoc hd h.2⟩
  | [], _ :: _, h => h.elim
  | _ :: _, [], h => h.elim
theorem AllV.len {α β : Type} {p : α → β → Prop} : ∀ {ds : List α} {vs : List β}, AllV p ds vs → vs.length = ds.length
  | [], [], _ => rfl
  | _ :: _, _ :: _, h => by simp [AllV.len h.2]
  | [], _ :: _, h => h.elim
  | _ :: _, [], h => h.elim
theorem AllV.at {α β : Type} {p : α → β → Prop} : ∀ {ds : List α} {vs : List β}, AllV p ds vs → ∀ i (h : i < ds.length) (h2 : i < vs.length), p ds[i] vs[i]
  | [], _, _, i, h, _ => absurd h (by simp)
  | _ :: _, _ :: _, h, 0, _, _ => h.1
  | _ :: _, _ :: _, h, i + 1, h1, h2 => AllV.at h.2 i (by simpa using h1) (by simpa using h2)
  | _ :: _, [], h, _, _, _ => h.elim
theorem AllV.app {α β : Type} {p : α → β → Prop} : ∀ {ds es : List α} {vs us : List β}, AllV p ds vs → AllV p es us → AllV p (ds ++ es) (vs ++ us)
  | [], _, [], _, _, h => h
  | _ :: _, _, _ :: _, _, h, h2 => ⟨h.1, AllV.app h.2 h2⟩
  | [], _, _ :: _, _, h, _ => h.elim
  | _ :: _, _, [], _, h, _ => h.elim
def dclCells (d : Dcl) (v : Value) : List Value := [sv d.name, v, .bool d.imp]
def dclFlat : List Dcl → List Value → List Value
  | d :: ds, v :: vs => dclCells d v ++ dclFlat ds vs
  | _, _ => []
theorem flat_snoc (d : Dcl) (v : Value) : ∀ (ds : List Dcl) (vs : List Value), vs.length = ds.length → dclFlat (ds ++ [d]) (vs ++ [v]) = dclFlat ds vs ++ dclCells d v
  | [], [], _ => by simp [dclFlat]
  | _ :: ds, _ :: vs, h => by
    have := flat_snoc d v ds vs (by simpa using h)
    simp only [List.cons_append, dclFlat, this, List.append_assoc]
  | [], _ :: _, h => by simp at h
  | _ :: _, [], h => by simp at h
theorem flat_app : ∀ (ds : List Dcl) (vs : List Value) (es : List Dcl) (us : List Value), vs.length = ds.length → dclFlat (ds ++ es) (vs ++ us) = dclFlat ds vs ++ dclFlat es us
  | [], [], _, _, _ => by simp [dclFlat]
  | _ :: ds, _ :: vs, es, us, h => by
    have := flat_app ds vs es us (by simpa using h)
    simp only [List.cons_append, dclFlat, this, List.append_assoc]
  | [], _ :: _, _, _, h => by simp at h
  | _ :: _, [], _, _, h => by simp at h
theorem dflat_len : ∀ (ds : List Dcl) (vs : List Value), vs.length = ds.length → (dclFlat ds vs).length = ds.length * 3
  | [], [], _ => rfl
  | _ :: ds, _ :: vs, h => by
    have := dflat_len ds vs (by simpa using h)
    simp only [dclFlat, List.length_append, this, List.length_cons, dclCells, List.length_nil]; omega
  | [], _ :: _, h => by simp at h
  | _ :: _, [], h => by simp at h
theorem dflat_at : ∀ (ds : List Dcl) (vs : List Value) (k : Nat) (h : k < ds.length) (h2 : k < vs.length) (j : Nat), j < 3 → (dclFlat ds vs)[k * 3 + j]? = (dclCells ds[k] vs[k])[j]?
  | [], _, _, h, _, _, _ => absurd h (by simp)
  | _ :: _, [], _, _, h, _, _ => absurd h (by simp)
  | d :: ds, v :: vs, 0, _, _, j, hj => by
    rw [Nat.zero_mul, Nat.zero_add, dclFlat, List.getElem?_append_left (by simpa [dclCells] using hj)]; rfl
  | d :: ds, v :: vs, k + 1, h, h2, j, hj => by
    have := dflat_at ds vs k (by simpa using h) (by simpa using h2) j hj
    rw [dclFlat, List.getElem?_append_right (by simp [dclCells]; omega), show (k + 1) * 3 + j - (dclCells d v).length = k * 3 + j by simp [dclCells]; omega, this]
    rfl
/-- A list of pieces that a declaration holds. -/
def VR (W : World) (d : Dcl) (v : Value) : Prop := ∃ A c, v = .slice A d.value.length c ∧ (A = none → c = 0) ∧ d.value.length ≤ c ∧ Rd W v d.value.length 4 (cssCells d.value)
/-- A list of declarations in memory. -/
def RdD (W : World) (v : Value) (ds : List Dcl) : Prop := ∃ vs, AllV (VR W) ds vs ∧ Rd W v ds.length 3 (dclFlat ds vs)
theorem VR.grow {W : World} {d : Dcl} {v : Value} (h : VR W d v) (X : Gr) : VR (W.grow X) d v := by
  obtain ⟨A, c, h1, h2, h3, h4⟩ := h
  exact ⟨A, c, h1, h2, h3, h4.grow X⟩
theorem RdD.grow {W : World} {v : Value} {ds : List Dcl} (h : RdD W v ds) (X : Gr) : RdD (W.grow X) v ds := by
  obtain ⟨vs, h1, h2⟩ := h
  exact ⟨vs, h1.mono fun d v _ h => h.grow X, h2.grow X⟩
/-- One declaration of a list. -/
theorem RdD.at {W : World} {A : Option Addr} {n c : Nat} {ds : List Dcl} (h : RdD W (.slice A n c) ds) (k : Nat) (hk : k < ds.length) :
    ∃ b off v, A = some ⟨b, off, none⟩ ∧ b < W.heap.size ∧ VR W ds[k] v ∧ W.cell? ⟨b, off + k * 3, none⟩ = some (sv ds[k].name) ∧ W.cell? ⟨b, off + k * 3 + 1, none⟩ = some v ∧ W.cell? ⟨b, off + k * 3 + 2, none⟩ = some (.bool ds[k].imp) := by
  obtain ⟨vs, h1, h2⟩ := h
  have hl := h1.len
  obtain ⟨_, _, A', c', he, h4⟩ := h2
  cases he
  obtain ⟨b, off, rfl, hb, hc⟩ := h4 (by omega)
  have g : ∀ j u, j < 3 → (dclCells ds[k] (vs[k]'(by omega)))[j]? = some u → W.cell? ⟨b, off + (k * 3 + j), none⟩ = some u := fun j u hj hu => hc _ _ (by rw [dflat_at ds vs k hk (by omega) j hj]; exact hu)
  refine ⟨b, off, vs[k]'(by omega), rfl, hb, h1.at k hk (by omega), ?_, ?_, ?_⟩
  · exact g 0 _ (by omega) rfl
  · have := g 1 _ (by omega) rfl; rwa [← Nat.add_assoc] at this
  · have := g 2 _ (by omega) rfl; rwa [← Nat.add_assoc] at this
/-- The end of a call that hands back a list of declarations. -/
def RetD (w : World) (ds : List Dcl) (e : Ending) (w' : World) : Prop := ∃ A c X, e = .returned (.slice A ds.length c) ∧ w' = w.grow X ∧ ds.length ≤ c ∧ (A = none → c = 0) ∧ RdD (w.grow X) (.slice A ds.length c) ds
theorem RetD.flat {P : Program} {f : FuncId} {args : Array Value} {w1 : World} {X : Gr} {ds : List Dcl} (h : Calls P f args (w1.grow X) (RetD (w1.grow X) ds)) : Calls P f args (w1.grow X) (RetD w1 ds) :=
  h.mono fun _ _ hh => by
    obtain ⟨A, c, Y, h1, rfl, h2, h3, h4⟩ := hh
    rw [grow_grow] at h4
    exact ⟨A, c, _, h1, grow_grow w1 X Y, h2, h3, h4⟩
set_option maxRecDepth 100000 in
set_option maxHeartbeats 1600000 in
theorem cloneO_any (ad : Addr) (n c : Nat) (l : List Css) (w : World) (h : Rd w (.slice (some ad) n c) l.length 4 (cssCells l)) (hl : l.length ≤ 1000000000) :
    Calls Tryz.prog 24 #[.slice (some ad) n c] w (RetO w l.length 4 36 (cssCells l)) := by
  have HR := Lib.hid h
  have hn : l.length = n := by obtain ⟨_, _, _, _, he, _⟩ := h; cases he; rfl
  have HN := Lib.hid hn
  have hn9 : n ≤ 1000000000 := by omega
  clear h
  have hnil : ∀ W : World, (binOp .eql 29 (.slice (some ad) n c) (.slice none 0 0)).run Tryz.prog W = .ok (.bool false) W := fun W => Lib.run_eql_slice_nil W _ _ (some ad) n c 0 0 Tryz.underlying29
  go_enter Tryz.func24, Tryz.ntmps24
  go_wp2_with (at_builtin; go_loud (refine append_src rfl _ _ 29 rfl css_row w rfl (own_emp (by simp [go_sem]) (by simp [go_sem] <;> omega)) (by repeat (first | with_reducible exact Below.refl _ _ | (with_reducible refine Below.alloc ?_ (by first | omega | (simp [go_sem] <;> omega)) _) | (with_reducible refine Below.drew ?_) | (with_reducible refine Below.drewN ?_ _) | (with_reducible refine Below.grow ?_ (by first | omega | (simp [go_sem] <;> omega)) _) | (with_reducible refine Below.setCell ?_ (by first | omega | (simp [go_sem] <;> omega)) _))) n (cssCells l) (news_rd (HN.out ▸ HR.out) (fun h => by cases h) (by repeat (first | with_reducible exact Below.refl _ _ | (with_reducible refine Below.alloc ?_ (by first | omega | (simp [go_sem] <;> omega)) _) | (with_reducible refine Below.drew ?_) | (with_reducible refine Below.drewN ?_ _) | (with_reducible refine Below.grow ?_ (by first | omega | (simp [go_sem] <;> omega)) _) | (with_reducible refine Below.setCell ?_ (by first | omega | (simp [go_sem] <;> omega)) _)))) (by have := HR.out.1; rw [HN.out] at this; exact this) (css_one l) (by unfold maxLen; omega) (by omega) ?_); intro v3 X3 hown3)
  go_ret
  rw [HN.out]
  rw [Nat.zero_add, List.nil_append] at hown3
  exact ⟨v3, X3, rfl, rfl, hown3⟩
theorem adv_some {b off c k : Nat} : adv (some ⟨b, off, none⟩) c k = if c = k then some ⟨b, off, none⟩ else some ⟨b, off + k * 4, none⟩ := rfl
theorem adv_facts {A : Option Addr} {B c k : Nat} (h : ∀ b off s, A = some ⟨b, off, s⟩ → s = none ∧ b = B) : ∀ b off s, adv A c k = some ⟨b, off, s⟩ → s = none ∧ b = B := by
  intro b off s h2
  unfold adv at h2
  split at h2
  · exact h _ _ _ h2
  · cases A with
    | none => cases h2
    | some a =>
      obtain ⟨ab, ao, asp⟩ := a
      simp only [Option.map_some, Option.some.injEq, Addr.mk.injEq] at h2
      obtain ⟨rfl, rfl, rfl⟩ := h2
      exact ⟨rfl, (h _ _ _ rfl).2⟩
theorem Rd.adv {W : World} {b off n c : Nat} {l : List Css} (h : Rd W (.slice (some ⟨b, off, none⟩) n c) l.length 4 (cssCells l)) (hc : l.length ≤ c) (k : Nat) (hk : k ≤ l.length) : Rd W (.slice (Go.Proofs.YtdpgpjileffekaaGreatDoor.adv (some ⟨b, off, none⟩) c k) (l.drop k).length (c - k)) (l.drop k).length 4 (cssCells (l.drop k)) := by
  rw [adv_some]
  by_cases hck : c = k
  · have hdk : (l.drop k).length = l.length - k := by rw [List.length_drop]
    exact ⟨flat_len Css.cells 4 (fun _ => rfl) _, by rw [hdk]; have := h.2.1; omega, _, _, rfl, fun hn0 => by rw [hdk] at hn0; omega⟩
  · rw [if_neg hck]; exact Rd.drop4 h k hk
theorem partsV_facts {W : World} {B : Nat} : ∀ (n : Nat) (l : List Css) (A : Option Addr) (c : Nat), l.length ≤ n → Rd W (.slice A l.length c) l.length 4 (cssCells l) → (∀ b off s, A = some ⟨b, off, s⟩ → s = none ∧ b = B) → (A = none → l = []) → l.length ≤ c →
    ∀ x ∈ partsV A c (partsL 0 l), ∃ A' c', x.1 = .slice A' x.2.length c' ∧ x.2.length ≤ c' ∧ Rd W (.slice A' x.2.length c') x.2.length 4 (cssCells x.2) ∧ (∀ b off s, A' = some ⟨b, off, s⟩ → s = none ∧ b = B) ∧ (A' = none → x.2 = []) ∧ ∀ y ∈ x.2, y ∈ l := by
  intro n
  induction n with
  | zero =>
    intro l A c hl hr hA hA0 hc x hx
    obtain rfl : l = [] := List.eq_nil_of_length_eq_zero (by omega)
    simp only [partsL, partsV, List.mem_cons, List.not_mem_nil, or_false] at hx
    subst hx
    exact ⟨A, c, rfl, hc, hr, hA, fun _ => rfl, fun y hy => hy⟩
  | succ n ih =>
    intro l A c hl hr hA hA0 hc x hx
    have hcp := cut_parts l 0
    cases hcut : cutN 0 l with
    | none =>
      rw [hcut] at hcp
      rw [hcp] at hx
      simp only [partsV, List.mem_cons, List.not_mem_nil, or_false] at hx
      subst hx
      exact ⟨A, c, rfl, hc, hr, hA, hA0, fun y hy => hy⟩
    | some k =>
      rw [hcut] at hcp
      obtain ⟨hk, hp⟩ := hcp
      rw [hp] at hx
      have htk : (l.take k).length = k := by rw [List.length_take]; omega
      obtain ⟨b, off, rfl⟩ : ∃ b off, A = some ⟨b, off, none⟩ := by
        cases A with
        | none => have := hA0 rfl; rw [this] at hk; simp at hk
        | some ad =>
          obtain ⟨ab, ao, asp⟩ := ad
          obtain ⟨rfl, _⟩ := hA ab ao asp rfl
          exact ⟨ab, ao, rfl⟩
      simp only [partsV, List.mem_cons] at hx
      rcases hx with rfl | hx
      · exact ⟨_, c, rfl, by simp only [htk]; omega, Rd.take4 hr k (by omega), hA, (fun h => by cases h), fun y hy => List.mem_of_mem_take hy⟩
      · rw [htk] at hx
        have hdk : (l.drop (k + 1)).length = l.length - (k + 1) := by rw [List.length_drop]
        obtain ⟨A', c', h1, h2, h3, h4, h5, h6⟩ := ih (l.drop (k + 1)) _ _ (by omega) (Rd.adv hr hc (k + 1) (by omega)) (adv_facts hA) (fun h => by rw [adv_some] at h; split at h <;> cases h) (by omega) x hx
        exact ⟨A', c', h1, h2, h3, h4, h5, fun y hy => List.mem_of_mem_drop (h6 y hy)⟩
theorem partsV_snd : ∀ (ps : List (List Css)) (A : Option Addr) (c : Nat), (partsV A c ps).map (·.2) = ps
  | [], _, _ => rfl
  | p :: ps, A, c => by rw [partsV, List.map_cons, partsV_snd ps]
theorem callsIn_round {P : Program} {l n : Nat} {f : FuncId} {args : Array Value} {w : World} {R : Ending → World → Prop} (h : Calls P f args w R) : CallsIn (Fence.wide.inRound l) n P f args w R := (callsIn_wide (n := n)).2 h
end Go.Proofs.YtdpgpjileffekaaGreatDoor
