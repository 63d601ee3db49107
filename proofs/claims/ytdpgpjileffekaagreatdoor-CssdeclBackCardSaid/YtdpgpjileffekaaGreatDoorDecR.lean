/- Plain laws: how long the texts of declarations are; small laws of lists in memory. -/
import Derived.Test.YtdpgpjileffekaaGreatDoorCssR
import Derived.Test.YtdpgpjileffekaaGreatDoorDecK
import Derived.Test.YtdpgpjileffekaaGreatDoorDecL
import Derived.Test.YtdpgpjileffekaaGreatDoorDecO
namespace Go.Proofs.YtdpgpjileffekaaGreatDoor
open Go.RowKit Go.Shelf
def lenS (us : List Bs) : Nat := (us.map fun u => u.length + 2).sum
theorem joinS_sum : ∀ (us : List Bs), (joinS us).length ≤ lenS us
  | [] => by simp [joinS, lenS]
  | [u] => by simp [joinS, lenS]
  | u :: v :: l => by
    have := joinS_sum (v :: l)
    simp only [joinS, lenS, List.map_cons, List.sum_cons, List.length_append, List.length_cons] at this ⊢
    omega
theorem told_textC {m : Nat} {l : List Css} (h : ∀ x ∈ l, CssOk x ∧ x.text.length + x.unit.length ≤ m) : (textC l).length ≤ l.length * (m + 41) := by
  have h1 := join_len (m + 40) (l.map toldC) (fun u hu => by
    rw [List.mem_map] at hu
    obtain ⟨x, hx, rfl⟩ := hu
    obtain ⟨o1, o2⟩ := h x hx
    have := told_len x o1
    omega)
  rw [List.length_map] at h1
  exact h1
theorem toldD_by {m k : Nat} {d : Dcl} (h : ∀ x ∈ d.value, CssOk x ∧ x.text.length + x.unit.length ≤ m) (hn : d.name.length ≤ k) : (toldD d).length ≤ d.value.length * (m + 41) + (k + 14) := by
  have := told_textC h
  simp only [toldD, List.length_append, List.length_cons, List.length_nil]
  have : (if d.imp then impS else []).length ≤ 12 := by split <;> decide
  omega
theorem textD_by {m k : Nat} : ∀ {l : List Dcl}, (∀ d ∈ l, (∀ x ∈ d.value, CssOk x ∧ x.text.length + x.unit.length ≤ m) ∧ d.name.length ≤ k) → lenS (l.map toldD) ≤ (l.map fun d => d.value.length).sum * (m + 41) + l.length * (k + 16)
  | [], _ => by simp [lenS]
  | d :: l, h => by
    have h1 := toldD_by (h d (List.mem_cons_self ..)).1 (h d (List.mem_cons_self ..)).2
    have h2 := textD_by (l := l) fun e he => h e (List.mem_cons_of_mem _ he)
    simp only [lenS, List.map_cons, List.sum_cons, List.length_cons] at h2 ⊢
    rw [Nat.add_mul, Nat.succ_mul]
    omega
theorem few_shortD {l : List Dcl} (h : fewD l = true) (hz : ∀ d ∈ l, DclIn d) : (∀ d ∈ l, ShortD d) ∧ l.length ≤ 30 ∧ (textD l).length ≤ 2000000 := by
  simp only [fewD, Bool.and_eq_true, List.all_eq_true, decide_eq_true_eq, few14] at h
  obtain ⟨h1, h2⟩ := h
  have key : ∀ d ∈ l, Short d.value ∧ d.value.length ≤ 100 ∧ d.name.length ≤ 200 ∧ ∀ x ∈ d.value, CssOk x ∧ x.text.length + x.unit.length ≤ 400 := fun d hd => by
    obtain ⟨f1, f2⟩ := h1 d hd
    obtain ⟨s1, s2, s3⟩ := few_short f1 (hz d hd).2
    refine ⟨s1, s2, f2, fun x hx => ⟨(s1 x hx).1, ?_⟩⟩
    simp only [fewB, Bool.and_eq_true, List.all_eq_true, decide_eq_true_eq, few1] at f1
    have := f1.1 x hx
    omega
  refine ⟨fun d hd => ⟨(key d hd).1, by have := (key d hd).2.1; omega, by have := (key d hd).2.2.1; omega⟩, h2, ?_⟩
  have h3 := joinS_sum (l.map toldD)
  have h4 := textD_by (m := 400) (k := 200) (l := l) fun d hd => ⟨(key d hd).2.2.2, (key d hd).2.2.1⟩
  have h5 : (l.map fun d => d.value.length).sum ≤ l.length * 100 := by
    clear h1 h2 h3 h4 hz
    induction l with
    | nil => simp
    | cons d l ih =>
      have := (key d (List.mem_cons_self ..)).2.1
      have := ih fun e he => key e (List.mem_cons_of_mem _ he)
      simp only [List.map_cons, List.sum_cons, List.length_cons]
      omega
  have h6 := Nat.mul_le_mul_right 441 h5
  have h7 := Nat.mul_le_mul_right 44100 h2
  unfold textD
  omega
theorem parts_sum : ∀ (l : List Css) (d : Nat), ((partsL d l).map List.length).sum ≤ l.length
  | [], d => by simp [partsL]
  | x :: l, d => by
    have h1 := parts_sum l 0
    have h2 := parts_sum l (dn d x)
    simp only [partsL]
    split
    · simp only [List.map_cons, List.sum_cons, List.length_nil, List.length_cons]; omega
    · obtain ⟨q, qs, hq⟩ := parts_ne (dn d x) l
      rw [hq] at h2 ⊢
      simp only [List.map_cons, List.sum_cons, List.length_cons] at h2 ⊢
      omega
theorem declOf_le {p : List Css} {d : Dcl} (h : declOf p = some d) : d.value.length ≤ p.length := by
  match p, h with
  | a :: b :: r, h =>
    simp only [declOf] at h
    split at h
    · cases h
      have := urgV_le r
      simp only [List.length_cons]; omega
    · cases h
theorem decls_sum : ∀ (ps : List (List Css)), ((ps.filterMap declOf).map fun d => d.value.length).sum ≤ (ps.map List.length).sum
  | [] => by simp
  | p :: ps => by
    have := decls_sum ps
    cases h : declOf p with
    | none => rw [List.filterMap_cons_none h, List.map_cons, List.sum_cons]; omega
    | some d =>
      have := declOf_le h
      rw [List.filterMap_cons_some h, List.map_cons, List.map_cons, List.sum_cons, List.sum_cons]; omega
/-- A short text's declarations have a short text. -/
theorem parsed_text {s : Bs} (h : s.length ≤ 1000) : (textD (declsL (cssL s))).length ≤ 3000000 := by
  have h1 := joinS_sum ((declsL (cssL s)).map toldD)
  have hp : ∀ x ∈ cssL s, CssOk x ∧ x.text.length + x.unit.length ≤ 1064 := fun x hx => by
    have := scan_small _ s x hx
    exact ⟨this.1, by have := this.2; omega⟩
  have h2 := textD_by (m := 1064) (k := 1000) (l := declsL (cssL s)) fun d hd => by
    obtain ⟨_, p2, p3⟩ := parsed_right hd
    refine ⟨fun x hx => hp x (p2 x hx), ?_⟩
    have := (scan_small _ s _ p3).2.1
    simp only at this; omega
  have h3 := decls_sum (partsL 0 (cssL s))
  have h4 := parts_sum (cssL s) 0
  have h5 := (parsed_short h).1
  have h6 := (scan_short h).2.1
  have h7 : ((declsL (cssL s)).map fun d => d.value.length).sum ≤ 1000 := Nat.le_trans h3 (Nat.le_trans h4 h6)
  have h8 := Nat.mul_le_mul_right 1105 h7
  have h9 := Nat.mul_le_mul_right 1016 h5
  unfold textD
  omega
theorem dcl_one {W : World} : ∀ {ds : List Dcl} {vs : List Value}, AllV (VR W) ds vs → ∀ u ∈ dclFlat ds vs, u.oneCell' = true
  | [], [], _ => by simp [dclFlat]
  | d :: ds, v :: vs, h => by
    intro u hu
    rw [dclFlat, List.mem_append] at hu
    rcases hu with hu | hu
    · obtain ⟨A, c, rfl, _⟩ := h.1
      simp only [dclCells, List.mem_cons, List.not_mem_nil, or_false, sv] at hu
      rcases hu with rfl | rfl | rfl <;> rfl
    · exact dcl_one h.2 u hu
  | [], _ :: _, h => h.elim
  | _ :: _, [], h => h.elim
theorem RdD.len {W : World} {A : Option Addr} {n c : Nat} {l : List Dcl} (h : RdD W (.slice A n c) l) : l.length = n := by
  obtain ⟨_, _, _, _, _, _, he, _⟩ := h
  cases he; rfl
theorem RdD.below {w W : World} {v : Value} {l : List Dcl} (h : RdD w v l) (hb : Below w.heap.size w W) : RdD W v l := by
  obtain ⟨X, rfl⟩ := grow_of_below hb
  exact h.grow X
/-- Two lists, one behind the other in a row of the call's own. -/
theorem RdD.both {W : World} {B : Nat} {v : Value} {l m : List Dcl} {vs us : List Value} {n : Nat} (h1 : AllV (VR W) l vs) (h2 : AllV (VR W) m us) (ho : W.ownsRow B 31 3 v n (dclFlat l vs ++ dclFlat m us)) (hn : n = l.length + m.length) : RdD W v (l ++ m) := by
  subst hn
  refine ⟨vs ++ us, h1.app h2, ?_⟩
  rw [flat_app _ _ _ _ h1.len, List.length_append]
  exact Rd.own ho
/-- A list that came in, and one of the call's own behind it. -/
theorem RdD.joined {w W W' : World} {v v3 : Value} {l m : List Dcl} {vs us : List Value} {n k : Nat} (h1 : AllV (VR w) l vs) (hw : Below w.heap.size w W) (h2 : AllV (fun d u => W.ownsRow w.heap.size 36 4 u d.value.length (cssCells d.value)) m us)
    {xs : List Value} (h3 : W.ownsRow w.heap.size 31 3 v3 k xs) (hg : W.grownBy W' v3.ownBlock) (ho : W'.ownsRow w.heap.size 31 3 v n (dclFlat l vs ++ dclFlat m us)) (hn : n = l.length + m.length) : RdD W' v (l ++ m) ∧ Below w.heap.size w W' := by
  have hb : Below w.heap.size w W' := (own_step hg h3 hw).out
  refine ⟨RdD.both (h1.mono fun d u _ h => ?_) (h2.mono fun d u _ h => VR.own (own_grown hg h fun b hb => own_apart h h3 (by decide) b hb)) ho hn, hb⟩
  obtain ⟨X, rfl⟩ := grow_of_below hb
  exact h.grow X
end Go.Proofs.YtdpgpjileffekaaGreatDoor
