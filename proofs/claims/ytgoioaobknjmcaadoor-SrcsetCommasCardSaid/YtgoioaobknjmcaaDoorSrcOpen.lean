/- How an argument that is a picture, or a list of pictures, is opened; how long pictures' text is. -/
import Derived.Lib.SmallJoins
import Derived.Test.YtgoioaobknjmcaaDoorKitF
import Derived.Test.YtgoioaobknjmcaaDoorSrcT
namespace Go.Proofs.YtgoioaobknjmcaaDoor
open Go.ChangeShapes Go.WideShapes Go.Deep
instance : Inhabited Pic := ⟨⟨[], []⟩⟩
section
variable {H : Type} {enc : TypeId × Value → H} {w : World} {base : Nat} {spare : Nat → Bool} {held : Bool}
theorem src_fields : ∃ f0 f1 : Field, Tryd.prog.underlying 28 = some (.struct #[f0, f1]) ∧ f0.type = 9 ∧ f1.type = 9 ∧ oneCellFields Tryd.prog #[f0, f1] = true :=
  ⟨_, _, Tryd.underlying28, rfl, rfl, by kernel_rfl⟩
theorem pics_open {fuel : Nat} {a : Option Addr} {len cap : Nat} {x : DataW H × List MemPlace}
    (h : DataW.trod enc Tryd.prog w base spare held fuel 24 [.slice a len cap] = some x) : ∃ l : List Pic, l.length = len ∧ Rd w (.slice a len cap) l.length 2 (picCells l) ∧ ∀ p ∈ l, p.url.length ≤ maxLen ∧ p.size.length ≤ maxLen := by
  obtain ⟨f0, f1, hs, t0, t1, hone⟩ := src_fields
  obtain ⟨hlen, hc⟩ := open_cells (n := 2) Tryd.underlying24 hs hone (by kernel_rfl) rfl (by omega) h
  by_cases h0 : 0 < len
  · obtain ⟨b, off, rfl, hcc⟩ := hc h0
    obtain ⟨l, hl, hl2⟩ := choose_list (n := len) (p := fun i (y : Pic) => w.cell? ⟨b, off + (i * 2 + 0), none⟩ = some (sv y.url) ∧ w.cell? ⟨b, off + (i * 2 + 1), none⟩ = some (sv y.size) ∧ y.url.length ≤ maxLen ∧ y.size.length ≤ maxLen) (fun i hi => by
      obtain ⟨v0, c0, fu0, y0, r0⟩ := hcc i hi 0 f0 rfl
      obtain ⟨v1, c1, fu1, y1, r1⟩ := hcc i hi 1 f1 rfl
      rw [t0] at r0
      rw [t1] at r1
      obtain ⟨s, e0, _, m0⟩ := DataW.trod_string Tryd.underlying9 r0
      obtain ⟨s2, e1, _, m1⟩ := DataW.trod_string Tryd.underlying9 r1
      simp at e0 e1
      subst e0 e1
      exact ⟨⟨s.data.toList, s2.data.toList⟩, c0, c1, by show s.data.toList.length ≤ _; rw [len_data]; exact m0, by show s2.data.toList.length ≤ _; rw [len_data]; exact m1⟩)
    refine ⟨l, hl, ⟨flat_len Pic.cells 2 (fun _ => rfl) l, by omega, some ⟨b, off, none⟩, cap, by rw [hl], fun _ => ⟨b, off, rfl, World.block_lt_of_cell? w _ (hl2 0 (by omega)).1, fun j u hu => ?_⟩⟩, fun p hp => ?_⟩
    rotate_left
    · obtain ⟨i, hi, rfl⟩ := List.mem_iff_getElem.1 hp; exact (hl2 i hi).2.2
    have hj : j < l.length * 2 := by rw [← flat_len Pic.cells 2 (fun _ => rfl) l]; exact (List.getElem?_eq_some_iff.1 hu).1
    obtain ⟨i, r, hr, rfl⟩ : ∃ i r, r < 2 ∧ j = i * 2 + r := ⟨j / 2, j % 2, by omega, by omega⟩
    have hi : i < l.length := by omega
    obtain ⟨k0, k1, _⟩ := hl2 i hi
    rw [picCells, flat_at Pic.cells 2 (fun _ => rfl) l i hi r hr] at hu
    match r, hr with
    | 0, _ => cases hu; exact k0
    | 1, _ => cases hu; exact k1
  · obtain rfl : len = 0 := by omega
    exact ⟨[], rfl, ⟨by simp [picCells], by omega, a, cap, rfl, fun h => by simp at h⟩, by simp⟩
theorem pic_open {v : Value} {d : DataW H} {p : List MemPlace} {r : Reach} {b0 : Nat} (hv : Value.okWide Tryd.prog w r b0 28 v) (h : DataW.Trod enc Tryd.prog w base spare held 28 v d p) :
    ∃ x : Pic, v = Pic.agg x ∧ x.url.length ≤ maxLen ∧ x.size.length ≤ maxLen := by
  obtain ⟨f0, f1, hs, t0, t1, hone⟩ := src_fields
  obtain ⟨v0, v1, y0, y1, n, rfl, _, _, r0, r1⟩ := Joins.open_agg2 hs hone (by kernel_rfl) hv h
  rw [t0] at r0
  rw [t1] at r1
  obtain ⟨s, e0, _, w0⟩ := DataW.trod_string Tryd.underlying9 r0
  obtain ⟨s2, e1, _, w1⟩ := DataW.trod_string Tryd.underlying9 r1
  simp at e0 e1
  subst e0 e1
  exact ⟨⟨s.data.toList, s2.data.toList⟩, rfl, by show s.data.toList.length ≤ _; rw [len_data]; exact w0, by show s2.data.toList.length ≤ _; rw [len_data]; exact w1⟩
end
theorem told_len (p : Pic) : (toldP' p).length ≤ p.url.length + p.size.length + 1 := by
  unfold toldP'
  split <;> (try rw [List.length_append, List.length_cons]) <;> omega
theorem joinBs_len (sep : Bs) (m : Nat) (us : List Bs) (h : ∀ u ∈ us, u.length ≤ m) : (joinBs sep us).length ≤ us.length * (m + sep.length) := by
  induction us with
  | nil => simp [joinBs]
  | cons u us ih =>
    have h1 := h u (List.mem_cons_self ..)
    have h2 := ih fun x hx => h x (List.mem_cons_of_mem _ hx)
    cases us with
    | nil => simp [joinBs]; omega
    | cons v vs =>
      rw [joinBs, List.length_append, List.length_append, List.length_cons, Nat.add_mul]
      omega
theorem textP_len (m : Nat) (l : List Pic) (h : ∀ p ∈ l, p.url.length + p.size.length ≤ m) : (textP l).length ≤ l.length * (m + 3) := by
  unfold textP
  have := joinBs_len [44, 32] (m + 1) (l.map toldP') (fun u hu => by
    obtain ⟨p, hp, rfl⟩ := List.mem_map.1 hu
    have h1 := told_len p
    have h2 := h p hp
    omega)
  rw [List.length_map] at this
  exact this
theorem size_short {s : Bs} (h : sizeB s = true) : s.length ≤ 20 := by
  by_cases hs : s = []
  · subst hs; simp
  · rw [size_cases s hs] at h
    simp only [Bool.and_eq_true, decide_eq_true_eq] at h
    obtain ⟨⟨h1, h2⟩, h3⟩ := h
    have hd := congrArg List.length (List.takeWhile_append_dropWhile (p := digB) (l := s))
    rw [List.length_append] at hd
    change (tw digB s) + _ = _ at hd
    split at h3
    · rename_i he; rw [he] at hd; simp at hd; omega
    · rename_i r he
      rw [he] at hd
      simp only [Bool.and_eq_true, decide_eq_true_eq] at h3
      obtain ⟨⟨_, h4⟩, h5⟩ := h3
      have hr := congrArg List.length (List.takeWhile_append_dropWhile (p := digB) (l := r))
      rw [List.length_append, tail_bytes h5] at hr
      change (tw digB r) + _ = _ at hr
      simp at hd hr; omega
    · rw [tail_bytes h3] at hd; simp at hd; omega
theorem right_short {p : Pic} (h : rightP p = true) : p.size.length ≤ 20 := by
  rw [right_cases] at h
  simp only [Bool.and_eq_true] at h
  exact size_short h.2
end Go.Proofs.YtgoioaobknjmcaaDoor
