/- How an argument that is a list of pieces is opened; what a row's conditions say of the library's variables. -/
import Derived.Lib.SmallJoins
import Derived.Lib.LaidTab
import Derived.LaidSub
import Derived.Shelf.Vars
import Derived.Handed
import Derived.MakeChecks
import Derived.Test.YtgcccpdadponiaaGreatDoorKA
import Derived.Test.YtgcccpdadponiaaGreatDoorCssQ
namespace Go.Proofs.YtgcccpdadponiaaGreatDoor
open Go.ChangeShapes Go.WideShapes Go.Deep
instance : Inhabited Css := ⟨⟨0, [], 0, []⟩⟩
theorem int_wf {n : Int} (h : (Lit.int .i64 n).wf = true) : -9223372036854775808 ≤ n ∧ n ≤ 9223372036854775807 := by
  simp only [Lit.wf, Bool.and_eq_true, decide_eq_true_eq] at h
  exact h
section
variable {H : Type} {enc : TypeId × Value → H} {w : World} {base : Nat} {spare : Nat → Bool} {held : Bool}
theorem css_fields : ∃ f0 f1 f2 f3 : Field, Tryz.prog.underlying 37 = some (.struct #[f0, f1, f2, f3]) ∧ f0.type = 3 ∧ f1.type = 9 ∧ f2.type = 3 ∧ f3.type = 9 ∧ oneCellFields Tryz.prog #[f0, f1, f2, f3] = true :=
  ⟨_, _, _, _, Tryz.underlying37, rfl, rfl, rfl, rfl, by kernel_rfl⟩
/-- A piece as it came in, whole. -/
def CssIn (x : Css) : Prop := CssOk x ∧ x.text.length ≤ maxLen ∧ x.unit.length ≤ maxLen
theorem css_open {fuel : Nat} {a : Option Addr} {len cap : Nat} {x : DataW H × List MemPlace}
    (h : DataW.trod enc Tryz.prog w base spare held fuel 22 [.slice a len cap] = some x) : ∃ l : List Css, l.length = len ∧ Rd w (.slice a len cap) l.length 4 (cssCells l) ∧ ∀ p ∈ l, CssIn p := by
  obtain ⟨f0, f1, f2, f3, hs, t0, t1, t2, t3, hone⟩ := css_fields
  obtain ⟨hlen, hc⟩ := open_cells (n := 4) Tryz.underlying22 hs hone (by kernel_rfl) rfl (by omega) h
  by_cases h0 : 0 < len
  · obtain ⟨b, off, rfl, hcc⟩ := hc h0
    obtain ⟨l, hl, hl2⟩ := choose_list (n := len) (p := fun i (y : Css) => w.cell? ⟨b, off + (i * 4 + 0), none⟩ = some (.int .i64 y.kind) ∧ w.cell? ⟨b, off + (i * 4 + 1), none⟩ = some (sv y.text) ∧ w.cell? ⟨b, off + (i * 4 + 2), none⟩ = some (.int .i64 y.num) ∧ w.cell? ⟨b, off + (i * 4 + 3), none⟩ = some (sv y.unit) ∧ CssIn y) (fun i hi => by
      obtain ⟨v0, c0, fu0, y0, r0⟩ := hcc i hi 0 f0 rfl
      obtain ⟨v1, c1, fu1, y1, r1⟩ := hcc i hi 1 f1 rfl
      obtain ⟨v2, c2, fu2, y2, r2⟩ := hcc i hi 2 f2 rfl
      obtain ⟨v3, c3, fu3, y3, r3⟩ := hcc i hi 3 f3 rfl
      rw [t0] at r0
      rw [t1] at r1
      rw [t2] at r2
      rw [t3] at r3
      obtain ⟨n0, e0, _, m0⟩ := DataW.trod_int Tryz.underlying3 r0
      obtain ⟨s1, e1, _, m1⟩ := DataW.trod_string Tryz.underlying9 r1
      obtain ⟨n2, e2, _, m2⟩ := DataW.trod_int Tryz.underlying3 r2
      obtain ⟨s3, e3, _, m3⟩ := DataW.trod_string Tryz.underlying9 r3
      simp at e0 e1 e2 e3
      subst e0 e1 e2 e3
      have h0 := int_wf m0
      have h2 := int_wf m2
      exact ⟨⟨n0, s1.data.toList, n2, s3.data.toList⟩, c0, c1, c2, c3, ⟨h0.1, h0.2, h2.1, h2.2⟩, by show s1.data.toList.length ≤ _; rw [len_data]; exact m1, by show s3.data.toList.length ≤ _; rw [len_data]; exact m3⟩)
    refine ⟨l, hl, ⟨flat_len Css.cells 4 (fun _ => rfl) l, by omega, some ⟨b, off, none⟩, cap, by rw [hl], fun _ => ⟨b, off, rfl, World.block_lt_of_cell? w _ (hl2 0 (by omega)).1, fun j u hu => ?_⟩⟩, fun p hp => ?_⟩
    rotate_left
    · obtain ⟨i, hi, rfl⟩ := List.mem_iff_getElem.1 hp; exact (hl2 i hi).2.2.2.2
    have hj : j < l.length * 4 := by rw [← flat_len Css.cells 4 (fun _ => rfl) l]; exact (List.getElem?_eq_some_iff.1 hu).1
    obtain ⟨i, r, hr, rfl⟩ : ∃ i r, r < 4 ∧ j = i * 4 + r := ⟨j / 4, j % 4, by omega, by omega⟩
    have hi : i < l.length := by omega
    obtain ⟨k0, k1, k2, k3, _⟩ := hl2 i hi
    rw [cssCells, flat_at Css.cells 4 (fun _ => rfl) l i hi r hr] at hu
    match r, hr with
    | 0, _ => cases hu; exact k0
    | 1, _ => cases hu; exact k1
    | 2, _ => cases hu; exact k2
    | 3, _ => cases hu; exact k3
  · obtain rfl : len = 0 := by omega
    exact ⟨[], rfl, ⟨by simp [cssCells], by omega, a, cap, rfl, fun h => by simp at h⟩, by simp⟩
theorem css_nil {fuel : Nat} {a : Option Addr} {len cap : Nat} {x : DataW H × List MemPlace}
    (h : DataW.trod enc Tryz.prog w base spare held fuel 22 [.slice a len cap] = some x) (ha : a = none) : cap = 0 := by
  rcases open_slice Tryz.underlying22 h with ⟨hcs, _⟩ | ⟨ad, len', cap', m, n, D, Pl, hcs, hb, hl, hm, hmm, hx, hi⟩
  · simp at hcs; exact hcs.2.2
  · simp at hcs; rw [ha] at hcs; cases hcs.1
end
theorem tb_laid {l : List (String × DataW Unit)} {W : World} (h : laidMetH Tryz.prog l W) (hf : (l.filter fun x => x.1 == "internal/strconv.uint64pow10") = [("internal/strconv.uint64pow10", Lib.tabData .u64 Lib.pow10Tab)]) : Tb W := by
  have h1 := h.filter (fun x => x.1 == "internal/strconv.uint64pow10")
  rw [hf, MakeChecks.laidMetH_plain _ _ _ (by kernel_rfl)] at h1
  exact Lib.tabIs_of_head (g := 1) (t := 145) (e := 130) (n := 20) (by kernel_rfl) (by kernel_rfl) (by kernel_rfl) (by kernel_rfl) (by kernel_rfl) (by kernel_rfl) h1
theorem mx_shape {W : World} (h : W.ShapedOpen Tryz.prog) : Mx W :=
  cell_of_shapedOpen_int (g := 0) (t := 3) (zero := #[.int .i64 0]) h (of_decide_eq_true (by kernel_rfl)) (by kernel_rfl) (by kernel_rfl) (by kernel_rfl) (by kernel_rfl) (by kernel_rfl)
section
variable {H : Type} {enc : TypeId × Value → H}
/-- The wrap of a row that lists variables, whose walk asks for the world's shape too. -/
theorem handed_shape {a : Assume} {C : Checked} {os : Os} {f : FuncId} {fn : Func} {s : ChangeSpec} {conds : List PathCond} {apart fresh handsOn again : Bool} {X : World → Array Value → Prop}
    (hX : ∀ (w w' : World) (args : Array Value), w.heap = w'.heap → X w args → X w' args)
    (own : ownKnob C.prog.godebug = none) (started : os.Started) (noInit : C.prog.inits.idxOf? f = none) (hfn : C.prog.funcs[f]? = some fn)
    (witness : ∃ (w : World) (tape : Tape) (i : Input), w.os = os ∧ (w.forCall tape i).Shaped C.prog ∧ i.vars = [] ∧ Input.okWide C.prog (w.forCall tape i) .any w.heap.size f i ∧
      ((s.pre enc C.prog fn conds apart (w.forCall tape i).memory i.args ∧ X (w.forCall tape i).memory i.args) ∧ sizedMet enc C.prog fn (OpenSpec.ofChange s) apart (w.forCall tape i).memory i.args) ∧ a.holds C.prog (lone (Frame.enter C.prog f i.args .normal) [] (w.forCall tape i)))
    (contract : ∀ (W : World) (base : Nat) (args : Array Value) (ds gs : List (DataW H)) (before : List MemPlace),
      (∀ (j : Nat) t v, fn.params[j]? = some t → args[j]? = some v → Value.okWide C.prog W .any base t v) →
      DataW.Whole enc C.prog fn.params.toList s.vars apart W args.toList ds gs before →
      X W args → W.ShapedOpen C.prog →
      Calls C.prog f args W fun e W' => ∃ v, e = .returned v ∧ s.post enc C.prog fn apart fresh handsOn again W args v W') :
    ReturnsInHanded a C os f .any (fun w args => (s.pre enc C.prog fn conds apart w args ∧ X w args) ∧ sizedMet enc C.prog fn (OpenSpec.ofChange s) apart w args) (s.post enc C.prog fn apart fresh handsOn again) := by
  refine returnsInHanded_of_calls own started noInit witness fun w tape i _ hsh _ hok hpre _ => ?_
  obtain ⟨_, _, _, g, hg, _, _, _, _, hval⟩ := hok
  obtain rfl : g = fn := Option.some.inj (hg.symm.trans hfn)
  obtain ⟨⟨⟨ds, gs, before, hw, _⟩, hx⟩, _⟩ := hpre
  exact (contract _ w.heap.size i.args ds gs before hval (DataW.Whole.of_heap (w' := w.forCall tape i) (by rfl) hw) (hX _ _ _ (by rfl) hx) hsh).mono fun e W' ⟨v, he, hp⟩ => by
    subst he; exact ChangeSpec.post_blind hp
end
end Go.Proofs.YtgcccpdadponiaaGreatDoor
