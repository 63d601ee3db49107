/- The walks of the reference's parser: its state; at, is, wants, once. -/
import Derived.BigRegion
import Derived.Test.YtenjnliceeejlaaGreatR2
import Derived.Test.YtenjnliceeejlaaGreatR4
import Derived.Test.YtenjnliceeejlaaGreatRG
namespace Go.Proofs.YtenjnliceeejlaaGreat
open Go.RowKit
attribute [local go_sem] Oper.semAt_some
def rC (j : Nat) : Nat := if j = 6 then 10 else j
def rS (j : Nat) : Nat := if j = 6 then 1 else fS j
def rN (s : Ps) (j : Nat) : Nat := if j = 6 then s.told.length else fN s.pol j
def rX (s : Ps) (j : Nat) : List Value := if j = 6 then s.told.reverse.map sv else fC s.pol j
structure RPar (en B : Nat) (s : Ps) (W : World) : Prop where
 rest : ∃ A c, W.cell? ⟨B, 11, none⟩ = some (.slice A s.rest.length c) ∧ s.rest.length ≤ c ∧ Rx W (fun b => B ≤ b) (.slice A s.rest.length c) s.rest.length 3 (lxCells s.rest)
 end_ : W.cell? ⟨B, 12, none⟩ = some (.int .i64 en)
 fz : ∀ j, W.frozen? ⟨B, j, none⟩ = false
 row : ∀ j, j < 7 → ∃ v, W.cell? ⟨B, rC j, none⟩ = some v ∧ W.ownsRow (B + 1) (fT j) (rS j) v (rN s j) (rX s j)
 apart : ∀ i j v u b, i < 7 → j < 7 → i ≠ j → W.cell? ⟨B, rC i, none⟩ = some v → W.cell? ⟨B, rC j, none⟩ = some u → v.ownBlock = some b → u.ownBlock ≠ some b
 c6 : W.cell? ⟨B, 6, none⟩ = some (.bool s.pol.rel)
 c7 : W.cell? ⟨B, 7, none⟩ = some (.int .i64 s.pol.depth)
 c8 : W.cell? ⟨B, 8, none⟩ = some (.int .i64 s.pol.name)
 c9 : W.cell? ⟨B, 9, none⟩ = some (.int .i64 s.pol.value)
theorem rC_lt {j : Nat} (h : j < 7) : rC j < 6 ∨ rC j = 10 := by unfold rC; split <;> omega
theorem rC_inj {i j : Nat} (hi : i < 7) (hj : j < 7) (h : i ≠ j) : rC i ≠ rC j := by unfold rC; split <;> split <;> omega
theorem RPar.lt {en B : Nat} {s : Ps} {W : World} (h : RPar en B s W) : B < W.heap.size := World.block_lt_of_cell? W _ h.end_
theorem RPar.turned {en B : Nat} {s : Ps} {W W' : World} {pv : Nat → Prop} (h : RPar en B s W) (ht : Turned pv W W') (h1 : ∀ b, pv b → B < b) (h2 : ∀ j v b, j < 7 → W.cell? ⟨B, rC j, none⟩ = some v → v.ownBlock = some b → ¬ pv b) : RPar en B s W' := by
 have hb := ht.block B h.lt (fun hx => Nat.lt_irrefl _ (h1 _ hx))
 have hc : ∀ i, W'.cell? ⟨B, i, none⟩ = W.cell? ⟨B, i, none⟩ := fun i => World.cell?_of_block hb
 obtain ⟨A, c, e1, e2, e3⟩ := h.rest
 refine ⟨⟨A, c, (hc _).trans e1, e2, ?_⟩, (hc _).trans h.end_, fun j => (World.frozen?_of_block hb).trans (h.fz j), fun j hj => ?_, fun i j v u b hi hj hij hv hu => h.apart i j v u b hi hj hij ((hc _).symm.trans hv) ((hc _).symm.trans hu), (hc _).trans h.c6, (hc _).trans h.c7, (hc _).trans h.c8, (hc _).trans h.c9⟩
 ·obtain ⟨A', c', e4, e5, e6, e7⟩ := e3
  cases e4
  exact ⟨A, c, rfl, e5, e6.turnedN ht (fun hn b off s hA hx => e7 hn b off s hA (Nat.le_of_lt (h1 _ hx))), e7⟩
 ·obtain ⟨v, hv, ho⟩ := h.row j hj
  exact ⟨v, (hc _).trans hv, own_turned ht ho (fun b hb => h2 j v b hj hv hb)⟩
theorem RPar.grown {en B : Nat} {s : Ps} {W W' : World} (h : RPar en B s W) (hb : Below W.heap.size W W') : RPar en B s W' :=
 h.turned (pv := fun b => W.heap.size ≤ b) ⟨hb.os, hb.tape, hb.output, hb.size, fun k hk _ => hb.block k hk⟩ (fun b hx => Nat.lt_of_lt_of_le h.lt hx) (fun j v b hj hv hb hx => by
  obtain ⟨u, hu, ho⟩ := h.row j hj
  rw [hv] at hu
  cases hu
  have := (ho.lt b hb).2
  omega)
theorem RPar.put {en B j : Nat} {s s' : Ps} {W W1 : World} {v v' : Value} (h : RPar en B s W) (hj : j < 7) (hv : W.cell? ⟨B, rC j, none⟩ = some v) (hT : Turned (fun b => v.ownBlock = some b) W W1) (ho : W1.ownsRow (B + 1) (fT j) (rS j) v' (rN s' j) (rX s' j))
  (hat : v'.ownBlock = v.ownBlock ∨ ∃ g, v'.ownBlock = some g ∧ W.heap.size ≤ g) (hp : ∀ i, i < 7 → i ≠ j → rN s' i = rN s i ∧ rX s' i = rX s i) (hr : s'.rest = s.rest) (h6 : s'.pol.rel = s.pol.rel) (h7 : s'.pol.depth = s.pol.depth) (h8 : s'.pol.name = s.pol.name) (h9 : s'.pol.value = s.pol.value) :
  RPar en B s' (W1.setCell ⟨B, rC j, none⟩ v') ∧ Below B W (W1.setCell ⟨B, rC j, none⟩ v') ∧ Turned (fun b => v.ownBlock = some b ∨ b = B) W (W1.setCell ⟨B, rC j, none⟩ v') ∧ ∀ i, i ≠ rC j → (W1.setCell ⟨B, rC j, none⟩ v').cell? ⟨B, i, none⟩ = W.cell? ⟨B, i, none⟩ := by
 have hl := h.lt
 obtain ⟨v9, hv9, hov⟩ := h.row j hj
 rw [hv] at hv9
 cases hv9
 have hvb : ∀ b, v.ownBlock = some b → B + 1 ≤ b := fun b hb => (hov.lt b hb).1
 have hb1 := hT.block B hl (fun hb => by have := hvb _ hb; omega)
 have hc : ∀ i, W1.cell? ⟨B, i, none⟩ = W.cell? ⟨B, i, none⟩ := fun i => World.cell?_of_block hb1
 have hjc := rC_lt hj
 have hs : ∀ i, i ≠ rC j → (W1.setCell ⟨B, rC j, none⟩ v').cell? ⟨B, i, none⟩ = W.cell? ⟨B, i, none⟩ := fun i hi => by
  rw [World.cell?_setCell_other _ _ _ _ (by intro e; cases e; exact hi rfl)]; exact hc i
 have hsj : (W1.setCell ⟨B, rC j, none⟩ v').cell? ⟨B, rC j, none⟩ = some v' := World.cell?_setCell_same _ _ _ ((hc _).trans hv)
 have hTs : Turned (fun b => v.ownBlock = some b ∨ b = B) W (W1.setCell ⟨B, rC j, none⟩ v') := Turned.setCell (pv := fun b => v.ownBlock = some b ∨ b = B) (p := ⟨B, rC j, none⟩) (hT.mono fun b hb => .inl hb) (.inr (.inr rfl)) _
 have hT1 : Turned (fun b => b = B) W1 (W1.setCell ⟨B, rC j, none⟩ v') := Turned.setCell (pv := fun b => b = B) (p := ⟨B, rC j, none⟩) (Turned.refl _ W1) (.inr rfl) _
 refine ⟨⟨?_, ?_, fun i => ?_, fun i hi => ?_, fun i k u1 u2 b hi hk hik hu1 hu2 hb => ?_, ?_, ?_, ?_, ?_⟩, hTs.below (by omega) (fun k hk => hk.elim (fun hk => by have := hvb k hk; omega) (fun hk => by omega)), hTs, hs⟩
 ·rw [hr]
  obtain ⟨A, c, h1, h2, h3⟩ := h.rest
  refine ⟨A, c, (hs 11 (by omega)).trans h1, h2, h3.turned (hTs.mono fun b hb => ?_)⟩
  rcases hb with hb | hb
  ·have := hvb b hb; omega
  ·omega
 ·exact (hs 12 (by omega)).trans h.end_
 ·rw [World.frozen?_setCell, World.frozen?_of_block hb1]; exact h.fz i
 ·by_cases hij : i = j
  ·subst hij
   exact ⟨v', hsj, own_turned hT1 ho (fun b hb hx => by have := (ho.lt b hb).1; omega)⟩
  ·obtain ⟨u, hu, hou⟩ := h.row i hi
   refine ⟨u, (hs _ (rC_inj hi hj hij)).trans hu, ?_⟩
   obtain ⟨e1, e2⟩ := hp i hi hij
   rw [e1, e2]
   refine own_turned hTs hou (fun b hb hx => ?_)
   rcases hx with hx | hx
   ·exact h.apart i j u v b hi hj hij hu hv hb hx
   ·have := (hou.lt b hb).1; omega
 ·by_cases hij : i = j
  ·subst hij
   rw [hsj] at hu1
   cases hu1
   rw [hs _ (rC_inj hk hi (fun e => hik e.symm))] at hu2
   obtain ⟨u, hu, hou⟩ := h.row k hk
   rw [hu] at hu2
   cases hu2
   intro hb2
   rcases hat with hat | ⟨g, hat, hg⟩
   ·exact h.apart i k v _ b hi hk hik hv hu (hat ▸ hb) hb2
   ·rw [hat] at hb
    cases hb
    have := (hou.lt _ hb2).2
    omega
  ·by_cases hkj : k = j
   ·subst hkj
    rw [hsj] at hu2
    cases hu2
    rw [hs _ (rC_inj hi hk hik)] at hu1
    obtain ⟨u, hu, hou⟩ := h.row i hi
    rw [hu] at hu1
    cases hu1
    intro hb2
    rcases hat with hat | ⟨g, hat, hg⟩
    ·exact h.apart i k _ v b hi hk hik hu hv hb (hat ▸ hb2)
    ·rw [hat] at hb2
     cases hb2
     have := (hou.lt _ hb).2
     omega
   ·rw [hs _ (rC_inj hi hj hij)] at hu1
    rw [hs _ (rC_inj hk hj hkj)] at hu2
    exact h.apart i k u1 u2 b hi hk hik hu1 hu2 hb
 ·rw [h6]; exact (hs 6 (by omega)).trans h.c6
 ·rw [h7]; exact (hs 7 (by omega)).trans h.c7
 ·rw [h8]; exact (hs 8 (by omega)).trans h.c8
 ·rw [h9]; exact (hs 9 (by omega)).trans h.c9
theorem RPar.setOne {en B i : Nat} {s s' : Ps} {W : World} {u v : Value} (h : RPar en B s W) (hi : 6 ≤ i ∧ i ≤ 9 ∨ i = 11) (hu : W.cell? ⟨B, i, none⟩ = some u) (hN : ∀ j, j < 7 → rN s' j = rN s j ∧ rX s' j = rX s j)
  (hr : if i = 11 then ∃ A c, v = .slice A s'.rest.length c ∧ s'.rest.length ≤ c ∧ Rx W (fun b => B ≤ b) v s'.rest.length 3 (lxCells s'.rest) else s'.rest = s.rest)
  (h6 : if i = 6 then v = .bool s'.pol.rel else s'.pol.rel = s.pol.rel) (h7 : if i = 7 then v = .int .i64 s'.pol.depth else s'.pol.depth = s.pol.depth) (h8 : if i = 8 then v = .int .i64 s'.pol.name else s'.pol.name = s.pol.name) (h9 : if i = 9 then v = .int .i64 s'.pol.value else s'.pol.value = s.pol.value) :
  RPar en B s' (W.setCell ⟨B, i, none⟩ v) ∧ Below B W (W.setCell ⟨B, i, none⟩ v) := by
 have hl := h.lt
 have hT : Turned (fun b => b = B) W (W.setCell ⟨B, i, none⟩ v) := Turned.setCell (pv := fun b => b = B) (p := ⟨B, i, none⟩) (Turned.refl _ W) (.inr rfl) _
 have hs : ∀ k, k ≠ i → (W.setCell ⟨B, i, none⟩ v).cell? ⟨B, k, none⟩ = W.cell? ⟨B, k, none⟩ := fun k hk => World.cell?_setCell_other _ _ _ _ (by intro e; cases e; exact hk rfl)
 have hsi : (W.setCell ⟨B, i, none⟩ v).cell? ⟨B, i, none⟩ = some v := World.cell?_setCell_same _ _ _ hu
 have hrc : ∀ j, j < 7 → rC j ≠ i := fun j hj => by rcases rC_lt hj with h | h <;> omega
 refine ⟨⟨?_, (hs 12 (by omega)).trans h.end_, fun k => ?_, fun j hj => ?_, fun j k u1 u2 b hj hk hjk hu1 hu2 => ?_, ?_, ?_, ?_, ?_⟩, hT.below (by omega) (fun k hk => by omega)⟩
 ·by_cases h11 : i = 11
  ·rw [if_pos h11] at hr
   obtain ⟨A, c, rfl, h1, h2⟩ := hr
   subst h11
   exact ⟨A, c, hsi, h1, h2.turned (hT.mono fun b hb => by omega)⟩
  ·rw [if_neg h11] at hr
   rw [hr]
   obtain ⟨A, c, h1, h2, h3⟩ := h.rest
   exact ⟨A, c, (hs 11 (fun e => h11 e.symm)).trans h1, h2, h3.turned (hT.mono fun b hb => by omega)⟩
 ·rw [World.frozen?_setCell]; exact h.fz k
 ·obtain ⟨u, hu, hou⟩ := h.row j hj
  obtain ⟨e1, e2⟩ := hN j hj
  rw [e1, e2]
  exact ⟨u, (hs _ (hrc j hj)).trans hu, own_turned hT hou (fun b hb hx => by have := (hou.lt b hb).1; omega)⟩
 ·rw [hs _ (hrc j hj)] at hu1
  rw [hs _ (hrc k hk)] at hu2
  exact h.apart j k u1 u2 b hj hk hjk hu1 hu2
 ·by_cases e : i = 6
  ·rw [if_pos e] at h6; subst e; rw [hsi, h6]
  ·rw [if_neg e] at h6; rw [h6]; exact (hs 6 (fun x => e x.symm)).trans h.c6
 ·by_cases e : i = 7
  ·rw [if_pos e] at h7; subst e; rw [hsi, h7]
  ·rw [if_neg e] at h7; rw [h7]; exact (hs 7 (fun x => e x.symm)).trans h.c7
 ·by_cases e : i = 8
  ·rw [if_pos e] at h8; subst e; rw [hsi, h8]
  ·rw [if_neg e] at h8; rw [h8]; exact (hs 8 (fun x => e x.symm)).trans h.c8
 ·by_cases e : i = 9
  ·rw [if_pos e] at h9; subst e; rw [hsi, h9]
  ·rw [if_neg e] at h9; rw [h9]; exact (hs 9 (fun x => e x.symm)).trans h.c9
theorem lx_len (x : Lx) : x.cells.length = 3 := rfl
theorem Rd.lxAt {w : World} {A : Option Addr} {n c : Nat} {l : List Lx} (h : Rd w (.slice A n c) l.length 3 (lxCells l)) (i : Nat) (hi : i < l.length) : ∃ b off, A = some ⟨b, off, none⟩ ∧ b < w.heap.size ∧ w.cell? ⟨b, off + i * 3, none⟩ = some (.int .i64 l[i].kind) ∧ w.cell? ⟨b, off + i * 3 + 1, none⟩ = some (.int .i64 l[i].at_) ∧ w.cell? ⟨b, off + i * 3 + 2, none⟩ = some (.string ⟨l[i].text.toArray⟩) := by
 obtain ⟨_, _, A', c', e, h4⟩ := h
 cases e
 obtain ⟨b, off, rfl, hb, hc⟩ := h4 (by omega)
 have h9 := fun j hj => flat_at3 Lx.cells 3 lx_len l i j hi hj
 refine ⟨b, off, rfl, hb, ?_, ?_, ?_⟩
 ·have := hc (i * 3 + 0) _ (h9 0 (by omega)); simpa using this
 ·have := hc (i * 3 + 1) _ (h9 1 (by omega)); rw [← Nat.add_assoc] at this; exact this
 ·have := hc (i * 3 + 2) _ (h9 2 (by omega)); rw [← Nat.add_assoc] at this; exact this
theorem atR_in {en : Nat} {l : List Lx} {i : Nat} (h : i < l.length) : atR en l i = l[i].at_ := by
 unfold atR; rw [List.drop_eq_getElem_cons h]; rfl
theorem atR_out {en : Nat} {l : List Lx} {i : Nat} (h : l.length ≤ i) : atR en l i = en := by
 unfold atR; rw [List.drop_eq_nil_of_le h]; rfl
theorem isR_in {l : List Lx} {i k : Nat} {t : Bs} (h : i < l.length) : isR l i k t = (decide (l[i].kind = k) && (decide (t = []) || decide (l[i].text = t))) := by
 unfold isR; rw [List.drop_eq_getElem_cons h]
 show isP k (tsR t) l[i] = _
 unfold isP tsR
 by_cases ht : t = []
 ·rw [if_pos ht, decide_eq_true ht]; simp
 ·rw [if_neg ht, decide_eq_false ht]; simp
theorem isR_out {l : List Lx} {i k : Nat} {t : Bs} (h : l.length ≤ i) : isR l i k t = false := by
 unfold isR; rw [List.drop_eq_nil_of_le h]; rfl
set_option maxHeartbeats 800000 in
theorem rat_any (en B : Nat) (s : Ps) (W : World) (h : RPar en B s W) (i : Nat) : Calls Tryz.prog 16 #[.pointer (some ⟨B, 0, none⟩), .int .i64 i] W fun e w' => e = .returned (.int .i64 (atR en s.rest i)) ∧ W = w' := by
 obtain ⟨A, c, hc, _, A', c', he, _, hr, _⟩ := h.rest
 cases he
 have he := h.end_
 by_cases hlt : i < s.rest.length
 ·obtain ⟨b, off, rfl, hb, x0, x1, x2⟩ := Rd.lxAt hr i hlt
  rw [atR_in hlt]
  generalize s.rest[i].at_ = xa at *
  generalize s.rest[i].kind = xk at *
  generalize (⟨s.rest[i].text.toArray⟩ : ByteArray) = xt at *
  generalize s.rest.length = n at *
  clear hr h
  go_enter Tryz.func16, Tryz.ntmps16
  go_wp2_with fail
  go_ret
  exact ⟨rfl, rfl⟩
 ·rw [atR_out (by omega)]
  generalize s.rest.length = n at *
  clear hr h
  go_enter Tryz.func16, Tryz.ntmps16
  go_wp2_with fail
  go_ret
  exact ⟨rfl, rfl⟩
set_option maxHeartbeats 1600000 in
theorem ris_any (en B : Nat) (s : Ps) (W : World) (h : RPar en B s W) (i k : Nat) (t : Bs) : Calls Tryz.prog 43 #[.pointer (some ⟨B, 0, none⟩), .int .i64 i, .int .i64 k, .string ⟨t.toArray⟩] W fun e w' => e = .returned (.bool (isR s.rest i k t)) ∧ W = w' := by
 obtain ⟨A, c, hc, _, A', c', he, _, hr, _⟩ := h.rest
 cases he
 by_cases hlt : i < s.rest.length
 ·obtain ⟨b, off, rfl, hb, x0, x1, x2⟩ := Rd.lxAt hr i hlt
  rw [isR_in hlt]
  have ht0 : ((⟨t.toArray⟩ : ByteArray).toList == ([] : Bs)) = decide (t = []) := by rw [ByteArray.toList_eq]; show (t == []) = _; rw [Bool.eq_iff_iff]; simp
  have ht1 : ((⟨s.rest[i].text.toArray⟩ : ByteArray).toList == (⟨t.toArray⟩ : ByteArray).toList) = decide (s.rest[i].text = t) := by rw [ba_bq]
  generalize s.rest[i].at_ = xa at *
  generalize s.rest[i].kind = xk at *
  generalize decide (s.rest[i].text = t) = D2 at *
  generalize decide (t = []) = D1 at *
  generalize (⟨s.rest[i].text.toArray⟩ : ByteArray) = xt at *
  generalize (⟨t.toArray⟩ : ByteArray) = ts at *
  generalize s.rest.length = n at *
  clear hr h
  by_cases hk : xk = k
  ·subst hk
   cases D1 <;> cases D2
   all_goals
    go_enter Tryz.func43, Tryz.ntmps43
    go_wp2_with fail
    go_ret
    exact ⟨by simp, rfl⟩
  ·have hkb : ((xk : Int) == (k : Int)) = false := by simp; omega
   rw [decide_eq_false hk]
   clear hk
   go_enter Tryz.func43, Tryz.ntmps43
   go_wp2_with fail
   go_ret
   exact ⟨by simp, rfl⟩
 ·rw [isR_out (by omega)]
  generalize s.rest.length = n at *
  clear hr h
  go_enter Tryz.func43, Tryz.ntmps43
  go_wp2_with fail
  go_ret
  exact ⟨rfl, rfl⟩
end Go.Proofs.YtenjnliceeejlaaGreat

