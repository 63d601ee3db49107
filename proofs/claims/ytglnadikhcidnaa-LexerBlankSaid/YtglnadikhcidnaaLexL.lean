/- The walks of the lexer: whether two lists are the same. -/
import Derived.Test.YtglnadikhcidnaaLexG
namespace Go.Proofs.Ytglnadikhcidnaa
open Go.RowKit
theorem lxCells_at (l : List Lx) (k : Nat) (h : k < l.length) : (lxCells l)[k * 3]? = some (.int .i64 l[k].kind) ∧ (lxCells l)[k * 3 + 1]? = some (.int .i64 l[k].at_) ∧ (lxCells l)[k * 3 + 2]? = some (.string ⟨l[k].text.toArray⟩) := by
  induction l generalizing k with
  | nil => simp at h
  | cons x l ih =>
    have e : lxCells (x :: l) = .int .i64 x.kind :: .int .i64 x.at_ :: .string ⟨x.text.toArray⟩ :: lxCells l := rfl
    cases k with
    | zero => rw [e]; simp
    | succ k =>
      have := ih k (by simpa using h)
      rw [e, show (k + 1) * 3 = k * 3 + 1 + 1 + 1 by omega]
      simpa using this
theorem Rd.lx {w : World} {A : Option Addr} {n c : Nat} {l : List Lx} (h : Rd w (.slice A n c) l.length 3 (lxCells l)) (k : Nat) (hk : k < l.length) :
    ∃ b off, A = some ⟨b, off, none⟩ ∧ b < w.heap.size ∧ w.cell? ⟨b, off + k * 3, none⟩ = some (.int .i64 l[k].kind) ∧ w.cell? ⟨b, off + k * 3 + 1, none⟩ = some (.int .i64 l[k].at_) ∧ w.cell? ⟨b, off + k * 3 + 2, none⟩ = some (.string ⟨l[k].text.toArray⟩) := by
  obtain ⟨_, _, A', c', e, h4⟩ := h
  cases e
  obtain ⟨b, off, rfl, hb, hc⟩ := h4 (by omega)
  obtain ⟨h1, h2, h3⟩ := lxCells_at l k hk
  exact ⟨b, off, rfl, hb, hc _ _ h1, hc _ _ h2, hc _ _ h3⟩
/-- Lists alike, but for where they begin, if that plays no part. -/
def LxEq (p : Bool) (l m : List Lx) : Prop := l.length = m.length ∧ ∀ k (h1 : k < l.length) (h2 : k < m.length), l[k].kind = m[k].kind ∧ l[k].text = m[k].text ∧ (p = true → l[k].at_ = m[k].at_)
theorem LxEq.refl (p : Bool) (l : List Lx) : LxEq p l l := ⟨rfl, fun _ _ _ => ⟨rfl, rfl, fun _ => rfl⟩⟩
set_option maxRecDepth 100000 in
set_option maxHeartbeats 4000000 in
theorem same_yes (v u : Value) (l m : List Lx) (p : Bool) (w : World) (h : Rd w v l.length 3 (lxCells l)) (h2 : Rd w u m.length 3 (lxCells m)) (he : LxEq p l m) :
    Calls Try.prog 12 #[v, u, .bool p] w (Ret (.bool true) w) := by
  have HR := Lib.hid h
  have HU := Lib.hid h2
  obtain ⟨_, hm, A, c, rfl, _⟩ := h
  obtain ⟨_, hm2, A2, c2, rfl, _⟩ := h2
  have HE := Lib.hid he.2
  have hlen := he.1
  clear he
  rw [hlen] at hm ⊢
  have HL := Lib.hid hlen
  clear hlen
  go_enter Try.func12, Try.ntmps12
  go_wp2_with fail
  go_loopw [7] (fun i wr => ∃ k : Nat, k ≤ m.length ∧ i = .int .i64 k ∧ ∃ X, wr = w.grow X) (fun i _ => m.length - (intOf i).toNat)
  case atStart => exact ⟨0, by omega, rfl, _, (grow_refl w).symm⟩
  case round =>
    obtain ⟨k, hk, rfl, X, rfl⟩ := hrel
    by_cases hlt : k < m.length
    · have hlt' : k < l.length := by rw [HL.out]; exact hlt
      obtain ⟨b, off, rfl, hb, c0, c1, c2⟩ := HR.out.lx k hlt'
      obtain ⟨b2, off2, rfl, hb2, d0, d1, d2⟩ := HU.out.lx k hlt
      obtain ⟨e0, e2, e1⟩ := HE.out k hlt' hlt
      rw [e0] at c0
      rw [e2] at c2
      clear e0 e2
      cases p
      · clear e1
        go_wp2_with fail
        refine wp_region_grow (by kernel_rfl) (by kernel_rfl) ?_
        repeat (go_big_quiet_step (fail))
        refine wpQuiet_nil ?_
        intro _ hw'; obtain ⟨nq, hw''⟩ := hw'; subst hw''
        go_wp2
        go_roundw
        case rel => exact ⟨k + 1, by omega, by go_num, grow_of_below (by repeat (first | with_reducible exact Below.refl _ _ | (with_reducible refine Below.alloc ?_ (by first | omega | (simp [go_sem] <;> omega)) _) | (with_reducible refine Below.drew ?_) | (with_reducible refine Below.drewN ?_ _) | (with_reducible refine Below.grow ?_ (by first | omega | (simp [go_sem] <;> omega)) _) | (with_reducible refine Below.setCell ?_ (by first | omega | (simp [go_sem] <;> omega)) _)))⟩
        case measure => simp [intOf]; omega
      · rw [e1 rfl] at c1
        clear e1
        go_wp2_with fail
        refine wp_region_grow (by kernel_rfl) (by kernel_rfl) ?_
        repeat (go_big_quiet_step (fail))
        refine wpQuiet_nil ?_
        intro _ hw'; obtain ⟨nq, hw''⟩ := hw'; subst hw''
        go_wp2
        go_roundw
        case rel => exact ⟨k + 1, by omega, by go_num, grow_of_below (by repeat (first | with_reducible exact Below.refl _ _ | (with_reducible refine Below.alloc ?_ (by first | omega | (simp [go_sem] <;> omega)) _) | (with_reducible refine Below.drew ?_) | (with_reducible refine Below.drewN ?_ _) | (with_reducible refine Below.grow ?_ (by first | omega | (simp [go_sem] <;> omega)) _) | (with_reducible refine Below.setCell ?_ (by first | omega | (simp [go_sem] <;> omega)) _)))⟩
        case measure => simp [intOf]; omega
    · go_wp2
      go_ret
      exact Ret.of rfl (by repeat (first | with_reducible exact Below.refl _ _ | (with_reducible refine Below.alloc ?_ (by first | omega | (simp [go_sem] <;> omega)) _) | (with_reducible refine Below.drew ?_) | (with_reducible refine Below.drewN ?_ _) | (with_reducible refine Below.grow ?_ (by first | omega | (simp [go_sem] <;> omega)) _) | (with_reducible refine Below.setCell ?_ (by first | omega | (simp [go_sem] <;> omega)) _)))
end Go.Proofs.Ytglnadikhcidnaa
